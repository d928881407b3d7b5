/- refineCopies_proved. -/
import Derived.Test.YthleenhngcdgkaaGreatDoorPmag
import Derived.Laws.Tables
set_option maxRecDepth 100000
set_option maxHeartbeats 16000000
set_option linter.all false
noncomputable section
namespace Go.Ev
section
variable [aJ] {S:Nat->Prop}
section
variable {P:Program} {E:Env} {m:Mp} {D:Pos->Prop} {tm:Tm} {ρ:Operand->Value}
omit [aJ] in
def aaP (k:IntKind):half k=2^(if k.signed then k.bits-1 else k.bits):=by cases k<;>decide
omit [aJ] in
def EJ (k:IntKind) {a:Nat} (h:a<half k):(BitVec.ofInt k.bits (Int.ofNat a)).toNat=a:=by
 have b:a<2^k.bits:=ax h (afY k)
 all_goals grind
omit [aJ] in
def VW {f:Nat->Nat->Nat} {g:BinOp} {k:IntKind} {x y:Int} {v:ai} (h:(F9 f).f k x y=some v)
 (l: ∀a b:Nat,a<half k->b<half k->f a b<half k/\(Op.intBits g k (Int.ofNat a) (Int.ofNat b)=(pure (.int k (k.wrap (Int.ofNat (f a b)))):Sem Value))):
 ∃r,v= .int k r/\Op.intBits g k x y=(pure (.int k r):Sem Value):=by
 cases x with
 |negSucc a=>cases h
 |ofNat a=>cases y with
  |negSucc b=>cases h
  |ofNat b=>
   change cond (Nat.blt a (half k)) (cond (Nat.blt b (half k)) (oZ k (.ofNat (f a b))) none) none=some v at h;cases d:Nat.blt a (half k) with
   |false=>rw [d] at h;cases h
   |true=>cases e:Nat.blt b (half k) with
    |false=>simp_all
    |true=>
     rw [d,e] at h;change oZ k (.ofNat (f a b))=some v at h;obtain ⟨i,j⟩:=l a b (sM.1 d) (sM.1 e);exact ⟨_,ya h,by rw [j,wrap_small k i]⟩
omit [aJ] in
def aoY {k:IntKind} {x y:Int} {v:ai} (h:(F9 Nat.land).f k x y=some v): ∃r,v= .int k r/\Op.intBits .and k x y=(pure (.int k r):Sem Value):=
 VW h fun a b d e=>⟨bg Nat.and_le_left d,by
  show (pure (Value.int k (k.wrap ((BitVec.ofInt k.bits (Int.ofNat a)&&&BitVec.ofInt k.bits (Int.ofNat b)).toNat:Int))):Sem Value)=_;rw [BitVec.toNat_and,EJ k d,EJ k e];rfl⟩
omit [aJ] in
def aoZ {k:IntKind} {x y:Int} {v:ai} (h:(F9 Nat.lor).f k x y=some v): ∃r,v= .int k r/\Op.intBits .or k x y=(pure (.int k r):Sem Value):=
 VW h fun a b d e=>⟨by rw [aaP] at*;exact Nat.or_lt_two_pow d e,by
  show (pure (Value.int k (k.wrap ((BitVec.ofInt k.bits (Int.ofNat a)|||BitVec.ofInt k.bits (Int.ofNat b)).toNat:Int))):Sem Value)=_;rw [BitVec.toNat_or,EJ k d,EJ k e];rfl⟩
omit [aJ] in
def ao0 {k:IntKind} {x y:Int} {v:ai} (h:(F9 Nat.xor).f k x y=some v): ∃r,v= .int k r/\Op.intBits .xor k x y=(pure (.int k r):Sem Value):=
 VW h fun a b d e=>⟨by rw [aaP] at*;exact fI d e,by
  show (pure (Value.int k (k.wrap ((BitVec.ofInt k.bits (Int.ofNat a)^^^BitVec.ofInt k.bits (Int.ofNat b)).toNat:Int))):Sem Value)=_;rw [kF,EJ k d,EJ k e];rfl⟩
omit [aJ] in
def ao1 {k:IntKind} {x y:Int} {v:ai} (h:(F9 fun a b=>Nat.xor a (Nat.land a b)).f k x y=some v): ∃r,v= .int k r/\Op.intBits .andNot k x y=(pure (.int k r):Sem Value):=
 VW h fun a b d g=>⟨by rw [aaP] at*;exact fI d (bg Nat.and_le_left d),by
  show (pure (Value.int k (k.wrap ((BitVec.ofInt k.bits (Int.ofNat a)&&& ~~~ BitVec.ofInt k.bits (Int.ofNat b)).toNat:Int))):Sem Value)=_;have e: ∀p q:BitVec k.bits,p&&& ~~~ q=p^^^(p&&&q):=fun p q=>by
   grind
  rw [e,kF,BitVec.toNat_and,EJ k d,EJ k g];rfl⟩
def Rn {i:BinOp} {t:TypeId} {k:IntKind} {a b:Int} {v:ai} (h:(vy i).f k a b=some v) (w:World):
 (binOp i t (.int k a) (.int k b)).run P w= .ok (γ m v) w/\In D v:=by
 cases i
 case add=>have:=ya h;subst this;exact ⟨by simp [binOp,Op.intArith,γ,yb,afZ],trivial⟩
 case sub=>have:=ya h;subst this;exact ⟨by simp [binOp,Op.intArith,γ,yb,Rm],trivial⟩
 case mul=>have:=ya h;subst this;exact ⟨by simp [binOp,Op.intArith,γ,yb,aaO],trivial⟩
 case quo=>
  change cond (F7 b 0) none (oZ k (yL k (aam a b)))=some v at h;rw [BF] at h;by_cases d:b=0
  ·simp [d] at h
  ·simp [d] at h;have:=ya h;subst this;exact ⟨by simp [binOp,Op.intDiv,γ,yb,af0,d],trivial⟩
 case rem=>
  change cond (F7 b 0) none (oZ k (aan a b))=some v at h;rw [BF] at h;by_cases d:b=0
  ·simp [d] at h
  ·simp [d] at h;have:=ya h;subst this;exact ⟨by simp [binOp,Op.intDiv,γ,af1,d],trivial⟩
 case and=>obtain ⟨r,rfl,g⟩:=aoY h;exact ⟨by simp [binOp,g,γ],trivial⟩
 case or=>obtain ⟨r,rfl,g⟩:=aoZ h;exact ⟨by simp [binOp,g,γ],trivial⟩
 case xor=>obtain ⟨r,rfl,g⟩:=ao0 h;exact ⟨by simp [binOp,g,γ],trivial⟩
 case andNot=>obtain ⟨r,rfl,g⟩:=ao1 h;exact ⟨by simp [binOp,g,γ],trivial⟩
 case shl=>cases h
 case shr=>cases h
 case eql=>cases h;exact ⟨by simp [binOp,Op.intCmp,γ,BF];by_cases e:a=b<;>simp [e],trivial⟩
 case neq=>cases h;exact ⟨by simp [binOp,Op.intCmp,γ,BF];by_cases e:a=b<;>simp [e],trivial⟩
 case lss=>cases h;exact ⟨by simp [binOp,Op.intCmp,γ,BJ],trivial⟩
 case leq=>cases h;exact ⟨by simp [binOp,Op.intCmp,γ,BJ];by_cases e:b<a<;>simp [e]<;>omega,trivial⟩
 case gtr=>cases h;exact ⟨by simp [binOp,Op.intCmp,γ,BJ],trivial⟩
 case geq=>cases h;exact ⟨by simp [binOp,Op.intCmp,γ,BJ];by_cases e:a<b<;>simp [e]<;>omega,trivial⟩
def af2 {t:TypeId} {k j:IntKind} {a b:Int} {v:ai} (h:(NP .shl).f k a b=some v) (w:World):
 (binOp .shl t (.int k a) (.int j b)).run P w= .ok (γ m v) w/\In D v:=by
 cases b with
 |negSucc b=>cases h
 |ofNat b=>
  have:=ya h;subst this;refine ⟨?_,trivial⟩;simp [binOp,Op.shift,γ,yb,aaO]
  all_goals grind
def af3 {t:TypeId} {k j:IntKind} {a b:Int} {v:ai} (h:(NP .shr).f k a b=some v) (w:World):
 (binOp .shr t (.int k a) (.int j b)).run P w= .ok (γ m v) w/\In D v:=by
 cases b with
 |negSucc b=>cases h
 |ofNat b=>
  have e: ∀n:Nat,(Int.ofNat (Nat.pow 2 n))=(2:Int)^n:=fun n=>by simp_all
  cases a with
  |ofNat a=>
   change oZ k (.ofNat (Nat.div a (Nat.pow 2 (Nat.min b k.bits))))=some v at h;have:=ya h;subst this;refine ⟨?_,trivial⟩;have d: ∀n:Nat,(a:Int).fdiv ((2:Int)^n)=Int.ofNat (Nat.div a (Nat.pow 2 n)):=fun n=>by
    rw [<-e];exact (Int.ofNat_fdiv a (Nat.pow 2 n)).symm
   simp [binOp,Op.shift,γ,d]
   all_goals grind
  |negSucc a=>
   change oZ k ((Int.negSucc a).fdiv (.ofNat (Nat.pow 2 (Nat.min b k.bits))))=some v at h;have:=ya h;subst this;refine ⟨?_,trivial⟩;simp [binOp,Op.shift,γ]
   all_goals grind
omit [aJ] in
def toList_mk (l:List UInt8):(⟨⟨l⟩⟩:ByteArray).toList=l:=by simp_all
def aaQ {g:BinOp} {t:TypeId} {a b:List UInt8} {v:ai} (h:(Vy g).f a b=some v) (w:World):
 (binOp g t (.string ⟨⟨a⟩⟩) (.string ⟨⟨b⟩⟩)).run P w= .ok (γ m v) w/\In D v:=by
 cases g<;>try (cases h;done)
 case add=>
  change cond (Nat.blt (Nat.add a.length b.length) 4294967296) (some (.str (Vx a b))) none=some v at h;cases d:Nat.blt (Nat.add a.length b.length) 4294967296 with
  |false=>rw [d] at h;cases h
  |true=>
   rw [d] at h;cases h;have j:a.length+b.length<4294967296:=sM.1 d;refine ⟨?_,trivial⟩;have e:(⟨⟨a⟩⟩:ByteArray)++(⟨⟨b⟩⟩:ByteArray)=⟨⟨a++b⟩⟩:=by apply nQ;simp [ByteArray.data_append]
   have i: ∀l:List UInt8,(⟨⟨l⟩⟩:ByteArray).size=l.length:=fun l=>rfl
   simp only [binOp,Op.stringOp,i,e,γ,aoP,IntKind.max_i64];rw [if_neg (by omega)];rfl
 case eql=>cases h;exact ⟨by simp [binOp,Op.stringOp,γ,IE];by_cases e:a=b<;>simp [e],trivial⟩
 case neq=>cases h;exact ⟨by simp [binOp,Op.stringOp,γ,IE];by_cases e:a=b<;>simp [e],trivial⟩
 case lss=>cases h;exact ⟨by simp [binOp,Op.stringOp,γ,VN],trivial⟩
 case leq=>cases h;exact ⟨by simp [binOp,Op.stringOp,γ,VN,IE];by_cases e:a=b<;>simp [e],trivial⟩
 case gtr=>cases h;exact ⟨by simp [binOp,Op.stringOp,γ,VN,IE];by_cases e:a=b<;>cases Op.bytesLess a b<;>simp [e],trivial⟩
 case geq=>cases h;exact ⟨by simp [binOp,Op.stringOp,γ,VN],trivial⟩
end
end
section
variable [aJ] {S:Nat->Prop}
section
variable {P:Program} {E:Env} {m:Mp} {D:Pos->Prop} {tm:Tm} {ρ:Operand->Value}
def qv (E:Env) (t:TypeId) (v:ai):Bool:=match E.cU t,v with
 |some (.int _),.int _ _=>true
 |some .string,.str _=>true
 |some .bool,.bool _=>true
 |_,_=>false
omit [aJ] in
def aaR {k:Nat} {f:Field} {a:List Field} {v:ai} {vs:List ai} (h:tZ E k (f::a) (v::vs)=true):
 qv E f.type v=true/\f.offset=k/\f.name≠ "_" /\tZ E (k+1) a vs=true:=by
 simp only [tZ,aq] at h;obtain ⟨b,⟨d,g⟩,e⟩:=h;refine ⟨b,beq_iff.1 d,?_,e⟩
 all_goals grind
omit [aJ] in
def aaS {t:TypeId} {v:ai} (h:qv E t v=true):E.F8 t=some false:=by
 unfold qv at h;unfold Env.F8
 all_goals grind
def eN.aaT (ok:eN P E) {t:TypeId} (h:E.F8 t=some false) {xs:Array Value} {off:Nat} {v:Value} (a:xs[off]? =some v) (w:World):(part t xs off).run P w= .ok v w:=by
 simp [part,ok.aaN h,a]
def af4 (ok:eN P E) {t:TypeId} {a b:ai} {r:Bool} (f:qv E t a=true) (g:qv E t b=true) (e:uH a b=some r) (d:Nat) (w:World):
 (Op.equalIn (d+1) t (γ m a) (γ m b)).run P w= .ok r w:=by
 unfold qv at f g;cases j:E.cU t with
 |none=>rw [j] at f;cases f
 |some o=>
  rw [j] at f g;have h:=ok.cU j;cases o<;>try simp_all
  case bool=>
   cases a<;>try (cases f;done)
   cases b<;>try (cases g;done)
   rename_i a b;simp only [uH,sameKey,aX] at e;subst e;simp only [γ,K7];exact run_equalIn_bool' w d t a b h
  case int k=>
   cases a<;>try (cases f;done)
   cases b<;>try (cases g;done)
   rename_i l a p b;simp only [uH,sameKey] at e;cases i:nM l p with
   |false=>rw [i] at e;cases e
   |true=>
    rw [i] at e;cases e;have:=(BC _ _).1 i;subst this;simp only [γ,BF];rw [run_equalIn_int w d t l k a b h]
    all_goals grind
  case string=>
   cases a<;>try (cases f;done)
   cases b<;>try (cases g;done)
   rename_i a b;simp only [uH,aX] at e;subst e;simp only [γ,IE];rw [run_equalIn_string w d t _ _ h,toList_mk,toList_mk]
   all_goals grind
omit [aJ] in
def af5 {t:TypeId} {a b:ai} {r:Bool} (d:qv E t a=true) (g:uH a b=some r):qv E t b=true:=by
 unfold qv at d⊢;cases e:E.cU t with
 |none=>rw [e] at d;cases d
 |some f=>rw [e] at d;cases f<;>cases a<;>first|(cases d;done)|(cases b<;>first|rfl|(cases g;done))
def aaU (ok:eN P E) (d:Nat) (w:World): ∀(j:List Field) (a b:List ai) (k:Nat) (r:Bool) (g h:Array Value),tZ E k j a=true->Bx a b=some r->
 (∀i,g[k+i]? =(a[i]?).map (γ m))->(∀i,h[k+i]? =(b[i]?).map (γ m))->(Op.eqFields (d+1) g h j).run P w= .ok r w
 | [],a,b,k,r,g,h,o,e,_,_=>by
  cases a<;>simp [tZ] at o;cases b with
  |nil=>simp [Bx] at e;subst e;simp [Op.eqFields]
  |cons b t=>simp [Bx] at e
 |f::j,a,b,k,r,g,h,o,e,u,x=>by
  cases a with
  |nil=>simp [tZ] at o
  |cons a as=>
   cases b with
   |nil=>simp [Bx] at e
   |cons b t=>
    obtain ⟨p,s,A,B⟩:=aaR o;have y:=u 0;have z:=x 0;simp only [dt,bB,dD] at y z;simp only [Bx] at e;cases l:uH a b with
    |none=>rw [l] at e;cases e
    |some q=>
     rw [l] at e;have b1:=af5 p l;have C:=af4 (m:=m) ok p b1 l d w;have F:=ok.aaT (aaS p) (off:=f.offset) (by rw [s];exact y) w;have pb:=ok.aaT (aaS b1) (off:=f.offset) (by rw [s];exact z) w;simp only [Op.eqFields,ne_eq,A,not_false_eq_true,if_true,aI,F,pb,C,az];cases q with
     |false=>simp_all
     |true=>
      simp only at e;simp only [Bool.not_true,cI,if_false];exact aaU ok d w j as t (k+1) r g h B e (fun i=>by have:=u (i+1);rw [show k+(i+1)=k+1+i by omega] at this;simpa using this)
       (fun i=>by
        have:=x (i+1)
        all_goals grind)
omit [aJ] in
def EK {t:TypeId} {x y:Value} {b:Bool} {w:World} (a:binOp .eql t x y=(do pure (Value.bool (<-Op.equal t x y)))) (f:binOp .neq t x y=(do pure (Value.bool (!(<-Op.equal t x y)))))
 (h: ∀d,(Op.equalIn (d+1) t x y).run P w= .ok b w):(binOp .eql t x y).run P w= .ok (.bool b) w/\(binOp .neq t x y).run P w= .ok (.bool (!b)) w:=by
 have e:(Op.equal t x y).run P w= .ok b w:=h 9999;rw [a,f];simp only [aI,e,az];exact ⟨rfl,rfl⟩
def af6 (ok:eN P E) {t:TypeId} {c:Bool} {x y:ai} {b:Bool} (h:(Iw E t c).f x y=some b) {G H:Operand} (hc:c=(Aq G||Aq H)) (s:BinOp) (w:World):
 (eqGuard s t G H (γ m x) (γ m y)).run P w= .ok () w/\(binOp .eql t (γ m x) (γ m y)).run P w= .ok (.bool b) w/\(binOp .neq t (γ m x) (γ m y)).run P w= .ok (.bool (!b)) w:=by
 unfold Iw at h;cases N:E.cU t with
 |none=>rw [N] at h;cases h
 |some d=>
  rw [N] at h;have A:=ok.cU N;have j:=fun w=>run_underlying A w
  cases d<;>try (cases h;done)
  case bool=>
   cases x<;>try (cases h;done)
   cases y<;>try (cases h;done)
   rename_i p q;simp only [aX,K7] at h;subst h;simp only [γ];exact ⟨by rw [eqGuard_at_bool];rfl,run_eql_bool w t p q A,run_neq_bool w t p q A⟩
  case pointer e=>
   cases x<;>try (cases h;done)
   all_goals (cases y<;>try (cases h;done))
   ·rename_i n o k p
    simp only at h;cases O:E.size e with
    |none=>rw [O] at h;cases h
    |some z=>
     rw [O] at h;simp only at h;cases u:(Nat.blt 0 z&&n.gU k) with
     |false=>rw [u] at h;cases h
     |true=>
     rw [u] at h;rw [aq] at u;obtain rfl:=(Pos.pX _ _).1 u.2;cases h;have R: ¬z=0:=by
      have:0<z:=by simpa using u.1
      omega
     have X:=fun w=>ok.yX O w
     simp only [γ];refine ⟨by rw [eqGuard_at_pointer];rfl,EK rfl rfl fun d=> ?_⟩;simp only [Op.equalIn,aI,j,az,X,ne_eq,R,not_false_eq_true,if_true,sameAddr,beq_self_eq_true];have:((⟨m.b n,o,none⟩:Addr)==⟨m.b n,p,none⟩)=Nat.beq o p:=by
      by_cases e:o=p
      ·subst e;simp
      ·rw [beq_eq_false_iff_ne.2 (fun h=>e (congrArg Addr.off h))]
       cases W:Nat.beq o p with
       |false=>rfl
       |true=>exact absurd (bE W) e
     rw [this];rfl
   all_goals
    simp only [aX] at h;subst h;simp only [γ];refine ⟨by rw [eqGuard_at_pointer];rfl,EK rfl rfl fun d=> ?_⟩;simp only [Op.equalIn,aI,j,az];rfl
  case slice e=>
   cases x<;>try (cases h;done)
   all_goals (cases y<;>try (cases h;done))
   all_goals
    simp only [aX] at h;subst h
   ·rename_i n o l J
    cases J<;>(simp only [γ];refine ⟨by rw [eqGuard_at_slice];rfl,EK rfl rfl fun d=> ?_⟩;simp only [Op.equalIn,aI,j,az];rfl)
   ·rename_i n o l J
    cases J<;>(simp only [γ];refine ⟨by rw [eqGuard_at_slice];rfl,EK rfl rfl fun d=> ?_⟩;simp only [Op.equalIn,aI,j,az];rfl)
   ·simp only [γ];refine ⟨by rw [eqGuard_at_slice];rfl,EK rfl rfl fun d=> ?_⟩;simp only [Op.equalIn,aI,j,az];rfl
  case map e f=>
   cases x<;>try (cases h;done)
   all_goals (cases y<;>try (cases h;done))
   all_goals
    simp only [aX] at h;subst h;simp only [γ];refine ⟨by rw [eqGuard_at_map];rfl,EK rfl rfl fun d=> ?_⟩;simp only [Op.equalIn,aI,j,az];rfl
  case func e f g=>
   cases x<;>try (cases h;done)
   all_goals (cases y<;>try (cases h;done))
   all_goals
    simp only [aX] at h;subst h;simp only [γ];refine ⟨by cases s<;>rfl,EK rfl rfl fun d=> ?_⟩;simp only [Op.equalIn,aI,j,az];rfl
  case interface Y=>
   cases x<;>try (cases h;done)
   all_goals (cases y<;>try (cases h;done))
   ·simp only [aX] at h
    subst h;simp only [γ];refine ⟨by cases s<;>rfl,EK rfl rfl fun d=> ?_⟩;simp only [Op.equalIn,aI,j,az];rfl
   ·simp only [aX] at h
    subst h;simp only [γ];refine ⟨by cases s<;>rfl,EK rfl rfl fun d=> ?_⟩;simp only [Op.equalIn,aI,j,az];rfl
   ·cases c with
    |false=>cases h
    |true=>
     cases h;simp only [γ];refine ⟨?_,EK rfl rfl fun d=> ?_⟩
     ·cases G<;>cases H<;>first|(simp [Aq] at hc;done)|(cases s<;>rfl)
     ·simp only [Op.equalIn,aI,j,az];rfl
  case struct C=>
   cases M:E.gt t with
   |false=>rw [M] at h;cases h
   |true=>
    rw [M] at h;obtain ⟨T,U⟩:=ok.gt t M;cases x<;>try (cases h;done)
    cases y<;>try (cases h;done)
    rename_i a I;simp only [cond_true] at h;cases F:(tZ E 0 C.toList a&&tZ E 0 C.toList I) with
    |false=>rw [F] at h;cases h
    |true=>
     rw [F] at h;simp only [cond_true] at h;rw [aq] at F;have Q:P.fieldsOf t=C:=by unfold Program.fieldsOf;rw [A]
     have B:(Op.equalIn 10000 t (.agg ⟨aW m a⟩) (.agg ⟨aW m I⟩)).run P w= .ok b w:=by
      rw [run_equalIn_agg w 9999 t _ _ (by rw [Q];exact A) T,Q];exact aaU (m:=m) ok 9998 w C.toList a I 0 b _ _ F.1 h (fun i=>by simp [pD]) (fun i=>by simp [pD])
     simp only [γ];exact ⟨run_eqGuard_agg w s t G H _ _ U,by rw [run_eql_struct,B];rfl,by rw [run_neq_struct,B];rfl⟩
end
end
section
variable [aJ] {S:Nat->Prop}
def ao2 (P:Program) (E:Env) (a:Op) (f:Tm->Option ai):Prop:=
 ∀(m:Mp) (D:Pos->Prop) (tm:Tm) (ρ:Operand->Value) (v:ai) (w:World) (o:Oper),o.op=a->Src E.gl m D tm ρ->f tm=some v->
  (execOp ρ o).run P w= .ok (.value (γ m v)) w/\In D v
def ao3 (P:Program) (E:Env) (a:Op) (f:Tm->aP->Option ai):Prop:=
 ∀(S:Nat->Prop) (m:Mp) (h:aP) (tm:Tm) (ρ:Operand->Value) (v:ai) (w:World) (o:Oper),o.op=a->bV E.gl S m h w->Src E.gl m (aH h) tm ρ->f tm h=some v->
  (execOp ρ o).run P w= .ok (.value (γ m v)) w/\In (aH h) v
def af7 (P:Program) (E:Env) (d:Op) (f:Tm->Option (jR×Mk)):Prop:=
 ∀(m:Mp) (D:Pos->Prop) (tm:Tm) (ρ:Operand->Value) (b:jR) (mk:Mk) (w:World) (o:Oper),o.op=d->Src E.gl m D tm ρ->f tm=some (b,mk)->
  ∀n,¬D n-> ∃cap a,(execOp ρ o).run P w= .ok (.value (γ (m.set n w.heap.size cap) (mk.mk n))) {w with heap:=w.heap.push a} /\
   vD (m.set n w.heap.size cap) n b a/\Az D b/\b.pY=true
def Lg (P:Program) (E:Env) (S:Nat->Prop) (m:Mp) (h:aP) (w:World) (s:Sem Next):OR->Prop
 | .ok v a=> ∃b d r,s.run P w= .ok r d/\(r= .value (γ b v)\/(r= .skip/\v=oY))/\bV E.gl S b a d/\Goes m h w b a d/\In (aH a) v/\a.df=h.df
 | .call g args=>s.run P w= .ok (.enter g ⟨aW m args⟩) w/\jn (aH h) args
 | .fail=>True
def af8 (P:Program) (E:Env) (a:Op) (f:Tm->aP->OR):Prop:=
 ∀(S:Nat->Prop) (m:Mp) (h:aP) (tm:Tm) (ρ:Operand->Value) (w:World) (o:Oper),o.op=a->bV E.gl S m h w->Src E.gl m (aH h) tm ρ->Lg P E S m h w (execOp ρ o) (f tm h)
def iA (P:Program) (E:Env) (a:Op):o7->Prop
 | .pu f=>ao2 P E a f
 | .rd f=>ao3 P E a f
 | .nw f=>af7 P E a f
 | .wr f=>af8 P E a f
section
variable {P:Program} {E:Env}
def ny (a:Op):iA P E a .bad:=fun _ _ _ _ _ _ _ _ _ h=>by cases h
omit [aJ] in
def Gr {ρ:Operand->Value} {o:Oper} {s:Sem Value} {w:World} {r:Value} (a:execOp ρ o=(do pure (.value (<-s)))) (h:s.run P w= .ok r w):(execOp ρ o).run P w= .ok (.value r) w:=by
 rw [a];simp [h]
def Lh {a:Op} {f:ai->Option ai} {x:Operand} (s:Value->Sem Value)
 (h: ∀ρ o,o.op=a->execOp ρ o=(do pure (.value (<-s (ρ x)))))
 (i: ∀(m:Mp) (D:Pos->Prop) u v w,In D u->f u=some v->(s (γ m u)).run P w= .ok (γ m v) w/\In D v):iA P E a (xX E f x):=
 fun m D tm ρ v w o j k l=>by
  obtain ⟨b,d⟩:=jf (E:=E) k x;obtain ⟨e,g⟩:=i m D _ v w d l;exact ⟨Gr (h ρ o j) (by rw [b];exact e),g⟩
def af9 {e:Op} {f:ai->ai->Option ai} {x y:Operand} (s:Value->Value->Sem Value)
 (p: ∀ρ o,o.op=e->execOp ρ o=(do pure (.value (<-s (ρ x) (ρ y)))))
 (q: ∀(m:Mp) (D:Pos->Prop) a b v w,In D a->In D b->f a b=some v->(s (γ m a) (γ m b)).run P w= .ok (γ m v) w/\In D v):iA P E e (Q7 E f x y):=
 fun m D tm ρ v w o t d u=>by
  obtain ⟨i,j⟩:=jf (E:=E) d x;obtain ⟨g,h⟩:=jf (E:=E) d y;obtain ⟨k,l⟩:=q m D _ _ v w j h u;exact ⟨Gr (p ρ o t) (by rw [i,g];exact k),l⟩
def ao4 (x:Operand):iA P E (.move x) (lO E (.move x)):=fun m D tm ρ v w o d e f=>by
 obtain ⟨a,b⟩:=jf (E:=E) e x;cases f;exact ⟨by simp only [execOp,d,bh,a],b⟩
def ao5 (x:Operand):iA P E (.assign x) (lO E (.assign x)):=fun m D tm ρ v w o d e f=>by
 obtain ⟨a,b⟩:=jf (E:=E) e x;cases f;exact ⟨by simp only [execOp,d,bh,a],b⟩
def ao6 (c a b:Operand):iA P E (.pick c a b) (lO E (.pick c a b)):=fun m D tm ρ v w o h f d=>by
 obtain ⟨e,l⟩:=jf (E:=E) f c;obtain ⟨i,j⟩:=jf (E:=E) f a;obtain ⟨b1,k⟩:=jf (E:=E) f b;simp only at d;generalize (bR E c).g tm=u at e d;cases u<;>try (cases d;done)
 rename_i q;cases q<;>cases d
 ·exact ⟨by simp [execOp,h,e,γ,asBool,b1],k⟩
 ·exact ⟨by simp [execOp,h,e,γ,asBool,i],j⟩
def ao7 (x:Operand):iA P E (.nilCheck x) (lO E (.nilCheck x)):=fun m D tm ρ v w o h j d=>by
 obtain ⟨e,f⟩:=jf (E:=E) j x;simp only at d;generalize (bR E x).g tm=u at e f d;cases u<;>try (cases d;done)
 ·cases d;exact ⟨by simp [execOp,h,e,γ],f⟩
 ·rename_i n o l c;cases d;cases c<;>exact ⟨by simp [execOp,h,e,γ],f⟩
 ·rename_i i a b
  cases i<;>try (cases d;done)
  cases d;exact ⟨by simp [execOp,h,e,γ],f⟩
 ·cases d;exact ⟨by simp [execOp,h,e,γ],f⟩
def ao8 (g:UnOp) (t:TypeId) (x:Operand):iA P E (.unOp g t x) (lO E (.unOp g t x)):=
 Lh (fun a=>Op.unary g a) (fun ρ o q=>by simp only [execOp,q]) fun m D u v w j f=>by
  cases g<;>cases u<;>try (cases f;done)
  ·have:=ya f;subst this
   exact ⟨by simp [Op.unary,Op.intArith,γ,yb,Rm],trivial⟩
  ·rename_i k n
   cases n with
   |negSucc n=>cases f
   |ofNat n=>
    have j:(k= .u8\/k= .u16\/k= .u32\/k= .u64)/\cond (Nat.blt n (half k)) (oZ k (.ofNat (Nat.sub (Nat.sub (half k) 1) n))) none=some v:=by
     cases k<;>first|(cases f;done)|exact ⟨by simp,f⟩
    obtain ⟨p,f⟩:=j;cases h:Nat.blt n (half k) with
    |false=>rw [h] at f;cases f
    |true=>
     rw [h] at f;have:=ya (k:=k) (n:= .ofNat (Nat.sub (Nat.sub (half k) 1) n)) f;subst this;refine ⟨?_,trivial⟩;have l:n<half k:=sM.1 h;have d:k.max=Int.ofNat (half k-1)/\k.signed=false/\half k=2^k.bits:=by rcases p with rfl|rfl|rfl|rfl<;>decide
     have y:half k-1<half k:=by omega
     have i:(BitVec.ofInt k.bits (Int.ofNat (half k-1))^^^BitVec.ofInt k.bits (Int.ofNat n)).toNat=half k-1-n:=by
      have e:BitVec.ofInt k.bits (Int.ofNat (half k-1))=BitVec.allOnes k.bits:=by
       apply BitVec.eq_of_toNat_eq;rw [EJ k y,BitVec.toNat_allOnes,d.2.2]
      rw [e,BitVec.allOnes_xor,BitVec.toNat_not,EJ k l,d.2.2]
     have s: ∀a b,Nat.sub a b=a-b:=fun _ _=>rfl
     simp only [Op.unary,Op.intBits,γ,d.2.1,cI,if_false,d.1,bh,i,s];have:=wrap_small k (a:=half k-1-n) (by omega)
     all_goals grind
  ·cases f
   rename_i b;exact ⟨by cases b<;>simp [Op.unary,γ],trivial⟩
def ao9 (ok:eN P E) (t:TypeId) (x:Operand):iA P E (.makeInterface t x) (lO E (.makeInterface t x)):=
 Lh (fun a=>Instr.makeInterface t a) (fun ρ o f=>by simp only [execOp,f]) fun m D u v w h b=>by
  unfold afG at b;cases e:E.cU t with
  |none=>rw [e] at b;cases b
  |some d=>
   rw [e] at b;have g:=ok.nO e w;cases d<;>first|(cases b;done)|(cases b;exact ⟨by simp [Instr.makeInterface,g,γ],h⟩)
def apa (t:Operand) (i:Nat):iA P E (.extract t i) (lO E (.extract t i)):=fun m D tm ρ v w o e f a=>by
 obtain ⟨b,d⟩:=jf (E:=E) f t;simp only at a;generalize (bR E t).g tm=u at b d a;cases u<;>try (cases a;done)
 rename_i l;simp only [aaz] at a;exact ⟨by simp [execOp,e,b,γ,Instr.extract,pD,a],VS d a⟩
def apb (f:FuncId) (a b:Array Operand):iA P E (.makeFunc (.func f) a b) (lO E (.makeFunc (.func f) a b)):=fun m D tm ρ v w o l d p=>by
 obtain ⟨j,k⟩:=IK (E:=E) d a.toList;obtain ⟨h,i⟩:=IK (E:=E) d b.toList;cases p;refine ⟨?_,k,i⟩;have e:a.map ρ=⟨a.toList.map ρ⟩:=by apply eJ;simp
 have g:b.map ρ=⟨b.toList.map ρ⟩:=by apply eJ;simp
 simp [execOp,l,Instr.makeFunc,γ,e,g,j,h]
def apc (ok:eN P E) (A:BinOp) (t J:TypeId) (x y:Operand):iA P E (.binOp A t x y J) (lO E (.binOp A t x y J)):=fun m D tm ρ v w o R I e=>by
 obtain ⟨H,Q⟩:=jf (E:=E) I x;obtain ⟨G,O⟩:=jf (E:=E) I y;simp only at e;generalize (bR E x).g tm=a at H Q e;generalize (bR E y).g tm=b at G O e;have z:(eqGuard A t x y (γ m a) (γ m b)).run P w= .ok () w/\(binOp A t (γ m a) (γ m b)).run P w= .ok (γ m v) w/\In D v:=by
  have B: ∀k n u,(eqGuard A t x y (γ m (.int k n)) u).run P w= .ok () w:=fun k n u=>by simp only [γ];rw [eqGuard_at_int];rfl
  have F: ∀l u,(eqGuard A t x y (γ m (.str l)) u).run P w= .ok () w:=fun l u=>by simp only [γ];rw [eqGuard_at_string];rfl
  unfold afA at e;cases A
  case shl=>
   cases a<;>try (cases e;done)
   cases b<;>try (cases e;done)
   exact ⟨B _ _ _,af2 e w⟩
  case shr=>
   cases a<;>try (cases e;done)
   cases b<;>try (cases e;done)
   exact ⟨B _ _ _,af3 e w⟩
  case eql=>
   have h:(Option.casesOn ((Iw E t (Aq x||Aq y)).f a b) none fun b=>some (ai.bool b))=some v->
    ((eqGuard .eql t x y (γ m a) (γ m b)).run P w= .ok () w/\(binOp .eql t (γ m a) (γ m b)).run P w= .ok (γ m v) w/\In D v):=fun e=>by
    cases p:(Iw E t (Aq x||Aq y)).f a b with
    |none=>rw [p] at e;cases e
    |some u=>
     rw [p] at e;cases e;obtain ⟨C,M,_⟩:=af6 (m:=m) ok p rfl .eql w;exact ⟨C,M,trivial⟩
   cases j:E.cU t with
   |none=>rw [j] at e;exact h e
   |some d=>
    rw [j] at e;cases d<;>try (exact h e)
    ·cases a<;>try (cases e;done)
     cases b<;>try (cases e;done)
     rename_i q a s b;simp only at e;cases i:nM q s with
     |false=>rw [i] at e;cases e
     |true=>rw [i] at e;have:=(BC _ _).1 i;subst this;exact ⟨B _ _ _,Rn e w⟩
    ·cases a<;>try (cases e;done)
     cases b<;>try (cases e;done)
     exact ⟨F _ _,aaQ e w⟩
  case neq=>
   have h:(Option.casesOn ((Iw E t (Aq x||Aq y)).f a b) none fun b=>some (ai.bool (cond b false true)))=some v->
    ((eqGuard .neq t x y (γ m a) (γ m b)).run P w= .ok () w/\(binOp .neq t (γ m a) (γ m b)).run P w= .ok (γ m v) w/\In D v):=fun e=>by
    cases p:(Iw E t (Aq x||Aq y)).f a b with
    |none=>rw [p] at e;cases e
    |some u=>
     rw [p] at e;cases e;obtain ⟨C,_,N⟩:=af6 (m:=m) ok p rfl .neq w;exact ⟨C,by rw [N];cases u<;>rfl,trivial⟩
   cases j:E.cU t with
   |none=>rw [j] at e;exact h e
   |some d=>
    rw [j] at e;cases d<;>try (exact h e)
    ·cases a<;>try (cases e;done)
     cases b<;>try (cases e;done)
     rename_i q a s b;simp only at e;cases i:nM q s with
     |false=>rw [i] at e;cases e
     |true=>rw [i] at e;have:=(BC _ _).1 i;subst this;exact ⟨B _ _ _,Rn e w⟩
    ·cases a<;>try (cases e;done)
     cases b<;>try (cases e;done)
     exact ⟨F _ _,aaQ e w⟩
  all_goals
   cases j:E.cU t with
   |none=>
    rw [j] at e;cases a<;>try (cases e;done)
    cases b<;>try (cases e;done)
    rename_i q a s b;simp only at e;cases i:nM q s with
    |false=>rw [i] at e;cases e
    |true=>rw [i] at e;have:=(BC _ _).1 i;subst this;exact ⟨B _ _ _,Rn e w⟩
   |some d=>
    rw [j] at e;cases d<;>
     (cases a<;>try (cases e;done))<;>
     (cases b<;>try (cases e;done))<;>
     first
     |exact ⟨F _ _,aaQ e w⟩
     |(
       rename_i q a s b;simp only at e;cases i:nM q s with
       |false=>rw [i] at e;cases e
       |true=>rw [i] at e;have:=(BC _ _).1 i;subst this;exact ⟨B _ _ _,Rn e w⟩)
 refine ⟨?_,z.2.2⟩;simp only [execOp,R,H,G,aI,z.1,z.2.1,az,bh]
end
end
section
variable [aJ] {S:Nat->Prop}
section
variable {P:Program} {E:Env}
def aga (ok:eN P E) {m:Mp} {D:Pos->Prop} {t:TypeId} {off:Nat} {l:List ai} {v:ai} (h:(VA E t off).f l=some v) (j:jn D l) (w:World):
 (part t ⟨aW m l⟩ off).run P w= .ok (γ m v) w/\In D v:=by
 unfold VA at h;cases a:E.F8 t with
 |none=>rw [a] at h;cases h
 |some b=>
  rw [a] at h;have g:=ok.aaN a w;cases b with
  |false=>
   simp only [aaz] at h;exact ⟨by simp [part,g,pD,h],VS j h⟩
  |true=>
   cases d:E.size t with
   |none=>rw [d] at h;cases h
   |some k=>
    rw [d] at h;simp only at h;cases e:Iu k (Vs off l) with
    |none=>rw [e] at h;cases h
    |some r=>
     rw [e] at h;cases h;obtain ⟨o,i⟩:=aaB _ _ _ e;rw [aaA] at o i;subst i;refine ⟨?_,(mW _).2 fun v p=>(mW _).1 j v (gY (dG p))⟩;have q:=ok.yX d w;simp [part,g,q,γ,pD,gb,nP]
omit [aJ] in
def agb (off:Nat): ∀(a:List Value) (k:Nat) (A:List Value),off+k+a.length<=A.length->
 (a.zipIdx k).foldl (fun (b:Array Value) (p:Value×Nat)=>b.setIfInBounds (off+p.2) p.1) ⟨A⟩=⟨A.take (off+k)++a++A.drop (off+k+a.length)⟩
 | [],k,A,_=>by simp
 |v::a,k,A,h=>by
  simp only [List.zipIdx_cons,List.foldl_cons,List.setIfInBounds_toArray];have:=agb off a (k+1) (A.set (off+k) v) (by simp at h⊢;omega);rw [show (A.set (off+k) v).toArray=(⟨A.set (off+k) v⟩:Array Value) from rfl,this,show off+(k+1)=off+k+1 from rfl,list_seg_step A (off+k) v a (by simp at h⊢;omega)];rfl
def VZ {m:Mp} {D:Pos->Prop} {y:Nat->Option (Nat×Nat)} {tm:Tm} (k: ∀x:Operand,In D ((bR E x).g tm)): ∀(a:List (Nat×Operand)) (l r:List ai),
 Ar y (a.map fun p=>(p.1,bR E p.2)) tm l=some r->jn D l->
 Instr.fill y ⟨aW m l⟩ (a.map fun p=>(p.1,γ m ((bR E p.2).g tm)))=some ⟨aW m r⟩/\jn D r/\r.length=l.length
 | [],l,r,h,f=>by cases h;exact ⟨rfl,f,rfl⟩
 |(i,x)::a,l,r,h,f=>by
  simp only [cJ,Ar] at h;cases s:y i with
  |none=>rw [s] at h;cases h
  |some p=>
   obtain ⟨b,size⟩:=p;rw [s] at h;simp only at h;cases o:Nat.beq ((bR E x).g tm).cells.length size with
   |false=>rw [o] at h;cases h
   |true=>
    rw [o] at h;simp only [cond_true] at h;have t:=beq_iff.1 o;cases q:Iv ((bR E x).g tm).cells b l with
    |none=>rw [q] at h;cases h
    |some j=>
     rw [q] at h;obtain ⟨H,A⟩:=afO _ _ _ _ q;have B:jn D j:=by
      rw [A];refine (mW _).2 fun v d=> ?_
      rcases b8.1 d with d|d
      ·exact (mW _).1 f v (dG d)
      ·rcases b8.1 d with d|d
       ·exact (mW _).1 (IH (k x)) v d
       ·exact (mW _).1 f v (gY d)
     obtain ⟨F,G,I⟩:=VZ k a j r h B;refine ⟨?_,G,by grind⟩;simp only [cJ,Instr.fill,s,IG m (k x)];have J:(aW m ((bR E x).g tm).cells).length=size:=by rw [o8];exact t
     rw [if_neg (by simp [o8];omega)];have u:((⟨aW m ((bR E x).g tm).cells⟩:Array Value).zipIdx.foldl (fun (C:Array Value) (p:Value×Nat)=>C.setIfInBounds (b+p.2) p.1) ⟨aW m l⟩)=⟨aW m j⟩:=by
      rw [<-Array.foldl_toList,Array.toList_zipIdx];have z:=agb b (aW m ((bR E x).g tm).cells) 0 (aW m l) (by simp [o8];omega);simp only [dt] at z;have e:(aW m l).take b++aW m ((bR E x).g tm).cells++(aW m l).drop (b+(aW m ((bR E x).g tm).cells).length)=aW m j:=by
       rw [A,Gj,Gj];simp [pD,gb,nP]
      rw [<-e];exact z
     rw [u];exact F
end
end
end Go.Ev
