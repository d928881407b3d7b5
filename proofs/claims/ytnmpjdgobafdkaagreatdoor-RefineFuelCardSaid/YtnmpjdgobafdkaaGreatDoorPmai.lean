/- refineFuel_proved. -/
import Derived.Test.YtnmpjdgobafdkaaGreatDoorPmah
import Derived.Laws.Tables
set_option maxRecDepth 100000
set_option maxHeartbeats 16000000
set_option linter.all false
noncomputable section
namespace Go.Ev
section
variable [aJ] {S:Nat->Prop}
section
variable {P:Program} {E:Env} {m:Mp} {D:Pos->Prop} {tm:Tm} {ρ:Operand->Value}
omit [aJ] in
def aac (k:IntKind):half k=2^(if k.signed then k.bits-1 else k.bits):=by cases k<;>decide
omit [aJ] in
def D5 (k:IntKind) {a:Nat} (h:a<half k):(BitVec.ofInt k.bits (Int.ofNat a)).toNat=a:=by
 have b:a<2^k.bits:=az h (ae7 k)
 all_goals grind
omit [aJ] in
def U0 {f:Nat->Nat->Nat} {g:BinOp} {k:IntKind} {x y:Int} {v:aj} (h:(Fs f).f k x y=some v)
 (l: ∀a b:Nat,a<half k->b<half k->f a b<half k/\(Op.intBits g k (Int.ofNat a) (Int.ofNat b)=(pure (.int k (k.wrap (Int.ofNat (f a b)))):Sem Value))):
 ∃r,v= .int k r/\Op.intBits g k x y=(pure (.int k r):Sem Value):=by
 cases x with
 |negSucc a=>cases h
 |ofNat a=>cases y with
  |negSucc b=>cases h
  |ofNat b=>
   change cond (Nat.blt a (half k)) (cond (Nat.blt b (half k)) (oH k (.ofNat (f a b))) none) none=some v at h;cases d:Nat.blt a (half k) with
   |false=>rw [d] at h;cases h
   |true=>cases e:Nat.blt b (half k) with
    |false=>simp_all
    |true=>
     rw [d,e] at h;change oH k (.ofNat (f a b))=some v at h;obtain ⟨i,j⟩:=l a b (sw.1 d) (sw.1 e);exact ⟨_,xp h,by rw [j,wrap_small k i]⟩
omit [aJ] in
def an6 {k:IntKind} {x y:Int} {v:aj} (h:(Fs Nat.land).f k x y=some v): ∃r,v= .int k r/\Op.intBits .and k x y=(pure (.int k r):Sem Value):=
 U0 h fun a b d e=>⟨bh Nat.and_le_left d,by
  show (pure (Value.int k (k.wrap ((BitVec.ofInt k.bits (Int.ofNat a)&&&BitVec.ofInt k.bits (Int.ofNat b)).toNat:Int))):Sem Value)=_;rw [BitVec.toNat_and,D5 k d,D5 k e];rfl⟩
omit [aJ] in
def an7 {k:IntKind} {x y:Int} {v:aj} (h:(Fs Nat.lor).f k x y=some v): ∃r,v= .int k r/\Op.intBits .or k x y=(pure (.int k r):Sem Value):=
 U0 h fun a b d e=>⟨by rw [aac] at*;exact Nat.or_lt_two_pow d e,by
  show (pure (Value.int k (k.wrap ((BitVec.ofInt k.bits (Int.ofNat a)|||BitVec.ofInt k.bits (Int.ofNat b)).toNat:Int))):Sem Value)=_;rw [BitVec.toNat_or,D5 k d,D5 k e];rfl⟩
omit [aJ] in
def an8 {k:IntKind} {x y:Int} {v:aj} (h:(Fs Nat.xor).f k x y=some v): ∃r,v= .int k r/\Op.intBits .xor k x y=(pure (.int k r):Sem Value):=
 U0 h fun a b d e=>⟨by rw [aac] at*;exact fN d e,by
  show (pure (Value.int k (k.wrap ((BitVec.ofInt k.bits (Int.ofNat a)^^^BitVec.ofInt k.bits (Int.ofNat b)).toNat:Int))):Sem Value)=_;rw [kJ,D5 k d,D5 k e];rfl⟩
omit [aJ] in
def an9 {k:IntKind} {x y:Int} {v:aj} (h:(Fs fun a b=>Nat.xor a (Nat.land a b)).f k x y=some v): ∃r,v= .int k r/\Op.intBits .andNot k x y=(pure (.int k r):Sem Value):=
 U0 h fun a b d g=>⟨by rw [aac] at*;exact fN d (bh Nat.and_le_left d),by
  show (pure (Value.int k (k.wrap ((BitVec.ofInt k.bits (Int.ofNat a)&&& ~~~ BitVec.ofInt k.bits (Int.ofNat b)).toNat:Int))):Sem Value)=_;have e: ∀p q:BitVec k.bits,p&&& ~~~ q=p^^^(p&&&q):=fun p q=>by
   grind
  rw [e,kJ,BitVec.toNat_and,D5 k d,D5 k g];rfl⟩
def Qo {i:BinOp} {t:TypeId} {k:IntKind} {a b:Int} {v:aj} (h:(u6 i).f k a b=some v) (w:World):
 (binOp i t (.int k a) (.int k b)).run P w= .ok (γ m v) w/\In D v:=by
 cases i
 case add=>have:=xp h;subst this;exact ⟨by simp [binOp,Op.intArith,γ,xv,ae8],trivial⟩
 case sub=>have:=xp h;subst this;exact ⟨by simp [binOp,Op.intArith,γ,xv,Qn],trivial⟩
 case mul=>have:=xp h;subst this;exact ⟨by simp [binOp,Op.intArith,γ,xv,aab],trivial⟩
 case quo=>
  change cond (Fo b 0) none (oH k (ya k (ZB a b)))=some v at h;rw [AX] at h;by_cases d:b=0
  ·simp [d] at h
  ·simp [d] at h;have:=xp h;subst this;exact ⟨by simp [binOp,Op.intDiv,γ,xv,ae9,d],trivial⟩
 case rem=>
  change cond (Fo b 0) none (oH k (ZC a b))=some v at h;rw [AX] at h;by_cases d:b=0
  ·simp [d] at h
  ·simp [d] at h;have:=xp h;subst this;exact ⟨by simp [binOp,Op.intDiv,γ,afa,d],trivial⟩
 case and=>obtain ⟨r,rfl,g⟩:=an6 h;exact ⟨by simp [binOp,g,γ],trivial⟩
 case or=>obtain ⟨r,rfl,g⟩:=an7 h;exact ⟨by simp [binOp,g,γ],trivial⟩
 case xor=>obtain ⟨r,rfl,g⟩:=an8 h;exact ⟨by simp [binOp,g,γ],trivial⟩
 case andNot=>obtain ⟨r,rfl,g⟩:=an9 h;exact ⟨by simp [binOp,g,γ],trivial⟩
 case shl=>cases h
 case shr=>cases h
 case eql=>cases h;exact ⟨by simp [binOp,Op.intCmp,γ,AX];by_cases e:a=b<;>simp [e],trivial⟩
 case neq=>cases h;exact ⟨by simp [binOp,Op.intCmp,γ,AX];by_cases e:a=b<;>simp [e],trivial⟩
 case lss=>cases h;exact ⟨by simp [binOp,Op.intCmp,γ,A2],trivial⟩
 case leq=>cases h;exact ⟨by simp [binOp,Op.intCmp,γ,A2];by_cases e:b<a<;>simp [e]<;>omega,trivial⟩
 case gtr=>cases h;exact ⟨by simp [binOp,Op.intCmp,γ,A2],trivial⟩
 case geq=>cases h;exact ⟨by simp [binOp,Op.intCmp,γ,A2];by_cases e:a<b<;>simp [e]<;>omega,trivial⟩
def afb {t:TypeId} {k j:IntKind} {a b:Int} {v:aj} (h:(MH .shl).f k a b=some v) (w:World):
 (binOp .shl t (.int k a) (.int j b)).run P w= .ok (γ m v) w/\In D v:=by
 cases b with
 |negSucc b=>cases h
 |ofNat b=>
  have:=xp h;subst this;refine ⟨?_,trivial⟩;simp [binOp,Op.shift,γ,xv,aab]
  all_goals grind
def afc {t:TypeId} {k j:IntKind} {a b:Int} {v:aj} (h:(MH .shr).f k a b=some v) (w:World):
 (binOp .shr t (.int k a) (.int j b)).run P w= .ok (γ m v) w/\In D v:=by
 cases b with
 |negSucc b=>cases h
 |ofNat b=>
  have e: ∀n:Nat,(Int.ofNat (Nat.pow 2 n))=(2:Int)^n:=fun n=>by simp_all
  cases a with
  |ofNat a=>
   change oH k (.ofNat (Nat.div a (Nat.pow 2 (Nat.min b k.bits))))=some v at h;have:=xp h;subst this;refine ⟨?_,trivial⟩;have d: ∀n:Nat,(a:Int).fdiv ((2:Int)^n)=Int.ofNat (Nat.div a (Nat.pow 2 n)):=fun n=>by
    rw [<-e];exact (Int.ofNat_fdiv a (Nat.pow 2 n)).symm
   simp [binOp,Op.shift,γ,d]
   all_goals grind
  |negSucc a=>
   change oH k ((Int.negSucc a).fdiv (.ofNat (Nat.pow 2 (Nat.min b k.bits))))=some v at h;have:=xp h;subst this;refine ⟨?_,trivial⟩;simp [binOp,Op.shift,γ]
   all_goals grind
omit [aJ] in
def toList_mk (l:List UInt8):(⟨⟨l⟩⟩:ByteArray).toList=l:=by simp_all
def aad {g:BinOp} {t:TypeId} {a b:List UInt8} {v:aj} (h:(UC g).f a b=some v) (w:World):
 (binOp g t (.string ⟨⟨a⟩⟩) (.string ⟨⟨b⟩⟩)).run P w= .ok (γ m v) w/\In D v:=by
 cases g<;>try (cases h;done)
 case add=>
  change cond (Nat.blt (Nat.add a.length b.length) 4294967296) (some (.str (UB a b))) none=some v at h;cases d:Nat.blt (Nat.add a.length b.length) 4294967296 with
  |false=>rw [d] at h;cases h
  |true=>
   rw [d] at h;cases h;have j:a.length+b.length<4294967296:=sw.1 d;refine ⟨?_,trivial⟩;have e:(⟨⟨a⟩⟩:ByteArray)++(⟨⟨b⟩⟩:ByteArray)=⟨⟨a++b⟩⟩:=by apply oq;simp [ByteArray.data_append]
   have i: ∀l:List UInt8,(⟨⟨l⟩⟩:ByteArray).size=l.length:=fun l=>rfl
   simp only [binOp,Op.stringOp,i,e,γ,anX,IntKind.max_i64];rw [if_neg (by omega)];rfl
 case eql=>cases h;exact ⟨by simp [binOp,Op.stringOp,γ,Hm];by_cases e:a=b<;>simp [e],trivial⟩
 case neq=>cases h;exact ⟨by simp [binOp,Op.stringOp,γ,Hm];by_cases e:a=b<;>simp [e],trivial⟩
 case lss=>cases h;exact ⟨by simp [binOp,Op.stringOp,γ,US],trivial⟩
 case leq=>cases h;exact ⟨by simp [binOp,Op.stringOp,γ,US,Hm];by_cases e:a=b<;>simp [e],trivial⟩
 case gtr=>cases h;exact ⟨by simp [binOp,Op.stringOp,γ,US,Hm];by_cases e:a=b<;>cases Op.bytesLess a b<;>simp [e],trivial⟩
 case geq=>cases h;exact ⟨by simp [binOp,Op.stringOp,γ,US],trivial⟩
end
end
section
variable [aJ] {S:Nat->Prop}
section
variable {P:Program} {E:Env} {m:Mp} {D:Pos->Prop} {tm:Tm} {ρ:Operand->Value}
def p9 (E:Env) (t:TypeId) (v:aj):Bool:=match E.cQ t,v with
 |some (.int _),.int _ _=>true
 |some .string,.str _=>true
 |some .bool,.bool _=>true
 |_,_=>false
omit [aJ] in
def aae {k:Nat} {f:Field} {a:List Field} {v:aj} {vs:List aj} (h:tJ E k (f::a) (v::vs)=true):
 p9 E f.type v=true/\f.offset=k/\f.name≠ "_" /\tJ E (k+1) a vs=true:=by
 simp only [tJ,au] at h;obtain ⟨b,⟨d,g⟩,e⟩:=h;refine ⟨b,beq_iff.1 d,?_,e⟩
 all_goals grind
omit [aJ] in
def aaf {t:TypeId} {v:aj} (h:p9 E t v=true):E.Fq t=some false:=by
 unfold p9 at h;unfold Env.Fq
 all_goals grind
def eD.aag (ok:eD P E) {t:TypeId} (h:E.Fq t=some false) {xs:Array Value} {off:Nat} {v:Value} (a:xs[off]? =some v) (w:World):(part t xs off).run P w= .ok v w:=by
 simp [part,ok.aaa h,a]
def afd (ok:eD P E) {t:TypeId} {a b:aj} {r:Bool} (f:p9 E t a=true) (g:p9 E t b=true) (e:uj a b=some r) (d:Nat) (w:World):
 (Op.equalIn (d+1) t (γ m a) (γ m b)).run P w= .ok r w:=by
 unfold p9 at f g;cases j:E.cQ t with
 |none=>rw [j] at f;cases f
 |some o=>
  rw [j] at f g;have h:=ok.cQ j;cases o<;>try simp_all
  case bool=>
   cases a<;>try (cases f;done)
   cases b<;>try (cases g;done)
   rename_i a b;simp only [uj,sameKey,aW] at e;subst e;simp only [γ,Ka];exact run_equalIn_bool' w d t a b h
  case int k=>
   cases a<;>try (cases f;done)
   cases b<;>try (cases g;done)
   rename_i l a p b;simp only [uj,sameKey] at e;cases i:nh l p with
   |false=>rw [i] at e;cases e
   |true=>
    rw [i] at e;cases e;have:=(AW _ _).1 i;subst this;simp only [γ,AX];rw [run_equalIn_int w d t l k a b h]
    all_goals grind
  case string=>
   cases a<;>try (cases f;done)
   cases b<;>try (cases g;done)
   rename_i a b;simp only [uj,aW] at e;subst e;simp only [γ,Hm];rw [run_equalIn_string w d t _ _ h,toList_mk,toList_mk]
   all_goals grind
omit [aJ] in
def afe {t:TypeId} {a b:aj} {r:Bool} (d:p9 E t a=true) (g:uj a b=some r):p9 E t b=true:=by
 unfold p9 at d⊢;cases e:E.cQ t with
 |none=>rw [e] at d;cases d
 |some f=>rw [e] at d;cases f<;>cases a<;>first|(cases d;done)|(cases b<;>first|rfl|(cases g;done))
def aah (ok:eD P E) (d:Nat) (w:World): ∀(j:List Field) (a b:List aj) (k:Nat) (r:Bool) (g h:Array Value),tJ E k j a=true->AR a b=some r->
 (∀i,g[k+i]? =(a[i]?).map (γ m))->(∀i,h[k+i]? =(b[i]?).map (γ m))->(Op.eqFields (d+1) g h j).run P w= .ok r w
 | [],a,b,k,r,g,h,o,e,_,_=>by
  cases a<;>simp [tJ] at o;cases b with
  |nil=>simp [AR] at e;subst e;simp [Op.eqFields]
  |cons b t=>simp [AR] at e
 |f::j,a,b,k,r,g,h,o,e,u,x=>by
  cases a with
  |nil=>simp [tJ] at o
  |cons a as=>
   cases b with
   |nil=>simp [AR] at e
   |cons b t=>
    obtain ⟨p,s,A,B⟩:=aae o;have y:=u 0;have z:=x 0;simp only [dt,bX,dD] at y z;simp only [AR] at e;cases l:uj a b with
    |none=>rw [l] at e;cases e
    |some q=>
     rw [l] at e;have b1:=afe p l;have C:=afd (m:=m) ok p b1 l d w;have F:=ok.aag (aaf p) (off:=f.offset) (by rw [s];exact y) w;have pb:=ok.aag (aaf b1) (off:=f.offset) (by rw [s];exact z) w;simp only [Op.eqFields,ne_eq,A,not_false_eq_true,if_true,aI,F,pb,C,aB];cases q with
     |false=>simp_all
     |true=>
      simp only at e;simp only [Bool.not_true,cG,if_false];exact aah ok d w j as t (k+1) r g h B e (fun i=>by have:=u (i+1);rw [show k+(i+1)=k+1+i by omega] at this;simpa using this)
       (fun i=>by
        have:=x (i+1)
        all_goals grind)
omit [aJ] in
def D6 {t:TypeId} {x y:Value} {b:Bool} {w:World} (a:binOp .eql t x y=(do pure (Value.bool (<-Op.equal t x y)))) (f:binOp .neq t x y=(do pure (Value.bool (!(<-Op.equal t x y)))))
 (h: ∀d,(Op.equalIn (d+1) t x y).run P w= .ok b w):(binOp .eql t x y).run P w= .ok (.bool b) w/\(binOp .neq t x y).run P w= .ok (.bool (!b)) w:=by
 have e:(Op.equal t x y).run P w= .ok b w:=h 9999;rw [a,f];simp only [aI,e,aB];exact ⟨rfl,rfl⟩
def aff (ok:eD P E) {t:TypeId} {c:Bool} {x y:aj} {b:Bool} (h:(He E t c).f x y=some b) {G H:Operand} (hc:c=(zC G||zC H)) (s:BinOp) (w:World):
 (eqGuard s t G H (γ m x) (γ m y)).run P w= .ok () w/\(binOp .eql t (γ m x) (γ m y)).run P w= .ok (.bool b) w/\(binOp .neq t (γ m x) (γ m y)).run P w= .ok (.bool (!b)) w:=by
 unfold He at h;cases N:E.cQ t with
 |none=>rw [N] at h;cases h
 |some d=>
  rw [N] at h;have A:=ok.cQ N;have j:=fun w=>run_underlying A w
  cases d<;>try (cases h;done)
  case bool=>
   cases x<;>try (cases h;done)
   cases y<;>try (cases h;done)
   rename_i p q;simp only [aW,Ka] at h;subst h;simp only [γ];exact ⟨by rw [eqGuard_at_bool];rfl,run_eql_bool w t p q A,run_neq_bool w t p q A⟩
  case pointer e=>
   cases x<;>try (cases h;done)
   all_goals (cases y<;>try (cases h;done))
   ·rename_i n o k p
    simp only at h;cases O:E.size e with
    |none=>rw [O] at h;cases h
    |some z=>
     rw [O] at h;simp only at h;cases u:(Nat.blt 0 z&&n.gL k) with
     |false=>rw [u] at h;cases h
     |true=>
     rw [u] at h;rw [au] at u;obtain rfl:=(Pos.pH _ _).1 u.2;cases h;have R: ¬z=0:=by
      have:0<z:=by simpa using u.1
      omega
     have X:=fun w=>ok.yl O w
     simp only [γ];refine ⟨by rw [eqGuard_at_pointer];rfl,D6 rfl rfl fun d=> ?_⟩;simp only [Op.equalIn,aI,j,aB,X,ne_eq,R,not_false_eq_true,if_true,sameAddr,beq_self_eq_true];have:((⟨m.b n,o,none⟩:Addr)==⟨m.b n,p,none⟩)=Nat.beq o p:=by
      by_cases e:o=p
      ·subst e;simp
      ·rw [beq_eq_false_iff_ne.2 (fun h=>e (congrArg Addr.off h))]
       cases W:Nat.beq o p with
       |false=>rfl
       |true=>exact absurd (bD W) e
     rw [this];rfl
   all_goals
    simp only [aW] at h;subst h;simp only [γ];refine ⟨by rw [eqGuard_at_pointer];rfl,D6 rfl rfl fun d=> ?_⟩;simp only [Op.equalIn,aI,j,aB];rfl
  case slice e=>
   cases x<;>try (cases h;done)
   all_goals (cases y<;>try (cases h;done))
   all_goals
    simp only [aW] at h;subst h
   ·rename_i n o l J
    cases J<;>(simp only [γ];refine ⟨by rw [eqGuard_at_slice];rfl,D6 rfl rfl fun d=> ?_⟩;simp only [Op.equalIn,aI,j,aB];rfl)
   ·rename_i n o l J
    cases J<;>(simp only [γ];refine ⟨by rw [eqGuard_at_slice];rfl,D6 rfl rfl fun d=> ?_⟩;simp only [Op.equalIn,aI,j,aB];rfl)
   ·simp only [γ];refine ⟨by rw [eqGuard_at_slice];rfl,D6 rfl rfl fun d=> ?_⟩;simp only [Op.equalIn,aI,j,aB];rfl
  case map e f=>
   cases x<;>try (cases h;done)
   all_goals (cases y<;>try (cases h;done))
   all_goals
    simp only [aW] at h;subst h;simp only [γ];refine ⟨by rw [eqGuard_at_map];rfl,D6 rfl rfl fun d=> ?_⟩;simp only [Op.equalIn,aI,j,aB];rfl
  case func e f g=>
   cases x<;>try (cases h;done)
   all_goals (cases y<;>try (cases h;done))
   all_goals
    simp only [aW] at h;subst h;simp only [γ];refine ⟨by cases s<;>rfl,D6 rfl rfl fun d=> ?_⟩;simp only [Op.equalIn,aI,j,aB];rfl
  case interface Y=>
   cases x<;>try (cases h;done)
   all_goals (cases y<;>try (cases h;done))
   ·simp only [aW] at h
    subst h;simp only [γ];refine ⟨by cases s<;>rfl,D6 rfl rfl fun d=> ?_⟩;simp only [Op.equalIn,aI,j,aB];rfl
   ·simp only [aW] at h
    subst h;simp only [γ];refine ⟨by cases s<;>rfl,D6 rfl rfl fun d=> ?_⟩;simp only [Op.equalIn,aI,j,aB];rfl
   ·cases c with
    |false=>cases h
    |true=>
     cases h;simp only [γ];refine ⟨?_,D6 rfl rfl fun d=> ?_⟩
     ·cases G<;>cases H<;>first|(simp [zC] at hc;done)|(cases s<;>rfl)
     ·simp only [Op.equalIn,aI,j,aB];rfl
  case struct C=>
   cases M:E.gt t with
   |false=>rw [M] at h;cases h
   |true=>
    rw [M] at h;obtain ⟨T,U⟩:=ok.gt t M;cases x<;>try (cases h;done)
    cases y<;>try (cases h;done)
    rename_i a I;simp only [cond_true] at h;cases F:(tJ E 0 C.toList a&&tJ E 0 C.toList I) with
    |false=>rw [F] at h;cases h
    |true=>
     rw [F] at h;simp only [cond_true] at h;rw [au] at F;have Q:P.fieldsOf t=C:=by unfold Program.fieldsOf;rw [A]
     have B:(Op.equalIn 10000 t (.agg ⟨aV m a⟩) (.agg ⟨aV m I⟩)).run P w= .ok b w:=by
      rw [run_equalIn_agg w 9999 t _ _ (by rw [Q];exact A) T,Q];exact aah (m:=m) ok 9998 w C.toList a I 0 b _ _ F.1 h (fun i=>by simp [oZ]) (fun i=>by simp [oZ])
     simp only [γ];exact ⟨run_eqGuard_agg w s t G H _ _ U,by rw [run_eql_struct,B];rfl,by rw [run_neq_struct,B];rfl⟩
end
end
section
variable [aJ] {S:Nat->Prop}
def aoa (P:Program) (E:Env) (a:Op) (f:Tm->Option aj):Prop:=
 ∀(m:Mp) (D:Pos->Prop) (tm:Tm) (ρ:Operand->Value) (v:aj) (w:World) (o:Oper),o.op=a->Src E.gl m D tm ρ->f tm=some v->
  (execOp ρ o).run P w= .ok (.value (γ m v)) w/\In D v
def aob (P:Program) (E:Env) (a:Op) (f:Tm->aP->Option aj):Prop:=
 ∀(S:Nat->Prop) (m:Mp) (h:aP) (tm:Tm) (ρ:Operand->Value) (v:aj) (w:World) (o:Oper),o.op=a->bR E.gl S m h w->Src E.gl m (aF h) tm ρ->f tm h=some v->
  (execOp ρ o).run P w= .ok (.value (γ m v)) w/\In (aF h) v
def afg (P:Program) (E:Env) (d:Op) (f:Tm->Option (jG×Mk)):Prop:=
 ∀(m:Mp) (D:Pos->Prop) (tm:Tm) (ρ:Operand->Value) (b:jG) (mk:Mk) (w:World) (o:Oper),o.op=d->Src E.gl m D tm ρ->f tm=some (b,mk)->
  ∀n,¬D n-> ∃cap a,(execOp ρ o).run P w= .ok (.value (γ (m.set n w.heap.size cap) (mk.mk n))) {w with heap:=w.heap.push a} /\
   vb (m.set n w.heap.size cap) n b a/\zK D b/\b.pI=true
def Kj (P:Program) (E:Env) (S:Nat->Prop) (m:Mp) (h:aP) (w:World) (s:Sem Next):OR->Prop
 | .ok v a=> ∃b d r,s.run P w= .ok r d/\(r= .value (γ b v)\/(r= .skip/\v=oG))/\bR E.gl S b a d/\Goes m h w b a d/\In (aF a) v/\a.df=h.df
 | .call g args=>s.run P w= .ok (.enter g ⟨aV m args⟩) w/\i9 (aF h) args
 | .fail=>True
def afh (P:Program) (E:Env) (a:Op) (f:Tm->aP->OR):Prop:=
 ∀(S:Nat->Prop) (m:Mp) (h:aP) (tm:Tm) (ρ:Operand->Value) (w:World) (o:Oper),o.op=a->bR E.gl S m h w->Src E.gl m (aF h) tm ρ->Kj P E S m h w (execOp ρ o) (f tm h)
def gZ (P:Program) (E:Env) (a:Op):oI->Prop
 | .pu f=>aoa P E a f
 | .rd f=>aob P E a f
 | .nw f=>afg P E a f
 | .wr f=>afh P E a f
section
variable {P:Program} {E:Env}
def mV (a:Op):gZ P E a .bad:=fun _ _ _ _ _ _ _ _ _ h=>by cases h
omit [aJ] in
def FK {ρ:Operand->Value} {o:Oper} {s:Sem Value} {w:World} {r:Value} (a:execOp ρ o=(do pure (.value (<-s)))) (h:s.run P w= .ok r w):(execOp ρ o).run P w= .ok (.value r) w:=by
 rw [a];simp [h]
def Kk {a:Op} {f:aj->Option aj} {x:Operand} (s:Value->Sem Value)
 (h: ∀ρ o,o.op=a->execOp ρ o=(do pure (.value (<-s (ρ x)))))
 (i: ∀(m:Mp) (D:Pos->Prop) u v w,In D u->f u=some v->(s (γ m u)).run P w= .ok (γ m v) w/\In D v):gZ P E a (xf E f x):=
 fun m D tm ρ v w o j k l=>by
  obtain ⟨b,d⟩:=iV (E:=E) k x;obtain ⟨e,g⟩:=i m D _ v w d l;exact ⟨FK (h ρ o j) (by rw [b];exact e),g⟩
def afi {e:Op} {f:aj->aj->Option aj} {x y:Operand} (s:Value->Value->Sem Value)
 (p: ∀ρ o,o.op=e->execOp ρ o=(do pure (.value (<-s (ρ x) (ρ y)))))
 (q: ∀(m:Mp) (D:Pos->Prop) a b v w,In D a->In D b->f a b=some v->(s (γ m a) (γ m b)).run P w= .ok (γ m v) w/\In D v):gZ P E e (P' E f x y):=
 fun m D tm ρ v w o t d u=>by
  obtain ⟨i,j⟩:=iV (E:=E) d x;obtain ⟨g,h⟩:=iV (E:=E) d y;obtain ⟨k,l⟩:=q m D _ _ v w j h u;exact ⟨FK (p ρ o t) (by rw [i,g];exact k),l⟩
def aoc (x:Operand):gZ P E (.move x) (lh E (.move x)):=fun m D tm ρ v w o d e f=>by
 obtain ⟨a,b⟩:=iV (E:=E) e x;cases f;exact ⟨by simp only [execOp,d,bp,a],b⟩
def aod (x:Operand):gZ P E (.assign x) (lh E (.assign x)):=fun m D tm ρ v w o d e f=>by
 obtain ⟨a,b⟩:=iV (E:=E) e x;cases f;exact ⟨by simp only [execOp,d,bp,a],b⟩
def aoe (c a b:Operand):gZ P E (.pick c a b) (lh E (.pick c a b)):=fun m D tm ρ v w o h f d=>by
 obtain ⟨e,l⟩:=iV (E:=E) f c;obtain ⟨i,j⟩:=iV (E:=E) f a;obtain ⟨b1,k⟩:=iV (E:=E) f b;simp only at d;generalize (bP E c).g tm=u at e d;cases u<;>try (cases d;done)
 rename_i q;cases q<;>cases d
 ·exact ⟨by simp [execOp,h,e,γ,asBool,b1],k⟩
 ·exact ⟨by simp [execOp,h,e,γ,asBool,i],j⟩
def aof (x:Operand):gZ P E (.nilCheck x) (lh E (.nilCheck x)):=fun m D tm ρ v w o h j d=>by
 obtain ⟨e,f⟩:=iV (E:=E) j x;simp only at d;generalize (bP E x).g tm=u at e f d;cases u<;>try (cases d;done)
 ·cases d;exact ⟨by simp [execOp,h,e,γ],f⟩
 ·rename_i n o l c;cases d;cases c<;>exact ⟨by simp [execOp,h,e,γ],f⟩
 ·rename_i i a b
  cases i<;>try (cases d;done)
  cases d;exact ⟨by simp [execOp,h,e,γ],f⟩
 ·cases d;exact ⟨by simp [execOp,h,e,γ],f⟩
def aog (g:UnOp) (t:TypeId) (x:Operand):gZ P E (.unOp g t x) (lh E (.unOp g t x)):=
 Kk (fun a=>Op.unary g a) (fun ρ o q=>by simp only [execOp,q]) fun m D u v w j f=>by
  cases g<;>cases u<;>try (cases f;done)
  ·have:=xp f;subst this
   exact ⟨by simp [Op.unary,Op.intArith,γ,xv,Qn],trivial⟩
  ·rename_i k n
   cases n with
   |negSucc n=>cases f
   |ofNat n=>
    have j:(k= .u8\/k= .u16\/k= .u32\/k= .u64)/\cond (Nat.blt n (half k)) (oH k (.ofNat (Nat.sub (Nat.sub (half k) 1) n))) none=some v:=by
     cases k<;>first|(cases f;done)|exact ⟨by simp,f⟩
    obtain ⟨p,f⟩:=j;cases h:Nat.blt n (half k) with
    |false=>rw [h] at f;cases f
    |true=>
     rw [h] at f;have:=xp (k:=k) (n:= .ofNat (Nat.sub (Nat.sub (half k) 1) n)) f;subst this;refine ⟨?_,trivial⟩;have l:n<half k:=sw.1 h;have d:k.max=Int.ofNat (half k-1)/\k.signed=false/\half k=2^k.bits:=by rcases p with rfl|rfl|rfl|rfl<;>decide
     have y:half k-1<half k:=by omega
     have i:(BitVec.ofInt k.bits (Int.ofNat (half k-1))^^^BitVec.ofInt k.bits (Int.ofNat n)).toNat=half k-1-n:=by
      have e:BitVec.ofInt k.bits (Int.ofNat (half k-1))=BitVec.allOnes k.bits:=by
       apply BitVec.eq_of_toNat_eq;rw [D5 k y,BitVec.toNat_allOnes,d.2.2]
      rw [e,BitVec.allOnes_xor,BitVec.toNat_not,D5 k l,d.2.2]
     have s: ∀a b,Nat.sub a b=a-b:=fun _ _=>rfl
     simp only [Op.unary,Op.intBits,γ,d.2.1,cG,if_false,d.1,bp,i,s];have:=wrap_small k (a:=half k-1-n) (by omega)
     all_goals grind
  ·cases f
   rename_i b;exact ⟨by cases b<;>simp [Op.unary,γ],trivial⟩
def aoh (ok:eD P E) (t:TypeId) (x:Operand):gZ P E (.makeInterface t x) (lh E (.makeInterface t x)):=
 Kk (fun a=>Instr.makeInterface t a) (fun ρ o f=>by simp only [execOp,f]) fun m D u v w h b=>by
  unfold aeP at b;cases e:E.cQ t with
  |none=>rw [e] at b;cases b
  |some d=>
   rw [e] at b;have g:=ok.nj e w;cases d<;>first|(cases b;done)|(cases b;exact ⟨by simp [Instr.makeInterface,g,γ],h⟩)
def aoi (t:Operand) (i:Nat):gZ P E (.extract t i) (lh E (.extract t i)):=fun m D tm ρ v w o e f a=>by
 obtain ⟨b,d⟩:=iV (E:=E) f t;simp only at a;generalize (bP E t).g tm=u at b d a;cases u<;>try (cases a;done)
 rename_i l;simp only [ZP] at a;exact ⟨by simp [execOp,e,b,γ,Instr.extract,oZ,a],UX d a⟩
def aoj (f:FuncId) (a b:Array Operand):gZ P E (.makeFunc (.func f) a b) (lh E (.makeFunc (.func f) a b)):=fun m D tm ρ v w o l d p=>by
 obtain ⟨j,k⟩:=Hq (E:=E) d a.toList;obtain ⟨h,i⟩:=Hq (E:=E) d b.toList;cases p;refine ⟨?_,k,i⟩;have e:a.map ρ=⟨a.toList.map ρ⟩:=by apply eO;simp
 have g:b.map ρ=⟨b.toList.map ρ⟩:=by apply eO;simp
 simp [execOp,l,Instr.makeFunc,γ,e,g,j,h]
def aok (ok:eD P E) (A:BinOp) (t J:TypeId) (x y:Operand):gZ P E (.binOp A t x y J) (lh E (.binOp A t x y J)):=fun m D tm ρ v w o R I e=>by
 obtain ⟨H,Q⟩:=iV (E:=E) I x;obtain ⟨G,O⟩:=iV (E:=E) I y;simp only at e;generalize (bP E x).g tm=a at H Q e;generalize (bP E y).g tm=b at G O e;have z:(eqGuard A t x y (γ m a) (γ m b)).run P w= .ok () w/\(binOp A t (γ m a) (γ m b)).run P w= .ok (γ m v) w/\In D v:=by
  have B: ∀k n u,(eqGuard A t x y (γ m (.int k n)) u).run P w= .ok () w:=fun k n u=>by simp only [γ];rw [eqGuard_at_int];rfl
  have F: ∀l u,(eqGuard A t x y (γ m (.str l)) u).run P w= .ok () w:=fun l u=>by simp only [γ];rw [eqGuard_at_string];rfl
  unfold aeJ at e;cases A
  case shl=>
   cases a<;>try (cases e;done)
   cases b<;>try (cases e;done)
   exact ⟨B _ _ _,afb e w⟩
  case shr=>
   cases a<;>try (cases e;done)
   cases b<;>try (cases e;done)
   exact ⟨B _ _ _,afc e w⟩
  case eql=>
   have h:(Option.casesOn ((He E t (zC x||zC y)).f a b) none fun b=>some (aj.bool b))=some v->
    ((eqGuard .eql t x y (γ m a) (γ m b)).run P w= .ok () w/\(binOp .eql t (γ m a) (γ m b)).run P w= .ok (γ m v) w/\In D v):=fun e=>by
    cases p:(He E t (zC x||zC y)).f a b with
    |none=>rw [p] at e;cases e
    |some u=>
     rw [p] at e;cases e;obtain ⟨C,M,_⟩:=aff (m:=m) ok p rfl .eql w;exact ⟨C,M,trivial⟩
   cases j:E.cQ t with
   |none=>rw [j] at e;exact h e
   |some d=>
    rw [j] at e;cases d<;>try (exact h e)
    ·cases a<;>try (cases e;done)
     cases b<;>try (cases e;done)
     rename_i q a s b;simp only at e;cases i:nh q s with
     |false=>rw [i] at e;cases e
     |true=>rw [i] at e;have:=(AW _ _).1 i;subst this;exact ⟨B _ _ _,Qo e w⟩
    ·cases a<;>try (cases e;done)
     cases b<;>try (cases e;done)
     exact ⟨F _ _,aad e w⟩
  case neq=>
   have h:(Option.casesOn ((He E t (zC x||zC y)).f a b) none fun b=>some (aj.bool (cond b false true)))=some v->
    ((eqGuard .neq t x y (γ m a) (γ m b)).run P w= .ok () w/\(binOp .neq t (γ m a) (γ m b)).run P w= .ok (γ m v) w/\In D v):=fun e=>by
    cases p:(He E t (zC x||zC y)).f a b with
    |none=>rw [p] at e;cases e
    |some u=>
     rw [p] at e;cases e;obtain ⟨C,_,N⟩:=aff (m:=m) ok p rfl .neq w;exact ⟨C,by rw [N];cases u<;>rfl,trivial⟩
   cases j:E.cQ t with
   |none=>rw [j] at e;exact h e
   |some d=>
    rw [j] at e;cases d<;>try (exact h e)
    ·cases a<;>try (cases e;done)
     cases b<;>try (cases e;done)
     rename_i q a s b;simp only at e;cases i:nh q s with
     |false=>rw [i] at e;cases e
     |true=>rw [i] at e;have:=(AW _ _).1 i;subst this;exact ⟨B _ _ _,Qo e w⟩
    ·cases a<;>try (cases e;done)
     cases b<;>try (cases e;done)
     exact ⟨F _ _,aad e w⟩
  all_goals
   cases j:E.cQ t with
   |none=>
    rw [j] at e;cases a<;>try (cases e;done)
    cases b<;>try (cases e;done)
    rename_i q a s b;simp only at e;cases i:nh q s with
    |false=>rw [i] at e;cases e
    |true=>rw [i] at e;have:=(AW _ _).1 i;subst this;exact ⟨B _ _ _,Qo e w⟩
   |some d=>
    rw [j] at e;cases d<;>
     (cases a<;>try (cases e;done))<;>
     (cases b<;>try (cases e;done))<;>
     first
     |exact ⟨F _ _,aad e w⟩
     |(
       rename_i q a s b;simp only at e;cases i:nh q s with
       |false=>rw [i] at e;cases e
       |true=>rw [i] at e;have:=(AW _ _).1 i;subst this;exact ⟨B _ _ _,Qo e w⟩)
 refine ⟨?_,z.2.2⟩;simp only [execOp,R,H,G,aI,z.1,z.2.1,aB,bp]
end
end
section
variable [aJ] {S:Nat->Prop}
section
variable {P:Program} {E:Env}
def afj (ok:eD P E) {m:Mp} {D:Pos->Prop} {t:TypeId} {off:Nat} {l:List aj} {v:aj} (h:(UE E t off).f l=some v) (j:i9 D l) (w:World):
 (part t ⟨aV m l⟩ off).run P w= .ok (γ m v) w/\In D v:=by
 unfold UE at h;cases a:E.Fq t with
 |none=>rw [a] at h;cases h
 |some b=>
  rw [a] at h;have g:=ok.aaa a w;cases b with
  |false=>
   simp only [ZP] at h;exact ⟨by simp [part,g,oZ,h],UX j h⟩
  |true=>
   cases d:E.size t with
   |none=>rw [d] at h;cases h
   |some k=>
    rw [d] at h;simp only at h;cases e:Hc k (Uw off l) with
    |none=>rw [e] at h;cases h
    |some r=>
     rw [e] at h;cases h;obtain ⟨o,i⟩:=ZR _ _ _ e;rw [ZQ] at o i;subst i;refine ⟨?_,(mn _).2 fun v p=>(mn _).1 j v (gY (dr p))⟩;have q:=ok.yl d w;simp [part,g,q,γ,oZ,gD,oe]
omit [aJ] in
def afk (off:Nat): ∀(a:List Value) (k:Nat) (A:List Value),off+k+a.length<=A.length->
 (a.zipIdx k).foldl (fun (b:Array Value) (p:Value×Nat)=>b.setIfInBounds (off+p.2) p.1) ⟨A⟩=⟨A.take (off+k)++a++A.drop (off+k+a.length)⟩
 | [],k,A,_=>by simp
 |v::a,k,A,h=>by
  simp only [List.zipIdx_cons,List.foldl_cons,List.setIfInBounds_toArray];have:=afk off a (k+1) (A.set (off+k) v) (by simp at h⊢;omega);rw [show (A.set (off+k) v).toArray=(⟨A.set (off+k) v⟩:Array Value) from rfl,this,show off+(k+1)=off+k+1 from rfl,list_seg_step A (off+k) v a (by simp at h⊢;omega)];rfl
def U6 {m:Mp} {D:Pos->Prop} {u:Nat->Option (Nat×Nat)} {tm:Tm} (j: ∀x:Operand,In D ((bP E x).g tm)): ∀(a:List (Nat×Operand)) (l r:List aj),
 zD u (a.map fun p=>(p.1,bP E p.2)) tm l=some r->i9 D l->
 Instr.fill u ⟨aV m l⟩ (a.map fun p=>(p.1,γ m ((bP E p.2).g tm)))=some ⟨aV m r⟩/\i9 D r/\r.length=l.length
 | [],l,r,h,d=>by cases h;exact ⟨rfl,d,rfl⟩
 |(i,x)::a,l,r,h,d=>by
  simp only [cI,zD] at h;cases q:u i with
  |none=>rw [q] at h;cases h
  |some p=>
   obtain ⟨off,size⟩:=p;rw [q] at h;simp only at h;cases k:Nat.beq ((bP E x).g tm).cells.length size with
   |false=>rw [k] at h;cases h
   |true=>
    rw [k] at h;simp only [cond_true] at h;have s:=beq_iff.1 k;cases o:Hd ((bP E x).g tm).cells off l with
    |none=>rw [o] at h;cases h
    |some f=>
     rw [o] at h;obtain ⟨G,y⟩:=aeX _ _ _ _ o;have A:i9 D f:=by
      rw [y];refine (mn _).2 fun v b=> ?_
      rcases bZ.1 b with b|b
      ·exact (mn _).1 d v (dr b)
      ·rcases bZ.1 b with b|b
       ·exact (mn _).1 (Ho (j x)) v b
       ·exact (mn _).1 d v (gY b)
     obtain ⟨C,F,H⟩:=U6 j a f r h A;refine ⟨?_,F,by grind⟩;simp only [cI,Instr.fill,q,Hn m (j x)];have I:(aV m ((bP E x).g tm).cells).length=size:=by rw [oJ];exact s
     rw [if_neg (by simp [oJ];omega)];have t:((⟨aV m ((bP E x).g tm).cells⟩:Array Value).zipIdx.foldl (fun (B:Array Value) (p:Value×Nat)=>B.setIfInBounds (off+p.2) p.1) ⟨aV m l⟩)=⟨aV m f⟩:=by
      rw [<-Array.foldl_toList,Array.toList_zipIdx];have z:=afk off (aV m ((bP E x).g tm).cells) 0 (aV m l) (by simp [oJ];omega);simp only [dt] at z;have e:(aV m l).take off++aV m ((bP E x).g tm).cells++(aV m l).drop (off+(aV m ((bP E x).g tm).cells).length)=aV m f:=by
       rw [y,FC,FC];simp [oZ,gD,oe]
      rw [<-e];exact z
     rw [t];exact C
end
end
end Go.Ev
