/- refineCopies_proved. -/
import Derived.Test.YthleenhngcdgkaaGreatDoorPmah
set_option maxRecDepth 100000
set_option maxHeartbeats 16000000
set_option linter.all false
noncomputable section
namespace Go.Ev
section
variable [aJ] {S:Nat->Prop}
section
variable {P:Program} {E:Env}
def apd {a:List Field} (ok:eN P E): ∀(i:Nat) (p:Nat×Nat),placeOf E a i=some p-> ∃f,a[i]? =some f/\ ∃inf,P.info? f.type=some inf/\p=(f.offset,inf.size):=by
 intro i p h;unfold placeOf at h;cases d:a[i]? with
 |none=>rw [d] at h;cases h
 |some f=>
  rw [d] at h;simp only at h;cases b:E.size f.type with
  |none=>rw [b] at h;cases h
  |some s=>
   rw [b] at h;cases h;obtain ⟨inf,e,g⟩:=ok.size b
   all_goals grind
omit [aJ] in
def agc {g d:Nat->Option (Nat×Nat)} (h: ∀i p,g i=some p->d i=some p): ∀(a:List (Nat×Value)) (c r:Array Value),Instr.fill g c a=some r->Instr.fill d c a=some r
 | [],c,r,b=>b
 |(i,v)::e,c,r,b=>by
  simp only [Instr.fill] at b⊢;cases f:g i with
  |none=>rw [f] at b;cases b
  |some p=>
   rw [f] at b;rw [h i p f];obtain ⟨j,size⟩:=p;simp only at b⊢;split at b
   ·cases b
   ·rename_i hc
    rw [if_neg hc];exact agc h e _ r b
def ape (ok:eN P E) (t:TypeId) (a:Array (Nat×Operand)):iA P E (.build t a) (lO E (.build t a)):=fun m D B ρ v w o U W b=>by
 have N: ∀x:Operand,In D ((bR E x).g B):=fun x=>(jf (E:=E) W x).2
 have M:(a.map fun (i,x)=>(i,ρ x)).toList=a.toList.map fun p=>(p.1,γ m ((bR E p.2).g B)):=by
  simp only [kL];apply dy;intro p _;rw [(jf (E:=E) W p.2).1]
 change (NR E t a).f B=some v at b;unfold NR at b;cases I:E.zero t with
 |none=>rw [I] at b;cases b
 |some z=>
  obtain ⟨it,zv,y,A,rfl⟩:=ok.zero I;rw [I] at b;have k:=Ay D zv;have J:zv.cells=⟨aW m (ai.ofValue zv).cells⟩:=by rw [<-IG m k,Gk]
  cases H:E.cU t with
  |none=>rw [H] at b;cases b
  |some d=>
   rw [H] at b;have Q:=ok.cU H;cases d<;>try (cases b;done)
   case array n e=>
    simp only at b;cases O:E.size e with
    |none=>simp_all
    |some s=>
     rw [O] at b;simp only at b;obtain ⟨ie,wL,X⟩:=ok.size O;cases j:Ar (fun i=>some (Nat.mul i s,s)) (Gb E a) B (ai.ofValue zv).cells with
     |none=>rw [j] at b;cases b
     |some l=>
      rw [j] at b;cases b;obtain ⟨C,F,_⟩:=VZ N a.toList _ _ j (IH k);refine ⟨?_,F⟩;have G:P.built t (a.map fun (i,x)=>(i,ρ x)).toList=some ⟨aW m l⟩:=by
       unfold Program.built;rw [y,Q];simp only [A,wL,J,M,X];exact C
      refine Gr (s:=Instr.build t (a.map fun (i,x)=>(i,ρ x))) (by simp only [execOp,U]) ?_;exact run_build w t _ _ G
   case struct q=>
    simp only at b;cases u:(q.toList.all fun f=>(E.size f.type).isSome) with
    |false=>simp_all
    |true=>
    rw [u] at b;simp only [cond_true] at b;cases j:Ar (placeOf E q.toList) (Gb E a) B (ai.ofValue zv).cells with
    |none=>rw [j] at b;cases b
    |some l=>
     rw [j] at b;cases b;obtain ⟨C,F,_⟩:=VZ N a.toList _ _ j (IH k);refine ⟨?_,F⟩;have Y: ∃h:List (Nat×Nat),q.toList.mapM (fun f=>(P.info? f.type).map fun i=>(f.offset,i.size))=some h/\ ∀(i:Nat) (f:Field),q.toList[i]? =some f-> ∀inf,P.info? f.type=some inf->h[i]? =some (f.offset,inf.size):=by
      have u: ∀f∈q.toList,(P.info? f.type).isSome=true:=fun f j=>by
       have:=dw.1 u f j;obtain ⟨s,wM⟩:=kM.1 this;obtain ⟨i,T,_⟩:=ok.size wM;rw [T];rfl
      generalize q.toList=l at u
      induction l with
      |nil=>simp_all
      |cons f l ih=>
       obtain ⟨pl,h1,h2⟩:=ih (fun g R=>u g (aw _ R));obtain ⟨inf,Z⟩:=kM.1 (u f (aC ..));refine ⟨(f.offset,inf.size)::pl,by simp_all,fun i g R aFX T=> ?_⟩
       all_goals grind
     obtain ⟨h,p1,p2⟩:=Y;have G:P.built t (a.map fun (i,x)=>(i,ρ x)).toList=some ⟨aW m l⟩:=by
      unfold Program.built;rw [y,Q];simp only [A,p1,J,M];refine agc (fun i p hp=> ?_) _ _ _ C;obtain ⟨f,q1,inf,q2,rfl⟩:=apd ok i p hp
      all_goals grind
     refine Gr (s:=Instr.build t (a.map fun (i,x)=>(i,ρ x))) (by simp only [execOp,U]) ?_;exact run_build w t _ _ G
omit [aJ] in
def N6 {v:ai} {k:Nat->Option ai} {r:ai} (h:yM v none k=some r): ∃kd n,v= .int kd (.ofNat n)/\k n=some r:=by
 unfold yM at h;cases v<;>try (cases h;done)
 rename_i kd n;cases n with
 |negSucc n=>cases h
 |ofNat n=>grind
def apf {f:Field} {s:Nat} (ok:eN P E) (h:E.size f.type=some (s+1)) (b off:Nat) (w:World):(fieldPlace ⟨b,off,none⟩ f).run P w= .ok ⟨b,off+f.offset,none⟩ w:=by
 have a:=ok.yX h w;simp [fieldPlace,a,Gn]
def apg (ok:eN P E) (t:TypeId) (x:Operand) (f:Nat):iA P E (.fieldAddr t x f) (lO E (.fieldAddr t x f)):=
 Lh (fun a=>Instr.fieldAt t a f) (fun ρ o k=>by simp only [execOp,k]) fun m D u v w p b=>by
  unfold afE at b;cases g:E.cU t with
  |none=>rw [g] at b;cases b
  |some d=>
   rw [g] at b;have l:=ok.nO g w;cases d<;>try (cases b;done)
   rename_i i;simp only at b;cases j:i.toList[f]? with
   |none=>rw [j] at b;cases b
   |some h=>
    rw [j] at b;simp only at b;cases e:E.size h.type with
    |none=>rw [e] at b;cases b
    |some s=>
     rw [e] at b;cases s with
     |zero=>cases b
     |succ s=>
      simp only at b;cases u<;>try (cases b;done)
      rename_i n y;simp only [yS,aX] at b;subst b;have q:i[f]? =some h:=by simp_all
      exact ⟨by simp [Instr.fieldAt,l,q,γ,Instr.sureAddr,apf ok e],p⟩
def aph (ok:eN P E) (t:TypeId) (x:Operand) (f:Nat):iA P E (.field t x f) (lO E (.field t x f)):=
 Lh (fun a=>Instr.field t a f) (fun ρ o j=>by simp only [execOp,j]) fun m D u v w p b=>by
  unfold afF at b;cases e:E.cU t with
  |none=>rw [e] at b;cases b
  |some d=>
   rw [e] at b;have k:=ok.nO e w;cases d<;>try (cases b;done)
   rename_i g;simp only at b;cases h:g.toList[f]? with
   |none=>rw [h] at b;cases b
   |some i=>
    rw [h] at b;simp only at b;cases u<;>try (cases b;done)
    rename_i l;have q:g[f]? =some i:=by simp_all
    obtain ⟨s,y⟩:=aga (m:=m) ok b p w;exact ⟨by simp [Instr.field,k,q,γ,asAgg,s],y⟩
def api (ok:eN P E) (t:TypeId) (x y:Operand):iA P E (.indexAddr t x y) (lO E (.indexAddr t x y)):=
 af9 (fun a b=>Instr.indexAt t a b) (fun ρ o B=>by simp only [execOp,B]) fun m D a b v w A F f=>by
  unfold afB at f;cases z:E.cU t with
  |none=>rw [z] at f;cases f
  |some d=>
   rw [z] at f;have s:=ok.nO z w;cases d<;>try (cases f;done)
   case slice e=>
    simp only at f;cases j:E.size e with
    |none=>rw [j] at f;cases f
    |some C=>
     rw [j] at f;simp only at f;have p:=ok.yX j w;replace f:=N6 f;obtain ⟨kd,i,rfl,f⟩:=f;cases a<;>try (cases f;done)
     rename_i n l len cap;simp only at f;cases h:Nat.blt i len with
     |false=>simp_all
     |true=>
      rw [h] at f;simp only [cond_true,yS,aX] at f;subst f;have k:i<len:=sM.1 h;refine ⟨?_,A⟩;cases cap<;>simp [Instr.indexAt,asIntOf,s,γ,p,k,Gn]<;>rfl
   case array len e=>
    simp only at f;cases j:E.size e with
    |none=>rw [j] at f;cases f
    |some C=>
     rw [j] at f;simp only at f;have p:=ok.yX j w;replace f:=N6 f;obtain ⟨kd,i,rfl,f⟩:=f;cases a<;>try (cases f;done)
     ·rename_i n l
      simp only at f;cases h:Nat.blt i len with
      |false=>rw [h] at f;cases f
      |true=>
       rw [h] at f;simp only [cond_true,yS,aX] at f;subst f;have k:i<len:=sM.1 h;refine ⟨?_,A⟩;simp [Instr.indexAt,asIntOf,s,γ,p,k,Gn,Instr.sureAddr]<;>rfl
     ·rename_i u
      split at f<;>try (cases f;done)
      ·rename_i q;cases q
      ·rename_i g l q
       cases q;cases h:Nat.blt i len with
       |false=>rw [h] at f;cases f
       |true=>
        rw [h] at f;simp only [cond_true,yS,aX] at f;subst f;have k:i<len:=sM.1 h;refine ⟨?_,by show Value.oneCell' _=true;rfl⟩;simp [Instr.indexAt,asIntOf,s,γ,p,k,Gn,Instr.sureAddr]<;>rfl
def apj (ok:eN P E) (t:TypeId) (x y:Operand):iA P E (.index t x y) (lO E (.index t x y)):=
 af9 (fun a b=>Instr.index t a b) (fun ρ o A=>by simp only [execOp,A]) fun m D a b v w u H f=>by
  unfold afD at f;cases p:E.cU t with
  |none=>rw [p] at f;cases f
  |some d=>
   rw [p] at f;have s:=ok.nO p w;cases d<;>try (cases f;done)
   case string=>
    simp only at f;replace f:=N6 f;obtain ⟨kd,i,rfl,f⟩:=f;cases a<;>try (cases f;done)
    rename_i l;simp only [aoN] at f;cases h:l[i]? with
    |none=>rw [h] at f;cases f
    |some b=>
     rw [h] at f;simp only [yS,aX] at f;subst f;refine ⟨?_,trivial⟩;have g:=(eX.1 h).1;have e:(⟨⟨l⟩⟩:ByteArray)[i]? =some b:=by
      have k:i<(⟨⟨l⟩⟩:ByteArray).size:=g;rw [getElem?_pos (⟨⟨l⟩⟩:ByteArray) i k];have:=(eX.1 h).2;exact congrArg some this
     simp [Instr.index,asIntOf,s,γ,e]
   case array len e=>
    simp only at f;cases j:E.size e with
    |none=>rw [j] at f;cases f
    |some G=>
     rw [j] at f;simp only at f;have B:=ok.yX j w;replace f:=N6 f;obtain ⟨kd,i,rfl,f⟩:=f;cases a<;>try (cases f;done)
     rename_i l;simp only at f;cases g:Nat.blt i len with
     |false=>simp_all
     |true=>
      rw [g] at f;simp only [cond_true] at f;have z:i<len:=sM.1 g;obtain ⟨C,F⟩:=aga (m:=m) ok f u w;refine ⟨?_,F⟩;have q:(part e ⟨aW m l⟩ (i*G)).run P w= .ok (γ m v) w:=C;simp [Instr.index,asIntOf,s,γ,B,z,q]
def apk (ok:eN P E) (x:Operand) (y t:TypeId) (c:Bool):iA P E (.typeAssert x y t c) (lO E (.typeAssert x y t c)):=
 Lh (fun a=>Instr.typeAssert a y t c) (fun ρ o C=>by simp only [execOp,C]) fun m D u v w A b=>by
  unfold afH at b;cases l:E.cU t with
  |none=>rw [l] at b;cases b
  |some d=>
   rw [l] at b;have k:=ok.nO l w;have h:(match E.zero t with
    |some z=>(⟨fun x=>match x with
     | .iface u v=>cond (Nat.beq u t) (some (cond c (.fm [v,.bool true]) v)) (cond c (some (.fm [z,.bool false])) none)
     |_=>none⟩:Q4)
    |none=>⟨fun _=>none⟩).f u=some v/\(∀F,d≠ .interface F):=by
    grind
   obtain ⟨b,i⟩:=h;cases p:E.zero t with
   |none=>rw [p] at b;cases b
   |some z=>
    rw [p] at b;obtain ⟨I,zv,G,H,rfl⟩:=ok.zero p;have B:=VV G H w;simp only at b;obtain ⟨s,q,rfl⟩: ∃s q,u= .iface s q:=by grind
    simp only at b;cases g:Nat.beq s t with
    |true=>
     rw [g] at b;simp only [cond_true,aX] at b;subst b;have:=beq_iff.1 g;subst this;cases c with
     |true=>exact ⟨by cases d<;>first|exact absurd rfl (i _)|simp [Instr.typeAssert,k,γ,aW],⟨A,trivial,trivial⟩⟩
     |false=>exact ⟨by cases d<;>first|exact absurd rfl (i _)|simp [Instr.typeAssert,k,γ],A⟩
    |false=>
     rw [g] at b;have j:s≠t:=fun e=>by subst e;rw [jA] at g;cases g
     cases c with
     |false=>cases b
     |true=>
      simp only [cond_true,cond_false,aX] at b;subst b;exact ⟨by cases d<;>first|exact absurd rfl (i _)|simp [Instr.typeAssert,k,γ,aW,j,B,Gk],⟨Ay D zv,trivial,trivial⟩⟩
end
end
section
variable [aJ] {S:Nat->Prop}
section
variable {P:Program} {E:Env}
omit [aJ] in
def Lj {ρ:Operand->Value} {o:Oper} {c:Call} {b:Builtin} (a:o.op= .call c) (hc:c.callee= .builtin b):
 execOp ρ o=builtin b c.argTypes o.type (c.args.map fun| .const _=>true|_=>false) (c.args.map ρ):=by
 simp only [execOp,a,resolve,hc];rfl
omit [aJ] in
def Ll {ρ:Operand->Value} {c:Call} {l:List Operand} (h:c.args.toList=l):c.args.map ρ=⟨l.map ρ⟩:=by
 grind
omit [aJ] in
def V1 {c:Call} {l:List TypeId} (h:c.argTypes.toList=l):c.argTypes=⟨l⟩:=by subst h;rfl
def agd {c:Call} {b:Builtin} {f:ai->Option ai} {x:Operand} {t:TypeId} {a:List TypeId} (hc:c.callee= .builtin b) (e:c.args.toList= [x]) (j:c.argTypes.toList=t::a)
 (s:Value->Sem Value) (g: ∀ty d u,builtin b ⟨t::a⟩ ty d #[u]=(do pure (.value (<-s u))))
 (h: ∀(m:Mp) (D:Pos->Prop) u v w,In D u->f u=some v->(s (γ m u)).run P w= .ok (γ m v) w/\In D v):iA P E (.call c) (xX E f x):=
 Lh s (fun ρ o i=>by rw [Lj i hc,Ll e,V1 j];exact g _ _ _) h
def apm (ok:eN P E) {c:Call} {x:Operand} {t:TypeId} {b:List TypeId} (hc:c.callee= .builtin .len) (d:c.args.toList= [x]) (e:c.argTypes.toList=t::b) (f:E.cU t=some .string):
 iA P E (.call c) (xX E (fun v=>match v with| .str s=>th s.length fun k=>some (.int .i64 (.ofNat k))|_=>none) x):=
 agd hc d e (fun u=>Builtin.len_ ⟨t::b⟩ 0 #[u]) (fun _ _ _=>rfl) fun m D u v w g a=>by
  cases u<;>try (cases a;done)
  simp only [yS,aX] at a;subst a;exact ⟨by simp [Builtin.len_,ok.nO f,γ,goInt];rfl,trivial⟩
def apn (ok:eN P E) {c:Call} {x:Operand} {t e:TypeId} {d:List TypeId} (hc:c.callee= .builtin .len) (g:c.args.toList= [x]) (h:c.argTypes.toList=t::d) (b:E.cU t=some (.slice e)):
 iA P E (.call c) (xX E (fun v=>match v with| .j7=>some (.int .i64 (.ofNat 0))| .jm _ _ n _=>some (.int .i64 (.ofNat n))|_=>none) x):=
 agd hc g h (fun u=>Builtin.len_ ⟨t::d⟩ 0 #[u]) (fun _ _ _=>rfl) fun m D u v w j a=>by
  cases u<;>try (cases a;done)
  ·rename_i n i l f
   simp only [aX] at a;subst a;cases f<;>exact ⟨by simp [Builtin.len_,ok.nO b,γ,goInt],trivial⟩
  ·simp only [aX] at a
   subst a;exact ⟨by simp [Builtin.len_,ok.nO b,γ,goInt],trivial⟩
def V2 {m:Mp} {D:Pos->Prop} (d:Bool): ∀(l:List ai) (x v:ai) (w:World),In D x->EC d l x=some v->
 ((aW m l).foldlM (if d then Builtin.max2 else Builtin.min2) (γ m x)).run P w= .ok (γ m v) w/\In D v
 | [],x,v,w,f,h=>by cases h;exact ⟨rfl,f⟩
 |y::l,x,v,w,f,h=>by
  unfold EC at h;cases x<;>try (cases h;done)
  cases y<;>try (cases h;done)
  rename_i k a j b;simp only at h;obtain ⟨e,g⟩:=V2 (m:=m) (D:=D) d l (ai.int k (cond d (cond (CW a b) b a) (cond (CW b a) b a))) v w trivial h;refine ⟨?_,g⟩;simp only [aW,List.foldlM_cons,γ,aI];cases d
  ·simp only [cI,if_false,Builtin.min2,bh,az]
   simp only [γ,BJ,cond_false,cI,if_false] at e
   all_goals grind
  ·simp only [if_true,Builtin.max2,bh,az]
   simp only [γ,BJ,cond_true,if_true] at e
   all_goals grind
def apo {c:Call} {x:Operand} {l:List Operand} (hc:c.callee= .builtin .max) (i:c.args.toList=x::l):
 iA P E (.call c) (.pu fun a=>EC true (sK (tg E l) a) ((bR E x).g a)):=fun m D a ρ v w o j b k=>by
 obtain ⟨f,h⟩:=jf (E:=E) b x;obtain ⟨e,q⟩:=IK (E:=E) b l;obtain ⟨d,p⟩:=V2 (P:=P) (m:=m) (D:=D) true _ _ v w h k;refine ⟨?_,p⟩;rw [Lj j hc,Ll i];simp only [if_true] at d;simp only [builtin,Builtin.max_,cJ,f,e,aI,d,az,bh]
def apq {c:Call} {x:Operand} {l:List Operand} (hc:c.callee= .builtin .min) (i:c.args.toList=x::l):
 iA P E (.call c) (.pu fun a=>EC false (sK (tg E l) a) ((bR E x).g a)):=fun m D a ρ v w o j b k=>by
 obtain ⟨f,h⟩:=jf (E:=E) b x;obtain ⟨e,q⟩:=IK (E:=E) b l;obtain ⟨d,p⟩:=V2 (P:=P) (m:=m) (D:=D) false _ _ v w h k;refine ⟨?_,p⟩;rw [Lj j hc,Ll i];simp only [cI,if_false] at d;simp only [builtin,Builtin.min_,cJ,f,e,aI,d,az,bh]
omit [aJ] in
def age: ∀(n:Nat) (l:List Value),afI n l=l[n]?
 |0,[]=>rfl
 |0,_::_=>rfl
 |n+1,[]=>rfl
 |n+1,_::l=>(age n l).trans (by simp)
def agf (ok:eN P E) (t:TypeId) (x:Operand):iA P E (.load t x) (lO E (.load t x)):=fun S m h C ρ v w o J p M a=>by
 obtain ⟨H,Q⟩:=jf (E:=E) M x;change (Q5 E t).f h ((bR E x).g C)=some v at a;have j:(Instr.loadAt t (ρ x)).run P w= .ok (γ m v) w/\In (aH h) v:=by
  unfold Q5 at a;cases y:E.F8 t with
  |none=>rw [y] at a;cases a
  |some b=>
   rw [y] at a;have q:=ok.aaN y w;rw [H];cases b with
   |true=>
    cases A:E.size t with
    |none=>rw [A] at a;cases a
    |some k=>
     rw [A] at a;simp only at a;have F:=ok.yX A w;obtain ⟨n,d,I⟩: ∃n d,(bR E x).g C= .ptr n d:=by
      grind
     rw [I] at a⊢;simp only at a;cases i:h.vw n d k with
     |none=>rw [i] at a;cases a
     |some l=>
      rw [i] at a;cases a;exact ⟨by simp [Instr.loadAt,Instr.sureAddr,γ,loadVar,q,F,p.Rg i],(p.vw i).2.1⟩
   |false=>
    simp only at a;generalize (bR E x).g C=u at a⊢;split at a<;>try (cases a;done)
    ·obtain ⟨B,N⟩:=p.Vu a
     exact ⟨by simp [Instr.loadAt,Instr.sureAddr,γ,loadVar,q,B],N⟩
    ·rename_i g d
     cases z:E.gl.g g with
     |none=>rw [z] at a;cases a
     |some l=>
      rw [z] at a;simp only [age] at a;cases i:l[d]? with
      |none=>rw [i] at a;cases a
      |some u=>
       rw [i] at a;cases a;obtain ⟨⟨D,e,O,b1⟩,_⟩:=p.qN g l z;obtain ⟨G,rfl⟩:=eX.1 i;have B:w.cell? ⟨g,d,none⟩=some l[d]:=by
        simp only [World.cell?,b1];simp [nA,G]
       exact ⟨by simp [Instr.loadAt,Instr.sureAddr,γ,loadVar,q,B,Gk],Ay _ _⟩
 exact ⟨Gr (s:=Instr.loadAt t (ρ x)) (by simp only [execOp,J]) j.1,j.2⟩
def bV.N7 {G:gI} {m:Mp} {h:aP} {w:World} (r:bV G S m h w) {n:Pos} {a:List ml} {cl:Nat} (d:(h.at n).obj= .map a cl):
 aH h n/\w.heap[m.b n]? =some (.map ⟨a.map (jJ m)⟩ cl)/\ ∀e∈a,In (aH h) e.key/\In (aH h) e.val:=by
 have j:aH h n:=by unfold aH;rw [d];simp
 obtain ⟨o,i,f⟩:=r.blk n (NZ d rfl);have g:=r.ins n;rw [d] at f g;exact ⟨j,by rw [i,show o=_ from f],g⟩
omit [aJ] in
def run_getObj_map {w:World} {r:Nat} {a:Array MapEntry} {cl:Nat} (h:w.heap[r]? =some (.map a cl)):(getObj r).run P w= .ok (.map a cl) w:=by
 simp [getObj,Sem.run,h]
end
end
section
variable [aJ] {S:Nat->Prop}
section
variable {P:Program} {E:Env}
def agh (ok:eN P E) {m:Mp} {t:TypeId} {a:ai} (b:qv E t a=true) (e:Bool) (d:Nat) (w:World):(Instr.checkKey e (d+1) t (γ m a)).run P w= .ok () w:=by
 unfold qv at b;cases f:E.cU t with
 |none=>rw [f] at b;cases b
 |some g=>
  rw [f] at b;have h:=ok.nO f w;cases g<;>cases a<;>first|(cases b;done)|(simp only [Instr.checkKey,aI,h,az,γ];rfl)
def agi (ok:eN P E) {m:Mp} {t:TypeId} {k:ai} {b:Bool} (h:(yN E t).f k k=some b) (e:Bool) (w:World):(Instr.checkKey e 10000 t (γ m k)).run P w= .ok () w:=by
 unfold yN at h;cases s:E.cU t with
 |none=>rw [s] at h;cases h
 |some d=>
  rw [s] at h;have G:=ok.nO s w;have p:qv E t k=true->(Instr.checkKey e 10000 t (γ m k)).run P w= .ok () w:=fun g=>agh ok g e 9999 w
  cases d<;>try (cases h;done)
  ·exact p (by
    unfold qv
    all_goals grind)
  ·exact p (by
    unfold qv
    all_goals grind)
  ·exact p (by
    unfold qv
    all_goals grind)
  ·rename_i y
   cases z:E.gt t with
   |false=>rw [z] at h;cases h
   |true=>
    rw [z] at h;simp only [cond_true] at h;cases k<;>try (cases h;done)
    rename_i l;simp only at h;cases g:tZ E 0 y.toList l with
    |false=>rw [g] at h;cases h
    |true=>
     have q: ∀N,(Instr.checkKey e (N+2) t (.agg ⟨aW m l⟩)).run P w= .ok () w:=by
      intro N;clear h p;unfold Instr.checkKey;simp only [aI,G,az];rw [<-Array.forIn_toList];have o: ∀j,(⟨aW m l⟩:Array Value)[0+j]? =(l[j]?).map (γ m):=fun j=>by simp [pD]
      generalize (⟨aW m l⟩:Array Value)=J at o;generalize y.toList=x at g;generalize (0:Nat)=i at g o
      induction x generalizing l i with
      |nil=>simp
      |cons f x H=>
       cases l with
       |nil=>simp [tZ] at g
       |cons a as=>
        obtain ⟨u,B,C,D⟩:=aaR g;have A:=o 0;simp only [dt,bB,dD] at A;have I:=ok.aaT (aaS u) (off:=f.offset) (by rw [B];exact A) w;have F:=agh (m:=m) ok u e N w;simp only [List.forIn_cons,aI,ne_eq,C,not_false_eq_true,if_true,I,az,F,bh];exact H as (i+1) D (fun j=>by have:=o (j+1);rw [show i+(j+1)=i+1+j by omega] at this;simpa using this)
     exact q 9998
def agj (ok:eN P E) {m:Mp} {t:TypeId} {k q:ai} {b r:Bool} (h:(yN E t).f k k=some b) (g:Ga k q=some r) (w:World):
 (Op.equal t (γ m k) (γ m q)).run P w= .ok r w/\(match P.underlying t with|some d=>Instr.sameNow d (γ m k) (γ m q)=some r\/(∃j,d= .struct j/\Instr.sameNow d (γ m k) (γ m q)=none)|none=>False):=by
 unfold yN at h;cases l:E.cU t with
 |none=>rw [l] at h;cases h
 |some d=>
  rw [l] at h;have o:=ok.cU l;rw [o];have u: ∀ {a c:ai},qv E t a=true->uH a c=some r->(Op.equal t (γ m a) (γ m c)).run P w= .ok r w:=fun x e=>af4 (m:=m) ok x (af5 x e) e 9999 w
  cases d<;>try (cases h;done)
  ·cases k<;>try (cases h;done)
   cases q<;>try (cases g;done)
   rename_i a c;have e:uH (.bool a) (.bool c)=some r:=g;refine ⟨u (by unfold qv;rw [l]) e,.inl ?_⟩;simp only [uH,sameKey,aX,K7] at e;subst e;rfl
  ·cases k<;>try (cases h;done)
   cases q<;>try (cases g;done)
   rename_i A a B c;have e:uH (.int A a) (.int B c)=some r:=g;refine ⟨u (by unfold qv;rw [l]) e,.inl ?_⟩;simp only [uH,sameKey] at e;cases s:nM A B with
   |false=>rw [s] at e;cases e
   |true=>
    rw [s] at e;cases e;have:=(BC _ _).1 s;subst this;simp only [γ,Instr.sameNow,if_true,BF,aX]
    all_goals grind
  ·cases k<;>try (cases h;done)
   cases q<;>try (cases g;done)
   rename_i a c;have e:uH (.str a) (.str c)=some r:=g;refine ⟨u (by unfold qv;rw [l]) e,.inl ?_⟩;simp only [uH,aX,IE] at e;subst e;simp only [γ,Instr.sameNow,aX];rw [beq_toListBytes,toList_mk,toList_mk]
   all_goals grind
  ·rename_i j
   cases p:E.gt t with
   |false=>rw [p] at h;cases h
   |true=>
    rw [p] at h;simp only [cond_true] at h;cases k<;>try (cases h;done)
    cases q<;>try (cases g;done)
    rename_i a c;simp only at h;cases z:tZ E 0 j.toList a with
    |false=>rw [z] at h;cases h
    |true=>
      have y:P.fieldsOf t=j:=by unfold Program.fieldsOf;rw [o]
      refine ⟨?_,.inr ⟨j,rfl,rfl⟩⟩;show (Op.equalIn 10000 t (.agg ⟨aW m a⟩) (.agg ⟨aW m c⟩)).run P w= .ok r w;rw [run_equalIn_agg w 9999 t _ _ (by rw [y];exact o) (ok.gt t p).1,y];exact aaU (m:=m) ok 9998 w j.toList a c 0 r _ _ z g (fun i=>by simp [pD]) (fun i=>by simp [pD])
end
end
section
variable [aJ] {S:Nat->Prop}
section
variable {P:Program} {E:Env}
def found (m:Mp):Option (Nat×ai)->Option (Nat×Value)
 |some (i,v)=>some (i,γ m v)
 |none=>none
def agk (ok:eN P E) {m:Mp} {t:TypeId} {k:ai} {b:Bool} (p:(yN E t).f k k=some b) {d:TypeDesc} (o:P.underlying t=some d) (s: ∀l,d≠ .struct l):
 ∀(g:List ml) (i:Nat) (r:Option (Nat×ai)),yO k g i=some r->Instr.findNow d (γ m k) (g.map (jJ m)) i=some (found m r)
 | [],i,r,h=>by cases h;rfl
 |e::g,i,r,h=>by
  simp only [yO] at h;cases j:Ga k e.key with
  |none=>rw [j] at h;cases h
  |some q=>
   rw [j] at h;have a:=(agj (P:=P) (m:=m) ok p j (default:World)).2;rw [o] at a;rcases a with a|⟨l,x,_⟩
   ·cases q with
    |true=>simp only [aX] at h;subst h;simp [Instr.findNow,jJ,a,found]
    |false=>
     have u:=agk ok (m:=m) p o s g (i+1) r h;simp [Instr.findNow,jJ,a];exact u
   all_goals grind
def agl (ok:eN P E) {m:Mp} {t:TypeId} {k:ai} {b:Bool} (g:(yN E t).f k k=some b) (w:World):
 ∀(a:List ml) (i:Nat) (r:Option (Nat×ai)),yO k a i=some r->(Instr.findAsking t (γ m k) (a.map (jJ m)) i).run P w= .ok (found m r) w
 | [],i,r,h=>by cases h;rfl
 |e::a,i,r,h=>by
  simp only [yO] at h;cases d:Ga k e.key with
  |none=>rw [d] at h;cases h
  |some q=>
   rw [d] at h;have j:=(agj (P:=P) (m:=m) ok g d w).1;cases q with
   |true=>simp only [aX] at h;subst h;simp [Instr.findAsking,jJ,j,found]
   |false=>
    have l:=agl ok (m:=m) g w a (i+1) r h;simp [Instr.findAsking,jJ,j];exact l
def agm (ok:eN P E) {m:Mp} {t:TypeId} {k:ai} {b:Bool} (j:(yN E t).f k k=some b) (w:World) {a:List ml} {r:Option (Nat×ai)} (h:yO k a 0=some r):
 (Instr.findKey t (γ m k) (a.map (jJ m))).run P w= .ok (found m r) w:=by
 have g: ∃d,E.cU t=some d:=by
  unfold yN at j;cases g:E.cU t with
  |none=>rw [g] at j;cases j
  |some d=>exact ⟨d,rfl⟩
 obtain ⟨d,g⟩:=g;have o:=ok.cU g;have q:=ok.nO g w;unfold Instr.findKey;simp only [aI,q,az];by_cases l: ∃i,d= .struct i
 ·obtain ⟨i,rfl⟩:=l
  cases a with
  |nil=>cases h;rfl
  |cons e a=>
   have p:Instr.findNow (.struct i) (γ m k) ((e::a).map (jJ m)) 0=none:=rfl;rw [p];exact agl ok j w _ 0 r h
 ·rw [agk ok j o (fun i e=>l ⟨i,e⟩) a 0 r h];rfl
omit [aJ] in
def agn {D:Pos->Prop} {k:ai} : ∀(a:List ml) (i:Nat) (j:Nat) (v:ai),yO k a i=some (some (j,v))->(∀e∈a,In D e.key/\In D e.val)->In D v/\ ∃e,a[j-i]? =some e/\i<=j/\Ga k e.key=some true
 | [],i,j,v,h,_=>by cases h
 |e::a,i,j,v,h,f=>by
  simp only [yO] at h;cases b:Ga k e.key with
  |none=>rw [b] at h;cases h
  |some q=>
   rw [b] at h;cases q with
   |true=>simp_all
   |false=>
    obtain ⟨l,g,m,o,p⟩:=agn a (i+1) j v h (fun e d=>f e (aw _ d))
    all_goals grind
def apr (ok:eN P E) (t:TypeId) (x y:Operand) (c:Bool):iA P E (.lookup t x y c) (lO E (.lookup t x y c)):=fun S m h M ρ v w o ho hr Z i=>by
 obtain ⟨X,h2⟩:=jf (E:=E) Z x;obtain ⟨W,g2⟩:=jf (E:=E) Z y;change (aao E t c).f h ((bR E x).g M) ((bR E y).g M)=some v at i;generalize (bR E x).g M=a at X h2 i;generalize (bR E y).g M=k at W g2 i;have G:(Instr.lookup t (ρ x) (ρ y) c).run P w= .ok (γ m v) w/\In (aH h) v:=by
  unfold aao at i;cases B:E.cU t with
  |none=>rw [B] at i;cases i
  |some d=>
   rw [B] at i;have uK:=ok.nO B w;cases d<;>try (cases i;done)
   rename_i J Q;simp only at i;cases R:E.zero Q with
   |none=>rw [R] at i;cases i
   |some z=>
    rw [R] at i;simp only at i;obtain ⟨it,zv,z1,z2,rfl⟩:=ok.zero R;have N:=VV z1 z2 w;cases I:(yN E J).f k k with
    |none=>rw [I] at i;cases i
    |some b=>
     rw [I] at i;simp only at i;cases l:entries h a with
     |none=>rw [l] at i;cases i
     |some A=>
      rw [l] at i;simp only at i;cases H:yO k A 0 with
      |none=>rw [H] at i;cases i
      |some r=>
       rw [H] at i;simp only at i;have l9:=agm (m:=m) ok I w H;have V3: ∀e,(Instr.checkKey e 10000 J (γ m k)).run P w= .ok () w:=fun e=>agi ok I e w
       rw [X,W];have O:(∀e∈A,In (aH h) e.key/\In (aH h) e.val)/\ ∀(K:Array MapEntry->Sem Value),(K ⟨A.map (jJ m)⟩).run P w= .ok (γ m v) w->(match γ m a with
        | .map none=>K #[]
        | .map (some r)=>do
         let .map A _<-getObj r|stuck "Lookup: map expected"
         K A
        |_=>stuck "Lookup: map expected" :Sem Value).run P w= .ok (γ m v) w:=by
        unfold entries at l;cases a<;>try (cases l;done)
        ·cases l;exact ⟨fun e l=>(nomatch l),fun K C=>C⟩
        ·rename_i n
         simp only at l;cases U:(h.at n).obj<;>rw [U] at l<;>try (cases l;done)
         cases l;obtain ⟨_,m1,m2⟩:=hr.N7 U;exact ⟨m2,fun K C=>by simp only [γ,aI,run_getObj_map m1,az];exact C⟩
       obtain ⟨O,C⟩:=O;have T:In (aH h) v/\(∀q,(match found m r with|some (_,v)=>(pure (v,true):Sem (Value×Bool))|none=>do pure (<-zeroValue Q,false)).run P w= .ok q w->(if c then Value.tuple #[q.1,.bool q.2] else q.1)=γ m v):=by
        cases r with
        |none=>
         simp only [aX] at i;subst i;refine ⟨by cases c<;>first|exact Ay _ zv|exact ⟨Ay _ zv,trivial,trivial⟩,fun u B=> ?_⟩;simp only [found,aI,N,az,bh,Result.ok.injEq,and_true] at B;subst B;cases c<;>simp [γ,aW,Gk]
        |some p=>
         obtain ⟨j,u⟩:=p;simp only [aX] at i;subst i;have F:=(agn (D:=aH h) A 0 j u H O).1;refine ⟨by cases c<;>first|exact F|exact ⟨F,trivial,trivial⟩,fun q Y=> ?_⟩;simp only [found,bh,Result.ok.injEq,and_true] at Y;subst Y;cases c<;>simp [γ,aW]
       refine ⟨?_,T.1⟩;unfold Instr.lookup;simp only [aI,uK,az];refine C (fun A=>do
        Instr.checkKey A.isEmpty 10000 J (γ m k)
        let (v,ok)<-match<-Instr.findKey J (γ m k) A.toList with
         |some (_,v)=>pure (v,true)
         |none=>pure (<-zeroValue Q,false)
        pure (if c then .tuple #[v,.bool ok] else v)) ?_
       simp only [aI,V3,az,l9];cases r with
       |none=>have:=T.2 (zv,false) (by simp [found,N]);simp [found,N];simpa using this
       |some p=>have:=T.2 (γ m p.2,true) (by simp [found]);simp [found];simpa using this
 exact ⟨Gr (s:=Instr.lookup t (ρ x) (ρ y) c) (by simp only [execOp,ho]) G.1,G.2⟩
def aps (ok:eN P E) {c:Call} {x:Operand} {t D q:TypeId} {G:List TypeId} (hc:c.callee= .builtin .len) (u:c.args.toList= [x]) (B:c.argTypes.toList=t::G) (C:E.cU t=some (.map D q)):
 iA P E (.call c) (.rd fun f h=>Option.casesOn (entries h ((bR E x).g f)) none fun j=>th j.length fun k=>some (.int .i64 (.ofNat k))):=fun S m h f ρ v w o y z A d=>by
 obtain ⟨e,s⟩:=jf (E:=E) A x;have l:=ok.nO C w;simp only at d;generalize (bR E x).g f=a at e s d;cases b:entries h a with
 |none=>rw [b] at d;cases d
 |some j=>
  rw [b] at d;simp only [yS,aX] at d;subst d;refine ⟨?_,trivial⟩;rw [Lj y hc,Ll u,V1 B];unfold entries at b;cases a<;>try (cases b;done)
  ·cases b
   simp [builtin,Builtin.len_,l,e,γ,goInt]
  ·rename_i n
   simp only at b;cases i:(h.at n).obj<;>rw [i] at b<;>try (cases b;done)
   rename_i p H;cases b;obtain ⟨_,F,_⟩:=z.N7 i;simp [builtin,Builtin.len_,l,e,γ,goInt,run_getObj_map F]
end
end
section
variable [aJ] {S:Nat->Prop}
section
variable {P:Program} {E:Env}
def V4 (d:Nat) (o:Option ai) (n:Nat):Prop:=(o=none/\n=d)\/ ∃kd,o=some (.int kd (.ofNat n))
omit [aJ] in
def IM {d:Nat} {o:Option ai} {k:Nat->Option ai} {r:ai} (h:Gc d o none k=some r): ∃n,V4 d o n/\k n=some r:=by
 cases o with
 |none=>exact ⟨d,.inl ⟨rfl,rfl⟩,h⟩
 |some v=>obtain ⟨kd,n,rfl,a⟩:=N6 h;exact ⟨n,.inr ⟨kd,rfl⟩,a⟩
omit [aJ] in
def Gv (kd:IntKind) {n y:Nat} (h:n<=y) (a:BoundsCode) (w:World):(Instr.sliceBound (.int kd (Int.ofNat n)) y a).run P w= .ok n w:=by
 have b:(0:Int)<=(n:Int)/\(n:Int)<=(y:Int):=⟨by omega,by omega⟩;simp [Instr.sliceBound,asIntOf,h]
def Rp {m:Mp} {lo hi:Option ai} {len cap l r:Nat} (b:Bool) (g:V4 0 lo l) (h:V4 len hi r) (a:l<=r) (d:r<=cap) (w:World):
 (Instr.sliceBounds b len cap (lo.map (γ m)) (hi.map (γ m)) none).run P w= .ok (l,r,cap) w:=by
 rcases g with ⟨rfl,rfl⟩|⟨e,rfl⟩<;>rcases h with ⟨rfl,rfl⟩|⟨f,rfl⟩
 ·simp [Instr.sliceBounds]
 ·simp only [Instr.sliceBounds,dD,fg,γ,aI,bh,az,Gv f d]
 ·simp only [Instr.sliceBounds,dD,fg,γ,aI,bh,az,Gv e a]
 ·simp only [Instr.sliceBounds,dD,γ,aI,bh,az,Gv e a,Gv f d]
def ago {m:Mp} {lo:Option ai} {len cap l r a:Nat} {k2 k3:IntKind} (b:Bool) (g:V4 0 lo l) (f:l<=r) (e:r<=a) (d:a<=cap) (w:World):
 (Instr.sliceBounds b len cap (lo.map (γ m)) (some (.int k2 (.ofNat r))) (some (.int k3 (.ofNat a)))).run P w= .ok (l,r,a) w:=by
 rcases g with ⟨rfl,rfl⟩|⟨h,rfl⟩
 ·simp only [Instr.sliceBounds,fg,aI,bh,az,Gv k2 e,Gv k3 d]
 ·simp only [Instr.sliceBounds,dD,γ,aI,bh,az,Gv h f,Gv k2 e,Gv k3 d]
omit [aJ] in
def agp {v:Option ai} {k:Option ai} {f:Nat->Option ai} {r:ai} (h:aap v none k f=some r):(v=none/\k=some r)\/ ∃kd n,v=some (.int kd (.ofNat n))/\f n=some r:=by
 cases v with
 |none=>exact .inl ⟨rfl,h⟩
 |some v=>obtain ⟨kd,n,rfl,a⟩:=N6 h;exact .inr ⟨kd,n,rfl,a⟩
omit [aJ] in
def aaW {v:Option ai} {k:Option ai} {r:ai} (h:VB v none k=some r):v=none/\k=some r:=by
 cases v with
 |none=>exact ⟨rfl,h⟩
 |some v=>cases h
omit [aJ] in
def Lm {b:Bool} {v r:ai} (h:cond b (some v) none=some r):b=true/\v=r:=by
 grind
omit [aJ] in
def IP {α:Type} {b:Bool} {o:Option α} {r:α} (h:cond b o none=some r):b=true/\o=some r:=by
 grind
def aaX {m:Mp} {D:Pos->Prop} {tm:Tm} {ρ:Operand->Value} (s:Src E.gl m D tm ρ) (o:Option Operand):o.map ρ=(vz E o tm).map (γ m):=by
 cases o with
 |none=>rfl
 |some x=>simp [vz,(jf (E:=E) s x).1]
omit [aJ] in
def agq (s:List UInt8) (l r:Nat):(⟨⟨s⟩⟩:ByteArray).extract l r=⟨⟨(s.drop l).take (r-l)⟩⟩:=by
 apply nQ;simp [ByteArray.data_extract,List.extract_eq_take_drop]
def apt (ok:eN P E) (t:TypeId) (x:Operand) (lo hi y:Option Operand):iA P E (.slice t x lo hi y) (lO E (.slice t x lo hi y)):=by
 show iA P E _ (cond (y.isNone||hi.isSome) (.rd fun z h=>(aaq E t).f h ((bR E x).g z) (vz E lo z) (vz E hi z) (vz E y z)) .bad);cases hm:(y.isNone||hi.isSome) with
 |false=>exact ny _
 |true=>
 intro S m h z ρ v w o ho hr W i;obtain ⟨h1,J⟩:=jf (E:=E) W x;simp only at i;have e1:=aaX (E:=E) W lo;have e2:=aaX (E:=E) W hi;have e3:=aaX (E:=E) W y;have V5:(vz E y z)=none\/(vz E hi z)≠none:=by cases y<;>cases hi<;>simp [vz] at hm⊢
 generalize (bR E x).g z=a at h1 J i;generalize vz E lo z=R at e1 i;generalize vz E hi z=nK at e2 i V5;generalize vz E y z=mx' at e3 i V5;have Q:(Instr.sliceAt t (ρ x) (lo.map ρ) (hi.map ρ) (y.map ρ)).run P w= .ok (γ m v) w/\In (aH h) v:=by
  rw [h1,e1,e2,e3];unfold aaq at i;cases hu:E.cU t with
  |none=>rw [hu] at i;cases i
  |some d=>
   rw [hu] at i;have Z:=ok.nO hu w;cases d<;>try (cases i;done)
   case string=>
    simp only at i;cases a<;>try (cases i;done)
    rename_i s;simp only at i;replace i:=aaW i;obtain ⟨rfl,i⟩:=i;replace i:=IM i;obtain ⟨l,B,i⟩:=i;replace i:=IM i;obtain ⟨r,C,i⟩:=i;obtain ⟨hc,rfl⟩:=Lm i;rw [aq] at hc;have T:=qt.1 hc.1;have wN:=qt.1 hc.2;refine ⟨?_,trivial⟩;have Y:(⟨⟨s⟩⟩:ByteArray).size=s.length:=rfl;have j:=Rp (P:=P) (m:=m) false B C T wN w;simp only [Instr.sliceAt,Instr.slice,aI,Z,az,γ,Y,fg,Option.isSome_none,cI,if_false,j,agq,bh];rfl
   case slice e=>
    simp only at i;cases p:E.size e with
    |none=>simp_all
    |some Y=>
     rw [p] at i;simp only at i;have X:=ok.yX p w;cases a<;>try (cases i;done)
     case j7=>
      simp only at i;replace i:=aaW i;obtain ⟨rfl,i⟩:=i;replace i:=IM i;obtain ⟨l,B,i⟩:=i;replace i:=IM i;obtain ⟨r,C,i⟩:=i;obtain ⟨hc,rfl⟩:=Lm i;rw [aq] at hc;have qp:=beq_iff.1 hc.1;have G:=beq_iff.1 hc.2;subst qp;subst G;have j:=Rp (P:=P) (m:=m) (len:=0) (cap:=0) true B C (ak _) (ak _) w;exact ⟨by simp only [Instr.sliceAt,Instr.slice,aI,Z,az,γ,fg,j,X,if_true,bh],trivial⟩
     case jm n q len cap=>
      simp only [afJ] at i;replace i:=IM i;obtain ⟨l,B,i⟩:=i;replace i:=IM i;obtain ⟨r,C,i⟩:=i;have U: ∀(F:Nat) (b':Option Value) (H rr u:Nat),(Instr.sliceBounds true len F (R.map (γ m)) (nK.map (γ m)) b').run P w= .ok (H,rr,u) w->
       (Instr.sliceAt t (.slice (some ⟨m.b n,q,none⟩) len F) (R.map (γ m)) (nK.map (γ m)) b').run P w= .ok (.slice (some (if u=H then ⟨m.b n,q,none⟩ else ⟨m.b n,q+H*Y,none⟩)) (rr-H) (u-H)) w:=fun F b' H rr u hb=>by
       simp only [Instr.sliceAt,Instr.slice,aI,Z,az,hb,X,bh,dD,Gn];by_cases e:u=H<;>simp [e]
      have O: ∀kd nn,mx'=some (.int kd nn)-> ∃k2,nK.map (γ m)=some (.int k2 (.ofNat r)):=fun kd nn e=>by
       rcases V5 with h0|h0
       ·rw [h0] at e;cases e
       ·rcases C with ⟨N,_⟩|⟨k2,N⟩
        ·exact absurd N h0
        ·exact ⟨k2,by rw [N];rfl⟩
      cases cap with
      |exact c=>
       simp only [NS] at i;replace i:=agp i;rcases i with ⟨rfl,i⟩|⟨kd,u,rfl,i⟩
       ·obtain ⟨hc,rfl⟩:=Lm i
        rw [aq] at hc;have j:=Rp (P:=P) (m:=m) (len:=len) (cap:=c) true B C (qt.1 hc.1) (qt.1 hc.2) w;refine ⟨?_,J⟩;have:=U c none _ _ _ j;simp only [γ,fg];rw [this];by_cases e:c=l
        ·subst e;simp
        ·rw [NY e];simp [e]
       ·obtain ⟨hc,rfl⟩:=Lm i
        rw [aq,aq] at hc;obtain ⟨k2,qK⟩:=O _ _ rfl;have j:=ago (P:=P) (m:=m) (len:=len) (cap:=c) (k2:=k2) (k3:=kd) true B (qt.1 hc.1) (qt.1 hc.2.1) (qt.1 hc.2.2) w;rw [<-qK] at j;refine ⟨?_,J⟩;have:=U c (some (.int kd (.ofNat u))) _ _ _ j;simp only [γ,dD];rw [this];by_cases e:u=l
        ·subst e;simp
        ·rw [NY e];simp [e]
      |rest d=>
       simp only [NS] at i;replace i:=VQ i;obtain ⟨xs,xe,A,eY,i⟩:=i;replace i:=IP i;obtain ⟨hc,i⟩:=i;rw [aq,aq] at hc;have he:=beq_iff.1 hc.1;subst he;have Rq:=sM.1 hc.2.1;have T:=qt.1 hc.2.2;obtain ⟨_,_,rest,fz,_,D,_⟩:=hr.cells eY;have yd: ∀k,Nat.mul (Nat.add k d) A<=xs.length->k<=m.c n-d:=fun k hk=>by
        have N:(k+d)*A<=m.c n*A:=by
         have:(k+d)*A<=xs.length:=hk;rw [<-D];simp [o8];omega
        have:=bU N Rq;omega
       replace i:=agp i;rcases i with ⟨rfl,i⟩|⟨kd,u,rfl,i⟩
       ·obtain ⟨I,rfl⟩:=Lm i
        rw [aq] at I;have jP:=yd r (qt.1 I.1);have j:=Rp (P:=P) (m:=m) (len:=len) (cap:=m.c n-d) true B C T jP w;refine ⟨?_,J⟩;have:=U (m.c n-d) none _ _ _ j;simp only [γ,fg];rw [this];have agr:q+l*A=Nat.add q (Nat.mul l A):=rfl;have F6:m.c n-d-l=m.c n-Nat.add d l:=by show _=m.c n-(d+l);omega
        rw [F6];by_cases e:m.c n-d=l
        ·have G:l=0:=by
          have M:=I.2;rw [cX] at M;rcases M with M|M
          ·exact beq_iff.1 M
          ·exfalso
           have xT:(l+d)*A<xs.length:=sM.1 M;have h6:xs.length<=m.c n*A:=by rw [<-D];simp [o8]
           have h7:(l+d)*A<m.c n*A:=by omega
           have h8:=fQ h7;omega
         subst G;rw [if_pos e];simp
        ·rw [if_neg e]
         rfl
       ·obtain ⟨I,rfl⟩:=Lm i
        rw [aq] at I;have vF:=yd u (qt.1 I.2);obtain ⟨k2,qK⟩:=O _ _ rfl;have j:=ago (P:=P) (m:=m) (len:=len) (cap:=m.c n-d) (k2:=k2) (k3:=kd) true B T (qt.1 I.1) vF w;rw [<-qK] at j;refine ⟨?_,J⟩;have:=U (m.c n-d) (some (.int kd (.ofNat u))) _ _ _ j;simp only [γ,dD];rw [this];by_cases e:u=l
        ·subst e;simp
        ·rw [NY e];simp [e]
   case array len e=>
    simp only at i;cases p:E.size e with
    |none=>rw [p] at i;cases i
    |some Y=>
     rw [p] at i;simp only at i;have X:=ok.yX p w;cases a<;>try (cases i;done)
     rename_i n q;simp only at i;replace i:=aaW i;obtain ⟨rfl,i⟩:=i;replace i:=IM i;obtain ⟨l,B,i⟩:=i;replace i:=IM i;obtain ⟨r,C,i⟩:=i;obtain ⟨hc,rfl⟩:=Lm i;rw [aq] at hc;have j:=Rp (P:=P) (m:=m) (len:=len) (cap:=len) false B C (qt.1 hc.1) (qt.1 hc.2) w;refine ⟨?_,J⟩;simp only [Instr.sliceAt,aI,Z,az,γ,Instr.sureAddr,fg,j,X,bh,Gn];by_cases e:len=l
     ·subst e;simp
     ·rw [NY e];simp [e]
 exact ⟨Gr (s:=Instr.sliceAt t (ρ x) (lo.map ρ) (hi.map ρ) (y.map ρ)) (by simp only [execOp,ho]) Q.1,Q.2⟩
end
end
end Go.Ev
