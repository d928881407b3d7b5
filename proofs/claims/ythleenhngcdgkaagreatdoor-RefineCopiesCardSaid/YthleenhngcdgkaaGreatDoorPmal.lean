/- refineCopies_proved. -/
import Derived.Test.YthleenhngcdgkaaGreatDoorPmak
set_option maxRecDepth 100000
set_option maxHeartbeats 16000000
set_option linter.all false
noncomputable section
namespace Go.Ev
section
variable [aJ] {S:Nat->Prop}
section
variable {P:Program} {E:Env}
def o7.same (k:o7) (tm a:Tm):Prop:=match k with
 | .pu f=>f tm=f a
 | .rd f=> ∀h,f tm h=f a h
 | .nw f=>f tm=f a
 | .wr f=> ∀h,f tm h=f a h
omit [aJ] in
def C6 {tm a:Tm} :o7.bad.same tm a:=rfl
omit [aJ] in
def Lu {tm a:Tm} : ∀l:List Operand,(∀x∈l,(bR E x).g tm=(bR E x).g a)->sK (tg E l) tm=sK (tg E l) a
 | [],_=>rfl
 |x::l,h=>by
  show (bR E x).g tm::sK (tg E l) tm=(bR E x).g a::sK (tg E l) a;rw [h x (by simp),Lu l fun y b=>h y (by simp [b])]
omit [aJ] in
def Wp {tm d:Tm} (b:Nat->Option (Nat×Nat)): ∀(a:List (Nat×Operand)) (l:List ai),(∀p∈a,(bR E p.2).g tm=(bR E p.2).g d)->
 Ar b (a.map fun p=>(p.1,bR E p.2)) tm l=Ar b (a.map fun p=>(p.1,bR E p.2)) d l
 | [],l,_=>rfl
 |p::a,l,h=>by
  simp only [cJ,Ar];rw [h p (by simp)];cases b p.1 with
  |none=>rfl
  |some q=>
   simp only;congr 1;cases Iv ((bR E p.2).g d).cells q.1 l with
   |none=>rfl
   |some l=>exact Wp b a l fun q e=>h q (by simp [e])
omit [aJ] in
def abm {tm a:Tm} (o:Option Operand) (h: ∀x,o=some x->(bR E x).g tm=(bR E x).g a):vz E o tm=vz E o a:=by
 cases o with
 |none=>rfl
 |some x=>simp only [vz];rw [h x rfl]
omit [aJ] in
def abn {tm a:Tm} {f:ai->Option ai} {x:Operand} (h:(bR E x).g tm=(bR E x).g a):(xX E f x).same tm a:=by
 show f _=f _;rw [h]
omit [aJ] in
def aqt {tm a:Tm} {f:ai->ai->Option ai} {x y:Operand} (h:(bR E x).g tm=(bR E x).g a) (h':(bR E y).g tm=(bR E y).g a):(Q7 E f x y).same tm a:=by
 show f _ _=f _ _;rw [h,h']
omit [aJ] in
def abo {tm a:Tm} {b:Bool} {k d:o7} (h:k.same tm a) (h':d.same tm a):(cond b k d).same tm a:=by
 grind
omit [aJ] in
def aqu {tm a:Tm} (b:Builtin) (args:List Operand) (f:List TypeId) (h: ∀x∈args,(bR E x).g tm=(bR E x).g a):(VF E b args f).same tm a:=by
 unfold VF;split<;>(try split)<;>(try split)<;>(try split)<;>first
  |exact C6
  |(
    refine abo ?_ C6;intro d
    all_goals grind)
  |exact abn (h _ (by simp))
  |(
    intro d
    all_goals grind)
  |omega
  |(show EC _ _ _=EC _ _ _;rw [h _ (aC ..),Lu _ fun y e=>h y (aw _ e)];done)
omit [aJ] in
def aqv {tm d:Tm} (c:Call) (h: ∀x∈c.operands,(bR E x).g tm=(bR E x).g d):(Q8 E c).same tm d:=by
 have b: ∀x∈c.args.toList,(bR E x).g tm=(bR E x).g d:=fun x a=>h x (by unfold Call.operands;simp;exact .inr (by simpa using a))
 unfold Q8;split
 ·intro e;simp only;rw [Lu _ b]
 ·rename_i x _ hc
  have a:=h x (by unfold Call.operands;rw [hc];simp);intro e;simp only;rw [Lu _ b,a]
 ·rename_i r name hc
  have a:=h r (by unfold Call.operands;rw [hc];simp);intro e;simp only;rw [Lu _ b,a]
 ·exact aqu _ _ _ b
omit [aJ] in
def aqw {f:Tm->Option (jR×Mk)} {tm a:Tm} (h:f tm=f a):(o7.nw f).same tm a:=h
omit [aJ] in
def aqx {tm a:Tm} (s d:TypeId) (x:Operand) (h:(bR E x).g tm=(bR E x).g a):(NT E s d x).same tm a:=by
 unfold NT;split
 ·split
  ·intro b;simp only;rw [h]
  ·exact C6
 ·split
  ·intro b;simp only;rw [h]
  ·exact C6
 ·exact abn h
 ·exact C6
omit [aJ] in
def aqy {tm b:Tm} (t:TypeId) (a:Array (Nat×Operand)) (h: ∀p∈a.toList,(bR E p.2).g tm=(bR E p.2).g b):(NR E t a).f tm=(NR E t a).f b:=by
 unfold NR Gb;split
 ·rename_i d _ _
  cases (d.toList.all fun f=>(E.size f.type).isSome)
  ·rfl
  ·simp only [cond_true];rw [Wp _ _ _ h]
 ·split
  ·simp only;rw [Wp _ _ _ h]
  ·rfl
 ·rfl
omit [aJ] in
def ag9 {tm i:Tm} (o:Op) (h: ∀x∈o.operands,(bR E x).g tm=(bR E x).g i):(lO E o).same tm i:=by
 unfold lO;split
 all_goals simp only [Op.operands] at h
 all_goals try (exact abn (h _ (by simp)))
 all_goals try (exact aqt (h _ (by simp)) (h _ (by simp)))
 all_goals try (exact C6)
 case h_4=>exact aqy _ _ fun p f=>h p.2 (by simp;exact ⟨p.1,by simpa using f⟩)
 case h_8=>exact aqx _ _ _ (h _ (by simp))
 case h_10 a b=>
  show some _=some _;rw [Lu _ fun x d=>h x (by simp at d⊢;exact .inl d),Lu _ fun x d=>h x (by simp at d⊢;exact .inr d)]
 case h_19=>
  refine abo ?_ C6
  ·intro f
   simp only;rw [h _ (by simp),abm _ fun x d=>h x (by simp [d]),abm _ fun x d=>h x (by simp [d]),abm _ fun x d=>h x (by simp [d])]
 case h_22=>
  rename_i e;have f: ∀p∈e.toList,(bR E p.2).g tm=(bR E p.2).g i:=fun p f=>h p.2 (by simp;exact ⟨p.1,by simpa using f⟩)
  split
  ·split
   ·refine abo ?_ C6
    apply aqw;simp only [Gb];rw [Wp _ _ _ f]
   ·exact C6
  ·exact C6
 all_goals try (exact aqv _ h)
 all_goals try simp only [List.mem_toArray,bq,forall_eq_or_imp,jd,false_implies,implies_true,and_true] at h
 all_goals try (simp [o7.same,h];done)
 all_goals try (split<;>(try split)<;>first|exact C6|(simp [o7.same,h];done))
 all_goals grind
omit [aJ] in
def aqz {tm j:Tm} (o:Op) (h: ∀x∈o.operands,(bR E x).g tm=(bR E x).g j):(pW E o).same tm j:=by
 unfold pW;split
 ·exact ag9 o h
 ·have a:=ag9 (E:=E) o h
  cases k:lO E o with
  |pu f=>
   rw [k] at a;unfold VI;have p:f tm=f j:=a;have s: ∀c x y,K4 E o=some (c,x,y)->x∈o.operands/\y∈o.operands:=fun c x y b=>by
    unfold K4 at b;split at b
    ·cases b;simp [Op.operands]
    ·cases b;simp [Op.operands]
    ·split at b<;>cases b;simp [Op.operands]
    ·rename_i i
     have z:i.args.toList= [x,y]->x∈(Op.call i).operands/\y∈(Op.call i).operands:=fun q=>by
      have d:i.args= #[x,y]:=by grind
      simp [Op.operands,Call.operands,d]
     all_goals grind
    ·cases b
   cases b:K4 E o with
   |some l=>
    obtain ⟨c,x,y⟩:=l;obtain ⟨C,D⟩:=s c x y b;show (fun tm=>_) tm=(fun tm=>_) j
    all_goals grind
   |none=>
    simp only;cases e:Q9 E o with
    |none=>exact a
    |some x=>
     have u:x∈o.operands:=by
      unfold Q9 at e;split at e
      ·rename_i i
       split at e
       ·rename_i A t I B q H
        have d:i.args= #[A]:=by grind
        split at e<;>cases e;simp [Op.operands,Call.operands,d]
       ·cases e
      ·cases e
     intro F
     all_goals grind
  |rd f=>rw [k] at a;exact a
  |nw f=>rw [k] at a;exact a
  |wr f=>rw [k] at a;exact a
end
end
section
variable [aJ] {S:Nat->Prop}
omit [aJ] in
def RJ (a b j:Nat):Nat.testBit (Nat.lor a b) j=(Nat.testBit a j||Nat.testBit b j):=Nat.testBit_or a b j
omit [aJ] in
def abp (a b j:Nat):Nat.testBit (Nat.land a b) j=(Nat.testBit a j&&Nat.testBit b j):=kY a b j
omit [aJ] in
def Wq (a j:Nat):Nat.testBit (Nat.pow 2 a) j=decide (a=j):=Nat.testBit_two_pow
omit [aJ] in
def aha (a:List Nat) (j:Nat): ∀(l:List Edge) (s:Nat),Nat.testBit (l.foldl (Iy a) s) j=true↔(Nat.testBit s j=true\/ ∃e∈l,ED e=true/\(e.on=j\/Nat.testBit (a.getD e.on 0) j=true))
 | [],s=>by simp
 |e::l,s=>by
  rw [List.foldl_cons,aha a j l];have d:Nat.testBit (Iy a s e) j=true↔(Nat.testBit s j=true\/(ED e=true/\(e.on=j\/Nat.testBit (a.getD e.on 0) j=true))):=by
   unfold Iy;cases b:ED e with
   |true=>simp only [cond_true,RJ,Wq,cX,decide_eq_true_eq,true_and]
   |false=>simp
  all_goals grind
omit [aJ] in
def abq: ∀(l:List Oper) (a:List Nat),(Iz l a).length=a.length+l.length/\(∀i,i<a.length->(Iz l a).getD i 0=a.getD i 0)/\
 ∀k o,l[k]? =some o-> ∀j,Nat.testBit ((Iz l a).getD (a.length+k) 0) j=true↔ ∃e∈o.after.toList,ED e=true/\(e.on=j\/(e.on<a.length+k/\Nat.testBit ((Iz l a).getD e.on 0) j=true))
 | [],a=>⟨rfl,fun _ _=>rfl,fun k o h=>by cases h⟩
 |o::l,a=>by
  obtain ⟨d,f,g⟩:=abq l (a++ [o.after.toList.foldl (Iy a) 0]);simp only [Iz];generalize s:Iz l (a++ [o.after.toList.foldl (Iy a) 0])=M at d f g;have p: ∀i,i<a.length->M.getD i 0=a.getD i 0:=fun i t=>by
   grind
  refine ⟨by simp at d⊢;omega,p,fun k q b j=> ?_⟩;cases k with
  |zero=>
   simp at b;subst b;rw [dt,f a.length (by simp)];rw [show (a++ [o.after.toList.foldl (Iy a) 0]).getD a.length 0=o.after.toList.foldl (Iy a) 0 by simp_all];rw [aha]
   all_goals grind
  |succ k=>
   have:=g k q (by simpa using b) j
   all_goals grind
def fK (all:List Oper) (i:Nat):Nat:=(tk all).getD i 0
omit [aJ] in
def abr (all:List Oper):(tk all).length=all.length:=by
 have:=(abq all []).1;unfold tk
 simpa using this
omit [aJ] in
def RK {all:List Oper} {i:Nat} {o:Oper} (h:all[i]? =some o) (j:Nat):Nat.testBit (fK all i) j=true↔ ∃e∈o.after.toList,ED e=true/\(e.on=j\/(e.on<i/\Nat.testBit (fK all e.on) j=true)):=by
 have:=(abq all []).2.2 i o h j
 simpa [fK,tk] using this
omit [aJ] in
def ahb {all:List Oper} {i:Nat} (h:all[i]? =none) (j:Nat):Nat.testBit (fK all i) j=false:=by
 unfold fK;rw [aD,bS (by rw [abr];simpa using h)];simp
omit [aJ] in
def aqA {all:List Oper} : ∀(i:Nat) (j k:Nat),(∀i,∀j,Nat.testBit (fK all i) j=true->j<i)->Nat.testBit (fK all i) j=true->Nat.testBit (fK all j) k=true->Nat.testBit (fK all i) k=true:=by
 intro i
 induction i using Nat.strongRecOn with
 |_ i q=>
  intro j k d a f;cases b:all[i]? with
  |none=>rw [ahb b] at a;cases a
  |some o=>
   obtain ⟨e,l,g,h|⟨p,h⟩⟩:=(RK b j).1 a
   ·subst h
    exact (RK b k).2 ⟨e,l,g,.inr ⟨d i e.on a,f⟩⟩
   ·exact (RK b k).2 ⟨e,l,g,.inr ⟨p,q e.on p j k d h f⟩⟩
omit [aJ] in
def aqB (x:Operand) (t:Nat):Nat.testBit (aav x) t=true↔x= .tmp t:=by
 cases x with
 |tmp d=>show Nat.testBit (Nat.pow 2 d) t=true↔_;rw [Wq];simp
 |_=>simp [aav]
omit [aJ] in
def RL (d:Option Tmp) (t:Nat):Nat.testBit (Av d) t=true↔d=some t:=by
 cases d with
 |some d=>show Nat.testBit (Nat.pow 2 d) t=true↔_;rw [Wq];simp
 |none=>simp [Av]
omit [aJ] in
def ahc (t:Nat): ∀(l:List Operand) (s:Nat),Nat.testBit (Aw l s) t=true↔(Nat.testBit s t=true\/ .tmp t∈l)
 | [],s=>by simp [Aw]
 |x::l,s=>by
  simp only [Aw];rw [ahc t l,RJ,cX,aqB,bq]
  all_goals grind
def Looks (all:List Oper) (o:Oper) (t:Tmp):Prop:= .tmp t∈o.op.operands.toList\/ ∃j b a,o.guard=some (j,b)/\all[j]? =some a/\a.dst=some t
omit [aJ] in
def aqC (all:List Oper) (g:Option (Nat×Bool)) (t:Nat):Nat.testBit (CY all g) t=true↔ ∃j b a,g=some (j,b)/\all[j]? =some a/\a.dst=some t:=by
 unfold CY;split
 ·rename_i j b
  cases h:all[j]? with
  |none=>
   simp_all
  |some a=>
   simp only;rw [RL]
   all_goals grind
 all_goals grind
omit [aJ] in
def ahd (all:List Oper) (o:Oper) (t:Tmp):Nat.testBit (Aw o.op.operands.toList (CY all o.guard)) t=true↔Looks all o t:=by
 rw [ahc,aqC];exact Or.comm
def Ws (all:List Oper) (x y:Oper):Prop:= ∃t,(x.dst=some t/\(Looks all y t\/y.dst=some t))\/(y.dst=some t/\Looks all x t)
omit [aJ] in
def ahe {all:List Oper} {y:Oper} {pre:Nat} : ∀(l:List RW),NW (Aw y.op.operands.toList (CY all y.guard)) (Av y.dst) pre l=true->
 ∀r∈l,∀x,r.rd=Aw x.op.operands.toList (CY all x.guard)->r.wr=Av x.dst->Ws all x y->Nat.testBit pre r.ix=true
 | [],_,r,d=>by cases d
 |q::l,h,r,d=>by
  simp only [NW] at h;intro x e f ⟨t,hc⟩;rcases bq.1 d with rfl|d
  ·have i:Nat.beq (Nat.lor (Nat.land r.wr (Nat.lor (Aw y.op.operands.toList (CY all y.guard)) (Av y.dst))) (Nat.land (Av y.dst) r.rd)) 0=false:=by
    cases g:Nat.beq _ 0 with
    |false=>rfl
    |true=>
     have j:=bE g;have k:Nat.testBit (Nat.lor (Nat.land r.wr (Nat.lor (Aw y.op.operands.toList (CY all y.guard)) (Av y.dst))) (Nat.land (Av y.dst) r.rd)) t=true:=by
      rw [RJ,abp,RJ,abp,e,f];rcases hc with ⟨a,b|b⟩|⟨a,b⟩
      ·rw [(RL _ _).2 a,(ahd all y t).2 b];simp
      ·rw [(RL _ _).2 a,(RL _ _).2 b];simp
      ·rw [(RL _ _).2 a,(ahd all x t).2 b];simp
     all_goals grind
   all_goals grind
  ·have h':NW (Aw y.op.operands.toList (CY all y.guard)) (Av y.dst) pre l=true:=by
    grind
   exact ahe l h' r d x e f ⟨t,hc⟩
omit [aJ] in
def abt {all:List Oper} : ∀(l:List Oper) (f:List Nat) (i:Nat) (a:List RW),Gg all l f i a=true->
 (∀k o,l[k]? =some o->f.getD k 0<2^(i+k))/\
 (∀k o,l[k]? =some o-> ∀r∈a,∀x,r.rd=Aw x.op.operands.toList (CY all x.guard)->r.wr=Av x.dst->Ws all x o->Nat.testBit (f.getD k 0) r.ix=true)/\
 (∀k b x o,b<k->l[b]? =some x->l[k]? =some o->Ws all x o->Nat.testBit (f.getD k 0) (i+b)=true)
 | [],[],i,a,_=>⟨fun k o h=>(by cases h),fun k o h=>(by cases h),fun k b x o _ _ h=>(by cases h)⟩
 |o::l,B::f,i,a,h=>by
  simp only [Gg,aq] at h;obtain ⟨t,u,y⟩:=h;obtain ⟨z,s,A⟩:=abt l f (i+1) _ y;refine ⟨fun k e d=> ?_,fun k e d r q x j p hc=> ?_,fun k b x e C g d hc=> ?_⟩
  ·cases k with
   |zero=>simpa using sM.1 t
   |succ k=>have:=z k e (by simpa using d);simpa [ft,iH 1] using this
  ·cases k with
   |zero=>simp at d;subst d;simpa using ahe a u r q x j p hc
   |succ k=>simpa using s k e (by simpa using d) r (aw _ q) x j p hc
  ·cases k with
   |zero=>omega
   |succ k=>
    cases b with
    |zero=>
     simp at g;subst g
     simpa using s k e (by simpa using d) _ (aC ..) o rfl rfl hc
    |succ b=>
     have:=A k b x e (by omega) (by simpa using g) (by simpa using d) hc;rw [show i+1+b=i+(b+1) by omega] at this
     simpa using this
 | [],_::_,i,a,h=>by simp [Gg] at h
 |_::_,[],i,a,h=>by simp [Gg] at h
structure Ordered (all:List Oper):Prop where
 lt: ∀i j,Nat.testBit (fK all i) j=true->j<i
 Wu: ∀j i x y,j<i->all[j]? =some x->all[i]? =some y->Ws all x y->Nat.testBit (fK all i) j=true
omit [aJ] in
def aqD {all:List Oper} (h:Gg all all (tk all) 0 []=true):Ordered all where
 lt:=fun i j hj=>by
  cases ho:all[i]? with
  |none=>rw [ahb ho] at hj;cases hj
  |some o=>
   have:=(abt _ _ _ _ h).1 i o ho;rw [dr] at this;have h2:=lR (x:=(tk all).getD i 0) (i:=j);rcases b6 j i with h3|h3
   ·exact h3
   ·exact absurd hj (by
     rw [show fK all i=(tk all).getD i 0 from rfl,lR (ax this (aF (by omega) h3))];simp)
 Wu:=fun j i x y bA hx hy hc=>by
  have:=(abt _ _ _ _ h).2.2 i j x y bA hx hy hc
  simpa [fK] using this
omit [aJ] in
def Ordered.trans {all:List Oper} (o:Ordered all) {i j k:Nat} (a:Nat.testBit (fK all i) j=true) (b:Nat.testBit (fK all j) k=true):Nat.testBit (fK all i) k=true:=aqA i j k o.lt a b
end
section
variable [aJ] {S:Nat->Prop}
omit [aJ] in
def RM: ∀p:Pos,p.num=p.n
 | .one=>rfl
 | .o p=>by show Nat.mul 2 p.num=_;rw [RM p];rfl
 | .i p=>by show Nat.succ (Nat.mul 2 p.num)=_;rw [RM p];rfl
omit [aJ] in
def Wv {R:Type} (pre:Nat) (k:aP->R): ∀(l:List sL) (h:aP),Ax pre k l h=k (gM pre l h)
 | [],h=>rfl
 |p::l,h=>by
  simp only [Ax,gM];cases Nat.testBit pre p.ix<;>simp only [cond_true,cond_false]<;>exact Wv pre k l _
omit [aJ] in
def ahf {h:aP} {p:sL} (a:(h.at p.n).obj= .free) (n:Pos):(h.lay p).at n=if p.n=n then ⟨p.ob,p.n⟩ else h.at n:=by
 unfold aP.lay;rw [a];exact gz.EG _ _ _ _
omit [aJ] in
def ahg {h:aP} {p:sL} (a:(h.at p.n).obj≠ .free):h.lay p=h:=by
 unfold aP.lay;cases b:(h.at p.n).obj<;>first|exact absurd b a|rfl
omit [aJ] in
def aqE (h:aP) (p:sL):(h.lay p).nx=h.nx/\(h.lay p).al=h.al/\(h.lay p).df=h.df:=by
 unfold aP.lay;split<;>exact ⟨rfl,rfl,rfl⟩
omit [aJ] in
def Lv (pre:Nat): ∀(l:List sL) (h:aP),(gM pre l h).nx=h.nx/\(gM pre l h).al=h.al/\(gM pre l h).df=h.df
 | [],h=>⟨rfl,rfl,rfl⟩
 |p::l,h=>by
  simp only [gM];cases Nat.testBit pre p.ix<;>simp only [cond_true,cond_false]
  ·exact Lv pre l h
  ·obtain ⟨a,b,c⟩:=Lv pre l (h.lay p)
   obtain ⟨d,e,f⟩:=aqE h p
   all_goals grind
omit [aJ] in
def EN (pre:Nat): ∀(l:List sL) (h:aP),(∀p∈l,Nat.testBit pre p.ix=true->p.ob.pY=true)-> ∀n,
 (gM pre l h).at n=h.at n\/((h.at n).obj= .free/\ ∃p∈l,Nat.testBit pre p.ix=true/\p.n=n/\(gM pre l h).at n=⟨p.ob,n⟩)
 | [],h,_,n=> .inl rfl
 |p::l,h,i,n=>by
  simp only [gM];have f:=fun q d=>i q (aw _ d)
  cases j:Nat.testBit pre p.ix with
  |false=>
   simp only [cond_false];rcases EN pre l h f n with e|⟨a,q,d,b⟩
   all_goals grind
  |true=>
   simp only [cond_true];by_cases g:(h.at p.n).obj= .free
   ·have k:=ahf g n
    rcases EN pre l (h.lay p) f n with e|⟨a,q,d,b⟩
    all_goals grind
   ·rw [ahg g]
    rcases EN pre l h f n with e|⟨a,q,d,b⟩
    all_goals grind
omit [aJ] in
def abu {pre:Nat} {l:List sL} {h:aP} (b: ∀p∈l,Nat.testBit pre p.ix=true->p.ob.pY=true) {n:Pos} (d:aH h n):(gM pre l h).at n=h.at n:=by
 rcases EN pre l h b n with e|⟨a,_⟩
 ·exact e
 ·exact absurd a d
omit [aJ] in
def RN {pre:Nat} {l:List sL} {h:aP} (b: ∀p∈l,Nat.testBit pre p.ix=true->p.ob.pY=true) {n:Pos} (a:aH h n):aH (gM pre l h) n:=by
 unfold aH;rw [abu b a];exact a
omit [aJ] in
def ahh {pre:Nat} : ∀(l:List sL) (h:aP),(∀p∈l,Nat.testBit pre p.ix=true->p.ob.pY=true)-> ∀p∈l,Nat.testBit pre p.ix=true->aH (gM pre l h) p.n
 |q::l,h,e,p,b,d=>by
  have f:=fun q g=>e q (aw _ g)
  simp only [gM];rcases bq.1 b with rfl|b
  ·rw [d]
   simp only [cond_true];apply RN f;by_cases a:(h.at p.n).obj= .free
   ·unfold aH;rw [ahf a,if_pos rfl];exact aoQ (e p (by simp) d)
   ·rw [ahg a];exact a
  ·cases Nat.testBit pre q.ix<;>simp only [cond_true,cond_false]<;>exact ahh l _ f p b d
omit [aJ] in
def ahi {pre:Nat} {l:List sL} {h:aP} (d: ∀p∈l,Nat.testBit pre p.ix=true->p.ob.pY=true) (n:Pos):aH (gM pre l h) n↔(aH h n\/ ∃p∈l,Nat.testBit pre p.ix=true/\p.n=n):=by
 constructor
 ·intro f
  rcases EN pre l h d n with e|⟨_,p,g,a,b,_⟩
  ·unfold aH at f⊢
   all_goals grind
  all_goals grind
 ·rintro (f|⟨p,g,a,rfl⟩)
  ·exact RN d f
  ·exact ahh l h d p g a
section
variable {G:gI} {m m':Mp} {h h':aP} {w w':World}
omit [aJ] in
def I1 (a:h'.t=h.t) (n:Pos):aH h' n↔aH h n:=by unfold aH aP.at;rw [a]
omit [aJ] in
def abv (a:h'.t=h.t) (n:Pos):h'.at n=h.at n:=by unfold aP.at;rw [a]
omit [aJ] in
def Lw (a:h'.t=h.t) (n:Pos):bk h' n↔bk h n:=by unfold bk aP.at;rw [a]
omit [aJ] in
def ahj {pre:Nat} {l:List sL} (b: ∀p∈l,Nat.testBit pre p.ix=true->p.ob.pY=true) {n:Pos} (a:bk h n):bk (gM pre l h) n:=by
 unfold bk;rw [abu b a.aH];exact a
omit [aJ] in
def abw {pre:Nat} {l:List sL} (d: ∀p∈l,Nat.testBit pre p.ix=true->p.ob.pY=true) {n:Pos} (f:bk (gM pre l h) n):bk h n\/((h.at n).obj= .free/\ ∃p∈l,Nat.testBit pre p.ix=true/\p.n=n):=by
 rcases EN pre l h d n with e|⟨a,p,g,b,c,_⟩
 ·unfold bk at f⊢
  all_goals grind
 all_goals grind
omit [aJ] in
def Ww {pre:Nat} {l:List sL} (g: ∀p∈l,Nat.testBit pre p.ix=true->p.ob.pY=true) {n:Pos} {id:Nat} :((gM pre l h).at n).obj= .gH id↔(h.at n).obj= .gH id:=by
 constructor
 ·intro e
  rcases EN pre l h g n with f|⟨a,p,i,b,c,d⟩
  ·rw [f] at e;exact e
  ·rw [d] at e;have:=g p i b;simp only at e;rw [e] at this;cases this
 ·intro e
  rw [abu g (fun f=>by rw [f] at e;cases e)];exact e
def bV.ext (r:bV G S m h w) (e:h'.t=h.t) (b:h'.al=h.al) (d: ∀n,aH h n->n.n<h'.nx.n):bV G S m h' w:=by
 obtain ⟨j,i,f,g⟩:=h';simp only at e b;subst e;subst b;exact ⟨r.blk,fun n a=>d n a,r.apart,r.mem,fun n a=>⟨d _ (r.mX n a).2,(r.mX n a).2⟩,r.ins,r.qN,r.jt,r.lim⟩
def bV.lt (r:bV G S m h w) {n:Pos} (d:bk h n):m.b n<w.heap.size:=by
 obtain ⟨o,a,_⟩:=r.blk n d;exact (au.1 a).1
def bV.shrink {S':Nat->Prop} (r:bV G S m h w) (f: ∀b,S' b->S b):bV G S' m h w:=
 ⟨r.blk,r.fresh,r.apart,r.mem,r.mX,r.ins,r.qN,fun n id i k j=>r.jt n id i k fun b d a g=>j b d (fun e=>a (f b e)) g,fun b d=>r.lim b (f b d)⟩
def bV.congr {S':Nat->Prop} (r:bV G S m h w) (hm: ∀n,aH h n->m'.b n=m.b n/\m'.cv n=m.cv n) (hw: ∀b,b<w.heap.size->w'.heap[b]? =w.heap[b]?) (hsz:w.heap.size<=w'.heap.size) (hSS: ∀b,b<w.heap.size->S' b->S b) (hlim: ∀b,S' b->b<w'.heap.size):bV G S' m' h w' where
 lim:=hlim
 blk:=fun n hd=>by
  obtain ⟨o,h1,h2⟩:=r.blk n hd;exact ⟨o,by rw [(hm n hd.aH).1,hw _ (r.lt hd)];exact h1,K8 hm (r.ins n) (hm n hd.aH).2 h2⟩
 fresh:=r.fresh
 apart:=fun n k a b c=>by rw [(hm n a.aH).1,(hm k b.aH).1];exact r.apart n k a b c
 mem:=r.mem
 mX:=r.mX
 ins:=r.ins
 qN:=fun g l hg=>by
  obtain ⟨⟨rest,e,fz,h1⟩,h2⟩:=r.qN g l hg;exact ⟨⟨rest,e,fz,by grind⟩,fun n hd=>by rw [(hm n hd.aH).1];exact h2 n hd⟩
 jt:=fun n id hn w2 i6=>by
  have hd:aH h n:=fun e=>by rw [e] at hn;cases hn
  have e:m'.v n=m.v n:=by unfold Mp.v;rw [(hm n hd).2]
  rw [e];exact r.jt n id hn w2 fun b hb hS hk=>by rw [i6 b (ax hb hsz) (fun e=>hS (hSS b hb e)) fun k iG=>by rw [(hm k iG.aH).1];exact hk k iG,hw b hb]
def bV.ahk (r:bV G S m h w) {pre:Nat} {l:List sL} (u: ∀p∈l,Nat.testBit pre p.ix=true->p.ob.pY=true)
 (D: ∀p∈l,Nat.testBit pre p.ix=true->(h.at p.n).obj= .free->(∃o,w.heap[m.b p.n]? =some o/\vD m p.n p.ob o)/\p.n.n<h.nx.n/\(∀k,bk h k->m.b k≠m.b p.n)/\
  Az (aH (gM pre l h)) p.ob/\ ∀g x,G.g g=some x->m.b p.n≠g)
 (Q: ∀p∈l,∀q∈l,Nat.testBit pre p.ix=true->Nat.testBit pre q.ix=true->(h.at p.n).obj= .free->(h.at q.n).obj= .free->p.n≠q.n->m.b p.n≠m.b q.n)
 (J: ∀p∈l,Nat.testBit pre p.ix=true->(h.at p.n).obj= .free->S (m.b p.n)):bV G S m (gM pre l h) w:=by
 obtain ⟨F,M,X⟩:=Lv pre l h;have A: ∀n,aH (gM pre l h) n->(aH h n/\(gM pre l h).at n=h.at n)\/((h.at n).obj= .free/\ ∃p∈l,Nat.testBit pre p.ix=true/\p.n=n/\(gM pre l h).at n=⟨p.ob,n⟩):=fun n d=>by
  rcases EN pre l h u n with e|e
  ·unfold aH at d;rw [e] at d;exact .inl ⟨d,e⟩
  ·exact .inr e
 have B: ∀n,bk (gM pre l h) n->(bk h n/\(gM pre l h).at n=h.at n)\/((h.at n).obj= .free/\ ∃p∈l,Nat.testBit pre p.ix=true/\p.n=n/\(gM pre l h).at n=⟨p.ob,n⟩):=fun n d=>by
  rcases EN pre l h u n with e|e
  ·unfold bk at d;rw [e] at d;exact .inl ⟨d,e⟩
  ·exact .inr e
 refine ⟨fun n d=> ?_,fun n d=> ?_,fun n k z y f=> ?_,fun n k z y f H=> ?_,fun n d=> ?_,fun n=> ?_,fun g x C=>⟨(r.qN g x C).1,fun n d=> ?_⟩,fun n id z W R=>r.jt n id ((Ww u).1 z) W fun b O N y=>R b O N fun k Y=> ?_,r.lim⟩
 ·rcases B n d with ⟨a,e⟩|⟨a,p,i,j,rfl,e⟩
  ·rw [e];exact r.blk n a
  all_goals grind
 ·rw [F]
  rcases A n d with ⟨a,e⟩|⟨a,p,i,j,rfl,e⟩
  ·exact r.fresh n a
  all_goals grind
 ·rcases B n z with ⟨a,e⟩|⟨a,p,i,j,rfl,e⟩<;>rcases B k y with ⟨t,s⟩|⟨t,T,I,U,rfl,s⟩
  ·rw [e,s] at f;exact r.apart n k a t f
  all_goals grind
 ·rcases A n z with ⟨a,e⟩|⟨a,p,i,j,rfl,e⟩<;>rcases A k y with ⟨t,s⟩|⟨t,T,I,U,rfl,s⟩
  ·rw [e,s] at f;rw [e,M];exact r.mem n k a t f H
  ·rw [e,s] at f;have:=(r.mX n a).2;rw [f] at this;exact absurd t this
  ·rw [e,s] at f;have:=(r.mX k t).2;rw [<-f] at this;exact absurd a this
  ·rw [e,s] at f;exact absurd f H
 ·rw [F]
  rcases A n d with ⟨a,e⟩|⟨a,p,i,j,rfl,e⟩
  ·rw [e];exact ⟨(r.mX n a).1,RN u (r.mX n a).2⟩
  ·rw [e];exact ⟨(D p i j a).2.1,d⟩
 ·rcases EN pre l h u n with e|⟨a,p,i,j,rfl,e⟩
  ·rw [e];exact yT (fun k y=>RN u y) (r.ins n)
  ·rw [e];exact (D p i j a).2.2.2.1
 ·rcases B n d with ⟨a,e⟩|⟨a,p,i,j,rfl,e⟩
  ·exact (r.qN g x C).2 n a
  ·exact (D p i j a).2.2.2.2 g x C
 all_goals grind
omit [aJ] in
def Goes.aqF {d:Mp} (g:Goes m h w m' h' w') (e: ∀n,aH h' n->d.b n=m'.b n/\d.cv n=m'.cv n) (f: ∀n,n.n<h.nx.n->d.b n=m.b n/\d.cv n=m.cv n):Goes m h w d h' w':=
 ⟨g.tape,g.os,g.output,g.size,g.xZ,f,g.nx,g.Gm,fun n a b=>by rw [(e n a.aH).1];exact g.yU n a b,g.old,g.bold,g.II⟩
omit [aJ] in
def Goes.lay {e:aP} (g:Goes m h w m' h' w') (p:h'.nx.n<=e.nx.n) (f: ∀n,aH h' n->aH e n)
 (k: ∀n,aH e n->aH h' n\/h.nx.n<=n.n) (l: ∀n,bk h' n->bk e n) (i: ∀n,bk e n->bk h' n\/w.heap.size<=m'.b n) (j: ∀n id,(h'.at n).obj= .gH id->(e.at n).obj= .gH id):Goes m h w m' e w':=
 ⟨g.tape,g.os,g.output,g.size,g.xZ,g.agree,aL g.nx p,
  fun n d=>by rcases k n d with a|a;exact g.Gm n a;exact .inr a,
  fun n d o=>by rcases i n d with a|a;exact g.yU n a o;exact .inl a,fun n d=>f n (g.old n d),fun n d=>l n (g.bold n d),fun n id d=>j n id (g.II n id d)⟩
end
def only (tm:Tm):List Nat->Tm
 | []=>Ao
 |t::l=>(Ap t).f (ig t tm) (only tm l)
omit [aJ] in
def abx (tm:Tm): ∀(l:List Nat) (t:Nat),ig t (only tm l)=if t∈l then ig t tm else oY
 | [],t=>by simp [only,Wm]
 |x::l,t=>by
  simp only [only];rw [Ls,abx tm l]
  all_goals grind
end
section
variable [aJ] {S:Nat->Prop}
inductive Kd where
 |skip|pu|rd|nw (ob:jR) (mk:Mk)|wr
def Lx (all:List Oper) (o:Oper) (tm:Tm):Prop:=uJ all o.guard=none\/ ∃a,uJ all o.guard=some a/\a.f tm=some true
def tt (E:Env) (all:List Oper) (cf:(FuncId->List ai->aP->VR)) (i:Nat) (k:Kd) (v:ai) (s s':DS) (o:Oper):Prop:=
 match k with
 | .skip=>v=oY/\(∃b,uJ all o.guard=some b/\b.f s.tm=some false)/\s'.h=s.h/\s'.qM=s.qM/\s'.chain=s.chain/\s'.held=s.held/\s'.dA=s.dA
 | .pu=>Lx all o s.tm/\(∃f,pW E o.op= .pu f/\f s.tm=some v)/\s'.h=s.h/\s'.qM=s.qM/\s'.chain=s.chain/\s'.held=s.held/\s'.dA=s.dA
 | .rd=>Lx all o s.tm/\(∃f,pW E o.op= .rd f/\f s.tm (gM (fK all i) s.dA s.h)=some v/\
   Ra (fK all i) s.h.nx (fun h=>f s.tm (gM (fK all i) s.dA h)) v s.qM=true/\s'.held=⟨i,fun h=>f s.tm (gM (fK all i) s.dA h),v⟩::s.held)/\
   s'.h=s.h/\s'.qM=s.qM/\s'.chain=s.chain/\s'.dA=s.dA
 | .nw a mk=>Lx all o s.tm/\(∃f,pW E o.op= .nw f/\f s.tm=some (a,mk))/\v=mk.mk s.h.nx/\s'.h=⟨s.h.t,s.h.nx.succ,s.h.al,s.h.df⟩/\s'.qM=s.qM/\s'.chain=s.chain/\s'.held=s.held/\s'.dA=⟨i,s.h.nx,a⟩::s.dA
 | .wr=>Lx all o s.tm/\(∃f,pW E o.op= .wr f/\(f s.tm (gM (fK all i) s.dA s.h)= .ok v s'.h\/
   ∃g args,f s.tm (gM (fK all i) s.dA s.h)= .call g args/\cf g args (gM (fK all i) s.dA s.h)= .ok v s'.h))/\
   (Nat.land s.chain (fK all i)=s.chain)/\K5 (fK all i) s'.h s.held=true/\s.h.nx.n<=s'.h.nx.n/\
   s'.qM=(i,s.h)::s.qM/\s'.chain=Nat.lor s.chain (Nat.pow 2 i)/\s'.held=s.held/\s'.dA=s.dA
omit [aJ] in
def aby {α:Type} {b:Bool} {o:Option α} {r:α} (h:cond b o none=some r):b=true/\o=some r:=by
 grind
omit [aJ] in
def ahl {E:Env} {all:List Oper} {cf:(FuncId->List ai->aP->VR)} {i:Nat} {o:Oper} {p:CV} {s s':DS} (j:Lx all o s.tm)
 (e:Rb i (fK all i) (pW E o.op) p cf s=some s'): ∃k v,tt E all cf i k v s s' o/\s'.tm=p.f v s.tm:=by
 unfold Rb at e;cases d:pW E o.op with
 |pu f=>
  rw [d] at e;simp only at e;cases a:f s.tm with
  |none=>rw [a] at e;cases e
  |some v=>rw [a] at e;cases e;exact ⟨.pu,v,⟨j,⟨f,d,a⟩,rfl,rfl,rfl,rfl,rfl⟩,rfl⟩
 |nw f=>
  rw [d] at e;simp only at e;cases a:f s.tm with
  |none=>rw [a] at e;cases e
  |some q=>rw [a] at e;cases e;exact ⟨.nw q.1 q.2,q.2.mk s.h.nx,⟨j,⟨f,d,a⟩,rfl,rfl,rfl,rfl,rfl,rfl⟩,rfl⟩
 |rd f=>
  rw [d] at e;simp only at e;have A:Ax (fK all i) (f s.tm) s.dA=fun h=>f s.tm (gM (fK all i) s.dA h):=funext fun h=>Wv _ _ _ _
  rw [A] at e;dsimp only at e;cases a:f s.tm (gM (fK all i) s.dA s.h) with
  |none=>rw [a] at e;cases e
  |some v=>
   rw [a] at e;simp only at e;obtain ⟨l,b⟩:=aby e;cases b;exact ⟨.rd,v,⟨j,⟨f,d,a,l,rfl⟩,rfl,rfl,rfl,rfl⟩,rfl⟩
 |wr f=>
  rw [d] at e;simp only at e;obtain ⟨l,b⟩:=aby e;rw [Wv] at b;have t:=bE l;have fin: ∀v h',cond (K5 (fK all i) h' s.held&&Nat.ble (gM (fK all i) s.dA s.h).nx.num h'.nx.num) (some (DS.mk (p.f v s.tm) h' ((i,s.h)::s.qM) (Nat.lor s.chain (Nat.pow 2 i)) s.held s.dA)) none=some s'->
   (f s.tm (gM (fK all i) s.dA s.h)= .ok v h'\/ ∃g args,f s.tm (gM (fK all i) s.dA s.h)= .call g args/\cf g args (gM (fK all i) s.dA s.h)= .ok v h')->
   ∃k v,tt E all cf i k v s s' o/\s'.tm=p.f v s.tm:=fun v h' x y=>by
   obtain ⟨u,z⟩:=aby x;rw [aq,RM,RM,(Lv _ _ _).1] at u;cases z;exact ⟨.wr,v,⟨j,⟨f,d,y⟩,t,u.1,aZ u.2,rfl,rfl,rfl,rfl⟩,rfl⟩
  cases a:f s.tm (gM (fK all i) s.dA s.h) with
  |fail=>rw [a] at b;cases b
  |ok v h'=>rw [a] at b;exact fin v h' b (.inl a)
  |call g args=>
   rw [a] at b;simp only at b;cases hc:cf g args (gM (fK all i) s.dA s.h) with
   |fail=>rw [hc] at b;cases b
   |ok v h'=>rw [hc] at b;exact fin v h' b (.inr ⟨g,args,a,hc⟩)
omit [aJ] in
def aqH {E:Env} {all:List Oper} {cf:(FuncId->List ai->aP->VR)} {i:Nat} {o:Oper} {p:CV} {s s':DS}
 (e:(NX i (fK all i) (uJ all o.guard) (pW E o.op) p).f cf s=some s'): ∃k v,tt E all cf i k v s s' o/\s'.tm=p.f v s.tm:=by
 unfold NX at e;cases a:uJ all o.guard with
 |none=>rw [a] at e;exact ahl (.inl a) e
 |some g=>
  rw [a] at e;simp only at e;cases d:g.f s.tm with
  |none=>rw [d] at e;cases e
  |some b=>
   rw [d] at e;cases b with
   |true=>exact ahl (.inr ⟨g,a,d⟩) e
   |false=>cases e;exact ⟨.skip,oY,⟨rfl,⟨g,a,d⟩,rfl,rfl,rfl,rfl,rfl⟩,rfl⟩
structure Run (E:Env) (nt:Nat) (all:List Oper) (cf:(FuncId->List ai->aP->VR)) (s0 sN:DS) (st:Nat->DS) (K:Nat->Kd) (v:Nat->ai):Prop where
 first:st 0=s0
 last:st all.length=sN
 step: ∀i o,all[i]? =some o-> ∃p,yR nt o.dst=some p/\(st (i+1)).tm=p.f (v i) (st i).tm/\tt E all cf i (K i) (v i) (st i) (st (i+1)) o
omit [aJ] in
def ahm {E:Env} {nt:Nat} {all:List Oper} {cf:(FuncId->List ai->aP->VR)} : ∀(l:List Oper) (i:Nat) (s sN:DS),all.drop i=l->(EE E nt all l ((tk all).drop i) i).f cf s=some sN->
 ∃(st:Nat->DS) (K:Nat->Kd) (v:Nat->ai),st i=s/\st (i+l.length)=sN/\
  ∀j o,i<=j->all[j]? =some o-> ∃p,yR nt o.dst=some p/\(st (j+1)).tm=p.f (v j) (st j).tm/\tt E all cf j (K j) (v j) (st j) (st (j+1)) o
 | [],i,s,sN,d,e=>by
  have q:all.length<=i:=by
   simp_all
  cases a:(tk all).drop i with
  |cons x y=>have:=congrArg List.length a;simp [abr] at this;omega
  |nil=>
   rw [a] at e;simp only [EE] at e;cases e;exact ⟨fun _=>s,fun _=> .skip,fun _=>oY,rfl,rfl,fun j o A t=>by
    grind⟩
 |o::l,i,s,sN,d,e=>by
  have t:all[i]? =some o:=by
   have:(all.drop i)[0]? =some o:=by rw [d];rfl
   simpa using this
  have z:all.drop (i+1)=l:=by rw [<-List.drop_drop,d];rfl
  have a:(tk all).drop i=fK all i::(tk all).drop (i+1):=by
   have g:i<(tk all).length:=by rw [abr];exact (eX.1 t).1
   rw [fU g];congr 1;simp [fK,g]
  rw [a] at e;simp only [EE] at e;cases u:yR nt o.dst with
  |none=>rw [u] at e;cases e
  |some p=>
   rw [u] at e;simp only at e;cases b:(NX i (fK all i) (uJ all o.guard) (pW E o.op) p).f cf s with
   |none=>rw [b] at e;cases e
   |some C=>
    rw [b] at e;obtain ⟨k,v,I,J⟩:=aqH b;obtain ⟨st,K,V,D,F,H⟩:=ahm l (i+1) C sN z e;refine ⟨fun j=>if j<=i then s else st j,fun j=>if j<=i then k else K j,fun j=>if j<=i then v else V j,by simp,?_,fun j M A B=> ?_⟩
    all_goals grind
omit [aJ] in
def aqI {E:Env} {nt:Nat} {all:List Oper} {cf:(FuncId->List ai->aP->VR)} {s sN:DS} (e:(EE E nt all all (tk all) 0).f cf s=some sN): ∃st K v,Run E nt all cf s sN st K v:=by
 obtain ⟨st,K,v,a,b,c⟩:=ahm (E:=E) (nt:=nt) (all:=all) (cf:=cf) all 0 s sN rfl e;exact ⟨st,K,v,a,by simpa using b,fun i o d=>c i o (bZ _) d⟩
section
variable {E:Env} {nt:Nat} {all:List Oper} {cf:(FuncId->List ai->aP->VR)} {s0 sN:DS} {st:Nat->DS} {K:Nat->Kd} {v:Nat->ai}
omit [aJ] in
def Run.get (r:Run E nt all cf s0 sN st K v) {i:Nat} (hi:i<all.length): ∃o p,all[i]? =some o/\yR nt o.dst=some p/\(st (i+1)).tm=p.f (v i) (st i).tm/\tt E all cf i (K i) (v i) (st i) (st (i+1)) o:=by
 have a:all[i]? =some all[i]:=aO hi;obtain ⟨p,h⟩:=r.step i _ a
 all_goals grind
omit [aJ] in
def Run.aqJ (r:Run E nt all cf s0 sN st K v) {i:Nat} (hi:i<all.length):(st i).h.nx.n<=(st (i+1)).h.nx.n:=by
 obtain ⟨o,p,_,_,_,a⟩:=r.get hi;cases b:K i<;>rw [b] at a<;>simp only [tt] at a
 ·simp_all
 ·simp_all
 ·simp_all
 ·rw [a.2.2.2.1];show _<=(st i).h.nx.succ.n;rw [Pos.IC];omega
 all_goals grind
omit [aJ] in
def Run.mono (r:Run E nt all cf s0 sN st K v) {i:Nat} : ∀ {j:Nat},i<=j->j<=all.length->(st i).h.nx.n<=(st j).h.nx.n
 |0,h,_=>by simp_all
 |j+1,h,a=>by
  by_cases e:i=j+1
  ·simp_all
  ·exact aL (r.mono (by omega) (by omega)) (r.aqJ (by omega))
omit [aJ] in
def Run.aqK (r:Run E nt all cf s0 sN st K v) {i:Nat} (hi:i<all.length) (d:K i≠ .wr):(st (i+1)).h.t=(st i).h.t/\(st (i+1)).h.al=(st i).h.al/\(st (i+1)).h.df=(st i).h.df:=by
 obtain ⟨o,p,_,_,_,a⟩:=r.get hi;cases b:K i<;>rw [b] at a<;>simp only [tt] at a
 all_goals grind
omit [aJ] in
def Run.quiet (r:Run E nt all cf s0 sN st K v) {i:Nat} : ∀ {j:Nat},i<=j->j<=all.length->(∀c,i<=c->c<j->K c≠ .wr)->(st j).h.t=(st i).h.t/\(st j).h.al=(st i).h.al/\(st j).h.df=(st i).h.df
 |0,h,_,_=>by simp_all
 |j+1,h,o,hc=>by
  by_cases e:i=j+1
  ·simp_all
  ·obtain ⟨a,b,c⟩:=r.quiet (i:=i) (j:=j) (by omega) (by omega) (fun c d l=>hc c d (by omega))
   obtain ⟨f,g,k⟩:=r.aqK (i:=j) (by omega) (hc j (by omega) (by omega))
   all_goals grind
omit [aJ] in
def Run.chain (r:Run E nt all cf s0 sN st K v) (b:s0.chain=0) (j:Nat): ∀ {k:Nat},k<=all.length->(Nat.testBit (st k).chain j=true↔(j<k/\K j= .wr))
 |0,_=>by rw [r.first,b];simp
 |k+1,l=>by
  obtain ⟨o,p,_,_,_,a⟩:=r.get (i:=k) (by omega);have g:=r.chain b j (k:=k) (by omega);have same:(st (k+1)).chain=(st k).chain->K k≠ .wr->(Nat.testBit (st (k+1)).chain j=true↔(j<k+1/\K j= .wr)):=fun e d=>by
   grind
  cases f:K k<;>rw [f] at a<;>simp only [tt] at a
  ·simp_all
  ·simp_all
  ·simp_all
  ·simp_all
  ·obtain ⟨_,_,_,_,_,_,hc,_⟩:=a
   rw [hc,RJ,Wq,cX,g,decide_eq_true_eq]
   all_goals grind
omit [aJ] in
def Run.ordered (r:Run E nt all cf s0 sN st K v) (e:s0.chain=0) {c a:Nat} (d:c<a) (i:a<all.length) (f:K c= .wr) (g:K a= .wr):Nat.testBit (fK all a) c=true:=by
 obtain ⟨o,p,_,_,_,b⟩:=r.get i;rw [g] at b;simp only [tt] at b;have:=(r.chain e c (k:=a) (by omega)).2 ⟨d,f⟩;rw [<-b.2.2.1,abp,aq] at this;exact this.2
omit [aJ] in
def Run.dA (r:Run E nt all cf s0 sN st K v) (g:s0.dA= []) (x:sL): ∀ {k:Nat},k<=all.length->(x∈(st k).dA↔ ∃mk,x.ix<k/\K x.ix= .nw x.ob mk/\x.n=(st x.ix).h.nx)
 |0,_=>by rw [r.first,g];simp
 |k+1,u=>by
  obtain ⟨o,p,_,_,_,d⟩:=r.get (i:=k) (by omega);have s:=r.dA g x (k:=k) (by omega);have same:(st (k+1)).dA=(st k).dA->(∀f mk,K k≠ .nw f mk)->(x∈(st (k+1)).dA↔ ∃mk,x.ix<k+1/\K x.ix= .nw x.ob mk/\x.n=(st x.ix).h.nx):=fun e q=>by
   grind
  cases j:K k<;>rw [j] at d<;>simp only [tt] at d
  ·simp_all
  ·simp_all
  ·simp_all
  ·rename_i f mk
   obtain ⟨_,_,_,_,_,_,_,l⟩:=d;rw [l,bq,s];constructor
   ·grind
   ·rintro ⟨t,a,b,c⟩
    by_cases e:x.ix=k
    ·rw [e,j] at b
     cases b;left;obtain ⟨ix,n,f⟩:=x
     all_goals grind
    all_goals grind
  all_goals grind
omit [aJ] in
def Run.held (r:Run E nt all cf s0 sN st K v) {x:VM} {i:Nat} (b:x∈(st i).held): ∀ {k:Nat},i<=k->k<=all.length->x∈(st k).held
 |0,h,_=>by simp_all
 |k+1,h,f=>by
  by_cases e:i=k+1
  ·subst e;exact b
  ·obtain ⟨o,p,_,_,_,a⟩:=r.get (i:=k) (by omega)
   have g:=r.held b (k:=k) (by omega) (by omega);cases d:K k<;>rw [d] at a<;>simp only [tt] at a
   all_goals grind
omit [aJ] in
def ahn {o:Option ai} {v:ai} (h:aaw o v=true):o=some v:=by
 cases o with
 |none=>cases h
 |some u=>rw [ai.pX u v h]
omit [aJ] in
def Run.back (r:Run E nt all cf s0 sN st K v) (s:s0.qM= []) (b:s0.chain=0) {pre:Nat} {l:Pos} {f:aP->Option ai} {u:ai} (d: ∀c q,Nat.testBit pre q=true->Nat.testBit (fK all q) c=true->Nat.testBit pre c=true):
 ∀ {k:Nat},k<=all.length->Ra pre l f u (st k).qM=true-> ∀c,c<k->K c= .wr->Nat.testBit pre c=false->f ⟨(st c).h.t,l,(st c).h.al,(st c).h.df⟩=some u
 |0,_,_,c,hc,_,_=>by omega
 |k+1,C,a,c,hc,j,x=>by
  obtain ⟨o,p,_,_,_,g⟩:=r.get (i:=k) (by omega);have same:(st (k+1)).qM=(st k).qM->K k≠ .wr->f ⟨(st c).h.t,l,(st c).h.al,(st c).h.df⟩=some u:=fun e B=>by
   rw [e] at a;refine r.back s b d (k:=k) (by omega) a c ?_ j x
   all_goals grind
  cases z:K k<;>rw [z] at g<;>simp only [tt] at g
  ·simp_all
  ·simp_all
  ·simp_all
  ·simp_all
  ·obtain ⟨_,_,_,_,_,A,_⟩:=g
   rw [A] at a;simp only [Ra] at a;cases y:Nat.testBit pre k with
   |true=>
    by_cases e:c=k
    ·simp_all
    ·have:=d c k y (r.ordered b (by omega) (by omega) j z)
     all_goals grind
   |false=>
    rw [y] at a;simp only [cond_false,aq] at a;by_cases e:c=k
    ·subst e;exact ahn a.1
    ·exact r.back s b d (k:=k) (by omega) a.2 c (by omega) j x
omit [aJ] in
def aho {pre:Nat} {h:aP} : ∀ {l:List VM},K5 pre h l=true-> ∀x∈l,Nat.testBit pre x.ix=false->x.f h=some x.v
 |y::l,a,x,b,d=>by
  simp only [K5,aq] at a;rcases bq.1 b with rfl|b
  ·rw [d] at a;exact ahn a.1
  ·exact aho a.2 x b d
end
end
end Go.Ev
