/- refineFuel_proved. -/
import Derived.Test.YtnmpjdgobafdkaaGreatDoorPmal
set_option maxRecDepth 100000
set_option maxHeartbeats 16000000
set_option linter.all false
noncomputable section
namespace Go.Ev
section
variable [aJ] {S:Nat->Prop}
section
variable {P:Program} {E:Env}
def oI.same (k:oI) (tm a:Tm):Prop:=match k with
 | .pu f=>f tm=f a
 | .rd f=> ∀h,f tm h=f a h
 | .nw f=>f tm=f a
 | .wr f=> ∀h,f tm h=f a h
omit [aJ] in
def Ct {tm a:Tm} :oI.bad.same tm a:=rfl
omit [aJ] in
def Kw {tm a:Tm} : ∀l:List Operand,(∀x∈l,(bP E x).g tm=(bP E x).g a)->sr (sV E l) tm=sr (sV E l) a
 | [],_=>rfl
 |x::l,h=>by
  show (bP E x).g tm::sr (sV E l) tm=(bP E x).g a::sr (sV E l) a;rw [h x (by simp),Kw l fun y b=>h y (by simp [b])]
omit [aJ] in
def Vt {tm d:Tm} (b:Nat->Option (Nat×Nat)): ∀(a:List (Nat×Operand)) (l:List aj),(∀p∈a,(bP E p.2).g tm=(bP E p.2).g d)->
 zD b (a.map fun p=>(p.1,bP E p.2)) tm l=zD b (a.map fun p=>(p.1,bP E p.2)) d l
 | [],l,_=>rfl
 |p::a,l,h=>by
  simp only [cI,zD];rw [h p (by simp)];cases b p.1 with
  |none=>rfl
  |some q=>
   simp only;congr 1;cases Hd ((bP E p.2).g d).cells q.1 l with
   |none=>rfl
   |some l=>exact Vt b a l fun q e=>h q (by simp [e])
omit [aJ] in
def aaJ {tm a:Tm} (o:Option Operand) (h: ∀x,o=some x->(bP E x).g tm=(bP E x).g a):u7 E o tm=u7 E o a:=by
 cases o with
 |none=>rfl
 |some x=>simp only [u7];rw [h x rfl]
omit [aJ] in
def aaK {tm a:Tm} {f:aj->Option aj} {x:Operand} (h:(bP E x).g tm=(bP E x).g a):(xf E f x).same tm a:=by
 show f _=f _;rw [h]
omit [aJ] in
def apz {tm a:Tm} {f:aj->aj->Option aj} {x y:Operand} (h:(bP E x).g tm=(bP E x).g a) (h':(bP E y).g tm=(bP E y).g a):(P' E f x y).same tm a:=by
 show f _ _=f _ _;rw [h,h']
omit [aJ] in
def aaL {tm a:Tm} {b:Bool} {k d:oI} (h:k.same tm a) (h':d.same tm a):(cond b k d).same tm a:=by
 grind
omit [aJ] in
def apA {tm a:Tm} (b:Builtin) (args:List Operand) (f:List TypeId) (h: ∀x∈args,(bP E x).g tm=(bP E x).g a):(UJ E b args f).same tm a:=by
 unfold UJ;split<;>(try split)<;>(try split)<;>(try split)<;>first
  |exact Ct
  |(
    refine aaL ?_ Ct;intro d
    all_goals grind)
  |exact aaK (h _ (by simp))
  |(
    intro d
    all_goals grind)
  |omega
  |(show DU _ _ _=DU _ _ _;rw [h _ (aE ..),Kw _ fun y e=>h y (aw _ e)];done)
omit [aJ] in
def apC {tm d:Tm} (c:Call) (h: ∀x∈c.operands,(bP E x).g tm=(bP E x).g d):(Qa E c).same tm d:=by
 have b: ∀x∈c.args.toList,(bP E x).g tm=(bP E x).g d:=fun x a=>h x (by unfold Call.operands;simp;exact .inr (by simpa using a))
 unfold Qa;split
 ·intro e;simp only;rw [Kw _ b]
 ·rename_i x _ hc
  have a:=h x (by unfold Call.operands;rw [hc];simp);intro e;simp only;rw [Kw _ b,a]
 ·rename_i r f hc
  have a:=h r (by unfold Call.operands;rw [hc];simp);intro e;simp only;rw [Kw _ b,a]
 ·exact apA _ _ _ b
omit [aJ] in
def apD {f:Tm->Option (jG×Mk)} {tm a:Tm} (h:f tm=f a):(oI.nw f).same tm a:=h
omit [aJ] in
def apE {tm a:Tm} (s d:TypeId) (x:Operand) (h:(bP E x).g tm=(bP E x).g a):(MM E s d x).same tm a:=by
 unfold MM;split
 ·split
  ·intro b;simp only;rw [h]
  ·exact Ct
 ·split
  ·intro b;simp only;rw [h]
  ·exact Ct
 ·exact aaK h
 ·exact Ct
omit [aJ] in
def apF {tm b:Tm} (t:TypeId) (a:Array (Nat×Operand)) (h: ∀p∈a.toList,(bP E p.2).g tm=(bP E p.2).g b):(MJ E t a).f tm=(MJ E t a).f b:=by
 unfold MJ Fv;split
 ·rename_i d _ _
  cases (d.toList.all fun f=>(E.size f.type).isSome)
  ·rfl
  ·simp only [cond_true];rw [Vt _ _ _ h]
 ·split
  ·simp only;rw [Vt _ _ _ h]
  ·rfl
 ·rfl
omit [aJ] in
def agi {tm i:Tm} (o:Op) (h: ∀x∈o.operands,(bP E x).g tm=(bP E x).g i):(lh E o).same tm i:=by
 unfold lh;split
 all_goals simp only [Op.operands] at h
 all_goals try (exact aaK (h _ (by simp)))
 all_goals try (exact apz (h _ (by simp)) (h _ (by simp)))
 all_goals try (exact Ct)
 case h_4=>exact apF _ _ fun p f=>h p.2 (by simp;exact ⟨p.1,by simpa using f⟩)
 case h_8=>exact apE _ _ _ (h _ (by simp))
 case h_10 a b=>
  show some _=some _;rw [Kw _ fun x d=>h x (by simp at d⊢;exact .inl d),Kw _ fun x d=>h x (by simp at d⊢;exact .inr d)]
 case h_19=>
  refine aaL ?_ Ct
  ·intro f
   simp only;rw [h _ (by simp),aaJ _ fun x d=>h x (by simp [d]),aaJ _ fun x d=>h x (by simp [d]),aaJ _ fun x d=>h x (by simp [d])]
 case h_22=>
  rename_i e;have f: ∀p∈e.toList,(bP E p.2).g tm=(bP E p.2).g i:=fun p f=>h p.2 (by simp;exact ⟨p.1,by simpa using f⟩)
  split
  ·split
   ·refine aaL ?_ Ct
    apply apD;simp only [Fv];rw [Vt _ _ _ f]
   ·exact Ct
  ·exact Ct
 all_goals try (exact apC _ h)
 all_goals try simp only [List.mem_toArray,bu,forall_eq_or_imp,jj,false_implies,implies_true,and_true] at h
 all_goals try (simp [oI.same,h];done)
 all_goals try (split<;>(try split)<;>first|exact Ct|(simp [oI.same,h];done))
 all_goals grind
omit [aJ] in
def apG {tm j:Tm} (o:Op) (h: ∀x∈o.operands,(bP E x).g tm=(bP E x).g j):(pG E o).same tm j:=by
 unfold pG;split
 ·exact agi o h
 ·have a:=agi (E:=E) o h
  cases k:lh E o with
  |pu f=>
   rw [k] at a;unfold UM;have p:f tm=f j:=a;have s: ∀c x y,J8 E o=some (c,x,y)->x∈o.operands/\y∈o.operands:=fun c x y b=>by
    unfold J8 at b;split at b
    ·cases b;simp [Op.operands]
    ·cases b;simp [Op.operands]
    ·split at b<;>cases b;simp [Op.operands]
    ·rename_i i
     have z:i.args.toList= [x,y]->x∈(Op.call i).operands/\y∈(Op.call i).operands:=fun q=>by
      have d:i.args= #[x,y]:=by grind
      simp [Op.operands,Call.operands,d]
     all_goals grind
    ·cases b
   cases b:J8 E o with
   |some l=>
    obtain ⟨c,x,y⟩:=l;obtain ⟨C,D⟩:=s c x y b;show (fun tm=>_) tm=(fun tm=>_) j
    all_goals grind
   |none=>
    simp only;cases e:Qb E o with
    |none=>exact a
    |some x=>
     have u:x∈o.operands:=by
      unfold Qb at e;split at e
      ·rename_i i
       split at e
       ·rename_i A t I B q H
        have d:i.args= #[A]:=by grind
        split at e<;>cases e;simp [Op.operands,Call.operands,d]
       ·cases e
      ·cases e
     intro F
     all_goals grind
  |rd f=>rw [k] at a;exact a
  |nw f=>rw [k] at a;exact a
  |wr f=>rw [k] at a;exact a
end
end
section
variable [aJ] {S:Nat->Prop}
omit [aJ] in
def QH (a b j:Nat):Nat.testBit (Nat.lor a b) j=(Nat.testBit a j||Nat.testBit b j):=Nat.testBit_or a b j
omit [aJ] in
def aaM (a b j:Nat):Nat.testBit (Nat.land a b) j=(Nat.testBit a j&&Nat.testBit b j):=mc a b j
omit [aJ] in
def Vu (a j:Nat):Nat.testBit (Nat.pow 2 a) j=decide (a=j):=Nat.testBit_two_pow
omit [aJ] in
def agj (a:List Nat) (j:Nat): ∀(l:List Edge) (s:Nat),Nat.testBit (l.foldl (Hg a) s) j=true↔(Nat.testBit s j=true\/ ∃e∈l,DW e=true/\(e.on=j\/Nat.testBit (a.getD e.on 0) j=true))
 | [],s=>by simp
 |e::l,s=>by
  rw [List.foldl_cons,agj a j l];have d:Nat.testBit (Hg a s e) j=true↔(Nat.testBit s j=true\/(DW e=true/\(e.on=j\/Nat.testBit (a.getD e.on 0) j=true))):=by
   unfold Hg;cases b:DW e with
   |true=>simp only [cond_true,QH,Vu,dw,decide_eq_true_eq,true_and]
   |false=>simp
  all_goals grind
omit [aJ] in
def aaN: ∀(l:List Oper) (a:List Nat),(Hh l a).length=a.length+l.length/\(∀i,i<a.length->(Hh l a).getD i 0=a.getD i 0)/\
 ∀k o,l[k]? =some o-> ∀j,Nat.testBit ((Hh l a).getD (a.length+k) 0) j=true↔ ∃e∈o.after.toList,DW e=true/\(e.on=j\/(e.on<a.length+k/\Nat.testBit ((Hh l a).getD e.on 0) j=true))
 | [],a=>⟨rfl,fun _ _=>rfl,fun k o h=>by cases h⟩
 |o::l,a=>by
  obtain ⟨d,f,g⟩:=aaN l (a++ [o.after.toList.foldl (Hg a) 0]);simp only [Hh];generalize s:Hh l (a++ [o.after.toList.foldl (Hg a) 0])=M at d f g;have p: ∀i,i<a.length->M.getD i 0=a.getD i 0:=fun i t=>by
   grind
  refine ⟨by simp at d⊢;omega,p,fun k q b j=> ?_⟩;cases k with
  |zero=>
   simp at b;subst b;rw [dt,f a.length (by simp)];rw [show (a++ [o.after.toList.foldl (Hg a) 0]).getD a.length 0=o.after.toList.foldl (Hg a) 0 by simp_all];rw [agj]
   all_goals grind
  |succ k=>
   have:=g k q (by simpa using b) j
   all_goals grind
def fK (all:List Oper) (i:Nat):Nat:=(sX all).getD i 0
omit [aJ] in
def aaO (all:List Oper):(sX all).length=all.length:=by
 have:=(aaN all []).1;unfold sX
 simpa using this
omit [aJ] in
def QI {all:List Oper} {i:Nat} {o:Oper} (h:all[i]? =some o) (j:Nat):Nat.testBit (fK all i) j=true↔ ∃e∈o.after.toList,DW e=true/\(e.on=j\/(e.on<i/\Nat.testBit (fK all e.on) j=true)):=by
 have:=(aaN all []).2.2 i o h j
 simpa [fK,sX] using this
omit [aJ] in
def agk {all:List Oper} {i:Nat} (h:all[i]? =none) (j:Nat):Nat.testBit (fK all i) j=false:=by
 unfold fK;rw [aD,bQ (by rw [aaO];simpa using h)];simp
omit [aJ] in
def apH {all:List Oper} : ∀(i:Nat) (j k:Nat),(∀i,∀j,Nat.testBit (fK all i) j=true->j<i)->Nat.testBit (fK all i) j=true->Nat.testBit (fK all j) k=true->Nat.testBit (fK all i) k=true:=by
 intro i
 induction i using Nat.strongRecOn with
 |_ i q=>
  intro j k d a f;cases b:all[i]? with
  |none=>rw [agk b] at a;cases a
  |some o=>
   obtain ⟨e,l,g,h|⟨p,h⟩⟩:=(QI b j).1 a
   ·subst h
    exact (QI b k).2 ⟨e,l,g,.inr ⟨d i e.on a,f⟩⟩
   ·exact (QI b k).2 ⟨e,l,g,.inr ⟨p,q e.on p j k d h f⟩⟩
omit [aJ] in
def apI (x:Operand) (t:Nat):Nat.testBit (ZL x) t=true↔x= .tmp t:=by
 cases x with
 |tmp d=>show Nat.testBit (Nat.pow 2 d) t=true↔_;rw [Vu];simp
 |_=>simp [ZL]
omit [aJ] in
def QJ (d:Option Tmp) (t:Nat):Nat.testBit (zF d) t=true↔d=some t:=by
 cases d with
 |some d=>show Nat.testBit (Nat.pow 2 d) t=true↔_;rw [Vu];simp
 |none=>simp [zF]
omit [aJ] in
def agl (t:Nat): ∀(l:List Operand) (s:Nat),Nat.testBit (zG l s) t=true↔(Nat.testBit s t=true\/ .tmp t∈l)
 | [],s=>by simp [zG]
 |x::l,s=>by
  simp only [zG];rw [agl t l,QH,dw,apI,bu]
  all_goals grind
def Looks (all:List Oper) (o:Oper) (t:Tmp):Prop:= .tmp t∈o.op.operands.toList\/ ∃j b a,o.guard=some (j,b)/\all[j]? =some a/\a.dst=some t
omit [aJ] in
def apJ (all:List Oper) (g:Option (Nat×Bool)) (t:Nat):Nat.testBit (Cj all g) t=true↔ ∃j b a,g=some (j,b)/\all[j]? =some a/\a.dst=some t:=by
 unfold Cj;split
 ·rename_i j b
  cases h:all[j]? with
  |none=>
   simp_all
  |some a=>
   simp only;rw [QJ]
   all_goals grind
 all_goals grind
omit [aJ] in
def agm (all:List Oper) (o:Oper) (t:Tmp):Nat.testBit (zG o.op.operands.toList (Cj all o.guard)) t=true↔Looks all o t:=by
 rw [agl,apJ];exact Or.comm
def Vv (all:List Oper) (x y:Oper):Prop:= ∃t,(x.dst=some t/\(Looks all y t\/y.dst=some t))\/(y.dst=some t/\Looks all x t)
omit [aJ] in
def agn {all:List Oper} {y:Oper} {pre:Nat} : ∀(l:List RW),MP (zG y.op.operands.toList (Cj all y.guard)) (zF y.dst) pre l=true->
 ∀r∈l,∀x,r.rd=zG x.op.operands.toList (Cj all x.guard)->r.wr=zF x.dst->Vv all x y->Nat.testBit pre r.ix=true
 | [],_,r,d=>by cases d
 |q::l,h,r,d=>by
  simp only [MP] at h;intro x e f ⟨t,hc⟩;rcases bu.1 d with rfl|d
  ·have i:Nat.beq (Nat.lor (Nat.land r.wr (Nat.lor (zG y.op.operands.toList (Cj all y.guard)) (zF y.dst))) (Nat.land (zF y.dst) r.rd)) 0=false:=by
    cases g:Nat.beq _ 0 with
    |false=>rfl
    |true=>
     have j:=bD g;have k:Nat.testBit (Nat.lor (Nat.land r.wr (Nat.lor (zG y.op.operands.toList (Cj all y.guard)) (zF y.dst))) (Nat.land (zF y.dst) r.rd)) t=true:=by
      rw [QH,aaM,QH,aaM,e,f];rcases hc with ⟨a,b|b⟩|⟨a,b⟩
      ·rw [(QJ _ _).2 a,(agm all y t).2 b];simp
      ·rw [(QJ _ _).2 a,(QJ _ _).2 b];simp
      ·rw [(QJ _ _).2 a,(agm all x t).2 b];simp
     all_goals grind
   all_goals grind
  ·have h':MP (zG y.op.operands.toList (Cj all y.guard)) (zF y.dst) pre l=true:=by
    grind
   exact agn l h' r d x e f ⟨t,hc⟩
omit [aJ] in
def aaP {all:List Oper} : ∀(l:List Oper) (f:List Nat) (i:Nat) (a:List RW),Fy all l f i a=true->
 (∀k o,l[k]? =some o->f.getD k 0<2^(i+k))/\
 (∀k o,l[k]? =some o-> ∀r∈a,∀x,r.rd=zG x.op.operands.toList (Cj all x.guard)->r.wr=zF x.dst->Vv all x o->Nat.testBit (f.getD k 0) r.ix=true)/\
 (∀k b x o,b<k->l[b]? =some x->l[k]? =some o->Vv all x o->Nat.testBit (f.getD k 0) (i+b)=true)
 | [],[],i,a,_=>⟨fun k o h=>(by cases h),fun k o h=>(by cases h),fun k b x o _ _ h=>(by cases h)⟩
 |o::l,B::f,i,a,h=>by
  simp only [Fy,au] at h;obtain ⟨t,u,y⟩:=h;obtain ⟨z,s,A⟩:=aaP l f (i+1) _ y;refine ⟨fun k e d=> ?_,fun k e d r q x j p hc=> ?_,fun k b x e C g d hc=> ?_⟩
  ·cases k with
   |zero=>simpa using sw.1 t
   |succ k=>have:=z k e (by simpa using d);simpa [eK,iC 1] using this
  ·cases k with
   |zero=>simp at d;subst d;simpa using agn a u r q x j p hc
   |succ k=>simpa using s k e (by simpa using d) r (aw _ q) x j p hc
  ·cases k with
   |zero=>omega
   |succ k=>
    cases b with
    |zero=>
     simp at g;subst g
     simpa using s k e (by simpa using d) _ (aE ..) o rfl rfl hc
    |succ b=>
     have:=A k b x e (by omega) (by simpa using g) (by simpa using d) hc;rw [show i+1+b=i+(b+1) by omega] at this
     simpa using this
 | [],_::_,i,a,h=>by simp [Fy] at h
 |_::_,[],i,a,h=>by simp [Fy] at h
structure Ordered (all:List Oper):Prop where
 lt: ∀i j,Nat.testBit (fK all i) j=true->j<i
 Vw: ∀j i x y,j<i->all[j]? =some x->all[i]? =some y->Vv all x y->Nat.testBit (fK all i) j=true
omit [aJ] in
def apK {all:List Oper} (h:Fy all all (sX all) 0 []=true):Ordered all where
 lt:=fun i j hj=>by
  cases ho:all[i]? with
  |none=>rw [agk ho] at hj;cases hj
  |some o=>
   have:=(aaP _ _ _ _ h).1 i o ho;rw [cV] at this;have h2:=mj (x:=(sX all).getD i 0) (i:=j);rcases bV j i with h3|h3
   ·exact h3
   ·exact absurd hj (by
     rw [show fK all i=(sX all).getD i 0 from rfl,mj (az this (aG (by omega) h3))];simp)
 Vw:=fun j i x y bB hx hy hc=>by
  have:=(aaP _ _ _ _ h).2.2 i j x y bB hx hy hc
  simpa [fK] using this
omit [aJ] in
def Ordered.trans {all:List Oper} (o:Ordered all) {i j k:Nat} (a:Nat.testBit (fK all i) j=true) (b:Nat.testBit (fK all j) k=true):Nat.testBit (fK all i) k=true:=apH i j k o.lt a b
end
section
variable [aJ] {S:Nat->Prop}
omit [aJ] in
def QK: ∀p:Pos,p.num=p.n
 | .one=>rfl
 | .o p=>by show Nat.mul 2 p.num=_;rw [QK p];rfl
 | .i p=>by show Nat.succ (Nat.mul 2 p.num)=_;rw [QK p];rfl
omit [aJ] in
def Vx {R:Type} (pre:Nat) (k:aP->R): ∀(l:List su) (h:aP),zH pre k l h=k (gy pre l h)
 | [],h=>rfl
 |p::l,h=>by
  simp only [zH,gy];cases Nat.testBit pre p.ix<;>simp only [cond_true,cond_false]<;>exact Vx pre k l _
omit [aJ] in
def ago {h:aP} {p:su} (a:(h.at p.n).obj= .free) (n:Pos):(h.lay p).at n=if p.n=n then ⟨p.ob,p.n⟩ else h.at n:=by
 unfold aP.lay;rw [a];exact fX.DZ _ _ _ _
omit [aJ] in
def agp {h:aP} {p:su} (a:(h.at p.n).obj≠ .free):h.lay p=h:=by
 unfold aP.lay;cases b:(h.at p.n).obj<;>first|exact absurd b a|rfl
omit [aJ] in
def apL (h:aP) (p:su):(h.lay p).nx=h.nx/\(h.lay p).al=h.al/\(h.lay p).df=h.df:=by
 unfold aP.lay;split<;>exact ⟨rfl,rfl,rfl⟩
omit [aJ] in
def Ky (pre:Nat): ∀(l:List su) (h:aP),(gy pre l h).nx=h.nx/\(gy pre l h).al=h.al/\(gy pre l h).df=h.df
 | [],h=>⟨rfl,rfl,rfl⟩
 |p::l,h=>by
  simp only [gy];cases Nat.testBit pre p.ix<;>simp only [cond_true,cond_false]
  ·exact Ky pre l h
  ·obtain ⟨a,b,c⟩:=Ky pre l (h.lay p)
   obtain ⟨d,e,f⟩:=apL h p
   all_goals grind
omit [aJ] in
def D8 (pre:Nat): ∀(l:List su) (h:aP),(∀p∈l,Nat.testBit pre p.ix=true->p.ob.pI=true)-> ∀n,
 (gy pre l h).at n=h.at n\/((h.at n).obj= .free/\ ∃p∈l,Nat.testBit pre p.ix=true/\p.n=n/\(gy pre l h).at n=⟨p.ob,n⟩)
 | [],h,_,n=> .inl rfl
 |p::l,h,i,n=>by
  simp only [gy];have f:=fun q d=>i q (aw _ d)
  cases k:Nat.testBit pre p.ix with
  |false=>
   simp only [cond_false];rcases D8 pre l h f n with e|⟨a,q,d,b⟩
   all_goals grind
  |true=>
   simp only [cond_true];by_cases g:(h.at p.n).obj= .free
   ·have j:=ago g n
    rcases D8 pre l (h.lay p) f n with e|⟨a,q,d,b⟩
    all_goals grind
   ·rw [agp g]
    rcases D8 pre l h f n with e|⟨a,q,d,b⟩
    all_goals grind
omit [aJ] in
def aaQ {pre:Nat} {l:List su} {h:aP} (b: ∀p∈l,Nat.testBit pre p.ix=true->p.ob.pI=true) {n:Pos} (d:aF h n):(gy pre l h).at n=h.at n:=by
 rcases D8 pre l h b n with e|⟨a,_⟩
 ·exact e
 ·exact absurd a d
omit [aJ] in
def QL {pre:Nat} {l:List su} {h:aP} (b: ∀p∈l,Nat.testBit pre p.ix=true->p.ob.pI=true) {n:Pos} (a:aF h n):aF (gy pre l h) n:=by
 unfold aF;rw [aaQ b a];exact a
omit [aJ] in
def agq {pre:Nat} : ∀(l:List su) (h:aP),(∀p∈l,Nat.testBit pre p.ix=true->p.ob.pI=true)-> ∀p∈l,Nat.testBit pre p.ix=true->aF (gy pre l h) p.n
 |q::l,h,e,p,b,d=>by
  have f:=fun q g=>e q (aw _ g)
  simp only [gy];rcases bu.1 b with rfl|b
  ·rw [d]
   simp only [cond_true];apply QL f;by_cases a:(h.at p.n).obj= .free
   ·unfold aF;rw [ago a,if_pos rfl];exact anY (e p (by simp) d)
   ·rw [agp a];exact a
  ·cases Nat.testBit pre q.ix<;>simp only [cond_true,cond_false]<;>exact agq l _ f p b d
omit [aJ] in
def agr {pre:Nat} {l:List su} {h:aP} (d: ∀p∈l,Nat.testBit pre p.ix=true->p.ob.pI=true) (n:Pos):aF (gy pre l h) n↔(aF h n\/ ∃p∈l,Nat.testBit pre p.ix=true/\p.n=n):=by
 constructor
 ·intro f
  rcases D8 pre l h d n with e|⟨_,p,g,a,b,_⟩
  ·unfold aF at f⊢
   all_goals grind
  all_goals grind
 ·rintro (f|⟨p,g,a,rfl⟩)
  ·exact QL d f
  ·exact agq l h d p g a
section
variable {G:gb} {m m':Mp} {h h':aP} {w w':World}
omit [aJ] in
def H8 (a:h'.t=h.t) (n:Pos):aF h' n↔aF h n:=by unfold aF aP.at;rw [a]
omit [aJ] in
def aaR (a:h'.t=h.t) (n:Pos):h'.at n=h.at n:=by unfold aP.at;rw [a]
omit [aJ] in
def Kz (a:h'.t=h.t) (n:Pos):bk h' n↔bk h n:=by unfold bk aP.at;rw [a]
omit [aJ] in
def ags {pre:Nat} {l:List su} (b: ∀p∈l,Nat.testBit pre p.ix=true->p.ob.pI=true) {n:Pos} (a:bk h n):bk (gy pre l h) n:=by
 unfold bk;rw [aaQ b a.aF];exact a
omit [aJ] in
def aaS {pre:Nat} {l:List su} (d: ∀p∈l,Nat.testBit pre p.ix=true->p.ob.pI=true) {n:Pos} (f:bk (gy pre l h) n):bk h n\/((h.at n).obj= .free/\ ∃p∈l,Nat.testBit pre p.ix=true/\p.n=n):=by
 rcases D8 pre l h d n with e|⟨a,p,g,b,c,_⟩
 ·unfold bk at f⊢
  all_goals grind
 all_goals grind
omit [aJ] in
def Vy {pre:Nat} {l:List su} (g: ∀p∈l,Nat.testBit pre p.ix=true->p.ob.pI=true) {n:Pos} {id:Nat} :((gy pre l h).at n).obj= .ga id↔(h.at n).obj= .ga id:=by
 constructor
 ·intro e
  rcases D8 pre l h g n with f|⟨a,p,i,b,c,d⟩
  ·rw [f] at e;exact e
  ·rw [d] at e;have:=g p i b;simp only at e;rw [e] at this;cases this
 ·intro e
  rw [aaQ g (fun f=>by rw [f] at e;cases e)];exact e
def bR.ext (r:bR G S m h w) (e:h'.t=h.t) (b:h'.al=h.al) (d: ∀n,aF h n->n.n<h'.nx.n):bR G S m h' w:=by
 obtain ⟨j,i,f,g⟩:=h';simp only at e b;subst e;subst b;exact ⟨r.blk,fun n a=>d n a,r.apart,r.mem,fun n a=>⟨d _ (r.mq n a).2,(r.mq n a).2⟩,r.ins,r.qF,r.jf,r.lim⟩
def bR.lt (r:bR G S m h w) {n:Pos} (d:bk h n):m.b n<w.heap.size:=by
 obtain ⟨o,a,_⟩:=r.blk n d;exact (ax.1 a).1
def bR.shrink {S':Nat->Prop} (r:bR G S m h w) (f: ∀b,S' b->S b):bR G S' m h w:=
 ⟨r.blk,r.fresh,r.apart,r.mem,r.mq,r.ins,r.qF,fun n id i k j=>r.jf n id i k fun b d a g=>j b d (fun e=>a (f b e)) g,fun b d=>r.lim b (f b d)⟩
def bR.congr {S':Nat->Prop} (r:bR G S m h w) (hm: ∀n,aF h n->m'.b n=m.b n/\m'.cv n=m.cv n) (hw: ∀b,b<w.heap.size->w'.heap[b]? =w.heap[b]?) (hsz:w.heap.size<=w'.heap.size) (hSS: ∀b,b<w.heap.size->S' b->S b) (hlim: ∀b,S' b->b<w'.heap.size):bR G S' m' h w' where
 lim:=hlim
 blk:=fun n hd=>by
  obtain ⟨o,h1,h2⟩:=r.blk n hd;exact ⟨o,by rw [(hm n hd.aF).1,hw _ (r.lt hd)];exact h1,Kb hm (r.ins n) (hm n hd.aF).2 h2⟩
 fresh:=r.fresh
 apart:=fun n k a b c=>by rw [(hm n a.aF).1,(hm k b.aF).1];exact r.apart n k a b c
 mem:=r.mem
 mq:=r.mq
 ins:=r.ins
 qF:=fun g l hg=>by
  obtain ⟨⟨rest,e,fz,h1⟩,h2⟩:=r.qF g l hg;exact ⟨⟨rest,e,fz,by grind⟩,fun n hd=>by rw [(hm n hd.aF).1];exact h2 n hd⟩
 jf:=fun n id hn w2 iM=>by
  have hd:aF h n:=fun e=>by rw [e] at hn;cases hn
  have e:m'.v n=m.v n:=by unfold Mp.v;rw [(hm n hd).2]
  rw [e];exact r.jf n id hn w2 fun b hb hS hk=>by rw [iM b (az hb hsz) (fun e=>hS (hSS b hb e)) fun k i5=>by rw [(hm k i5.aF).1];exact hk k i5,hw b hb]
def bR.agt (r:bR G S m h w) {pre:Nat} {l:List su} (u: ∀p∈l,Nat.testBit pre p.ix=true->p.ob.pI=true)
 (D: ∀p∈l,Nat.testBit pre p.ix=true->(h.at p.n).obj= .free->(∃o,w.heap[m.b p.n]? =some o/\vb m p.n p.ob o)/\p.n.n<h.nx.n/\(∀k,bk h k->m.b k≠m.b p.n)/\
  zK (aF (gy pre l h)) p.ob/\ ∀g x,G.g g=some x->m.b p.n≠g)
 (Q: ∀p∈l,∀q∈l,Nat.testBit pre p.ix=true->Nat.testBit pre q.ix=true->(h.at p.n).obj= .free->(h.at q.n).obj= .free->p.n≠q.n->m.b p.n≠m.b q.n)
 (J: ∀p∈l,Nat.testBit pre p.ix=true->(h.at p.n).obj= .free->S (m.b p.n)):bR G S m (gy pre l h) w:=by
 obtain ⟨F,M,X⟩:=Ky pre l h;have A: ∀n,aF (gy pre l h) n->(aF h n/\(gy pre l h).at n=h.at n)\/((h.at n).obj= .free/\ ∃p∈l,Nat.testBit pre p.ix=true/\p.n=n/\(gy pre l h).at n=⟨p.ob,n⟩):=fun n d=>by
  rcases D8 pre l h u n with e|e
  ·unfold aF at d;rw [e] at d;exact .inl ⟨d,e⟩
  ·exact .inr e
 have B: ∀n,bk (gy pre l h) n->(bk h n/\(gy pre l h).at n=h.at n)\/((h.at n).obj= .free/\ ∃p∈l,Nat.testBit pre p.ix=true/\p.n=n/\(gy pre l h).at n=⟨p.ob,n⟩):=fun n d=>by
  rcases D8 pre l h u n with e|e
  ·unfold bk at d;rw [e] at d;exact .inl ⟨d,e⟩
  ·exact .inr e
 refine ⟨fun n d=> ?_,fun n d=> ?_,fun n k z y f=> ?_,fun n k z y f H=> ?_,fun n d=> ?_,fun n=> ?_,fun g x C=>⟨(r.qF g x C).1,fun n d=> ?_⟩,fun n id z W R=>r.jf n id ((Vy u).1 z) W fun b O N y=>R b O N fun k Y=> ?_,r.lim⟩
 ·rcases B n d with ⟨a,e⟩|⟨a,p,i,j,rfl,e⟩
  ·rw [e];exact r.blk n a
  all_goals grind
 ·rw [F]
  rcases A n d with ⟨a,e⟩|⟨a,p,i,j,rfl,e⟩
  ·exact r.fresh n a
  all_goals grind
 ·rcases B n z with ⟨a,e⟩|⟨a,p,i,j,rfl,e⟩<;>rcases B k y with ⟨t,s⟩|⟨t,U,I,T,rfl,s⟩
  ·rw [e,s] at f;exact r.apart n k a t f
  all_goals grind
 ·rcases A n z with ⟨a,e⟩|⟨a,p,i,j,rfl,e⟩<;>rcases A k y with ⟨t,s⟩|⟨t,U,I,T,rfl,s⟩
  ·rw [e,s] at f;rw [e,M];exact r.mem n k a t f H
  ·rw [e,s] at f;have:=(r.mq n a).2;rw [f] at this;exact absurd t this
  ·rw [e,s] at f;have:=(r.mq k t).2;rw [<-f] at this;exact absurd a this
  ·rw [e,s] at f;exact absurd f H
 ·rw [F]
  rcases A n d with ⟨a,e⟩|⟨a,p,i,j,rfl,e⟩
  ·rw [e];exact ⟨(r.mq n a).1,QL u (r.mq n a).2⟩
  ·rw [e];exact ⟨(D p i j a).2.1,d⟩
 ·rcases D8 pre l h u n with e|⟨a,p,i,j,rfl,e⟩
  ·rw [e];exact yi (fun k y=>QL u y) (r.ins n)
  ·rw [e];exact (D p i j a).2.2.2.1
 ·rcases B n d with ⟨a,e⟩|⟨a,p,i,j,rfl,e⟩
  ·exact (r.qF g x C).2 n a
  ·exact (D p i j a).2.2.2.2 g x C
 all_goals grind
omit [aJ] in
def Goes.apM {d:Mp} (g:Goes m h w m' h' w') (e: ∀n,aF h' n->d.b n=m'.b n/\d.cv n=m'.cv n) (f: ∀n,n.n<h.nx.n->d.b n=m.b n/\d.cv n=m.cv n):Goes m h w d h' w':=
 ⟨g.tape,g.os,g.output,g.size,g.xj,f,g.nx,g.FF,fun n a b=>by rw [(e n a.aF).1];exact g.yj n a b,g.old,g.bold,g.Hp⟩
omit [aJ] in
def Goes.lay {e:aP} (g:Goes m h w m' h' w') (p:h'.nx.n<=e.nx.n) (f: ∀n,aF h' n->aF e n)
 (k: ∀n,aF e n->aF h' n\/h.nx.n<=n.n) (l: ∀n,bk h' n->bk e n) (i: ∀n,bk e n->bk h' n\/w.heap.size<=m'.b n) (j: ∀n id,(h'.at n).obj= .ga id->(e.at n).obj= .ga id):Goes m h w m' e w':=
 ⟨g.tape,g.os,g.output,g.size,g.xj,g.agree,aK g.nx p,
  fun n d=>by rcases k n d with a|a;exact g.FF n a;exact .inr a,
  fun n d o=>by rcases i n d with a|a;exact g.yj n a o;exact .inl a,fun n d=>f n (g.old n d),fun n d=>l n (g.bold n d),fun n id d=>j n id (g.Hp n id d)⟩
end
def only (tm:Tm):List Nat->Tm
 | []=>zA
 |t::l=>(zB t).f (gW t tm) (only tm l)
omit [aJ] in
def aaT (tm:Tm): ∀(l:List Nat) (t:Nat),gW t (only tm l)=if t∈l then gW t tm else oG
 | [],t=>by simp [only,Vq]
 |x::l,t=>by
  simp only [only];rw [Ku,aaT tm l]
  all_goals grind
end
section
variable [aJ] {S:Nat->Prop}
inductive Kd where
 |skip|pu|rd|nw (ob:jG) (mk:Mk)|wr
def KA (all:List Oper) (o:Oper) (tm:Tm):Prop:=um all o.guard=none\/ ∃a,um all o.guard=some a/\a.f tm=some true
def s6 (E:Env) (all:List Oper) (cf:(FuncId->List aj->aP->VR)) (i:Nat) (k:Kd) (v:aj) (s s':DS) (o:Oper):Prop:=
 match k with
 | .skip=>v=oG/\(∃b,um all o.guard=some b/\b.f s.tm=some false)/\s'.h=s.h/\s'.qE=s.qE/\s'.chain=s.chain/\s'.held=s.held/\s'.dz=s.dz
 | .pu=>KA all o s.tm/\(∃f,pG E o.op= .pu f/\f s.tm=some v)/\s'.h=s.h/\s'.qE=s.qE/\s'.chain=s.chain/\s'.held=s.held/\s'.dz=s.dz
 | .rd=>KA all o s.tm/\(∃f,pG E o.op= .rd f/\f s.tm (gy (fK all i) s.dz s.h)=some v/\
   Qc (fK all i) s.h.nx (fun h=>f s.tm (gy (fK all i) s.dz h)) v s.qE=true/\s'.held=⟨i,fun h=>f s.tm (gy (fK all i) s.dz h),v⟩::s.held)/\
   s'.h=s.h/\s'.qE=s.qE/\s'.chain=s.chain/\s'.dz=s.dz
 | .nw a mk=>KA all o s.tm/\(∃f,pG E o.op= .nw f/\f s.tm=some (a,mk))/\v=mk.mk s.h.nx/\s'.h=⟨s.h.t,s.h.nx.succ,s.h.al,s.h.df⟩/\s'.qE=s.qE/\s'.chain=s.chain/\s'.held=s.held/\s'.dz=⟨i,s.h.nx,a⟩::s.dz
 | .wr=>KA all o s.tm/\(∃f,pG E o.op= .wr f/\(f s.tm (gy (fK all i) s.dz s.h)= .ok v s'.h\/
   ∃g args,f s.tm (gy (fK all i) s.dz s.h)= .call g args/\cf g args (gy (fK all i) s.dz s.h)= .ok v s'.h))/\
   (Nat.land s.chain (fK all i)=s.chain)/\J9 (fK all i) s'.h s.held=true/\s.h.nx.n<=s'.h.nx.n/\
   s'.qE=(i,s.h)::s.qE/\s'.chain=Nat.lor s.chain (Nat.pow 2 i)/\s'.held=s.held/\s'.dz=s.dz
omit [aJ] in
def aaU {α:Type} {b:Bool} {o:Option α} {r:α} (h:cond b o none=some r):b=true/\o=some r:=by
 grind
omit [aJ] in
def agu {E:Env} {all:List Oper} {cf:(FuncId->List aj->aP->VR)} {i:Nat} {o:Oper} {p:Cg} {s s':DS} (j:KA all o s.tm)
 (e:Qd i (fK all i) (pG E o.op) p cf s=some s'): ∃k v,s6 E all cf i k v s s' o/\s'.tm=p.f v s.tm:=by
 unfold Qd at e;cases d:pG E o.op with
 |pu f=>
  rw [d] at e;simp only at e;cases a:f s.tm with
  |none=>rw [a] at e;cases e
  |some v=>rw [a] at e;cases e;exact ⟨.pu,v,⟨j,⟨f,d,a⟩,rfl,rfl,rfl,rfl,rfl⟩,rfl⟩
 |nw f=>
  rw [d] at e;simp only at e;cases a:f s.tm with
  |none=>rw [a] at e;cases e
  |some q=>rw [a] at e;cases e;exact ⟨.nw q.1 q.2,q.2.mk s.h.nx,⟨j,⟨f,d,a⟩,rfl,rfl,rfl,rfl,rfl,rfl⟩,rfl⟩
 |rd f=>
  rw [d] at e;simp only at e;have A:zH (fK all i) (f s.tm) s.dz=fun h=>f s.tm (gy (fK all i) s.dz h):=funext fun h=>Vx _ _ _ _
  rw [A] at e;dsimp only at e;cases a:f s.tm (gy (fK all i) s.dz s.h) with
  |none=>rw [a] at e;cases e
  |some v=>
   rw [a] at e;simp only at e;obtain ⟨l,b⟩:=aaU e;cases b;exact ⟨.rd,v,⟨j,⟨f,d,a,l,rfl⟩,rfl,rfl,rfl,rfl⟩,rfl⟩
 |wr f=>
  rw [d] at e;simp only at e;obtain ⟨l,b⟩:=aaU e;rw [Vx] at b;have t:=bD l;have fin: ∀v h',cond (J9 (fK all i) h' s.held&&Nat.ble (gy (fK all i) s.dz s.h).nx.num h'.nx.num) (some (DS.mk (p.f v s.tm) h' ((i,s.h)::s.qE) (Nat.lor s.chain (Nat.pow 2 i)) s.held s.dz)) none=some s'->
   (f s.tm (gy (fK all i) s.dz s.h)= .ok v h'\/ ∃g args,f s.tm (gy (fK all i) s.dz s.h)= .call g args/\cf g args (gy (fK all i) s.dz s.h)= .ok v h')->
   ∃k v,s6 E all cf i k v s s' o/\s'.tm=p.f v s.tm:=fun v h' x y=>by
   obtain ⟨u,z⟩:=aaU x;rw [au,QK,QK,(Ky _ _ _).1] at u;cases z;exact ⟨.wr,v,⟨j,⟨f,d,y⟩,t,u.1,bq u.2,rfl,rfl,rfl,rfl⟩,rfl⟩
  cases a:f s.tm (gy (fK all i) s.dz s.h) with
  |fail=>rw [a] at b;cases b
  |ok v h'=>rw [a] at b;exact fin v h' b (.inl a)
  |call g args=>
   rw [a] at b;simp only at b;cases hc:cf g args (gy (fK all i) s.dz s.h) with
   |fail=>rw [hc] at b;cases b
   |ok v h'=>rw [hc] at b;exact fin v h' b (.inr ⟨g,args,a,hc⟩)
omit [aJ] in
def apO {E:Env} {all:List Oper} {cf:(FuncId->List aj->aP->VR)} {i:Nat} {o:Oper} {p:Cg} {s s':DS}
 (e:(MQ i (fK all i) (um all o.guard) (pG E o.op) p).f cf s=some s'): ∃k v,s6 E all cf i k v s s' o/\s'.tm=p.f v s.tm:=by
 unfold MQ at e;cases a:um all o.guard with
 |none=>rw [a] at e;exact agu (.inl a) e
 |some g=>
  rw [a] at e;simp only at e;cases d:g.f s.tm with
  |none=>rw [d] at e;cases e
  |some b=>
   rw [d] at e;cases b with
   |true=>exact agu (.inr ⟨g,a,d⟩) e
   |false=>cases e;exact ⟨.skip,oG,⟨rfl,⟨g,a,d⟩,rfl,rfl,rfl,rfl,rfl⟩,rfl⟩
structure Run (E:Env) (nt:Nat) (all:List Oper) (cf:(FuncId->List aj->aP->VR)) (s0 sN:DS) (st:Nat->DS) (K:Nat->Kd) (v:Nat->aj):Prop where
 first:st 0=s0
 last:st all.length=sN
 step: ∀i o,all[i]? =some o-> ∃p,yg nt o.dst=some p/\(st (i+1)).tm=p.f (v i) (st i).tm/\s6 E all cf i (K i) (v i) (st i) (st (i+1)) o
omit [aJ] in
def agv {E:Env} {nt:Nat} {all:List Oper} {cf:(FuncId->List aj->aP->VR)} : ∀(l:List Oper) (i:Nat) (s sN:DS),all.drop i=l->(DX E nt all l ((sX all).drop i) i).f cf s=some sN->
 ∃(st:Nat->DS) (K:Nat->Kd) (v:Nat->aj),st i=s/\st (i+l.length)=sN/\
  ∀j o,i<=j->all[j]? =some o-> ∃p,yg nt o.dst=some p/\(st (j+1)).tm=p.f (v j) (st j).tm/\s6 E all cf j (K j) (v j) (st j) (st (j+1)) o
 | [],i,s,sN,d,e=>by
  have q:all.length<=i:=by
   simp_all
  cases a:(sX all).drop i with
  |cons x y=>have:=congrArg List.length a;simp [aaO] at this;omega
  |nil=>
   rw [a] at e;simp only [DX] at e;cases e;exact ⟨fun _=>s,fun _=> .skip,fun _=>oG,rfl,rfl,fun j o A t=>by
    grind⟩
 |o::l,i,s,sN,d,e=>by
  have t:all[i]? =some o:=by
   have:(all.drop i)[0]? =some o:=by rw [d];rfl
   simpa using this
  have z:all.drop (i+1)=l:=by rw [<-List.drop_drop,d];rfl
  have a:(sX all).drop i=fK all i::(sX all).drop (i+1):=by
   have g:i<(sX all).length:=by rw [aaO];exact (fg.1 t).1
   rw [gp g];congr 1;simp [fK,g]
  rw [a] at e;simp only [DX] at e;cases u:yg nt o.dst with
  |none=>rw [u] at e;cases e
  |some p=>
   rw [u] at e;simp only at e;cases b:(MQ i (fK all i) (um all o.guard) (pG E o.op) p).f cf s with
   |none=>rw [b] at e;cases e
   |some C=>
    rw [b] at e;obtain ⟨k,v,I,J⟩:=apO b;obtain ⟨st,K,V,D,F,H⟩:=agv l (i+1) C sN z e;refine ⟨fun j=>if j<=i then s else st j,fun j=>if j<=i then k else K j,fun j=>if j<=i then v else V j,by simp,?_,fun j M A B=> ?_⟩
    all_goals grind
omit [aJ] in
def apP {E:Env} {nt:Nat} {all:List Oper} {cf:(FuncId->List aj->aP->VR)} {s sN:DS} (e:(DX E nt all all (sX all) 0).f cf s=some sN): ∃st K v,Run E nt all cf s sN st K v:=by
 obtain ⟨st,K,v,a,b,c⟩:=agv (E:=E) (nt:=nt) (all:=all) (cf:=cf) all 0 s sN rfl e;exact ⟨st,K,v,a,by simpa using b,fun i o d=>c i o (b6 _) d⟩
section
variable {E:Env} {nt:Nat} {all:List Oper} {cf:(FuncId->List aj->aP->VR)} {s0 sN:DS} {st:Nat->DS} {K:Nat->Kd} {v:Nat->aj}
omit [aJ] in
def Run.get (r:Run E nt all cf s0 sN st K v) {i:Nat} (hi:i<all.length): ∃o p,all[i]? =some o/\yg nt o.dst=some p/\(st (i+1)).tm=p.f (v i) (st i).tm/\s6 E all cf i (K i) (v i) (st i) (st (i+1)) o:=by
 have a:all[i]? =some all[i]:=aM hi;obtain ⟨p,h⟩:=r.step i _ a
 all_goals grind
omit [aJ] in
def Run.apQ (r:Run E nt all cf s0 sN st K v) {i:Nat} (hi:i<all.length):(st i).h.nx.n<=(st (i+1)).h.nx.n:=by
 obtain ⟨o,p,_,_,_,a⟩:=r.get hi;cases b:K i<;>rw [b] at a<;>simp only [s6] at a
 ·simp_all
 ·simp_all
 ·simp_all
 ·rw [a.2.2.2.1];show _<=(st i).h.nx.succ.n;rw [Pos.Hl];omega
 all_goals grind
omit [aJ] in
def Run.mono (r:Run E nt all cf s0 sN st K v) {i:Nat} : ∀ {j:Nat},i<=j->j<=all.length->(st i).h.nx.n<=(st j).h.nx.n
 |0,h,_=>by simp_all
 |j+1,h,a=>by
  by_cases e:i=j+1
  ·simp_all
  ·exact aK (r.mono (by omega) (by omega)) (r.apQ (by omega))
omit [aJ] in
def Run.apR (r:Run E nt all cf s0 sN st K v) {i:Nat} (hi:i<all.length) (d:K i≠ .wr):(st (i+1)).h.t=(st i).h.t/\(st (i+1)).h.al=(st i).h.al/\(st (i+1)).h.df=(st i).h.df:=by
 obtain ⟨o,p,_,_,_,a⟩:=r.get hi;cases b:K i<;>rw [b] at a<;>simp only [s6] at a
 all_goals grind
omit [aJ] in
def Run.quiet (r:Run E nt all cf s0 sN st K v) {i:Nat} : ∀ {j:Nat},i<=j->j<=all.length->(∀c,i<=c->c<j->K c≠ .wr)->(st j).h.t=(st i).h.t/\(st j).h.al=(st i).h.al/\(st j).h.df=(st i).h.df
 |0,h,_,_=>by simp_all
 |j+1,h,o,hc=>by
  by_cases e:i=j+1
  ·simp_all
  ·obtain ⟨a,b,c⟩:=r.quiet (i:=i) (j:=j) (by omega) (by omega) (fun c d l=>hc c d (by omega))
   obtain ⟨f,g,k⟩:=r.apR (i:=j) (by omega) (hc j (by omega) (by omega))
   all_goals grind
omit [aJ] in
def Run.chain (r:Run E nt all cf s0 sN st K v) (b:s0.chain=0) (j:Nat): ∀ {k:Nat},k<=all.length->(Nat.testBit (st k).chain j=true↔(j<k/\K j= .wr))
 |0,_=>by rw [r.first,b];simp
 |k+1,l=>by
  obtain ⟨o,p,_,_,_,a⟩:=r.get (i:=k) (by omega);have g:=r.chain b j (k:=k) (by omega);have same:(st (k+1)).chain=(st k).chain->K k≠ .wr->(Nat.testBit (st (k+1)).chain j=true↔(j<k+1/\K j= .wr)):=fun e d=>by
   grind
  cases f:K k<;>rw [f] at a<;>simp only [s6] at a
  ·simp_all
  ·simp_all
  ·simp_all
  ·simp_all
  ·obtain ⟨_,_,_,_,_,_,hc,_⟩:=a
   rw [hc,QH,Vu,dw,g,decide_eq_true_eq]
   all_goals grind
omit [aJ] in
def Run.ordered (r:Run E nt all cf s0 sN st K v) (e:s0.chain=0) {c a:Nat} (d:c<a) (i:a<all.length) (f:K c= .wr) (g:K a= .wr):Nat.testBit (fK all a) c=true:=by
 obtain ⟨o,p,_,_,_,b⟩:=r.get i;rw [g] at b;simp only [s6] at b;have:=(r.chain e c (k:=a) (by omega)).2 ⟨d,f⟩;rw [<-b.2.2.1,aaM,au] at this;exact this.2
omit [aJ] in
def Run.dz (r:Run E nt all cf s0 sN st K v) (g:s0.dz= []) (x:su): ∀ {k:Nat},k<=all.length->(x∈(st k).dz↔ ∃mk,x.ix<k/\K x.ix= .nw x.ob mk/\x.n=(st x.ix).h.nx)
 |0,_=>by rw [r.first,g];simp
 |k+1,u=>by
  obtain ⟨o,p,_,_,_,d⟩:=r.get (i:=k) (by omega);have s:=r.dz g x (k:=k) (by omega);have same:(st (k+1)).dz=(st k).dz->(∀f mk,K k≠ .nw f mk)->(x∈(st (k+1)).dz↔ ∃mk,x.ix<k+1/\K x.ix= .nw x.ob mk/\x.n=(st x.ix).h.nx):=fun e q=>by
   grind
  cases j:K k<;>rw [j] at d<;>simp only [s6] at d
  ·simp_all
  ·simp_all
  ·simp_all
  ·rename_i f mk
   obtain ⟨_,_,_,_,_,_,_,l⟩:=d;rw [l,bu,s];constructor
   ·grind
   ·rintro ⟨t,a,b,c⟩
    by_cases e:x.ix=k
    ·rw [e,j] at b
     cases b;left;obtain ⟨ix,n,f⟩:=x
     all_goals grind
    all_goals grind
  all_goals grind
omit [aJ] in
def Run.held (r:Run E nt all cf s0 sN st K v) {x:UR} {i:Nat} (b:x∈(st i).held): ∀ {k:Nat},i<=k->k<=all.length->x∈(st k).held
 |0,h,_=>by simp_all
 |k+1,h,f=>by
  by_cases e:i=k+1
  ·subst e;exact b
  ·obtain ⟨o,p,_,_,_,a⟩:=r.get (i:=k) (by omega)
   have g:=r.held b (k:=k) (by omega) (by omega);cases d:K k<;>rw [d] at a<;>simp only [s6] at a
   all_goals grind
omit [aJ] in
def agw {o:Option aj} {v:aj} (h:ZM o v=true):o=some v:=by
 cases o with
 |none=>cases h
 |some u=>rw [aj.pH u v h]
omit [aJ] in
def Run.back (r:Run E nt all cf s0 sN st K v) (s:s0.qE= []) (b:s0.chain=0) {pre:Nat} {l:Pos} {f:aP->Option aj} {u:aj} (d: ∀c q,Nat.testBit pre q=true->Nat.testBit (fK all q) c=true->Nat.testBit pre c=true):
 ∀ {k:Nat},k<=all.length->Qc pre l f u (st k).qE=true-> ∀c,c<k->K c= .wr->Nat.testBit pre c=false->f ⟨(st c).h.t,l,(st c).h.al,(st c).h.df⟩=some u
 |0,_,_,c,hc,_,_=>by omega
 |k+1,C,a,c,hc,j,x=>by
  obtain ⟨o,p,_,_,_,g⟩:=r.get (i:=k) (by omega);have same:(st (k+1)).qE=(st k).qE->K k≠ .wr->f ⟨(st c).h.t,l,(st c).h.al,(st c).h.df⟩=some u:=fun e B=>by
   rw [e] at a;refine r.back s b d (k:=k) (by omega) a c ?_ j x
   all_goals grind
  cases z:K k<;>rw [z] at g<;>simp only [s6] at g
  ·simp_all
  ·simp_all
  ·simp_all
  ·simp_all
  ·obtain ⟨_,_,_,_,_,A,_⟩:=g
   rw [A] at a;simp only [Qc] at a;cases y:Nat.testBit pre k with
   |true=>
    by_cases e:c=k
    ·simp_all
    ·have:=d c k y (r.ordered b (by omega) (by omega) j z)
     all_goals grind
   |false=>
    rw [y] at a;simp only [cond_false,au] at a;by_cases e:c=k
    ·subst e;exact agw a.1
    ·exact r.back s b d (k:=k) (by omega) a.2 c (by omega) j x
omit [aJ] in
def agx {pre:Nat} {h:aP} : ∀ {l:List UR},J9 pre h l=true-> ∀x∈l,Nat.testBit pre x.ix=false->x.f h=some x.v
 |y::l,a,x,b,d=>by
  simp only [J9,au] at a;rcases bu.1 b with rfl|b
  ·rw [d] at a;exact agw a.1
  ·exact agx a.2 x b d
end
end
end Go.Ev
