/- refineFuel_proved. -/
import Derived.Test.YtnmpjdgobafdkaaGreatDoorPmav
set_option maxRecDepth 100000
set_option maxHeartbeats 16000000
set_option linter.all false
noncomputable section
namespace Go.Proofs.YtnmpjdgobafdkaaGreatDoor
section
open Go.RowKit Go.Ev
section
variable {B:List BD} {L M:List SD} {g:List Ag} {ps nb:List BD} {s:St}
def aiw (m:dU B L) {k:List SD} (d:C1 (Am B g) ps=true) (u:k=Ls L ps g): ∀ {l:List (Nat×BD)},(∀x∈l,x.2.ok (aU k x.1))->dU (IL g l B) L
 | [],_=>m
 |x::l,h=>by
  have f:=aiw m d u (l:=l) fun y I=>h y (aw _ I)
  have t:=h x aE;simp only [IL];cases e:po g x.1 with
  |none=>exact f
  |some a=>
   simp only;cases C:a.ix with
   |none=>exact f
   |some i=>
    simp only;refine f.set fun p=> ?_
    have z: ∃b,mZ (a.bd B) b=true/\aU k x.1=a.sd L b:=by
     subst u;clear h t f p;revert d e;generalize x.1=j;intro d e
     induction g generalizing ps j with
     |nil=>cases e
     |cons A g o=>
      cases ps with
      |nil=>cases d
      |cons b ps=>
       obtain ⟨E,F⟩:=aY (show (mZ (A.bd B) b&&C1 (Am B g) ps)=true from d);cases j with
       |zero=>cases e;exact ⟨b,E,rfl⟩
       |succ j=>exact o (ps:=ps) j F e
    obtain ⟨b,G,D⟩:=z;rw [D] at t;have H:=f.get p;refine asT H ?_;rcases asW m G C with q|⟨q,J⟩
    all_goals grind
def IQ (L:List SD) (s:St):Bool:=(match s.f with
 |f::_=>f.ok L
 | []=>true)&&(match s.t with
 |e::_=>qL L false e.a&&e.r.ok L true
 | []=>true)
def ace: ∀ {l:List St} {t:St},t∈l-> ¬NU t.b=true->t∈live l
 |a::l,t,h,d=>by
  simp only [live];rcases bu.1 h with rfl|q
  ·simp_all
  ·cases NU a.b
   ·exact aw _ (ace q d)
   ·exact ace q d
def aix {c:Cn} : ∀ {l:List Alt} {a:Alt},a∈l->ab3 s c g a∈W5 s c g l
 |b::l,a,h=>by
  rcases bu.1 h with rfl|q
  ·exact aE
  ·exact aw _ (aix q)
def aaw {c:Cn} (hc:Holds c) {z:List St} (h:ab4 s c g=some z) (R:Sat s L) (S: ∀t∈z,∀K,dU t.b K->IQ K t=true): ∃t∈z,∃M,Sat t (L++M):=by
 unfold ab4 at h;rcases yG h with ⟨d,o⟩|⟨_,o⟩
 case inr=>cases o
 cases o;obtain ⟨d,H⟩:=aY d;obtain ⟨i,G,⟨O,X⟩,N,W⟩:=R;obtain ⟨P,m⟩:=ab7 i d;obtain ⟨a,Q,M,l,I,J,p⟩:=hc _ P (acd m G H);have j:Ext L (L++M):=Lq;have A:dU (sO (IL g a.rf s.b) a.nb) (L++M):=(aiw i d rfl I).app l;have C:ab3 s c g a∈live (W5 s c g c.al):=ace (aix Q) fun q=>ail q A
 refine ⟨_,C,M,A,?_,wj.ext j O X,?_⟩
 ·have y:pR (L++M) (Ls L c.ps g++M) (BC g (fresh (mg s.b) a.nb)):=by
   rw [i.len];exact ab9 (aca d) (ab8 j i d m) (Lu l)
  exact Sh y (fun x T=>(G x T).ext j) J
 ·have y:pR (L++M) (Ls L c.ps g++M) (BC g (fresh (mg s.b) a.nb)):=by
   rw [i.len];exact ab9 (aca d) (ab8 j i d m) (Lu l)
  have U:=aY (S _ C (L++M) A);have D:=uG.ext j N W;show uG (L++M) (match c.f with
   |some f=>(⟨f,Lh (mg (sO s.b a.nb)) g c.ks,a.r.sb (mg (sO s.b a.nb)) (BC g (fresh (mg s.b) a.nb))⟩:KE)::s.t
   |none=>s.t)/\tk (L++M) (match c.f with
   |some f=>(⟨f,Lh (mg (sO s.b a.nb)) g c.ks,a.r.sb (mg (sO s.b a.nb)) (BC g (fresh (mg s.b) a.nb))⟩:KE)::s.t
   |none=>s.t)=true
  have u:(match (match c.f with
   |some f=>(⟨f,Lh (mg (sO s.b a.nb)) g c.ks,a.r.sb (mg (sO s.b a.nb)) (BC g (fresh (mg s.b) a.nb))⟩:KE)::s.t
   |none=>s.t) with
   |e::_=>qL (L++M) false e.a&&e.r.ok (L++M) true
   | []=>true)=true:=U.2
  revert p u;cases c.f with
  |none=>simp_all
  |some f=>
   intro p u;have Y:=p f rfl;obtain ⟨F,E⟩:=aY u;refine ⟨.k ?_ D.1,kA (kA F E) D.2⟩;rw [Kd.rS y (by rw [<-(i.app l).len];omega) E];rw [ait (ab8 j i d m) (by rw [<-(i.app l).len];omega) F];omega
def Sk (a:dU B L) {d:SD} :aU (L++ [d]) (mg B)=d:=by rw [a.len];exact NZ (j:=0)
def jc {α:Type} (x:α):x∈ [x]:=aE
def N5: ∀ {l m:List St} {t:St},t∈l->t∈Ao l m
 |a::l,m,t,h=>by
  rcases bu.1 h with rfl|q
  ·exact aE
  ·exact aw _ (N5 q)
def N6: ∀ {l m:List St} {t:St},t∈m->t∈Ao l m
 | [],_,_,h=>h
 |_::l,_,_,h=>aw _ (N6 (l:=l) h)
def IU (d:dU B L) {k:KI} {l h:Int} (e:iv B k=some (l,h)):l<=k.val L/\k.val L<=h:=by
 unfold iv at e;cases a:k.bd B with
 |i x y=>
  rw [a] at e;cases e;have b:mZ ((Ag.i k).bd B) (.i l h)=true:=by
   show mZ (k.bd B) _=true;rw [a];show (gw l l&&gw h h)=true;rw [BF,BF,decide_eq_true (gM _),decide_eq_true (gM _)];rfl
  exact (ab5 d b).1
 |u x y=>
  rw [a] at e;cases e;have b:mZ ((Ag.i k).bd B) (.u l h)=true:=by
   show mZ (k.bd B) _=true;rw [a];show (gw l l&&gw h h)=true;rw [BF,BF,decide_eq_true (gM _),decide_eq_true (gM _)];rfl
  obtain ⟨f,j,_⟩:=ab5 d b;have m:((Ag.i k).sd L (.u l h)).iv=k.val L:=j;have o:(((k.val L).toNat:Nat):Int)=k.val L:=m;have p:l<=(((k.val L).toNat:Nat):Int)/\(((k.val L).toNat:Nat):Int)<=h:=f;omega
 |_=>simp_all
def Xj {x l h:Int} (f:l<=x) (e:x<=h) (d:W9 l h=true):IntKind.i64.wrap x=x:=by
 obtain ⟨a,b⟩:=aY (show (gw (-9223372036854775808) l&&gw h big)=true from d);have a:=oT a;have b:h<=9223372036854775807:=oT b;exact aC _ ⟨by omega,by omega⟩
def asX {x y a b c d:Int} (e:a<=x) (f:x<=b) (h:c<=y) (i:y<=d):min (min (a*c) (a*d)) (min (b*c) (b*d))<=x*y/\x*y<=max (max (a*c) (a*d)) (max (b*c) (b*d)):=by
 have j: ∀z:Int,min (a*z) (b*z)<=x*z/\x*z<=max (a*z) (b*z):=fun z=>by
  rcases lW 0 z with t|t
  ·have:=bN e t
   have:=bN f t;omega
  ·have:=jM e t
   have:=jM f t;omega
 have k:min (x*c) (x*d)<=x*y/\x*y<=max (x*c) (x*d):=by
  rcases lW 0 x with t|t
  ·have:=fE h t
   have:=fE i t;omega
  ·have:=gN t h
   have:=gN t i;omega
 have:=j c;have:=j d;omega
def asY {o:BinOp} {x y:Int×Int} {l h u v:Int} (e:arB o x y=some (l,h)) (m:x.1<=u/\u<=x.2) (p:y.1<=v/\v<=y.2): ∃z,l<=z/\z<=h/\((W9 l h=true)->WU .i64 o u v z):=by
 cases o<;>first|(cases e;done)|skip
 ·cases e;exact ⟨u+v,by omega,by omega,fun d=>Xj (by omega) (by omega) d⟩
 ·cases e;exact ⟨u-v,by omega,by omega,fun d=>Xj (by omega) (by omega) d⟩
 ·cases e
  have:=asX m.1 m.2 p.1 p.2;have i:uK (uK (x.1*y.1) (x.1*y.2)) (uK (x.2*y.1) (x.2*y.2))<=u*v:=by simp only [Ln];omega
  have f:u*v<=imax (imax (x.1*y.1) (x.1*y.2)) (imax (x.2*y.1) (x.2*y.2)):=by simp only [Lm];omega
  exact ⟨u*v,i,f,fun d=>Xj i f d⟩
 ·rcases yG e with ⟨q,e⟩|⟨_,e⟩
  ·obtain ⟨i,f⟩:=aY q
   obtain ⟨A,C⟩:=aY (show (gw y.1 y.2&&gw y.2 y.1)=true from i);have f:=oT f;have A:=oT A;have C:=oT C;have E:v=y.1:=by omega
   have j:=(Prod.mk.inj (fB e)).1;have k:=(Prod.mk.inj (fB e)).2;have F:=oY u (b:=v) (by omega);have G:=pk u (b:=v) (by omega);refine ⟨u.tmod v,?_,?_,fun _=>⟨by omega,rfl⟩⟩
   ·rcases yG j with ⟨t,j⟩|⟨_,j⟩
    ·have:=Int.tmod_nonneg v (a:=u) (by have:=oT t;omega);omega
    omega
   ·rcases yG k with ⟨t,k⟩|⟨_,k⟩
    ·have:u.tmod v<=0:=by
      have D:0<= -u:=by have:=oT t;omega
      have:=Int.tmod_nonneg v D;rw [Int.neg_tmod] at this;omega
     omega
    omega
  grind
def aiy {k:KI} (h:Lj k=true):k.kd= .i64:=air h
def Sl (u:Sat s L) {b:BD} {d:SD} {f:KF} (o:b.ok d) (q:f.prop (L++ [d])) (y: ∀K,dU (sO s.b [b]) K->IQ K ⟨sO s.b [b],s.r,f::s.f,s.t⟩=true):
 Sat ⟨sO s.b [b],s.r,f::s.f,s.t⟩ (L++ [d]):=by
 obtain ⟨i,m,⟨l,C⟩,j,A⟩:=u;have a:Ext L (L++ [d]):=Lq;have h:dU (sO s.b [b]) (L++ [d]):=i.app ⟨d,[],rfl,o,rfl⟩;have p:=(aY (y _ h)).1;have e:=wj.ext a l C;exact ⟨h,fun x z=>(m x z).ext a,⟨.k q e.1,kA p e.2⟩,uG.ext a j A⟩
def aiz {a:List BD} (j:Sat s L) {f:KF} (b:dU a L) (i:f.prop L) (l: ∀K,dU a K->IQ K ⟨a,s.r,f::s.f,s.t⟩=true):Sat ⟨a,s.r,f::s.f,s.t⟩ L:=by
 obtain ⟨p,h,⟨e,o⟩,d,m⟩:=j;exact ⟨b,h,⟨.k i e,kA (aY (l _ b)).1 o⟩,d,m⟩
def Lv {k:KI} (a:dU B L) {l h:Int} (e:iv B k=some (l,h)):k.val (L++M)=k.val L:=by
 have b:(Ag.i k).bd B≠ .x:=fun q=>by
  have f:k.bd B= .x:=q;unfold iv at e;simp_all
 exact (aio Lq a b (d:= .i (k.val L)) rfl).symm
def aiA (m:dU B L) {k:KI} {l h:Int} (p:l<=k.val L) (q:k.val L<=h):dU (EF k l h B) L:=by
 cases k with
 |i j=>
  have a:=m.get (j:=j);have d:l<=(aU L j).iv:=p;have e:(aU L j).iv<=h:=q;have f:=m.set (j:=j) (b:= .i l h);simp only [EF];revert a f;cases dJ B j<;>intro a f<;>first|exact m|skip
  refine f fun o=> ?_
  have a:=a o;revert a d e;cases aU L j<;>intro d e a<;>first|exact False.elim a|exact ⟨d,e⟩
 |u j=>
  have a:=m.get (j:=j);have d:l<=(aU L j).iv:=p;have e:(aU L j).iv<=h:=q;have f:=m.set (j:=j) (b:= .u l h);simp only [EF];revert a f;cases dJ B j<;>intro a f<;>first|exact m|skip
  refine f fun o=> ?_
  have a:=a o;revert a d e;cases aU L j<;>intro d e a<;>first|exact False.elim a|exact ⟨d,e⟩
 |_=>exact m
def acf {a b:Int} (h:IM a b=true):a=b:=by
 obtain ⟨d,e⟩:=aY (show (gw a b&&gw b a)=true from h);have:=oT d;have:=oT e;omega
def IV (u v:Int) (p:(Int×Int)×(Int×Int)):Prop:=(p.1.1<=u/\u<=p.1.2)/\p.2.1<=v/\v<=p.2.2
def Xk {x y:Int×Int} {u v:Int} (a:x.1<=u/\u<=x.2) (b:y.1<=v/\v<=y.2):IV u v (NW (decide (u<v)) x y):=by
 unfold NW;by_cases h:u<v
 ·rw [decide_eq_true h];simp only [cond_true,IV,Ln,Lm];omega
 ·rw [decide_eq_false h];simp only [cond_false,IV,Ln,Lm];omega
def aiB {u v:Int} {p:(Int×Int)×(Int×Int)} (h:IV u v p):IV v u (swp p):=⟨h.2,h.1⟩
def aiC {x y:Int×Int} {u v:Int} (a:x.1<=u/\u<=x.2) (f:y.1<=v/\v<=y.2) (h:u≠v):(Sd x y).1<=u/\u<=(Sd x y).2:=by
 unfold Sd;cases e:IM y.1 y.2
 ·exact a
 ·have:=acf e
  cases b:IM x.1 y.1
  ·cases d:IM x.2 y.1
   ·exact a
   ·have:=acf d;grind
  ·have:=acf b;grind
def aiD {x y:Int×Int} {u v:Int} (a:x.1<=u/\u<=x.2) (b:y.1<=v/\v<=y.2):IV u v (W6 (decide (u=v)) x y):=by
 unfold W6;by_cases h:u=v
 ·rw [decide_eq_true h];simp only [cond_true,IV,Ln,Lm];omega
 ·rw [decide_eq_false h]
  exact ⟨aiC a b h,aiC b a fun e=>h e.symm⟩
def acg (p q:Prop) [Decidable p] [Decidable q] (h:q↔ ¬p:=by omega):vo (decide p)=decide q:=by
 by_cases a:p
 ·rw [decide_eq_true a,decide_eq_false (fun b=>h.1 b a)];rfl
 ·rw [decide_eq_false a,decide_eq_true (h.2 a)];rfl
def as0 {o:BinOp} {x y:Int×Int} {u v:Int} (a:x.1<=u/\u<=x.2) (b:y.1<=v/\v<=y.2) {f:Bool} {e:(Int×Int)×(Int×Int)} (d:NX o f x y=some e): ∃r p,NX o r x y=some p/\cmP o u v r/\IV u v p:=by
 cases o<;>first|(cases d;done)|skip
 ·exact ⟨_,_,rfl,rfl,aiD a b⟩
 ·refine ⟨decide (u≠v),_,rfl,rfl,?_⟩
  rw [acg (u≠v) (u=v)];exact aiD a b
 ·exact ⟨_,_,rfl,rfl,Xk a b⟩
 ·refine ⟨decide (u<=v),_,rfl,rfl,?_⟩
  rw [acg (u<=v) (v<u)];exact aiB (Xk b a)
 ·exact ⟨_,_,rfl,rfl,aiB (Xk b a)⟩
 ·refine ⟨decide (v<=u),_,rfl,rfl,?_⟩
  rw [acg (v<=u) (u<v)];exact Xk a b
def as1 (m:Sat s L) {o:BinOp} {p q:KI} {x y:Int×Int} (z:iv s.b p=some x) (A:iv s.b q=some y) {I:(Int×Int)×(Int×Int)} (C:NX o true x y=some I)
 (H: ∀t∈Ao (EG s o p q x y true) (EG s o p q x y false),∀K,dU t.b K->IQ K t=true): ∃t∈Ao (EG s o p q x y true) (EG s o p q x y false),∃M,Sat t (L++M):=by
 have e:=m.1;obtain ⟨l,h⟩:=x;obtain ⟨d,a⟩:=y;have b1:=IU e z;have u:=IU e A;obtain ⟨r,⟨⟨u1,u2⟩,i,j⟩,N,hc,⟨D,E⟩,F,G⟩:=as0 (o:=o) (x:=(l,h)) (y:=(d,a)) b1 u C;have c1:gw u1 u2=true:=by rw [BF];grind
 have J:gw i j=true:=by rw [BF];grind
 have O:EG s o p q (l,h) (d,a) r= [⟨EF q i j (EF p u1 u2 s.b),s.r,.cm o p q r::s.f,s.t⟩]:=by
  unfold EG;simp_all
 have k:(⟨EF q i j (EF p u1 u2 s.b),s.r,.cm o p q r::s.f,s.t⟩:St)∈Ao (EG s o p q (l,h) (d,a) true) (EG s o p q (l,h) (d,a) false):=by
  cases r
  ·exact N6 (by simp_all)
  ·exact N5 (by simp_all)
 refine ⟨_,k,[],?_⟩;rw [fU];have u3:dU (EF p u1 u2 s.b) L:=aiA e D E;exact aiz m (aiA u3 F G) hc (H _ k)
def as2 {b:BD} {d:SD} (h:b.ok d) (e:d.nv=0) (f:d.Bq=true\/d.rO=true):(W7 b).ok d:=by
 cases b<;>cases d<;>first|exact False.elim h|skip
 ·rename_i a m c k x
  have:x=0:=by have:x.natAbs=0:=e;omega
  subst this;exact ⟨⟨fun q=>absurd q (by decide),fun _=>rfl,fun q=>absurd q (by decide)⟩,h.2⟩
 ·rename_i g m c k x i j
  have:x=0:=by have:x.natAbs=0:=e;omega
  subst this;exact ⟨h.1,⟨fun q=>absurd q (by decide),fun _=>rfl,fun q=>absurd q (by decide)⟩,h.2.2⟩
 ·rename_i p k x
  have:x=0:=e;subst this;exact ⟨fun q=>(by cases q),(by show 0<2^0;decide)⟩
 ·rcases f with t|t<;>cases t
 ·rcases f with t|t<;>cases t
 ·exact h
def as3 {b:BD} {d:SD} (h:b.ok d) (f:d.nv≠0):(W8 b).ok d:=by
 cases b<;>cases d<;>first|exact False.elim h|skip
 ·rename_i a m c k x
  have:x≠0:=fun e=>by subst e;exact f rfl
  exact ⟨⟨h.1.1,fun q=>absurd q this,h.1.2.2⟩,h.2⟩
 ·rename_i g m c k x i j
  have:x≠0:=fun e=>by subst e;exact f rfl
  exact ⟨h.1,⟨h.2.1.1,fun q=>absurd q this,h.2.1.2.2⟩,h.2.2⟩
 ·rename_i p k x
  have:x≠0:=f;exact ⟨fun _=>by omega,h.2⟩
 ·exact h
 ·exact h
 ·exact h
def N7 (F:Sat s L) {o:BinOp} {j:Nat} {r z:Bool} (h:decide ((aU L j).nv=0)=z) (hc:cmP o ((mB (aU L j).nv:Nat):Int) 0 r)
 {A:List St} (G: ∀t∈Gs s o j r z,t∈A) (i:(aU L j).Bq=true\/(aU L j).rO=true) (O:dJ s.b j≠ .x) (N: ∀t∈A,∀K,dU t.b K->IQ K t=true): ∃t∈A,∃M,Sat t (L++M):=by
 have D:=F.1;have d:=D.get O;have P:(cond z (W7 (dJ s.b j)) (W8 (dJ s.b j))).ok (aU L j):=by
  cases z
  ·exact as3 d (of_decide_eq_false h)
  ·exact as2 d (of_decide_eq_true h) i
 have I:aih z (dJ s.b j)=false:=by
  revert d h i;cases dJ s.b j<;>intro h i d<;>(revert d h i;cases aU L j<;>intro h i d<;>first|exact False.elim d|skip)
  ·rename_i a m c k x
   cases z
   ·have q:x≠0:=fun e=>by subst e;exact (of_decide_eq_false h) rfl
    show vo (a||c)=false;rcases j7 q with t|t
    ·rw [d.1.1 t];rfl
    ·rw [d.1.2.2 t];cases a<;>rfl
   ·have:x=0:=by have:x.natAbs=0:=of_decide_eq_true h;omega
    show vo m=false;rw [d.1.2.1 this];rfl
  ·rename_i g m c k x u Q
   obtain ⟨e,y,C⟩:=d;subst e;cases z
   ·have q:x≠0:=fun e=>by subst e;exact (of_decide_eq_false h) rfl
    show vo (u||c)=false;rcases j7 q with t|t
    ·rw [y.1 t];rfl
    ·rw [y.2.2 t];cases u<;>rfl
   ·have H:x=0:=by have:x.natAbs=0:=of_decide_eq_true h;omega
    show (u||vo m)=false;have:u=false:=by grind
    rw [y.2.1 H,this];rfl
  ·rename_i p k x
   cases z
   ·show Nat.beq k 0=false
    cases e:Nat.beq k 0 with
    |false=>rfl
    |true=>
     have C:x<2^k:=d.2;rw [bD e] at C;exact absurd (show x=0 by omega) (of_decide_eq_false h)
   ·show p=false
    cases p
    ·rfl
    ·have:=d.1 rfl;have e:x=0:=of_decide_eq_true h;omega
  ·rcases i with t|t<;>cases t
  ·rcases i with t|t<;>cases t
  ·rcases i with t|t<;>cases t
 have J:Gs s o j r z= [⟨Lg s.b j (cond z (W7 (dJ s.b j)) (W8 (dJ s.b j))),s.r,.cm o (.len j) (.l 0) r::s.f,s.t⟩]:=by
  unfold Gs;rw [I];rfl
 have E:=G _ (by rw [J];exact jc _);refine ⟨_,E,[],?_⟩;rw [fU];exact aiz F (D.set fun _=>P) hc (N _ E)
def zed (f:Sat s L) {j:Nat} (h:aii (dJ s.b j)=true):((aU L j).Bq=true\/(aU L j).rO=true)/\dJ s.b j≠ .x:=by
 have d:dJ s.b j≠ .x:=fun e=>by rw [e] at h;cases h
 refine ⟨?_,d⟩;have a:=f.1.get d;revert a h;cases dJ s.b j<;>intro h a<;>first|(cases h;done)|(revert a;cases aU L j<;>intro a<;>first|exact False.elim a|exact .inl rfl|exact .inr rfl)
def as4 (x:Nat):((mB x:Nat):Int)=0↔x=0:=by
 have:=Q5 x
 all_goals grind
def as5 {C:Nat->List BD->Option Cn} (X: ∀i l c,C i l=some c->Holds c) {n:Nd} {T:List St} (h:step C n s=some T) (D:Sat s L) (E: ∀t∈T,∀K,dU t.b K->IQ K t=true): ∃t∈T,∃M,Sat t (L++M):=by
 have A:=D.1;cases n with
 |c i g=>
  simp only [step] at h;cases e:C i (Am s.b g) with
  |none=>simp_all
  |some c=>rw [e] at h;exact aaw (X _ _ _ e) h D E
 |r k g=>cases h
 |a o p q=>
  simp only [step] at h;cases f:iv s.b p with
  |none=>simp_all
  |some x=>
   rw [f] at h;cases G:iv s.b q with
   |none=>simp_all
   |some y=>
    rw [G] at h;simp only at h;cases Q:arB o x y with
    |none=>simp_all
    |some w=>
     rw [Q] at h;obtain ⟨l,u⟩:=w;rcases yG h with ⟨J,d⟩|⟨_,d⟩
     case inr=>cases d
     cases d;obtain ⟨I,H⟩:=aY J;obtain ⟨z,Y,Z,z3⟩:=asY Q (IU A f) (IU A G);refine ⟨_,jc _,[.i z],Sl D ⟨Y,Z⟩ ?_ (E _ (jc _))⟩;have e5:(aU (L++ [SD.i z]) (mg s.b)).iv=z:=by rw [Sk A];rfl
     show WU p.kd o (p.val _) (q.val _) _;rw [aiy (aY I).1,Lv A f,Lv A G];show WU .i64 o _ _ (aU (L++ [SD.i z]) (mg s.b)).iv;simp_all
 |t o p q=>
  simp only [step] at h;cases f:iv s.b p with
  |none=>simp_all
  |some x=>
   rw [f] at h;cases G:iv s.b q with
   |none=>simp_all
   |some y=>
    rw [G] at h;simp only at h;cases Q:NX o true x y with
    |none=>simp_all
    |some w=>
     rw [Q] at h;rcases yG h with ⟨J,d⟩|⟨_,d⟩
     case inr=>cases d
     cases d;exact as1 D f G Q E
 |e o j=>
  simp only [step] at h;rcases yG h with ⟨J,d⟩|⟨_,d⟩
  case inr=>cases d
  obtain ⟨O,P⟩:=zed D J;have U:=as4 (aU L j).nv;by_cases S:(aU L j).nv=0
  ·have N:=decide_eq_true S
   have R:=U.2 S;cases o<;>first|(cases d;done)|skip
   all_goals cases d
   ·exact N7 (r:=true) D N (by show decide _=_;simp_all) (fun _ F=>N5 F) O P E
   ·exact N7 (r:=false) D N (by show decide _=_;simp_all) (fun _ F=>N6 F) O P E
   ·exact N7 (r:=false) D N (by show decide _=_;rw [R];rfl) (fun _ F=>N6 F) O P E
  ·have N:=decide_eq_false S
   have R: ¬((mB (aU L j).nv:Nat):Int)=0:=fun q=>S (U.1 q)
   cases o<;>first|(cases d;done)|skip
   all_goals cases d
   ·exact N7 (r:=false) D N (by show decide _=_;simp_all) (fun _ F=>N6 F) O P E
   ·exact N7 (r:=true) D N (by show decide _=_;simp_all) (fun _ F=>N5 F) O P E
   ·exact N7 (r:=true) D N (by show decide _=_;grind) (fun _ F=>N5 F) O P E
 |g p=>
  simp only [step] at h;cases f:iv s.b p with
  |none=>simp_all
  |some x=>
   rw [f] at h;obtain ⟨l,u⟩:=x;rcases yG h with ⟨J,d⟩|⟨_,d⟩
   case inr=>cases d
   cases d;obtain ⟨I,H⟩:=aY J;have b1:=IU A f;refine ⟨_,jc _,[.i (-(p.val L))],Sl D ⟨by omega,by omega⟩ ?_ (E _ (jc _))⟩;show IntKind.wrap p.kd (-(p.val _))=(aU (L++ [SD.i _]) (mg s.b)).iv;rw [aiy I,Lv A f,Sk A];exact Xj (l:= -u) (h:= -l) (by omega) (by omega) (aY H).2
 |m g p q=>
  simp only [step] at h;cases f:iv s.b p with
  |none=>simp_all
  |some x=>
   rw [f] at h;cases G:iv s.b q with
   |none=>simp_all
   |some y=>
    rw [G] at h;rcases yG h with ⟨J,d⟩|⟨_,d⟩
    case inr=>cases d
    cases d;have b1:=IU A f;have b2:=IU A G;refine ⟨_,jc _,[.i (cond g (max (p.val L) (q.val L)) (min (p.val L) (q.val L)))],Sl D ?_ ?_ (E _ (jc _))⟩
    ·cases g
     ·show uK x.1 y.1<=min _ _/\min _ _<=uK x.2 y.2
      rw [Ln,Ln];omega
     ·show imax x.1 y.1<=max _ _/\max _ _<=imax x.2 y.2
      rw [Lm,Lm];omega
    ·show cond g (max (p.val _) (q.val _)) (min (p.val _) (q.val _))=(aU (L++ [SD.i _]) (mg s.b)).iv
     rw [Lv A f,Lv A G,Sk A];rfl
 |v p=>
  simp only [step] at h;cases f:iv s.b p with
  |none=>simp_all
  |some x=>
   rw [f] at h;obtain ⟨l,u⟩:=x;have b1:=IU A f;rcases yG h with ⟨J,d⟩|⟨_,d⟩
   ·rcases yG d with ⟨I,H⟩|⟨_,H⟩
    case inr=>cases H
    cases H;have c1:=oT (aY I).1;have W:=oT (aY I).2;refine ⟨_,jc _,[.u (p.val L).toNat],Sl D ⟨by omega,by omega⟩ ?_ (E _ (jc _))⟩;show IntKind.wrap .u32 (p.val _)=(aU (L++ [SD.u _]) (mg s.b)).iv;rw [Lv A f,Sk A];show IntKind.wrap .u32 _=(((p.val L).toNat:Nat):Int);rw [show (((p.val L).toNat:Nat):Int)=p.val L by omega];exact di _ ⟨by omega,by omega⟩
   ·rcases yG d with ⟨I,H⟩|⟨_,H⟩
    case inr=>cases H
    cases H;have c1:=oT (aY (aY I).2).1;have W:=oT (aY (aY I).2).2;refine ⟨_,jc _,[.i (p.val L)],Sl D ⟨by omega,by omega⟩ ?_ (E _ (jc _))⟩;show IntKind.wrap .i64 (p.val _)=(aU (L++ [SD.i _]) (mg s.b)).iv;rw [Lv A f,Sk A];exact aC _ ⟨by omega,by omega⟩
end
def Xl (V:Nat->Int×EH):List St->Bool
 | []=>true
 |s::l=>IQ (pq s.b V) s&&Xl V l
def yH {α:Type} (d:α->Nat->Int×EH) (C:Nat->List BD->Option Cn) (b:α->St->Nat->List Ag->Bool) (V:α):List Nd->List St->Bool
 | [],a=>match a with
  | []=>true
  |_::_=>false
 |n::ns,a=>match a with
  | []=>false
  |s::a=>match n with
   | .r k g=>b V s k g&&yH d C b V ns a
   |n=>match step C n s with
    |some l=>Xl (d V) l&&yH d C b V ns (Ao l a)
    |none=>false
def as6 {l:List St} (h: ∀V,Xl V l=true): ∀t∈l,∀K,dU t.b K->IQ K t=true:=by
 induction l with
 |nil=>simp_all
 |cons s l e=>
  intro t d K a;rcases bu.1 d with rfl|q
  ·have:=(aY (h fun j=>(aU K j).vx)).1
   rw [IP a] at this;omega
  ·exact e (fun V=>(aY (h V)).2) t q K a
def ach {C:Nat->List BD->Option Cn} {α:Type} {p:α->Nat->Int×EH} {o:α->St->Nat->List Ag->Bool} (x: ∀v,∃V,p V=v) (A: ∀i l c,C i l=some c->Holds c) {b:Prop} {Lp:List SD}
 (D: ∀s k g N,(∀V,o V s k g=true)->Sat s (Lp++N)->b): ∀(ns:List Nd) (f:List St),(∀V,yH p C o V ns f=true)-> ∀s∈f,∀N,Sat s (Lp++N)->b:=by
 intro ns
 induction ns with
 |nil=>
  intro f h s j;cases f with
  |nil=>cases j
  |cons a l=>obtain ⟨V,_⟩:=x fun _=>(0,NY);cases h V
 |cons n ns z=>
  intro f h s j N u;cases f with
  |nil=>cases j
  |cons a l=>
   by_cases E: ∃k g,n= .r k g
   ·obtain ⟨k,g,rfl⟩:=E
    have d: ∀V,(o V a k g&&yH p C o V ns l)=true:=h;rcases bu.1 j with rfl|q
    ·exact D _ k g N (fun V=>(aY (d V)).1) u
    grind
   ·have d: ∀V,(match step C n a with
     |some m=>Xl (p V) m&&yH p C o V ns (Ao m l)
     |none=>false)=true:=fun V=>by
     have:=h V;cases n<;>first|exact this|simp_all
    cases e:step C n a with
    |none=>obtain ⟨V,_⟩:=x fun _=>(0,NY);have:=d V;simp_all
    |some m=>
     rw [e] at d;rcases bu.1 j with rfl|q
     ·obtain ⟨t,F,M,y⟩:=as5 A e u (as6 fun v=>by obtain ⟨V,e⟩:=x v;grind)
      rw [dR] at y;exact z _ (fun V=>(aY (d V)).2) t (N5 F) _ y
     ·exact z _ (fun V=>(aY (d V)).2) s (N6 q) N u
structure bo where
 c:List BD->Cn
 ok:List BD->Bool
 h: ∀l,ok l=true->Holds (c l)
def Gx:List bo->Nat->List BD->Option Cn
 | [],_,_=>none
 |f::_,0,l=>cond (f.ok l) (some (f.c l)) none
 |_::l,n+1,b=>Gx l n b
def Xm: ∀ {l:List bo} {i:Nat} {b:List BD} {c:Cn},Gx l i b=some c->Holds c
 |f::_,0,b,c,h=>by
  rcases yG (show cond (f.ok b) (some (f.c b)) none=some c from h) with ⟨d,a⟩|⟨_,a⟩
  ·cases a;exact f.h b d
  simp_all
 |_::l,n+1,b,c,h=>Xm (l:=l) (i:=n) h
def aci {c:Cn} {s:St} {k:Nat} {g:List Ag} {r:Kd} {Lp N:List SD} (h:Ll c s k g=some r) (C:dU c.ps Lp) (Z:Sat s (Lp++N)) (Y:r.ok (Lp++N) false=true):
 ∃a∈c.al,∃M,dU a.nb M/\(∀x∈a.rf,x.2.ok (aU Lp x.1))/\(∀x∈a.rr,nH (Lp++M) x)/\r.rel (Lp++N)=a.r.rel (Lp++M):=by
 have I:=Z.1;unfold Ll at h;have G: ∀ {l:List Alt} {k:Nat} {a:Alt},Xa l k=some a->a∈l:=by
  intro l
  induction l with
  |nil=>intro k a e;cases e
  |cons b l m=>
   intro k a e;cases k with
   |zero=>cases e;simp_all
   |succ k=>exact aw _ (m e)
 cases e:Xa c.al k with
 |none=>simp_all
 |some a=>
  rw [e] at h;rcases yG h with ⟨Q,H⟩|⟨_,H⟩
  case inr=>cases H
  cases H;obtain ⟨R,S⟩:=aY Q;obtain ⟨T,U⟩:=aY S;obtain ⟨q1,q2⟩:=ab7 I R;have m0:pR (Lp++N) Lp (fresh 0 c.ps):=by
   have:=Lu (N:= []) C;have e1:pR Lp Lp (fresh 0 c.ps):=this;intro j f X;obtain ⟨E,r2⟩:=e1 j f X;have ex:Ext Lp (Lp++N):=Lq;have kb: ∀(l:List BD) (n j:Nat) (f:Ag),po (fresh n l) j=some f->f=W3 (n+j) (dJ l j):=by
    intro l
    induction l with
    |nil=>intro n j f e;cases e
    |cons b l m=>
     intro n j f e;cases j with
     |zero=>cases e;rfl
     |succ j=>
      have:=m (n+1) j f e;rw [show n+1+j=n+(j+1) by omega] at this;exact this
   have P:=kb _ _ _ _ X;have zh:dJ c.ps j≠ .x:=by
    intro q;have: ∀(l:List BD) (n j:Nat) (f:Ag) (L:List SD),dU l L->po (fresh n l) j=some f->dJ l j≠ .x:=by
     intro l
     induction l with
     |nil=>intro n j f L _ e;cases e
     |cons b l m=>
      intro n j f L hL e;obtain ⟨d,M,_,hb,hM⟩:=hL;cases j with
      |zero=>exact asQ hb
      |succ j=>exact m (n+1) j f M hM e
    grind
   have J:aU Lp j≠ .o:=fun q=>by
    have:=C.get zh;rw [q] at this;exact Xf _ this
   have A:=ex j J;rw [cV] at P;have D2:(∀i,f.ix=some i->i=j)/\N4 (Lp++N) (aU Lp j) f:=by
    subst P;revert E;cases dJ c.ps j<;>intro E<;>refine ⟨fun i W=>(by first|exact (fB W).symm|cases W),?_⟩
    case z=>exact ⟨(show _=(aU (Lp++N) j).zv by rw [A]),by have t:_=((aU Lp j).zv).natAbs:=E.2;show _=((aU (Lp++N) j).zv).natAbs;simp_all⟩
    case y=>exact ⟨(show _=(aU (Lp++N) j).zv by rw [A]),by have t:_=((aU Lp j).zv).natAbs:=E.2;show _=((aU (Lp++N) j).zv).natAbs;simp_all⟩
    case n=>show _=(aU (Lp++N) j).nv;rw [A]
    case ra=>exact ⟨A.symm,E.2⟩
    all_goals (show _=(aU (Lp++N) j).iv;rw [A])
   simp_all
  have D:Lp.length=(fresh 0 c.ps).length:=by
   rw [<-C.len];generalize 0=n;clear C e Q R S T U Y q1 q2 m0
   induction c.ps generalizing n with
   |nil=>rfl
   |cons b l m=>exact congrArg Nat.succ (m _)
  have m2:=ab9 D m0 q2;refine ⟨a,G e,_,q1,?_,acd m2 Z.2.1 U,Kd.rS m2 (by rw [I.len];omega) Y⟩;have Fm: ∀(l:List (Nat×BD)),Xc (mg c.ps) s.b l=true-> ∀x∈l,x.2.ok (aU (Lp++N) x.1)/\x.1<Lp.length:=by
   intro l
   induction l with
   |nil=>simp_all
   |cons y l m=>
    intro hl x O;obtain ⟨t0,t5⟩:=aY (show ((mZ (dJ s.b y.1) y.2&&beq (Xb (dJ s.b y.1)) (Xb y.2))&&(Nat.blt y.1 (mg c.ps)&&Xc (mg c.ps) s.b l))=true from hl);obtain ⟨t4,t2⟩:=aY t5;obtain ⟨p,F⟩:=aY t0;rcases bu.1 O with rfl|q
    ·have UY:dJ s.b x.1≠ .x:=fun q=>by rw [q] at p;cases h:x.2<;>rw [h] at p<;>cases p
     have u:=I.get UY;refine ⟨?_,by rw [<-C.len];simp_all⟩;rcases N3 u p with q|⟨⟨_,_,_,_,q0⟩,q⟩
     ·exact q
     ·rw [q0] at p F q⊢
      revert q;revert u;revert F;revert p;cases dJ s.b x.1<;>intro p F u q<;>first|(cases p;done)|(cases aij F;done)|skip
      revert q;revert u;cases aU (Lp++N) x.1<;>intro u q<;>first|exact False.elim u|exact q
    grind
  intro x O;obtain ⟨h7,h8⟩:=Fm _ T x O;rw [Xe h8] at h7;omega
end
section
open Go.RowKit Go.Ev
def EL (I:List FuncId) (a:Nat) (c:Cn) (f:FuncId) (V:Nat->Int×EH) (s:St) (k:Nat) (g:List Ag):Bool:=match Ll c s k g with
 |some r=>RL (IJ (pq s.b V) s.f) (s.t.map KE.Ey) I a f (c.ks.map Kd.pat) r.pat&&((okF (pq s.b V) s.f&&tk (pq s.b V) s.t)&&(qL (pq s.b V) true c.ks&&r.ok (pq s.b V) false))
 |none=>false
def as7 {C:Nat->List BD->Option Cn} (B: ∀i l c,C i l=some c->Holds c) (I:List FuncId) (b:Nat) (c:Cn) (f:FuncId) (F:c.f=some f) (ns:List Nd)
 (h: ∀V,(qL (pq c.ps V) true c.ks&&yH id C (EL I b c f) V ns [⟨c.ps,xJ (fresh 0 c.ps) c.pr [],[],[]⟩])=true):Holds c:=fun Lp o D=>by
 have y:(Lp++ [])=Lp:=fU _;have G:qL Lp true c.ks=true:=by
  have:=(aY (h fun j=>(aU Lp j).vx)).1;rw [IP o] at this;omega
 have J:pR Lp Lp (fresh 0 c.ps):=Lu (N:= []) o;refine ach (Lp:=Lp) (fun v=>⟨v,rfl⟩) B ?_ ns _ (fun V=>(aY (h V)).2) _ (jc _) [] ?_
 ·intro s k g N q p
  have A:=p.1;cases e:Ll c s k g with
  |none=>have:=q fun _=>(0,NY);unfold EL at this;simp_all
  |some r=>
   have m:=q fun j=>(aU (Lp++N) j).vx
   unfold EL at m;rw [e,IP A] at m;have d:=m;simp only [au] at d;obtain ⟨T,⟨U,W⟩,X,z⟩:=d;obtain ⟨a,E,M,O,P,Q,R⟩:=aci e o p z;refine ⟨a,E,M,O,P,Q,fun S u=> ?_⟩;rw [F] at u;cases u;rw [<-R,<-(Xg (Lq (M:=N)) G).2];exact fP (Lp++N) I b s.f s.t c.ks r m p.2.2.1.1 p.2.2.2.1
 ·rw [y]
  exact ⟨o,Sh J (fun x H=>by cases H) D,⟨.nil,rfl⟩,.nil,rfl⟩
def aiE:Nat->List Nat->List Nat->List Nat
 |n+1,a::l,r=>a::aiE n l r
 |_,_,r=>r
def aiF:Nat->List Nat->List Nat
 |n+1,_::l=>aiF n l
 |_,l=>l
def acj:Nat->Nat->List Nat->List Nat
 |0,_,r=>r
 |n+1,c,r=>cond (Nat.ble c 1) r (sW (Nat.mod c 64) fun d=>cond (Nat.beq d 63)
  (sW (Nat.div c 16777216) fun e=>acj n e (aiE (Nat.mod (Nat.div c 262144) 64) (aiF (Nat.mod (Nat.div c 64) 4096) r) r))
  (sW (Nat.div c 64) fun e=>acj n e (d::r)))
def aiG (n:Nat):Int:=cond (Nat.beq (Nat.mod n 2) 0) (.ofNat (Nat.div n 2)) (.negSucc (Nat.div n 2))
def aiH (f:Nat->Ag):List Nat->Ag×List Nat
 |a::b::c::l=>(f (Nat.add (Nat.add (Nat.mul 3600 c) (Nat.mul 60 b)) a),l)
 |l=>(.ra 0,l)
def aiI (B:List BD):List Nat->Ag×List Nat
 | []=>(.ra 0,[])
 |d::l=>match Nat.sub d 55 with
  |0=>(W3 d (dJ B d),l)
  |1=>match l with
   |j::l=>(.z (.z j),l)
   |l=>(.ra 0,l)
  |2=>match l with
   |j::l=>(.n (.m j),l)
   |l=>(.ra 0,l)
  |3=>(.z .o,l)
  |4=>(.n .o,l)
  |5=>match l with
   |j::l=>(.i (.l (aiG j)),l)
   |l=>(.ra 0,l)
  |6=>aiH (fun n=> .i (.l (aiG n))) l
  |_=>aiH (fun n=> .i (.k .u32 (.ofNat n))) l
def ack (B:List BD):Nat->List Nat->(List Ag->Nd)->Nd×List Nat
 |0,l,f=>(f [],l)
 |n+1,l,f=>match aiI B l with
  |(a,l)=>ack B n l fun x=>f (a::x)
def Xn (B:List BD) (l:List Nat) (f:KI->List Nat->Nd×List Nat):Nd×List Nat:=match aiI B l with
 |(.i k,l)=>f k l
 |(_,l)=>f (.i 0) l
def Xo (B:List BD) (l:List Nat) (f:KI->KI->Nd):Nd×List Nat:=Xn B l fun p l=>Xn B l fun q l=>(f p q,l)
def acm (n:Nat):BinOp:=match n with
 |0=> .lss
 |1=> .gtr
 |2=> .leq
 |3=> .geq
 |4=> .eql
 |5=> .neq
 |6=> .add
 |7=> .sub
 |8=> .mul
 |_=> .rem
def as8 (B:List BD):List Nat->Nd×List Nat
 | []=>(.r 0 [],[])
 |o::l=>cond (Nat.blt o 32) (match l with
   | []=>(.r 0 [],[])
   |i::l=>cond (Nat.blt o 16) (ack B o l (.c i)) (ack B (Nat.sub o 16) l (.r i)))
  (cond (Nat.blt o 38) (Xo B l (.t (acm (Nat.sub o 32)))) (cond (Nat.blt o 42) (Xo B l (.a (acm (Nat.sub o 32))))
   (cond (Nat.blt o 48) (match l with
    | []=>(.r 0 [],[])
    |j::l=>(.e (acm (Nat.sub o 42)) j,l))
   (match Nat.sub o 48 with
    |0=>Xn B l fun p l=>(.g p,l)
    |1=>Xo B l (.m false)
    |2=>Xo B l (.m true)
    |_=>Xn B l fun p l=>(.v p,l)))))
def aiJ (C:Nat->List BD->Option Cn):Nat->List Nat->List St->List Nd
 |n+1,d::l,s::a=>match as8 s.b (d::l) with
  |(x,l)=>x::aiJ C n l (match x with
   | .r _ _=>a
   |x=>match step C x s with
    |some t=>Ao t a
    |none=>a)
 |_,_,_=> []
def N8 (a:List bo) (ps:List BD) (pr:List (Nat×List Nat)) (T:List KE) (c:Nat):List Nd:=aiJ (Gx a) 2000 (acj 2000 c []) [⟨ps,xJ (fresh 0 ps) pr [],[],T⟩]
def IW (b:List bo) (I:List FuncId) (a:Nat) (f:FuncId) (ps:List BD) (pr:List (Nat×List Nat)) (ks:List Kd) (al:List Alt) (ns:List Nd)
 (h: ∀V,(qL (pq ps V) true ks&&yH id (Gx b) (EL I a ⟨some f,ps,pr,ks,al⟩ f) V ns [⟨ps,xJ (fresh 0 ps) pr [],[],[]⟩])=true):bo:=
 ⟨fun _=>⟨some f,ps,pr,ks,al⟩,fun _=>true,fun _ _=>as7 (fun _ _ _=>Xm) I a _ f rfl ns h⟩
def cB (b:List bo) (I:List FuncId) (a:Nat) (f:FuncId) (ps:List BD) (pr:List (Nat×List Nat)) (ks:List Kd) (al:List Alt) (c:Nat)
 (h: ∀V,(qL (pq ps V) true ks&&yH id (Gx b) (EL I a ⟨some f,ps,pr,ks,al⟩ f) V (N8 b ps pr [] c) [⟨ps,xJ (fresh 0 ps) pr [],[],[]⟩])=true:=by intro V;kernel_rfl):bo:=IW b I a f ps pr ks al (N8 b ps pr [] c) h
def Sp (c:Cn) (T:List KE):Prop:= ∀L,dU c.ps L->(∀x∈c.pr,nH L x)->uG L T-> ∃a∈c.al,∃M,dU a.nb M/\(∀x∈a.rf,x.2.ok (aU L x.1))/\(∀x∈a.rr,nH (L++M) x)/\
 ∀f,c.f=some f->bJ Tryz.prog bw f (c.ks.map (Kd.rel L)) (a.r.rel (L++M))
def as9 {C:Nat->List BD->Option Cn} (D: ∀i l c,C i l=some c->Holds c) (I:List FuncId) (b:Nat) (c:Cn) (f:FuncId) (H:c.f=some f) (T:List KE) (ns:List Nd)
 (h: ∀V,((qL (pq c.ps V) true c.ks&&tk (pq c.ps V) T)&&yH id C (EL I b c f) V ns [⟨c.ps,xJ (fresh 0 c.ps) c.pr [],[],T⟩])=true):Sp c T:=fun Lp o E F=>by
 have z:(Lp++ [])=Lp:=fU _;have q:qL Lp true c.ks=true/\tk Lp T=true:=by
  have:=(aY (h fun j=>(aU Lp j).vx)).1;rw [IP o] at this;simp_all
 have O:pR Lp Lp (fresh 0 c.ps):=Lu (N:= []) o;refine ach (Lp:=Lp) (fun v=>⟨v,rfl⟩) D ?_ ns _ (fun V=>(aY (h V)).2) _ (jc _) [] ?_
 ·intro s k g N u p
  have B:=p.1;cases e:Ll c s k g with
  |none=>have:=u fun _=>(0,NY);unfold EL at this;simp_all
  |some r=>
   have m:=u fun j=>(aU (Lp++N) j).vx
   unfold EL at m;rw [e,IP B] at m;have d:=m;simp only [au] at d;obtain ⟨W,⟨X,Y⟩,Z,A⟩:=d;obtain ⟨a,G,M,P,Q,R,S⟩:=aci e o p A;refine ⟨a,G,M,P,Q,R,fun U y=> ?_⟩;rw [H] at y;cases y;rw [<-S,<-(Xg (Lq (M:=N)) q.1).2];exact fP (Lp++N) I b s.f s.t c.ks r m p.2.2.1.1 p.2.2.2.1
 ·rw [z]
  exact ⟨o,Sh O (fun x J=>by cases J) E,⟨.nil,rfl⟩,F,q.2⟩
def ata (b:List bo) (I:List FuncId) (a:Nat) (f:FuncId) (ps:List BD) (pr:List (Nat×List Nat)) (ks:List Kd) (al:List Alt) (T:List KE) (ns:List Nd)
 (h: ∀V,((qL (pq ps V) true ks&&tk (pq ps V) T)&&yH id (Gx b) (EL I a ⟨some f,ps,pr,ks,al⟩ f) V ns [⟨ps,xJ (fresh 0 ps) pr [],[],T⟩])=true):Sp ⟨some f,ps,pr,ks,al⟩ T:=as9 (fun _ _ _=>Xm) I a _ f rfl T ns h
def BG (b:List bo) (I:List FuncId) (a:Nat) (f:FuncId) (ps:List BD) (pr:List (Nat×List Nat)) (ks:List Kd) (al:List Alt) (T:List KE) (c:Nat)
 (h: ∀V,((qL (pq ps V) true ks&&tk (pq ps V) T)&&yH id (Gx b) (EL I a ⟨some f,ps,pr,ks,al⟩ f) V (N8 b ps pr T c) [⟨ps,xJ (fresh 0 ps) pr [],[],T⟩])=true:=by intro V;kernel_rfl):Sp ⟨some f,ps,pr,ks,al⟩ T:=ata b I a f ps pr ks al T (N8 b ps pr T c) h
section
variable {L K:List SD}
def atb (e:Ext L K) {x:qN} (h:x.ok L true=true):x.fr K=x.fr L:=by
 obtain ⟨g,i⟩:=aY h;have j: ∀ {l:List KB},okB L true l=true->l.map (KB.fb K)=l.map (KB.fb L):=by
  intro l
  induction l with
  |nil=>intro _;rfl
  |cons b l a=>
   intro h;obtain ⟨d,f⟩:=aY h;rw [cI,cI,a f];unfold KB.fb;rw [(Kd.ext e (aY d).1).2]
 have k: ∀ {l:List (Nat×Kd)},K' L true l=true->l.map (fun y=>(y.1,y.2.rel K))=l.map fun y=>(y.1,y.2.rel L):=by
  intro l
  induction l with
  |nil=>intro _;rfl
  |cons b l a=>
   intro h;obtain ⟨d,f⟩:=aY h;rw [cI,cI,a f,(Kd.ext e d).2]
 unfold qN.fr;grind
end
def Sq (a:Func):Code:= .seq .skip (nD a)
def Sr (I:List FuncId) (a:Nat) (c:Cn) (d:Func) (x:qN) (V:(Nat->Int×EH)×(Nat->aj)) (s:St) (k:Nat) (g:List Ag):Bool:=match Ll c s k g with
 |some r=>NB (IJ (pq s.b V.1) s.f) (s.t.map KE.Ey) I a d.ntmps d.results.toList (tS (uB .normal) [.l] (Sq d)) x.fp r.pat V.2&&((okF (pq s.b V.1) s.f&&tk (pq s.b V.1) s.t)&&(x.ok (pq s.b V.1) true&&r.ok (pq s.b V.1) false))
 |none=>false
def N9 (c:Cn) (x:qN) (b:Func):Prop:= ∀L,dU c.ps L->(∀y∈c.pr,nH L y)-> ∃a∈c.al,∃M,dU a.nb M/\(∀y∈a.rf,y.2.ok (aU L y.1))/\(∀y∈a.rr,nH (L++M) y)/\
 xI b.ntmps [.l] .normal (Sq b) b (x.fr L) (a.r.rel (L++M))
def atc {C:Nat->List BD->Option Cn} (A: ∀i l c,C i l=some c->Holds c) (I:List FuncId) (b:Nat) (c:Cn) (o:Func) (x:qN) (ns:List Nd)
 (h: ∀V,(x.ok (pq c.ps V.1) true&&yH Prod.fst C (Sr I b c o x) V ns [⟨c.ps,xJ (fresh 0 c.ps) c.pr [],[],[]⟩])=true):N9 c x o:=fun Lp p B=>by
 have E:x.ok Lp true=true:=by
  have:=(aY (h (fun j=>(aU Lp j).vx,fun _=> .bool false))).1;rw [IP p] at this;omega
 have G:pR Lp Lp (fresh 0 c.ps):=Lu (N:= []) p;refine ach (Lp:=Lp) (fun v=>⟨(v,fun _=> .bool false),rfl⟩) A ?_ ns _ (fun V=>(aY (h V)).2) _ (jc _) [] ?_
 ·intro s k g N u q
  have z:=q.1;cases e:Ll c s k g with
  |none=>have:=u (fun _=>(0,NY),fun _=> .bool false);unfold Sr at this;simp_all
  |some r=>
   have m: ∀d,(NB (IJ (Lp++N) s.f) (s.t.map KE.Ey) I b o.ntmps o.results.toList (tS (uB .normal) [.l] (Sq o)) x.fp r.pat d&&((okF (Lp++N) s.f&&tk (Lp++N) s.t)&&(x.ok (Lp++N) true&&r.ok (Lp++N) false)))=true:=fun d=>by
    have m:=u (fun j=>(aU (Lp++N) j).vx,d);unfold Sr at m;rw [e] at m;simp only [IP z] at m;omega
   have y:=(aY (aY (aY (m fun _=> .bool false)).2).2).2;obtain ⟨a,D,M,H,J,O,P⟩:=aci e p q y;refine ⟨a,D,M,H,J,O,?_⟩;rw [<-P,<-atb (Lq (M:=N)) E];exact Gr (Lp++N) I b s.f s.t x r (sub:= .skip) rfl m q.2.2.1.1 q.2.2.2.1
 ·rw [fU]
  exact ⟨p,Sh G (fun x F=>by cases F) B,⟨.nil,rfl⟩,.nil,rfl⟩
def atd (d:List bo) (I:List FuncId) (a:Nat) (b:Func) (ps:List BD) (pr:List (Nat×List Nat)) (x:qN) (al:List Alt) (ns:List Nd)
 (h: ∀V,(x.ok (pq ps V.1) true&&yH Prod.fst (Gx d) (Sr I a ⟨none,ps,pr,[],al⟩ b x) V ns [⟨ps,xJ (fresh 0 ps) pr [],[],[]⟩])=true):N9 ⟨none,ps,pr,[],al⟩ x b:=atc (fun _ _ _=>Xm) I a _ b x ns h
def yJ (b:List bo) (I:List FuncId) (a:Nat) (d:Func) (ps:List BD) (pr:List (Nat×List Nat)) (x:qN) (al:List Alt) (c:Nat)
 (h: ∀V,(x.ok (pq ps V.1) true&&yH Prod.fst (Gx b) (Sr I a ⟨none,ps,pr,[],al⟩ d x) V (N8 b ps pr [] c) [⟨ps,xJ (fresh 0 ps) pr [],[],[]⟩])=true:=by intro V;kernel_rfl):N9 ⟨none,ps,pr,[],al⟩ x d:=atd b I a d ps pr x al (N8 b ps pr [] c) h
end
end Go.Proofs.YtnmpjdgobafdkaaGreatDoor
