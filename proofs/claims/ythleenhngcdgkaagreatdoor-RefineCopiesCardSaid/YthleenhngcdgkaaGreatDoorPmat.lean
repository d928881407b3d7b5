/- refineCopies_proved. -/
import Derived.Test.YthleenhngcdgkaaGreatDoorPmas
set_option maxRecDepth 100000
set_option maxHeartbeats 16000000
set_option linter.all false
noncomputable section
namespace Go.Proofs.YthleenhngcdgkaaGreatDoor
section
open Go.RowKit Go.Ev
section
variable {B:List BD} {L M:List SD} {g:List Ag} {ps nb:List BD} {s:St}
def ajo (m:dY B L) {k:List SD} (d:DD (A3 B g) ps=true) (u:k=Mm L ps g): ∀ {l:List (Nat×BD)},(∀x∈l,x.2.ok (aU k x.1))->dY (Jw g l B) L
 | [],_=>m
 |x::l,h=>by
  have f:=ajo m d u (l:=l) fun y I=>h y (aw _ I)
  have t:=h x aC;simp only [Jw];cases e:pL g x.1 with
  |none=>exact f
  |some a=>
   simp only;cases C:a.ix with
   |none=>exact f
   |some i=>
    simp only;refine f.set fun p=> ?_
    have z: ∃b,nF (a.bd B) b=true/\aU k x.1=a.sd L b:=by
     subst u;clear h t f p;revert d e;generalize x.1=j;intro d e
     induction g generalizing ps j with
     |nil=>cases e
     |cons A g o=>
      cases ps with
      |nil=>cases d
      |cons b ps=>
       obtain ⟨E,F⟩:=aY (show (nF (A.bd B) b&&DD (A3 B g) ps)=true from d);cases j with
       |zero=>cases e;exact ⟨b,E,rfl⟩
       |succ j=>exact o (ps:=ps) j F e
    obtain ⟨b,G,D⟩:=z;rw [D] at t;have H:=f.get p;refine atM H ?_;rcases atP m G C with q|⟨q,J⟩
    all_goals grind
def Jz (L:List SD) (s:St):Bool:=(match s.f with
 |f::_=>f.ok L
 | []=>true)&&(match s.t with
 |e::_=>qY L false e.a&&e.r.ok L true
 | []=>true)
def acS: ∀ {l:List St} {t:St},t∈l-> ¬O0 t.b=true->t∈live l
 |a::l,t,h,d=>by
  simp only [live];rcases bq.1 h with rfl|q
  ·simp_all
  ·cases O0 a.b
   ·exact aw _ (acS q d)
   ·exact acS q d
def ajp {c:Cn} : ∀ {l:List Alt} {a:Alt},a∈l->acI s c g a∈XZ s c g l
 |b::l,a,h=>by
  rcases bq.1 h with rfl|q
  ·exact aC
  ·exact aw _ (ajp q)
def aba {c:Cn} (hc:Holds c) {z:List St} (h:acJ s c g=some z) (R:Sat s L) (S: ∀t∈z,∀K,dY t.b K->Jz K t=true): ∃t∈z,∃M,Sat t (L++M):=by
 unfold acJ at h;rcases zr h with ⟨d,o⟩|⟨_,o⟩
 case inr=>cases o
 cases o;obtain ⟨d,H⟩:=aY d;obtain ⟨i,G,⟨O,X⟩,N,W⟩:=R;obtain ⟨P,m⟩:=acM i d;obtain ⟨a,Q,M,l,I,J,p⟩:=hc _ P (acR m G H);have j:Ext L (L++M):=Mj;have A:dY (sZ (Jw g a.rf s.b) a.nb) (L++M):=(ajo i d rfl I).app l;have C:acI s c g a∈live (XZ s c g c.al):=acS (ajp Q) fun q=>ajd q A
 refine ⟨_,C,M,A,?_,xd.ext j O X,?_⟩
 ·have y:qg (L++M) (Mm L c.ps g++M) (Ch g (fresh (mR s.b) a.nb)):=by
   rw [i.len];exact acO (acP d) (acN j i d m) (Mn l)
  exact Th y (fun x T=>(G x T).ext j) J
 ·have y:qg (L++M) (Mm L c.ps g++M) (Ch g (fresh (mR s.b) a.nb)):=by
   rw [i.len];exact acO (acP d) (acN j i d m) (Mn l)
  have U:=aY (S _ C (L++M) A);have D:=uW.ext j N W;show uW (L++M) (match c.f with
   |some f=>(⟨f,Mc (mR (sZ s.b a.nb)) g c.ks,a.r.sb (mR (sZ s.b a.nb)) (Ch g (fresh (mR s.b) a.nb))⟩:KE)::s.t
   |none=>s.t)/\tI (L++M) (match c.f with
   |some f=>(⟨f,Mc (mR (sZ s.b a.nb)) g c.ks,a.r.sb (mR (sZ s.b a.nb)) (Ch g (fresh (mR s.b) a.nb))⟩:KE)::s.t
   |none=>s.t)=true
  have u:(match (match c.f with
   |some f=>(⟨f,Mc (mR (sZ s.b a.nb)) g c.ks,a.r.sb (mR (sZ s.b a.nb)) (Ch g (fresh (mR s.b) a.nb))⟩:KE)::s.t
   |none=>s.t) with
   |e::_=>qY (L++M) false e.a&&e.r.ok (L++M) true
   | []=>true)=true:=U.2
  revert p u;cases c.f with
  |none=>simp_all
  |some f=>
   intro p u;have Y:=p f rfl;obtain ⟨F,E⟩:=aY u;refine ⟨.k ?_ D.1,kQ (kQ F E) D.2⟩;rw [Kd.su y (by rw [<-(i.app l).len];omega) E];rw [ajl (acN j i d m) (by rw [<-(i.app l).len];omega) F];omega
def Tk (a:dY B L) {d:SD} :aU (L++ [d]) (mR B)=d:=by rw [a.len];exact O5 (j:=0)
def jr {α:Type} (x:α):x∈ [x]:=aC
def O9: ∀ {l m:List St} {t:St},t∈l->t∈A4 l m
 |a::l,m,t,h=>by
  rcases bq.1 h with rfl|q
  ·exact aC
  ·exact aw _ (O9 q)
def O': ∀ {l m:List St} {t:St},t∈m->t∈A4 l m
 | [],_,_,h=>h
 |_::l,_,_,h=>aw _ (O' (l:=l) h)
def JA (d:dY B L) {k:KI} {l h:Int} (e:iv B k=some (l,h)):l<=k.val L/\k.val L<=h:=by
 unfold iv at e;cases a:k.bd B with
 |i x y=>
  rw [a] at e;cases e;have b:nF ((Ag.i k).bd B) (.i l h)=true:=by
   show nF (k.bd B) _=true;rw [a];show (gL l l&&gL h h)=true;rw [Ci,Ci,decide_eq_true (gD _),decide_eq_true (gD _)];rfl
  exact (acK d b).1
 |u x y=>
  rw [a] at e;cases e;have b:nF ((Ag.i k).bd B) (.u l h)=true:=by
   show nF (k.bd B) _=true;rw [a];show (gL l l&&gL h h)=true;rw [Ci,Ci,decide_eq_true (gD _),decide_eq_true (gD _)];rfl
  obtain ⟨f,j,_⟩:=acK d b;have m:((Ag.i k).sd L (.u l h)).iv=k.val L:=j;have o:(((k.val L).toNat:Nat):Int)=k.val L:=m;have p:l<=(((k.val L).toNat:Nat):Int)/\(((k.val L).toNat:Nat):Int)<=h:=f;omega
 |_=>simp_all
def Yd {x l h:Int} (f:l<=x) (e:x<=h) (d:X3 l h=true):IntKind.i64.wrap x=x:=by
 obtain ⟨a,b⟩:=aY (show (gL (-9223372036854775808) l&&gL h big)=true from d);have a:=po a;have b:h<=9223372036854775807:=po b;exact aB _ ⟨by omega,by omega⟩
def atQ {x y a b c d:Int} (e:a<=x) (f:x<=b) (h:c<=y) (i:y<=d):min (min (a*c) (a*d)) (min (b*c) (b*d))<=x*y/\x*y<=max (max (a*c) (a*d)) (max (b*c) (b*d)):=by
 have j: ∀z:Int,min (a*z) (b*z)<=x*z/\x*z<=max (a*z) (b*z):=fun z=>by
  rcases kW 0 z with t|t
  ·have:=bO e t
   have:=bO f t;omega
  ·have:=jE e t
   have:=jE f t;omega
 have k:min (x*c) (x*d)<=x*y/\x*y<=max (x*c) (x*d):=by
  rcases kW 0 x with t|t
  ·have:=fv h t
   have:=fv i t;omega
  ·have:=gF t h
   have:=gF t i;omega
 have:=j c;have:=j d;omega
def atS {o:BinOp} {x y:Int×Int} {l h u v:Int} (e:arB o x y=some (l,h)) (m:x.1<=u/\u<=x.2) (p:y.1<=v/\v<=y.2): ∃z,l<=z/\z<=h/\((X3 l h=true)->XP .i64 o u v z):=by
 cases o<;>first|(cases e;done)|skip
 ·cases e;exact ⟨u+v,by omega,by omega,fun d=>Yd (by omega) (by omega) d⟩
 ·cases e;exact ⟨u-v,by omega,by omega,fun d=>Yd (by omega) (by omega) d⟩
 ·cases e
  have:=atQ m.1 m.2 p.1 p.2;have i:vb (vb (x.1*y.1) (x.1*y.2)) (vb (x.2*y.1) (x.2*y.2))<=u*v:=by simp only [Mh];omega
  have f:u*v<=imax (imax (x.1*y.1) (x.1*y.2)) (imax (x.2*y.1) (x.2*y.2)):=by simp only [Mg];omega
  exact ⟨u*v,i,f,fun d=>Yd i f d⟩
 ·rcases zr e with ⟨q,e⟩|⟨_,e⟩
  ·obtain ⟨i,f⟩:=aY q
   obtain ⟨A,C⟩:=aY (show (gL y.1 y.2&&gL y.2 y.1)=true from i);have f:=po f;have A:=po A;have C:=po C;have E:v=y.1:=by omega
   have j:=(Prod.mk.inj (fk e)).1;have k:=(Prod.mk.inj (fk e)).2;have F:=oT u (b:=v) (by omega);have G:=oX u (b:=v) (by omega);refine ⟨u.tmod v,?_,?_,fun _=>⟨by omega,rfl⟩⟩
   ·rcases zr j with ⟨t,j⟩|⟨_,j⟩
    ·have:=Int.tmod_nonneg v (a:=u) (by have:=po t;omega);omega
    omega
   ·rcases zr k with ⟨t,k⟩|⟨_,k⟩
    ·have:u.tmod v<=0:=by
      have D:0<= -u:=by have:=po t;omega
      have:=Int.tmod_nonneg v D;rw [Int.neg_tmod] at this;omega
     omega
    omega
  grind
def ajq {k:KI} (h:Me k=true):k.kd= .i64:=ajj h
def Tl (u:Sat s L) {b:BD} {d:SD} {f:KF} (o:b.ok d) (q:f.prop (L++ [d])) (y: ∀K,dY (sZ s.b [b]) K->Jz K ⟨sZ s.b [b],s.r,f::s.f,s.t⟩=true):
 Sat ⟨sZ s.b [b],s.r,f::s.f,s.t⟩ (L++ [d]):=by
 obtain ⟨i,m,⟨l,C⟩,j,A⟩:=u;have a:Ext L (L++ [d]):=Mj;have h:dY (sZ s.b [b]) (L++ [d]):=i.app ⟨d,[],rfl,o,rfl⟩;have p:=(aY (y _ h)).1;have e:=xd.ext a l C;exact ⟨h,fun x z=>(m x z).ext a,⟨.k q e.1,kQ p e.2⟩,uW.ext a j A⟩
def ajr {a:List BD} (j:Sat s L) {f:KF} (b:dY a L) (i:f.prop L) (l: ∀K,dY a K->Jz K ⟨a,s.r,f::s.f,s.t⟩=true):Sat ⟨a,s.r,f::s.f,s.t⟩ L:=by
 obtain ⟨p,h,⟨e,o⟩,d,m⟩:=j;exact ⟨b,h,⟨.k i e,kQ (aY (l _ b)).1 o⟩,d,m⟩
def Mo {k:KI} (a:dY B L) {l h:Int} (e:iv B k=some (l,h)):k.val (L++M)=k.val L:=by
 have b:(Ag.i k).bd B≠ .x:=fun q=>by
  have f:k.bd B= .x:=q;unfold iv at e;simp_all
 exact (ajg Mj a b (d:= .i (k.val L)) rfl).symm
def ajs (m:dY B L) {k:KI} {l h:Int} (p:l<=k.val L) (q:k.val L<=h):dY (Ff k l h B) L:=by
 cases k with
 |i j=>
  have a:=m.get (j:=j);have d:l<=(aU L j).iv:=p;have f:(aU L j).iv<=h:=q;have e:=m.set (j:=j) (b:= .i l h);simp only [Ff];revert a e;cases dN B j<;>intro a e<;>first|exact m|skip
  refine e fun o=> ?_
  have a:=a o;revert a d f;cases aU L j<;>intro d f a<;>first|exact False.elim a|exact ⟨d,f⟩
 |u j=>
  have a:=m.get (j:=j);have d:l<=(aU L j).iv:=p;have f:(aU L j).iv<=h:=q;have e:=m.set (j:=j) (b:= .u l h);simp only [Ff];revert a e;cases dN B j<;>intro a e<;>first|exact m|skip
  refine e fun o=> ?_
  have a:=a o;revert a d f;cases aU L j<;>intro d f a<;>first|exact False.elim a|exact ⟨d,f⟩
 |_=>exact m
def acT {a b:Int} (h:Jx a b=true):a=b:=by
 obtain ⟨d,e⟩:=aY (show (gL a b&&gL b a)=true from h);have:=po d;have:=po e;omega
def JB (u v:Int) (p:(Int×Int)×(Int×Int)):Prop:=(p.1.1<=u/\u<=p.1.2)/\p.2.1<=v/\v<=p.2.2
def Ye {x y:Int×Int} {u v:Int} (a:x.1<=u/\u<=x.2) (b:y.1<=v/\v<=y.2):JB u v (O2 (decide (u<v)) x y):=by
 unfold O2;by_cases h:u<v
 ·rw [decide_eq_true h];simp only [cond_true,JB,Mh,Mg];omega
 ·rw [decide_eq_false h];simp only [cond_false,JB,Mh,Mg];omega
def ajt {u v:Int} {p:(Int×Int)×(Int×Int)} (h:JB u v p):JB v u (swp p):=⟨h.2,h.1⟩
def aju {x y:Int×Int} {u v:Int} (a:x.1<=u/\u<=x.2) (f:y.1<=v/\v<=y.2) (h:u≠v):(Tg x y).1<=u/\u<=(Tg x y).2:=by
 unfold Tg;cases e:Jx y.1 y.2
 ·exact a
 ·have:=acT e
  cases b:Jx x.1 y.1
  ·cases d:Jx x.2 y.1
   ·exact a
   ·have:=acT d;grind
  ·have:=acT b;grind
def ajv {x y:Int×Int} {u v:Int} (a:x.1<=u/\u<=x.2) (b:y.1<=v/\v<=y.2):JB u v (X0 (decide (u=v)) x y):=by
 unfold X0;by_cases h:u=v
 ·rw [decide_eq_true h];simp only [cond_true,JB,Mh,Mg];omega
 ·rw [decide_eq_false h]
  exact ⟨aju a b h,aju b a fun e=>h e.symm⟩
def acU (p q:Prop) [Decidable p] [Decidable q] (h:q↔ ¬p:=by omega):vS (decide p)=decide q:=by
 by_cases a:p
 ·rw [decide_eq_true a,decide_eq_false (fun b=>h.1 b a)];rfl
 ·rw [decide_eq_false a,decide_eq_true (h.2 a)];rfl
def atT {o:BinOp} {x y:Int×Int} {u v:Int} (a:x.1<=u/\u<=x.2) (b:y.1<=v/\v<=y.2) {e:Bool} {p0:(Int×Int)×(Int×Int)} (d:O3 o e x y=some p0): ∃r p,O3 o r x y=some p/\cmP o u v r/\JB u v p:=by
 cases o<;>first|(cases d;done)|skip
 ·exact ⟨_,_,rfl,rfl,ajv a b⟩
 ·refine ⟨decide (u≠v),_,rfl,rfl,?_⟩
  rw [acU (u≠v) (u=v)];exact ajv a b
 ·exact ⟨_,_,rfl,rfl,Ye a b⟩
 ·refine ⟨decide (u<=v),_,rfl,rfl,?_⟩
  rw [acU (u<=v) (v<u)];exact ajt (Ye b a)
 ·exact ⟨_,_,rfl,rfl,ajt (Ye b a)⟩
 ·refine ⟨decide (v<=u),_,rfl,rfl,?_⟩
  rw [acU (v<=u) (u<v)];exact Ye a b
def atU (m:Sat s L) {o:BinOp} {p q:KI} {x y:Int×Int} (z:iv s.b p=some x) (A:iv s.b q=some y) {p0:(Int×Int)×(Int×Int)} (C:O3 o true x y=some p0)
 (H: ∀t∈A4 (Fg s o p q x y true) (Fg s o p q x y false),∀K,dY t.b K->Jz K t=true): ∃t∈A4 (Fg s o p q x y true) (Fg s o p q x y false),∃M,Sat t (L++M):=by
 have e:=m.1;obtain ⟨l,h⟩:=x;obtain ⟨d,a⟩:=y;have b1:=JA e z;have u:=JA e A;obtain ⟨r,⟨⟨u1,u2⟩,i,j⟩,N,hc,⟨D,E⟩,F,G⟩:=atT (o:=o) (x:=(l,h)) (y:=(d,a)) b1 u C;have c1:gL u1 u2=true:=by rw [Ci];grind
 have J:gL i j=true:=by rw [Ci];grind
 have O:Fg s o p q (l,h) (d,a) r= [⟨Ff q i j (Ff p u1 u2 s.b),s.r,.cm o p q r::s.f,s.t⟩]:=by
  unfold Fg;simp_all
 have k:(⟨Ff q i j (Ff p u1 u2 s.b),s.r,.cm o p q r::s.f,s.t⟩:St)∈A4 (Fg s o p q (l,h) (d,a) true) (Fg s o p q (l,h) (d,a) false):=by
  cases r
  ·exact O' (by simp_all)
  ·exact O9 (by simp_all)
 refine ⟨_,k,[],?_⟩;rw [fO];have I:dY (Ff p u1 u2 s.b) L:=ajs e D E;exact ajr m (ajs I F G) hc (H _ k)
def atV {b:BD} {d:SD} (h:b.ok d) (e:d.nv=0) (f:d.B7=true\/d.sh=true):(X1 b).ok d:=by
 cases b<;>cases d<;>first|exact False.elim h|skip
 ·rename_i a m c k x
  have:x=0:=by have:x.natAbs=0:=e;omega
  subst this;exact ⟨⟨fun q=>absurd q (by decide),fun _=>rfl,fun q=>absurd q (by decide)⟩,h.2⟩
 ·rename_i g m c k x i j
  have:x=0:=by have:x.natAbs=0:=e;omega
  subst this;exact ⟨h.1,⟨fun q=>absurd q (by decide),fun _=>rfl,fun q=>absurd q (by decide)⟩,h.2.2⟩
 ·rename_i p k x
  have:x=0:=e;subst this;exact ⟨fun q=>(by cases q),(by show 0<2^0;decide)⟩
 ·rcases f with t|t<;>cases t
 ·rcases f with t|t<;>cases t
 ·exact h
def atW {b:BD} {d:SD} (h:b.ok d) (f:d.nv≠0):(X2 b).ok d:=by
 cases b<;>cases d<;>first|exact False.elim h|skip
 ·rename_i a m c k x
  have:x≠0:=fun e=>by subst e;exact f rfl
  exact ⟨⟨h.1.1,fun q=>absurd q this,h.1.2.2⟩,h.2⟩
 ·rename_i g m c k x i j
  have:x≠0:=fun e=>by subst e;exact f rfl
  exact ⟨h.1,⟨h.2.1.1,fun q=>absurd q this,h.2.1.2.2⟩,h.2.2⟩
 ·rename_i p k x
  have:x≠0:=f;exact ⟨fun _=>by omega,h.2⟩
 ·exact h
 ·exact h
 ·exact h
def Pa (F:Sat s L) {o:BinOp} {j:Nat} {r z:Bool} (h:decide ((aU L j).nv=0)=z) (hc:cmP o ((m6 (aU L j).nv:Nat):Int) 0 r)
 {A:List St} (G: ∀t∈Ha s o j r z,t∈A) (i:(aU L j).B7=true\/(aU L j).sh=true) (O:dN s.b j≠ .x) (N: ∀t∈A,∀K,dY t.b K->Jz K t=true): ∃t∈A,∃M,Sat t (L++M):=by
 have D:=F.1;have d:=D.get O;have P:(cond z (X1 (dN s.b j)) (X2 (dN s.b j))).ok (aU L j):=by
  cases z
  ·exact atW d (of_decide_eq_false h)
  ·exact atV d (of_decide_eq_true h) i
 have I:ai9 z (dN s.b j)=false:=by
  revert d h i;cases dN s.b j<;>intro h i d<;>(revert d h i;cases aU L j<;>intro h i d<;>first|exact False.elim d|skip)
  ·rename_i a m c k x
   cases z
   ·have q:x≠0:=fun e=>by subst e;exact (of_decide_eq_false h) rfl
    show vS (a||c)=false;rcases kb q with t|t
    ·rw [d.1.1 t];rfl
    ·rw [d.1.2.2 t];cases a<;>rfl
   ·have:x=0:=by have:x.natAbs=0:=of_decide_eq_true h;omega
    show vS m=false;rw [d.1.2.1 this];rfl
  ·rename_i g m c k x u Q
   obtain ⟨e,y,C⟩:=d;subst e;cases z
   ·have q:x≠0:=fun e=>by subst e;exact (of_decide_eq_false h) rfl
    show vS (u||c)=false;rcases kb q with t|t
    ·rw [y.1 t];rfl
    ·rw [y.2.2 t];cases u<;>rfl
   ·have H:x=0:=by have:x.natAbs=0:=of_decide_eq_true h;omega
    show (u||vS m)=false;have:u=false:=by grind
    rw [y.2.1 H,this];rfl
  ·rename_i p k x
   cases z
   ·show Nat.beq k 0=false
    cases e:Nat.beq k 0 with
    |false=>rfl
    |true=>
     have C:x<2^k:=d.2;rw [bE e] at C;exact absurd (show x=0 by omega) (of_decide_eq_false h)
   ·show p=false
    cases p
    ·rfl
    ·have:=d.1 rfl;have e:x=0:=of_decide_eq_true h;omega
  ·rcases i with t|t<;>cases t
  ·rcases i with t|t<;>cases t
  ·rcases i with t|t<;>cases t
 have J:Ha s o j r z= [⟨Mb s.b j (cond z (X1 (dN s.b j)) (X2 (dN s.b j))),s.r,.cm o (.len j) (.l 0) r::s.f,s.t⟩]:=by
  unfold Ha;rw [I];rfl
 have E:=G _ (by rw [J];exact jr _);refine ⟨_,E,[],?_⟩;rw [fO];exact ajr F (D.set fun _=>P) hc (N _ E)
def zed (f:Sat s L) {j:Nat} (h:aja (dN s.b j)=true):((aU L j).B7=true\/(aU L j).sh=true)/\dN s.b j≠ .x:=by
 have d:dN s.b j≠ .x:=fun e=>by rw [e] at h;cases h
 refine ⟨?_,d⟩;have a:=f.1.get d;revert a h;cases dN s.b j<;>intro h a<;>first|(cases h;done)|(revert a;cases aU L j<;>intro a<;>first|exact False.elim a|exact .inl rfl|exact .inr rfl)
def atX (x:Nat):((m6 x:Nat):Int)=0↔x=0:=by
 have:=Sb x
 all_goals grind
def atY {C:Nat->List BD->Option Cn} (X: ∀i l c,C i l=some c->Holds c) {n:Nd} {T:List St} (h:step C n s=some T) (D:Sat s L) (E: ∀t∈T,∀K,dY t.b K->Jz K t=true): ∃t∈T,∃M,Sat t (L++M):=by
 have A:=D.1;cases n with
 |c i g=>
  simp only [step] at h;cases e:C i (A3 s.b g) with
  |none=>simp_all
  |some c=>rw [e] at h;exact aba (X _ _ _ e) h D E
 |r k g=>cases h
 |a o p q=>
  simp only [step] at h;cases f:iv s.b p with
  |none=>simp_all
  |some x=>
   rw [f] at h;cases G:iv s.b q with
   |none=>simp_all
   |some y=>
    rw [G] at h;simp only at h;cases Q:arB o x y with
    |none=>simp_all
    |some w=>
     rw [Q] at h;obtain ⟨l,u⟩:=w;rcases zr h with ⟨J,d⟩|⟨_,d⟩
     case inr=>cases d
     cases d;obtain ⟨I,H⟩:=aY J;obtain ⟨z,Y,Z,z3⟩:=atS Q (JA A f) (JA A G);refine ⟨_,jr _,[.i z],Tl D ⟨Y,Z⟩ ?_ (E _ (jr _))⟩;have e5:(aU (L++ [SD.i z]) (mR s.b)).iv=z:=by rw [Tk A];rfl
     show XP p.kd o (p.val _) (q.val _) _;rw [ajq (aY I).1,Mo A f,Mo A G];show XP .i64 o _ _ (aU (L++ [SD.i z]) (mR s.b)).iv;simp_all
 |t o p q=>
  simp only [step] at h;cases f:iv s.b p with
  |none=>simp_all
  |some x=>
   rw [f] at h;cases G:iv s.b q with
   |none=>simp_all
   |some y=>
    rw [G] at h;simp only at h;cases Q:O3 o true x y with
    |none=>simp_all
    |some w=>
     rw [Q] at h;rcases zr h with ⟨J,d⟩|⟨_,d⟩
     case inr=>cases d
     cases d;exact atU D f G Q E
 |e o j=>
  simp only [step] at h;rcases zr h with ⟨J,d⟩|⟨_,d⟩
  case inr=>cases d
  obtain ⟨O,P⟩:=zed D J;have U:=atX (aU L j).nv;by_cases S:(aU L j).nv=0
  ·have N:=decide_eq_true S
   have R:=U.2 S;cases o<;>first|(cases d;done)|skip
   all_goals cases d
   ·exact Pa (r:=true) D N (by show decide _=_;simp_all) (fun _ F=>O9 F) O P E
   ·exact Pa (r:=false) D N (by show decide _=_;simp_all) (fun _ F=>O' F) O P E
   ·exact Pa (r:=false) D N (by show decide _=_;rw [R];rfl) (fun _ F=>O' F) O P E
  ·have N:=decide_eq_false S
   have R: ¬((m6 (aU L j).nv:Nat):Int)=0:=fun q=>S (U.1 q)
   cases o<;>first|(cases d;done)|skip
   all_goals cases d
   ·exact Pa (r:=false) D N (by show decide _=_;simp_all) (fun _ F=>O' F) O P E
   ·exact Pa (r:=true) D N (by show decide _=_;simp_all) (fun _ F=>O9 F) O P E
   ·exact Pa (r:=true) D N (by show decide _=_;grind) (fun _ F=>O9 F) O P E
 |g p=>
  simp only [step] at h;cases f:iv s.b p with
  |none=>simp_all
  |some x=>
   rw [f] at h;obtain ⟨l,u⟩:=x;rcases zr h with ⟨J,d⟩|⟨_,d⟩
   case inr=>cases d
   cases d;obtain ⟨I,H⟩:=aY J;have b1:=JA A f;refine ⟨_,jr _,[.i (-(p.val L))],Tl D ⟨by omega,by omega⟩ ?_ (E _ (jr _))⟩;show IntKind.wrap p.kd (-(p.val _))=(aU (L++ [SD.i _]) (mR s.b)).iv;rw [ajq I,Mo A f,Tk A];exact Yd (l:= -u) (h:= -l) (by omega) (by omega) (aY H).2
 |m g p q=>
  simp only [step] at h;cases f:iv s.b p with
  |none=>simp_all
  |some x=>
   rw [f] at h;cases G:iv s.b q with
   |none=>simp_all
   |some y=>
    rw [G] at h;rcases zr h with ⟨J,d⟩|⟨_,d⟩
    case inr=>cases d
    cases d;have b1:=JA A f;have b2:=JA A G;refine ⟨_,jr _,[.i (cond g (max (p.val L) (q.val L)) (min (p.val L) (q.val L)))],Tl D ?_ ?_ (E _ (jr _))⟩
    ·cases g
     ·show vb x.1 y.1<=min _ _/\min _ _<=vb x.2 y.2
      rw [Mh,Mh];omega
     ·show imax x.1 y.1<=max _ _/\max _ _<=imax x.2 y.2
      rw [Mg,Mg];omega
    ·show cond g (max (p.val _) (q.val _)) (min (p.val _) (q.val _))=(aU (L++ [SD.i _]) (mR s.b)).iv
     rw [Mo A f,Mo A G,Tk A];rfl
 |v p=>
  simp only [step] at h;cases f:iv s.b p with
  |none=>simp_all
  |some x=>
   rw [f] at h;obtain ⟨l,u⟩:=x;have b1:=JA A f;rcases zr h with ⟨J,d⟩|⟨_,d⟩
   ·rcases zr d with ⟨I,H⟩|⟨_,H⟩
    case inr=>cases H
    cases H;have c1:=po (aY I).1;have W:=po (aY I).2;refine ⟨_,jr _,[.u (p.val L).toNat],Tl D ⟨by omega,by omega⟩ ?_ (E _ (jr _))⟩;show IntKind.wrap .u32 (p.val _)=(aU (L++ [SD.u _]) (mR s.b)).iv;rw [Mo A f,Tk A];show IntKind.wrap .u32 _=(((p.val L).toNat:Nat):Int);rw [show (((p.val L).toNat:Nat):Int)=p.val L by omega];exact cW _ ⟨by omega,by omega⟩
   ·rcases zr d with ⟨I,H⟩|⟨_,H⟩
    case inr=>cases H
    cases H;have c1:=po (aY (aY I).2).1;have W:=po (aY (aY I).2).2;refine ⟨_,jr _,[.i (p.val L)],Tl D ⟨by omega,by omega⟩ ?_ (E _ (jr _))⟩;show IntKind.wrap .i64 (p.val _)=(aU (L++ [SD.i _]) (mR s.b)).iv;rw [Mo A f,Tk A];exact aB _ ⟨by omega,by omega⟩
end
def Yf (V:Nat->Int×Fh):List St->Bool
 | []=>true
 |s::l=>Jz (pM s.b V) s&&Yf V l
def zt {α:Type} (d:α->Nat->Int×Fh) (C:Nat->List BD->Option Cn) (b:α->St->Nat->List Ag->Bool) (V:α):List Nd->List St->Bool
 | [],a=>match a with
  | []=>true
  |_::_=>false
 |n::ns,a=>match a with
  | []=>false
  |s::a=>match n with
   | .r k g=>b V s k g&&zt d C b V ns a
   |n=>match step C n s with
    |some l=>Yf (d V) l&&zt d C b V ns (A4 l a)
    |none=>false
def atZ {l:List St} (h: ∀V,Yf V l=true): ∀t∈l,∀K,dY t.b K->Jz K t=true:=by
 induction l with
 |nil=>simp_all
 |cons s l e=>
  intro t d K a;rcases bq.1 d with rfl|q
  ·have:=(aY (h fun j=>(aU K j).vx)).1
   rw [Jy a] at this;omega
  ·exact e (fun V=>(aY (h V)).2) t q K a
def acV {C:Nat->List BD->Option Cn} {α:Type} {p:α->Nat->Int×Fh} {o:α->St->Nat->List Ag->Bool} (x: ∀v,∃V,p V=v) (A: ∀i l c,C i l=some c->Holds c) {b:Prop} {Lp:List SD}
 (D: ∀s k g N,(∀V,o V s k g=true)->Sat s (Lp++N)->b): ∀(ns:List Nd) (f:List St),(∀V,zt p C o V ns f=true)-> ∀s∈f,∀N,Sat s (Lp++N)->b:=by
 intro ns
 induction ns with
 |nil=>
  intro f h s j;cases f with
  |nil=>cases j
  |cons a l=>obtain ⟨V,_⟩:=x fun _=>(0,O4);cases h V
 |cons n ns z=>
  intro f h s j N u;cases f with
  |nil=>cases j
  |cons a l=>
   by_cases E: ∃k g,n= .r k g
   ·obtain ⟨k,g,rfl⟩:=E
    have d: ∀V,(o V a k g&&zt p C o V ns l)=true:=h;rcases bq.1 j with rfl|q
    ·exact D _ k g N (fun V=>(aY (d V)).1) u
    grind
   ·have d: ∀V,(match step C n a with
     |some m=>Yf (p V) m&&zt p C o V ns (A4 m l)
     |none=>false)=true:=fun V=>by
     have:=h V;cases n<;>first|exact this|simp_all
    cases e:step C n a with
    |none=>obtain ⟨V,_⟩:=x fun _=>(0,O4);have:=d V;simp_all
    |some m=>
     rw [e] at d;rcases bq.1 j with rfl|q
     ·obtain ⟨t,F,M,y⟩:=atY A e u (atZ fun v=>by obtain ⟨V,e⟩:=x v;grind)
      rw [fo] at y;exact z _ (fun V=>(aY (d V)).2) t (O9 F) _ y
     ·exact z _ (fun V=>(aY (d V)).2) s (O' q) N u
structure bo where
 c:List BD->Cn
 ok:List BD->Bool
 h: ∀l,ok l=true->Holds (c l)
def He:List bo->Nat->List BD->Option Cn
 | [],_,_=>none
 |f::_,0,l=>cond (f.ok l) (some (f.c l)) none
 |_::l,n+1,b=>He l n b
def Yg: ∀ {l:List bo} {i:Nat} {b:List BD} {c:Cn},He l i b=some c->Holds c
 |f::_,0,b,c,h=>by
  rcases zr (show cond (f.ok b) (some (f.c b)) none=some c from h) with ⟨d,a⟩|⟨_,a⟩
  ·cases a;exact f.h b d
  simp_all
 |_::l,n+1,b,c,h=>Yg (l:=l) (i:=n) h
def acW {c:Cn} {s:St} {k:Nat} {g:List Ag} {r:Kd} {Lp N:List SD} (h:Mf c s k g=some r) (C:dY c.ps Lp) (Z:Sat s (Lp++N)) (Y:r.ok (Lp++N) false=true):
 ∃a∈c.al,∃M,dY a.nb M/\(∀x∈a.rf,x.2.ok (aU Lp x.1))/\(∀x∈a.rr,nZ (Lp++M) x)/\r.rel (Lp++N)=a.r.rel (Lp++M):=by
 have I:=Z.1;unfold Mf at h;have G: ∀ {l:List Alt} {k:Nat} {a:Alt},X4 l k=some a->a∈l:=by
  intro l
  induction l with
  |nil=>intro k a e;cases e
  |cons b l m=>
   intro k a e;cases k with
   |zero=>cases e;simp_all
   |succ k=>exact aw _ (m e)
 cases e:X4 c.al k with
 |none=>simp_all
 |some a=>
  rw [e] at h;rcases zr h with ⟨Q,H⟩|⟨_,H⟩
  case inr=>cases H
  cases H;obtain ⟨R,S⟩:=aY Q;obtain ⟨T,U⟩:=aY S;obtain ⟨q1,q2⟩:=acM I R;have m0:qg (Lp++N) Lp (fresh 0 c.ps):=by
   have:=Mn (N:= []) C;have e1:qg Lp Lp (fresh 0 c.ps):=this;intro j f X;obtain ⟨E,r2⟩:=e1 j f X;have ex:Ext Lp (Lp++N):=Mj;have l9: ∀(l:List BD) (n j:Nat) (f:Ag),pL (fresh n l) j=some f->f=XX (n+j) (dN l j):=by
    intro l
    induction l with
    |nil=>intro n j f e;cases e
    |cons b l m=>
     intro n j f e;cases j with
     |zero=>cases e;rfl
     |succ j=>
      have:=m (n+1) j f e;rw [show n+1+j=n+(j+1) by omega] at this;exact this
   have P:=l9 _ _ _ _ X;have zZ:dN c.ps j≠ .x:=by
    intro q;have: ∀(l:List BD) (n j:Nat) (f:Ag) (L:List SD),dY l L->pL (fresh n l) j=some f->dN l j≠ .x:=by
     intro l
     induction l with
     |nil=>intro n j f L _ e;cases e
     |cons b l m=>
      intro n j f L hL e;obtain ⟨d,M,_,hb,hM⟩:=hL;cases j with
      |zero=>exact atJ hb
      |succ j=>exact m (n+1) j f M hM e
    grind
   have J:aU Lp j≠ .o:=fun q=>by
    have:=C.get zZ;rw [q] at this;exact X9 _ this
   have A:=ex j J;rw [dr] at P;have EI:(∀i,f.ix=some i->i=j)/\O8 (Lp++N) (aU Lp j) f:=by
    subst P;revert E;cases dN c.ps j<;>intro E<;>refine ⟨fun i W=>(by first|exact (fk W).symm|cases W),?_⟩
    case z=>exact ⟨(show _=(aU (Lp++N) j).zv by rw [A]),by have t:_=((aU Lp j).zv).natAbs:=E.2;show _=((aU (Lp++N) j).zv).natAbs;simp_all⟩
    case y=>exact ⟨(show _=(aU (Lp++N) j).zv by rw [A]),by have t:_=((aU Lp j).zv).natAbs:=E.2;show _=((aU (Lp++N) j).zv).natAbs;simp_all⟩
    case n=>show _=(aU (Lp++N) j).nv;rw [A]
    case ra=>exact ⟨A.symm,E.2⟩
    all_goals (show _=(aU (Lp++N) j).iv;rw [A])
   simp_all
  have D:Lp.length=(fresh 0 c.ps).length:=by
   rw [<-C.len];generalize 0=n;clear C e Q R S T U Y q1 q2 m0
   induction c.ps generalizing n with
   |nil=>rfl
   |cons b l m=>exact congrArg Nat.succ (m _)
  have m2:=acO D m0 q2;refine ⟨a,G e,_,q1,?_,acR m2 Z.2.1 U,Kd.su m2 (by rw [I.len];omega) Y⟩;have F6: ∀(l:List (Nat×BD)),X6 (mR c.ps) s.b l=true-> ∀x∈l,x.2.ok (aU (Lp++N) x.1)/\x.1<Lp.length:=by
   intro l
   induction l with
   |nil=>simp_all
   |cons y l m=>
    intro hl x O;obtain ⟨t0,t5⟩:=aY (show ((nF (dN s.b y.1) y.2&&beq (X5 (dN s.b y.1)) (X5 y.2))&&(Nat.blt y.1 (mR c.ps)&&X6 (mR c.ps) s.b l))=true from hl);obtain ⟨t4,t2⟩:=aY t5;obtain ⟨p,F⟩:=aY t0;rcases bq.1 O with rfl|q
    ·have VU:dN s.b x.1≠ .x:=fun q=>by rw [q] at p;cases h:x.2<;>rw [h] at p<;>cases p
     have u:=I.get VU;refine ⟨?_,by rw [<-C.len];simp_all⟩;rcases O7 u p with q|⟨⟨_,_,_,_,q0⟩,q⟩
     ·exact q
     ·rw [q0] at p F q⊢
      revert q;revert u;revert F;revert p;cases dN s.b x.1<;>intro p F u q<;>first|(cases p;done)|(cases ajb F;done)|skip
      revert q;revert u;cases aU (Lp++N) x.1<;>intro u q<;>first|exact False.elim u|exact q
    grind
  intro x O;obtain ⟨h7,h8⟩:=F6 _ T x O;rw [X8 h8] at h7;omega
end
section
open Go.RowKit Go.Ev
def Fk (I:List FuncId) (a:Nat) (c:Cn) (f:FuncId) (V:Nat->Int×Fh) (s:St) (k:Nat) (g:List Ag):Bool:=match Mf c s k g with
 |some r=>SU (Ju (pM s.b V) s.f) (s.t.map KE.E') I a f (c.ks.map Kd.pat) r.pat&&((okF (pM s.b V) s.f&&tI (pM s.b V) s.t)&&(qY (pM s.b V) true c.ks&&r.ok (pM s.b V) false))
 |none=>false
def at0 {C:Nat->List BD->Option Cn} (B: ∀i l c,C i l=some c->Holds c) (I:List FuncId) (b:Nat) (c:Cn) (f:FuncId) (F:c.f=some f) (ns:List Nd)
 (h: ∀V,(qY (pM c.ps V) true c.ks&&zt id C (Fk I b c f) V ns [⟨c.ps,yp (fresh 0 c.ps) c.pr [],[],[]⟩])=true):Holds c:=fun Lp o D=>by
 have y:(Lp++ [])=Lp:=fO _;have G:qY Lp true c.ks=true:=by
  have:=(aY (h fun j=>(aU Lp j).vx)).1;rw [Jy o] at this;omega
 have J:qg Lp Lp (fresh 0 c.ps):=Mn (N:= []) o;refine acV (Lp:=Lp) (fun v=>⟨v,rfl⟩) B ?_ ns _ (fun V=>(aY (h V)).2) _ (jr _) [] ?_
 ·intro s k g N q p
  have A:=p.1;cases e:Mf c s k g with
  |none=>have:=q fun _=>(0,O4);unfold Fk at this;simp_all
  |some r=>
   have m:=q fun j=>(aU (Lp++N) j).vx
   unfold Fk at m;rw [e,Jy A] at m;have d:=m;simp only [aq] at d;obtain ⟨T,⟨U,W⟩,X,z⟩:=d;obtain ⟨a,E,M,O,P,Q,R⟩:=acW e o p z;refine ⟨a,E,M,O,P,Q,fun S u=> ?_⟩;rw [F] at u;cases u;rw [<-R,<-(Ya (Mj (M:=N)) G).2];exact fR (Lp++N) I b s.f s.t c.ks r m p.2.2.1.1 p.2.2.2.1
 ·rw [y]
  exact ⟨o,Th J (fun x H=>by cases H) D,⟨.nil,rfl⟩,.nil,rfl⟩
def ajw:Nat->List Nat->List Nat->List Nat
 |n+1,a::l,r=>a::ajw n l r
 |_,_,r=>r
def ajx:Nat->List Nat->List Nat
 |n+1,_::l=>ajx n l
 |_,l=>l
def acX:Nat->Nat->List Nat->List Nat
 |0,_,r=>r
 |n+1,c,r=>cond (Nat.ble c 1) r (th (Nat.mod c 64) fun d=>cond (Nat.beq d 63)
  (th (Nat.div c 16777216) fun e=>acX n e (ajw (Nat.mod (Nat.div c 262144) 64) (ajx (Nat.mod (Nat.div c 64) 4096) r) r))
  (th (Nat.div c 64) fun e=>acX n e (d::r)))
def ajy (n:Nat):Int:=cond (Nat.beq (Nat.mod n 2) 0) (.ofNat (Nat.div n 2)) (.negSucc (Nat.div n 2))
def ajz (f:Nat->Ag):List Nat->Ag×List Nat
 |a::b::c::l=>(f (Nat.add (Nat.add (Nat.mul 3600 c) (Nat.mul 60 b)) a),l)
 |l=>(.ra 0,l)
def ajA (B:List BD):List Nat->Ag×List Nat
 | []=>(.ra 0,[])
 |d::l=>match Nat.sub d 55 with
  |0=>(XX d (dN B d),l)
  |1=>match l with
   |j::l=>(.z (.z j),l)
   |l=>(.ra 0,l)
  |2=>match l with
   |j::l=>(.n (.m j),l)
   |l=>(.ra 0,l)
  |3=>(.z .o,l)
  |4=>(.n .o,l)
  |5=>match l with
   |j::l=>(.i (.l (ajy j)),l)
   |l=>(.ra 0,l)
  |6=>ajz (fun n=> .i (.l (ajy n))) l
  |_=>ajz (fun n=> .i (.k .u32 (.ofNat n))) l
def acY (B:List BD):Nat->List Nat->(List Ag->Nd)->Nd×List Nat
 |0,l,f=>(f [],l)
 |n+1,l,f=>match ajA B l with
  |(a,l)=>acY B n l fun x=>f (a::x)
def Yh (B:List BD) (l:List Nat) (f:KI->List Nat->Nd×List Nat):Nd×List Nat:=match ajA B l with
 |(.i k,l)=>f k l
 |(_,l)=>f (.i 0) l
def Yi (B:List BD) (l:List Nat) (f:KI->KI->Nd):Nd×List Nat:=Yh B l fun p l=>Yh B l fun q l=>(f p q,l)
def acZ (n:Nat):BinOp:=match n with
 |0=> .lss
 |1=> .gtr
 |2=> .leq
 |3=> .geq
 |4=> .eql
 |5=> .neq
 |6=> .add
 |7=> .sub
 |8=> .mul
 |_=> .rem
def at1 (B:List BD):List Nat->Nd×List Nat
 | []=>(.r 0 [],[])
 |o::l=>cond (Nat.blt o 32) (match l with
   | []=>(.r 0 [],[])
   |i::l=>cond (Nat.blt o 16) (acY B o l (.c i)) (acY B (Nat.sub o 16) l (.r i)))
  (cond (Nat.blt o 38) (Yi B l (.t (acZ (Nat.sub o 32)))) (cond (Nat.blt o 42) (Yi B l (.a (acZ (Nat.sub o 32))))
   (cond (Nat.blt o 48) (match l with
    | []=>(.r 0 [],[])
    |j::l=>(.e (acZ (Nat.sub o 42)) j,l))
   (match Nat.sub o 48 with
    |0=>Yh B l fun p l=>(.g p,l)
    |1=>Yi B l (.m false)
    |2=>Yi B l (.m true)
    |_=>Yh B l fun p l=>(.v p,l)))))
def ajB (C:Nat->List BD->Option Cn):Nat->List Nat->List St->List Nd
 |n+1,d::l,s::a=>match at1 s.b (d::l) with
  |(x,l)=>x::ajB C n l (match x with
   | .r _ _=>a
   |x=>match step C x s with
    |some t=>A4 t a
    |none=>a)
 |_,_,_=> []
def Pb (a:List bo) (ps:List BD) (pr:List (Nat×List Nat)) (T:List KE) (c:Nat):List Nd:=ajB (He a) 2000 (acX 2000 c []) [⟨ps,yp (fresh 0 ps) pr [],[],T⟩]
def JC (b:List bo) (I:List FuncId) (a:Nat) (f:FuncId) (ps:List BD) (pr:List (Nat×List Nat)) (ks:List Kd) (al:List Alt) (ns:List Nd)
 (h: ∀V,(qY (pM ps V) true ks&&zt id (He b) (Fk I a ⟨some f,ps,pr,ks,al⟩ f) V ns [⟨ps,yp (fresh 0 ps) pr [],[],[]⟩])=true):bo:=
 ⟨fun _=>⟨some f,ps,pr,ks,al⟩,fun _=>true,fun _ _=>at0 (fun _ _ _=>Yg) I a _ f rfl ns h⟩
def cD (b:List bo) (I:List FuncId) (a:Nat) (f:FuncId) (ps:List BD) (pr:List (Nat×List Nat)) (ks:List Kd) (al:List Alt) (c:Nat)
 (h: ∀V,(qY (pM ps V) true ks&&zt id (He b) (Fk I a ⟨some f,ps,pr,ks,al⟩ f) V (Pb b ps pr [] c) [⟨ps,yp (fresh 0 ps) pr [],[],[]⟩])=true:=by intro V;kernel_rfl):bo:=JC b I a f ps pr ks al (Pb b ps pr [] c) h
def Tn (c:Cn) (T:List KE):Prop:= ∀L,dY c.ps L->(∀x∈c.pr,nZ L x)->uW L T-> ∃a∈c.al,∃M,dY a.nb M/\(∀x∈a.rf,x.2.ok (aU L x.1))/\(∀x∈a.rr,nZ (L++M) x)/\
 ∀f,c.f=some f->bH Tryz.prog bw f (c.ks.map (Kd.rel L)) (a.r.rel (L++M))
def at2 {C:Nat->List BD->Option Cn} (D: ∀i l c,C i l=some c->Holds c) (I:List FuncId) (b:Nat) (c:Cn) (f:FuncId) (H:c.f=some f) (T:List KE) (ns:List Nd)
 (h: ∀V,((qY (pM c.ps V) true c.ks&&tI (pM c.ps V) T)&&zt id C (Fk I b c f) V ns [⟨c.ps,yp (fresh 0 c.ps) c.pr [],[],T⟩])=true):Tn c T:=fun Lp o E F=>by
 have z:(Lp++ [])=Lp:=fO _;have q:qY Lp true c.ks=true/\tI Lp T=true:=by
  have:=(aY (h fun j=>(aU Lp j).vx)).1;rw [Jy o] at this;simp_all
 have O:qg Lp Lp (fresh 0 c.ps):=Mn (N:= []) o;refine acV (Lp:=Lp) (fun v=>⟨v,rfl⟩) D ?_ ns _ (fun V=>(aY (h V)).2) _ (jr _) [] ?_
 ·intro s k g N u p
  have B:=p.1;cases e:Mf c s k g with
  |none=>have:=u fun _=>(0,O4);unfold Fk at this;simp_all
  |some r=>
   have m:=u fun j=>(aU (Lp++N) j).vx
   unfold Fk at m;rw [e,Jy B] at m;have d:=m;simp only [aq] at d;obtain ⟨W,⟨X,Y⟩,Z,A⟩:=d;obtain ⟨a,G,M,P,Q,R,S⟩:=acW e o p A;refine ⟨a,G,M,P,Q,R,fun U y=> ?_⟩;rw [H] at y;cases y;rw [<-S,<-(Ya (Mj (M:=N)) q.1).2];exact fR (Lp++N) I b s.f s.t c.ks r m p.2.2.1.1 p.2.2.2.1
 ·rw [z]
  exact ⟨o,Th O (fun x J=>by cases J) E,⟨.nil,rfl⟩,F,q.2⟩
def at3 (b:List bo) (I:List FuncId) (a:Nat) (f:FuncId) (ps:List BD) (pr:List (Nat×List Nat)) (ks:List Kd) (al:List Alt) (T:List KE) (ns:List Nd)
 (h: ∀V,((qY (pM ps V) true ks&&tI (pM ps V) T)&&zt id (He b) (Fk I a ⟨some f,ps,pr,ks,al⟩ f) V ns [⟨ps,yp (fresh 0 ps) pr [],[],T⟩])=true):Tn ⟨some f,ps,pr,ks,al⟩ T:=at2 (fun _ _ _=>Yg) I a _ f rfl T ns h
def Cj (b:List bo) (I:List FuncId) (a:Nat) (f:FuncId) (ps:List BD) (pr:List (Nat×List Nat)) (ks:List Kd) (al:List Alt) (T:List KE) (c:Nat)
 (h: ∀V,((qY (pM ps V) true ks&&tI (pM ps V) T)&&zt id (He b) (Fk I a ⟨some f,ps,pr,ks,al⟩ f) V (Pb b ps pr T c) [⟨ps,yp (fresh 0 ps) pr [],[],T⟩])=true:=by intro V;kernel_rfl):Tn ⟨some f,ps,pr,ks,al⟩ T:=at3 b I a f ps pr ks al T (Pb b ps pr T c) h
section
variable {L K:List SD}
def at4 (e:Ext L K) {x:rb} (h:x.ok L true=true):x.fr K=x.fr L:=by
 obtain ⟨g,i⟩:=aY h;have j: ∀ {l:List KB},okB L true l=true->l.map (KB.fb K)=l.map (KB.fb L):=by
  intro l
  induction l with
  |nil=>intro _;rfl
  |cons b l a=>
   intro h;obtain ⟨d,f⟩:=aY h;rw [cJ,cJ,a f];unfold KB.fb;rw [(Kd.ext e (aY d).1).2]
 have k: ∀ {l:List (Nat×Kd)},L5 L true l=true->l.map (fun y=>(y.1,y.2.rel K))=l.map fun y=>(y.1,y.2.rel L):=by
  intro l
  induction l with
  |nil=>intro _;rfl
  |cons b l a=>
   intro h;obtain ⟨d,f⟩:=aY h;rw [cJ,cJ,a f,(Kd.ext e d).2]
 unfold rb.fr;grind
end
def Tp (a:Func):Code:= .seq .skip (nW a)
def Tq (I:List FuncId) (a:Nat) (c:Cn) (d:Func) (x:rb) (V:(Nat->Int×Fh)×(Nat->ai)) (s:St) (k:Nat) (g:List Ag):Bool:=match Mf c s k g with
 |some r=>OJ (Ju (pM s.b V.1) s.f) (s.t.map KE.E') I a d.ntmps d.results.toList (uh (uR .normal) [.l] (Tp d)) x.fp r.pat V.2&&((okF (pM s.b V.1) s.f&&tI (pM s.b V.1) s.t)&&(x.ok (pM s.b V.1) true&&r.ok (pM s.b V.1) false))
 |none=>false
def Pc (c:Cn) (x:rb) (b:Func):Prop:= ∀L,dY c.ps L->(∀y∈c.pr,nZ L y)-> ∃a∈c.al,∃M,dY a.nb M/\(∀y∈a.rf,y.2.ok (aU L y.1))/\(∀y∈a.rr,nZ (L++M) y)/\
 yn b.ntmps [.l] .normal (Tp b) b (x.fr L) (a.r.rel (L++M))
def at5 {C:Nat->List BD->Option Cn} (A: ∀i l c,C i l=some c->Holds c) (I:List FuncId) (b:Nat) (c:Cn) (o:Func) (x:rb) (ns:List Nd)
 (h: ∀V,(x.ok (pM c.ps V.1) true&&zt Prod.fst C (Tq I b c o x) V ns [⟨c.ps,yp (fresh 0 c.ps) c.pr [],[],[]⟩])=true):Pc c x o:=fun Lp p B=>by
 have E:x.ok Lp true=true:=by
  have:=(aY (h (fun j=>(aU Lp j).vx,fun _=> .bool false))).1;rw [Jy p] at this;omega
 have G:qg Lp Lp (fresh 0 c.ps):=Mn (N:= []) p;refine acV (Lp:=Lp) (fun v=>⟨(v,fun _=> .bool false),rfl⟩) A ?_ ns _ (fun V=>(aY (h V)).2) _ (jr _) [] ?_
 ·intro s k g N u q
  have z:=q.1;cases e:Mf c s k g with
  |none=>have:=u (fun _=>(0,O4),fun _=> .bool false);unfold Tq at this;simp_all
  |some r=>
   have m: ∀d,(OJ (Ju (Lp++N) s.f) (s.t.map KE.E') I b o.ntmps o.results.toList (uh (uR .normal) [.l] (Tp o)) x.fp r.pat d&&((okF (Lp++N) s.f&&tI (Lp++N) s.t)&&(x.ok (Lp++N) true&&r.ok (Lp++N) false)))=true:=fun d=>by
    have m:=u (fun j=>(aU (Lp++N) j).vx,d);unfold Tq at m;rw [e] at m;simp only [Jy z] at m;omega
   have y:=(aY (aY (aY (m fun _=> .bool false)).2).2).2;obtain ⟨a,D,M,H,J,O,P⟩:=acW e p q y;refine ⟨a,D,M,H,J,O,?_⟩;rw [<-P,<-at4 (Mj (M:=N)) E];exact G' (Lp++N) I b s.f s.t x r (sub:= .skip) rfl m q.2.2.1.1 q.2.2.2.1
 ·rw [fO]
  exact ⟨p,Th G (fun x F=>by cases F) B,⟨.nil,rfl⟩,.nil,rfl⟩
def at6 (d:List bo) (I:List FuncId) (a:Nat) (b:Func) (ps:List BD) (pr:List (Nat×List Nat)) (x:rb) (al:List Alt) (ns:List Nd)
 (h: ∀V,(x.ok (pM ps V.1) true&&zt Prod.fst (He d) (Tq I a ⟨none,ps,pr,[],al⟩ b x) V ns [⟨ps,yp (fresh 0 ps) pr [],[],[]⟩])=true):Pc ⟨none,ps,pr,[],al⟩ x b:=at5 (fun _ _ _=>Yg) I a _ b x ns h
def zu (b:List bo) (I:List FuncId) (a:Nat) (d:Func) (ps:List BD) (pr:List (Nat×List Nat)) (x:rb) (al:List Alt) (c:Nat)
 (h: ∀V,(x.ok (pM ps V.1) true&&zt Prod.fst (He b) (Tq I a ⟨none,ps,pr,[],al⟩ d x) V (Pb b ps pr [] c) [⟨ps,yp (fresh 0 ps) pr [],[],[]⟩])=true:=by intro V;kernel_rfl):Pc ⟨none,ps,pr,[],al⟩ x d:=at6 b I a d ps pr x al (Pb b ps pr [] c) h
end
section
open Go.RowKit Go.Ev
section
variable {B:List BD} {L M:List SD}
def nG {a b c:Bool} {k:Nat} (h:dY (.z a b c k::B) L): ∃x M,L= .z x::M/\Sg a b c x/\Bz k x/\dY B M:=by
 obtain ⟨d,M,e,f,g⟩:=h;cases d<;>first|exact False.elim f|exact ⟨_,M,e,f.1,f.2,g⟩
def s6 {p:Bool} {k:Nat} (h:dY (.n p k::B) L): ∃x M,L= .n x::M/\(p=true->0<x)/\Bn k x/\dY B M:=by
 obtain ⟨d,M,e,a,b⟩:=h;cases d<;>first|exact False.elim a|exact ⟨_,M,e,a.1,a.2,b⟩
def qC {l u:Int} (h:dY (.i l u::B) L): ∃x M,L= .i x::M/\l<=x/\x<=u/\dY B M:=by
 obtain ⟨d,M,e,a,b⟩:=h;cases d<;>first|exact False.elim a|exact ⟨_,M,e,a.1,a.2,b⟩
def ajC {l u:Int} (h:dY (.u l u::B) L): ∃x M,L= .u x::M/\l<=(x:Int)/\(x:Int)<=u/\dY B M:=by
 obtain ⟨d,M,e,a,b⟩:=h;cases d<;>first|exact False.elim a|exact ⟨_,M,e,a.1,a.2,b⟩
def gS:dY [] []:=rfl
def qh {a b c:Bool} {k:Nat} {x:Int} (h:Sg a b c x) (h':Bz k x) (t:dY B M):dY (.z a b c k::B) (.z x::M):=⟨_,_,rfl,⟨h,h'⟩,t⟩
def yq {p:Bool} {k x:Nat} (h:p=true->0<x) (h':Bn k x) (t:dY B M):dY (.n p k::B) (.n x::M):=⟨_,_,rfl,⟨h,h'⟩,t⟩
def pw {l u x:Int} (h:l<=x) (h':x<=u) (t:dY B M):dY (.i l u::B) (.i x::M):=⟨_,_,rfl,⟨h,h'⟩,t⟩
def s7 {x:Int} :Sg true true true x:=⟨fun _=>rfl,fun _=>rfl,fun _=>rfl⟩
def Pd {x:Nat} :false=true->0<x:=fun q=>by cases q
def iV {L:List SD} : ∀x∈([]:List (Nat×List Nat)),nZ L x:=fun _ h=>by cases h
def jZ {L:List SD} : ∀x∈([]:List (Nat×BD)),x.2.ok (aU L x.1):=fun _ h=>by cases h
def zx {L:List SD} {r:Nat×List Nat} (h:nZ L r): ∀x∈ [r],nZ L x:=fun _ a=>by simp_all
def ajD {L:List SD} {r:Nat×List Nat} {l:List (Nat×List Nat)} (h:nZ L r) (t: ∀x∈l,nZ L x): ∀x∈r::l,nZ L x:=fun _ a=>by grind
def DH {L:List SD} {r:Nat×BD} {l:List (Nat×BD)} (h:r.2.ok (aU L r.1)) (t: ∀x∈l,x.2.ok (aU L x.1)): ∀x∈r::l,x.2.ok (aU L x.1):=fun _ a=>by grind
def jK {f:FuncId} {P:FuncId->Prop} (h:P f): ∀g,some f=some g->P g:=fun g e=>by simp_all
end
def kn (j:Nat):Kd:= .n (.n j)
def kz (j:Nat):Kd:= .z (.z j)
def ki (j:Nat):Kd:= .i (.i j)
def kd (j:Nat):Kd:= .d (.z j) (.i (j+1))
def zz (k:Nat):BD:= .z true true true k
def dR (a:List BD) (r:Kd):List Alt:= [⟨a,[],[],r⟩]
def j3:Cn:=⟨none,[.x],[],[],[]⟩
def zw (l h:Int) (c:Nat):Bool:=gL 0 l&&Nat.ble h.toNat c
def Yj (f:FuncId) (N:Nat->Nat->Nat) (t:Bool->Bool->Bool) (c:Nat):List BD->Cn
 | [.n p i,.n q j]=>cond (Nat.ble i c&&Nat.ble j c) ⟨some f,[.n p i,.n q j],[],[kn 0,kn 1],dR [.n (t p q) (N i j)] (kn 2)⟩ j3
 |_=>j3
def Pe (f:FuncId) (N:Nat->Nat->Nat) (t:Bool->Bool) (c d:Nat):List BD->Cn
 | [.n p i,.i l u]=>cond (Nat.ble i c&&zw l u d) ⟨some f,[.n p i,.i l u],[],[kn 0,ki 1],dR [.n (t p) (N i u.toNat)] (kn 2)⟩ j3
 |_=>j3
def Tr (f:FuncId) (N:Nat->Nat->Nat) (t:Bool->Bool->Bool->Bool->Bool->Bool->Bool×Bool×Bool) (c:Nat):List BD->Cn
 | [.z a b e i,.z d g h j]=>cond (Nat.ble i c&&Nat.ble j c) ⟨some f,[.z a b e i,.z d g h j],[],[kz 0,kz 1],dR [.z (t a b e d g h).1 (t a b e d g h).2.1 (t a b e d g h).2.2 (N i j)] (kz 2)⟩ j3
 |_=>j3
def Yk (f:FuncId) (N:Nat->Nat->Nat) (t:Bool->Bool->Bool->Bool) (c d:Nat):List BD->Cn
 | [.z a b e i,.i l u]=>cond (Nat.ble i c&&zw l u d) ⟨some f,[.z a b e i,.i l u],[],[kz 0,ki 1],dR [.z a (t a b e) e (N i u.toNat)] (kz 2)⟩ j3
 |_=>j3
def bl (n:Nat):Nat:=cond (Nat.beq n 0) 0 (Nat.succ (Nat.log2 n))
def at7:List BD->Cn:=fun _=>⟨some 68,[],[],[.i (.k .u64 1)],dR [.n true 1] (kn 0)⟩
def aua:=Pe 153 (fun i u=>i+u) (fun p=>p) 20000000 1048576
def aub:=Pe 142 (fun i _=>i) (fun _=>false) 20000000 1048576
def auc:=Pe 145 (fun i _=>i) (fun _=>false) 20000000 1048576
def aud:=Pe 306 (fun i u=>i*u+1) (fun p=>p) 300000 64
def aue:=Yj 143 (fun i j=>Ma i j+1) (fun p q=>p||q) 20000000
def auf:=Yj 354 (fun i j=>i+j) (fun p q=>p&&q) 20000000
def ajE:List BD->Cn
 | [.n p i,.u l h,.u a b]=>cond (Nat.ble i 20000000&&((gL 0 l&&gL h 4294967295)&&(gL 0 a&&gL b 4294967295))) ⟨some 240,[.n p i,.u l h,.u a b],[],[kn 0,.i (.u 1),.i (.u 2)],dR [.n ((p&&gL 1 l)||gL 1 a) (i+33)] (kn 3)⟩ j3
 |_=>j3
def ajF:List BD->Cn
 | [.n p i]=>cond (Nat.ble i 20000000) ⟨some 135,[.n p i],[],[kn 0],dR [.i 0 i] (ki 1)⟩ j3
 |_=>j3
def ajG:List BD->Cn
 | [.n p i,.n true j]=>cond (Nat.ble i 20000000&&Nat.ble j 20000000) ⟨some 205,[.n p i,.n true j],[],[kn 0,kn 1],dR [.n false i,.n false i] (.t3 (kn 2) (kn 3) (.b true))⟩ j3
 |_=>j3
def ajH:List BD->Cn
 | [.n p i]=>cond (Nat.ble i 900000) ⟨some 355,[.n p i],[],[kn 0],dR [.n p (i+1),.n false i] (.t (kn 1) (kn 2))⟩ j3
 |_=>j3
def ajI:List BD->Cn
 | [.n p i]=>cond (Nat.ble i 900000) ⟨some 308,[.n p i],[],[kn 0],[⟨[.n p (i+1)],[],[],.t (kn 1) (.b true)⟩,⟨[.n false (i+1)],[],[],.t (kn 1) (.b false)⟩]⟩ j3
 |_=>j3
def ajJ:List BD->Cn
 | [.i l h]=>cond (gL (-4611686018427387904) l&&gL h 4611686018427387904) ⟨some 37,[.i l h],[],[ki 0],dR [.z (vS (gL 0 l)) (gL l 0&&gL 0 h) (vS (gL h 0)) (bl (Ma l.natAbs h.natAbs))] (kz 1)⟩ j3
 |_=>j3
def ajK (b:Bool):List BD->Cn
 | [.n p i]=>cond (Nat.ble i 20000000) ⟨some 141,[.n p i],[],[.b b,kn 0],dR [.z b (vS p) (vS b) i] (kz 1)⟩ j3
 |_=>j3
def ajL (b:Bool):List BD->Cn
 | [.n p i]=>cond (Nat.ble i 20000000&&imp b p) ⟨some 141,[.n p i],[],[.b b,kn 0],dR [.y b (vS p) true i] (.z (.s b 1))⟩ j3
 |_=>j3
def ajM:List BD->Cn
 | [.z a b c i]=>cond (Nat.ble i 20000000) ⟨some 155,[.z a b c i],[],[kz 0],[⟨[.z c b a i],[],[(9,[0,1])],kz 1⟩]⟩ j3
 |_=>j3
def aug:=Tr 89 (fun i j=>Ma i j+1) (fun a _ e b _ d=>(a||b,true,e||d)) 10000000
def auh:=Tr 361 (fun i j=>Ma i j+1) (fun a _ e b _ d=>(a||d,true,e||b)) 10000000
def aui:=Tr 339 (fun i j=>i+j) (fun _ _ _ _ _ _=>(true,true,true)) 10000000
def auj:=Yk 136 (fun i u=>i+u) (fun _ b _=>b) 10000000 1048576
def auk:=Yk 91 (fun i _=>i) (fun _ b e=>b||e) 10000000 1048576
def Yl (n:Nat) (i:Nat):List Alt:= [⟨[],[(n,.z true false false i)],[],gN (-1)⟩,⟨[],[(n,.z false true false i)],[],gN 0⟩,⟨[],[(n,.z false false true i)],[],gN 1⟩]
def ajN:List BD->Cn
 | [.z a b c i]=>cond (Nat.ble i 20000000) ⟨some 134,[.z a b c i],[],[kz 0],Yl 0 i⟩ j3
 |_=>j3
def ajO:List BD->Cn
 | [.z a b c i,.z d e f j]=>⟨some 82,[.z a b c i,.z d e f j],[],[kz 0,kz 1],dR [.i (-1) 1] (ki 2)⟩
 |_=>j3
def ajP:List BD->Cn
 | [.z a b c i,.z d false e j]=>cond (Nat.ble i 10000000&&Nat.ble j 10000000) ⟨some 154,[.z a b c i,.z d false e j],[],[kz 0,kz 1],dR [zz (i+1),zz j] (.t3 (kz 2) (kz 3) (.b true))⟩ j3
 |_=>j3
def aul (n:Nat):n<2^bl n:=by
 unfold bl;by_cases h:n=0
 ·simp_all
 ·have:Nat.beq n 0=false:=by cases e:Nat.beq n 0 with|false=>rfl|true=>simp_all
  rw [this];exact Nat.lt_log2_self
def sB:Holds j3:=fun L h=>by
 obtain ⟨d,_,_,h,_⟩:=h;cases d<;>exact False.elim h
def hc {b:Bool} {c:Cn} (h:b=true->Holds c):Holds (cond b c j3):=by
 cases b
 ·exact sB
 simp_all
def DI {i j c d:Nat} (h:(Nat.ble i c&&Nat.ble j d)=true):i<=c/\j<=d:=⟨aZ (aY h).1,aZ (aY h).2⟩
def ajQ {l h x:Int} {c:Nat} (q:zw l h c=true) (d:l<=x) (e:x<=h):x=((x.toNat:Nat):Int)/\x.toNat<=h.toNat/\h.toNat<=c:=by
 obtain ⟨a,b⟩:=aY (show (gL 0 l&&Nat.ble h.toNat c)=true from q);have:=po a;have:=aZ b;omega
def Ym (a b:Nat):Ma a b=max a b:=by
 unfold Ma;cases h:Nat.ble a b
 ·have: ¬a<=b:=fun q=>by rw [mU q] at h;cases h
  show a=_;omega
 simp_all
def ajR {f:FuncId} {N:Nat->Nat->Nat} {t:Bool->Bool->Bool} {c:Nat} (h: ∀ {i j x y:Nat},i<=c->j<=c->Bn i x->Bn j y-> ∃s,Bn (N i j) s/\(∀p q,(p=true->0<x)->(q=true->0<y)->t p q=true->0<s)/\bH Tryz.prog bw f [fD x,fD y] (fD s)):
 ∀l,Holds (Yj f N t c l):=fun l=>by
 unfold Yj;split
 ·refine hc fun b L a _=> ?_
  obtain ⟨x,L,rfl,k,o,a⟩:=s6 a;obtain ⟨y,L,rfl,m,u,a⟩:=s6 a;obtain rfl:L= []:=a;obtain ⟨s,d,e,g⟩:=h (DI b).1 (DI b).2 o u;exact ⟨_,jr _,[.n s],yq (e _ _ k m) d gS,jZ,iV,jK g⟩
 ·exact sB
def Yn {f:FuncId} {N:Nat->Nat->Nat} {t:Bool->Bool} {c d:Nat} (h: ∀ {i x s u:Nat},i<=c->u<=d->Bn i x->s<=u-> ∃z,Bn (N i u) z/\(∀p,(p=true->0<x)->t p=true->0<z)/\bH Tryz.prog bw f [fD x,bj (.int .i64 (s:Int))] (fD z)):
 ∀l,Holds (Pe f N t c d l):=fun l=>by
 unfold Pe;split
 ·refine hc fun e L a _=> ?_
  obtain ⟨x,L,rfl,A,D,a⟩:=s6 a;obtain ⟨y,L,rfl,g,C,a⟩:=qC a;obtain rfl:L= []:=a;obtain ⟨j,k,m⟩:=ajQ (aY e).2 g C;obtain ⟨s,o,q,b⟩:=h (aZ (aY e).1) m D k;rw [<-j] at b;exact ⟨_,jr _,[.n s],yq (q _ A) o gS,jZ,iV,jK b⟩
 ·exact sB
def ac0 {f:FuncId} {N:Nat->Nat->Nat} {t:Bool->Bool->Bool->Bool->Bool->Bool->Bool×Bool×Bool} {c:Nat} (h: ∀ {i j:Nat} {x y:Int},i<=c->j<=c->Bz i x->Bz j y-> ∃s,Bz (N i j) s/\
 (∀a b e g k m,Sg a b e x->Sg g k m y->Sg (t a b e g k m).1 (t a b e g k m).2.1 (t a b e g k m).2.2 s)/\bH Tryz.prog bw f [dU x,dU y] (dU s)): ∀l,Holds (Tr f N t c l):=fun l=>by
 unfold Tr;split
 ·refine hc fun o L d _=> ?_
  obtain ⟨x,L,rfl,A,D,d⟩:=nG d;obtain ⟨y,L,rfl,C,E,d⟩:=nG d;obtain rfl:L= []:=d;obtain ⟨s,p,q,u⟩:=h (DI o).1 (DI o).2 D E;exact ⟨_,jr _,[.z s],qh (q _ _ _ _ _ _ A C) p gS,jZ,iV,jK u⟩
 ·exact sB
def ajS {f:FuncId} {N:Nat->Nat->Nat} {t:Bool->Bool->Bool->Bool} {c d:Nat} (h: ∀ {i s u:Nat} {x:Int},i<=c->u<=d->Bz i x->s<=u-> ∃z,Bz (N i u) z/\(∀a b e,Sg a b e x->Sg a (t a b e) e z)/\bH Tryz.prog bw f [dU x,bj (.int .i64 (s:Int))] (dU z)):
 ∀l,Holds (Yk f N t c d l):=fun l=>by
 unfold Yk;split
 ·refine hc fun k L g _=> ?_
  obtain ⟨x,L,rfl,D,F,g⟩:=nG g;obtain ⟨y,L,rfl,m,E,g⟩:=qC g;obtain rfl:L= []:=g;obtain ⟨o,p,q⟩:=ajQ (aY k).2 m E;obtain ⟨s,A,C,j⟩:=h (aZ (aY k).1) q F p;rw [<-o] at j;exact ⟨_,jr _,[.z s],qh (C _ _ _ D) A gS,jZ,iV,jK j⟩
 ·exact sB
def mk (c:List BD->Cn) (h: ∀l,Holds (c l)):bo:=⟨c,fun _=>true,fun l _=>h l⟩
def qD:bo:=mk at7 fun l L d _=>by
 obtain rfl:L= []:=d;obtain ⟨m,e,a,b⟩:=LC (n:=1);exact ⟨_,jr _,[.n m],yq (fun _=>by omega) (by rw [a];show 1<2^1;decide) gS,jZ,iV,jK b⟩
def Yo:bo:=mk aua (Yn fun {i x s u} e j k g=>by
 obtain ⟨m,a,b,d⟩:=Sc (s:=s) (c:=u) k rfl g j e;exact ⟨m,a,fun p f h=>by rw [b];exact i5 (f h) (aM (by decide)),d⟩)
def ajT:bo:=mk aub (Yn fun {i x s u} d k f j=>by
 obtain ⟨m,a,g,b⟩:=ahT (s:=s) f rfl (by omega) d;exact ⟨m,a,fun p h e=>(by cases e),b⟩)
def ajU:bo:=mk auc (Yn fun {i x s u} d k f j=>by
 obtain ⟨m,a,g,b⟩:=arq (s:=s) f rfl (by omega) d;exact ⟨m,a,fun p h e=>(by cases e),b⟩)
def Ts:bo:=mk aud (Yn fun {i x s u} e l j g=>by
 obtain ⟨m,a,b,d⟩:=asB (k:=s) j (by omega) e;exact ⟨m,Mi a (dI (bJ (ak _) g)),fun p f h=>by rw [b];exact aM (f h),d⟩)
def Ms:bo:=mk aue (ajR fun {i j x y} d e k l=>by
 obtain ⟨s,a,m,b⟩:=Sd k l d e;refine ⟨s,by rw [Ym];exact a,fun p q f g h=> ?_,b⟩;rcases cX _ _▸h with r|r
 ·have:=f r;omega
 ·have:=g r;omega)
def ajV:bo:=mk auf (ajR fun {i j x y} e f l m=>by
 obtain ⟨s,a,b,d⟩:=ain l m e f;exact ⟨s,a,fun p q g k h=>by rw [b];exact i5 (g (aY h).1) (k (aY h).2),d⟩)
def zy:bo:=mk ajE fun l=>by
 unfold ajE;split
 ·refine hc fun b L a _=> ?_
  obtain ⟨x,L,rfl,d,e,a⟩:=s6 a;obtain ⟨y,L,rfl,p,u,a⟩:=ajC a;obtain ⟨z,L,rfl,A,C,a⟩:=ajC a;obtain rfl:L= []:=a;obtain ⟨f,q⟩:=aY b;have k:=po (aY (aY q).1).2;have o:=po (aY (aY q).2).2;obtain ⟨s,g,h,i⟩:=asz (m:=y) (c:=z) e (aZ f);refine ⟨_,jr _,[.n s],yq (fun t=> ?_) g gS,jZ,iV,jK i⟩;rw [h];rcases cX _ _▸t with t|t
  ·have j:=d (aY t).1
   have D:=po (aY t).2;have:=i5 j (show 0<y by omega);omega
  ·have:=po t;omega
 ·exact sB
def Tt:bo:=mk ajF fun l=>by
 unfold ajF;split
 ·refine hc fun e L a _=> ?_
  obtain ⟨x,L,rfl,j,f,a⟩:=s6 a;obtain rfl:L= []:=a;obtain ⟨b,g,h,d⟩:=GN f (aZ e);exact ⟨_,jr _,[.i b],pw (by omega) (by omega) gS,jZ,iV,jK d⟩
 ·exact sB
def aum:bo:=mk ajG fun l=>by
 unfold ajG;split
 ·refine hc fun b L a _=> ?_
  obtain ⟨x,L,rfl,o,h,a⟩:=s6 a;obtain ⟨y,L,rfl,g,i,a⟩:=s6 a;obtain rfl:L= []:=a;obtain ⟨q,r,d,j,e,k,m,f⟩:=aio h i (DI b).1 (DI b).2 (g rfl);exact ⟨_,jr _,[.n q,.n r],yq Pd d (yq Pd e gS),jZ,iV,jK f⟩
 ·exact sB
def aun:bo:=mk ajH fun l=>by
 unfold ajH;split
 ·refine hc fun g L a _=> ?_
  obtain ⟨x,L,rfl,h,i,a⟩:=s6 a;obtain rfl:L= []:=a;obtain ⟨r,e,b,d,j,k,m,f⟩:=XR i (aZ g);refine ⟨_,jr _,[.n r,.n e],yq (fun q=> ?_) b (yq Pd d gS),jZ,iV,jK f⟩;have:=h q;rcases bT r with t|t
  ·subst t;omega
  ·exact t
 ·exact sB
def auo {k n:Nat} (m:Bn k n) (y:k<=900000): ∃r b,Bn (k+1) r/\(b=true->0<n->0<r)/\bH Tryz.prog bw 308 [fD n] (pF (fD r) (bj (.bool b))):=by
 obtain ⟨f,d,j,q,s,u,x,g⟩:=XR m;by_cases i:d=0
 ·have a:decide ((m6 (d):Int)≠0)=false:=(aiQ (d)).trans (by rw [i];rfl)
  refine ⟨f,true,j,fun _ p=>gp fun e=> ?_,?_⟩
  ·simp_all
  exact fR [.n n,.n f,.n d] [] 0 [.cm .neq (.len 2) (.l 0) false] [⟨355,[cV 0],.t (cV 1) (cV 2)⟩] [cV 0] (.t (cV 1) (.b true)) (by kernel_rfl) (.k a .nil) (.k g .nil)
 ·have a:decide ((m6 (d):Int)≠0)=true:=(aiQ (d)).trans (decide_eq_true i)
  refine ⟨0,false,aM (by decide),fun h=>absurd h (by decide),?_⟩;exact fR [.n n,.n f,.n d] [] 0 [.cm .neq (.len 2) (.l 0) true] [⟨355,[cV 0],.t (cV 1) (cV 2)⟩] [cV 0] (.t (.n (.o)) (.b false)) (by kernel_rfl) (.k a .nil) (.k g .nil)
def aup:bo:=mk ajI fun l=>by
 unfold ajI;split
 ·refine hc fun g L a _=> ?_
  obtain ⟨x,L,rfl,h,i,a⟩:=s6 a;obtain rfl:L= []:=a;obtain ⟨r,b,d,f,e⟩:=auo i (aZ g);cases b
  ·exact ⟨_,aw _ (jr _),[.n r],yq Pd d gS,jZ,iV,jK e⟩
  ·exact ⟨_,aC,[.n r],yq (fun q=>f rfl (h q)) d gS,jZ,iV,jK e⟩
 ·exact sB
def Tu:bo:=mk ajJ fun l=>by
 unfold ajJ;split
 ·rename_i l h
  refine hc fun b L a _=> ?_
  obtain ⟨x,L,rfl,f,g,a⟩:=qC a;obtain rfl:L= []:=a;have c1:=po (aY b).1;have e:=po (aY b).2;obtain ⟨z,i,j,d⟩:=OT (n:=x) ⟨by omega,by omega⟩;refine ⟨_,jr _,[.z z],qh ⟨fun t=> ?_,fun t=> ?_,fun t=> ?_⟩ ?_ gS,jZ,iV,jK d⟩
  ·rw [Ci,decide_eq_false (by omega)];rfl
  ·rw [Ci,Ci,decide_eq_true (by omega),decide_eq_true (by omega)];rfl
  ·rw [Ci,decide_eq_false (by omega)];rfl
  ·have:=aul (Ma l.natAbs h.natAbs)
   rw [Ym] at this⊢;show z.natAbs<_;omega
 ·exact sB
def lV (b:Bool):bo:=mk (ajK b) fun l=>by
 unfold ajK;split
 ·rename_i p k
  refine hc fun e L a _=> ?_
  obtain ⟨x,L,rfl,f,g,a⟩:=s6 a;obtain rfl:L= []:=a;obtain ⟨z,h,d,i⟩:=nR (b:=b) g (aZ e);refine ⟨_,jr _,[.z z],qh ⟨fun t=> ?_,fun t=> ?_,fun t=> ?_⟩ h gS,jZ,iV,jK i⟩
  ·cases b
   ·rw [d] at t;exact absurd t (by show¬((x:Nat):Int)<0;omega)
   ·rfl
  ·cases p
   ·rfl
   ·have:=f rfl
    rw [d] at t;cases b
    ·exact absurd t (by show¬((x:Nat):Int)=0;omega)
    ·exact absurd t (by show¬ -((x:Nat):Int)=0;omega)
  ·cases b
   ·rfl
   ·rw [d] at t;exact absurd t (by show¬0< -((x:Nat):Int);omega)
 ·exact sB
def ajW (b:Bool):bo:=mk (ajL b) fun l=>by
 unfold ajL;split
 ·rename_i p k
  refine hc fun f L a _=> ?_
  obtain ⟨x,L,rfl,g,h,a⟩:=s6 a;obtain rfl:L= []:=a;obtain ⟨z,i,d,j⟩:=nR (b:=b) h (aZ (aY f).1);have e:decide (z<0)=b:=by
   cases b
   ·exact decide_eq_false (by rw [d];show¬((x:Nat):Int)<0;omega)
   ·have:=g (Hb (aY f).2 rfl)
    exact decide_eq_true (by rw [d];show-((x:Nat):Int)<0;omega)
  refine ⟨_,jr _,[.zs z b e],⟨_,_,rfl,⟨rfl,⟨fun t=> ?_,fun t=> ?_,fun _=>rfl⟩,i⟩,rfl⟩,jZ,iV,jK j⟩
  ·rw [<-e];exact decide_eq_true t
  ·cases p
   ·rfl
   ·have:=g rfl
    rw [d] at t;cases b
    ·exact absurd t (by show¬((x:Nat):Int)=0;omega)
    ·exact absurd t (by show¬ -((x:Nat):Int)=0;omega)
 ·exact sB
def Tv:bo:=mk ajM fun l=>by
 unfold ajM;split
 ·refine hc fun d L a _=> ?_
  obtain ⟨x,L,rfl,b,e,a⟩:=nG a;obtain rfl:L= []:=a;obtain ⟨z,f,g,h⟩:=BW e (aZ d);exact ⟨_,jr _,[.z z],qh ⟨fun t=>b.2.2 (by omega),fun t=>b.2.1 (by omega),fun t=>b.1 (by omega)⟩ f gS,jZ,zx g,jK h⟩
 ·exact sB
def Tw {a b:Bool} (h:a=true):(a||b)=true:=by rw [h];rfl
def Tx {a b:Bool} (h:b=true):(a||b)=true:=by rw [h];cases a<;>rfl
def ac1:bo:=mk aug (ac0 fun {i j x y} l m o p=>by
 obtain ⟨s,g,A,k⟩:=yf o p l m;refine ⟨s,by rw [Ym];exact g,fun a b e q u z d f=>⟨fun t=> ?_,fun _=>rfl,fun t=> ?_⟩,k⟩
 ·by_cases h:x<0
  ·exact Tw (d.1 h)
  ·exact Tx (f.1 (by omega))
 ·by_cases h:0<x
  ·exact Tw (d.2.2 h)
  ·exact Tx (f.2.2 (by omega)))
def auq:bo:=mk auh (ac0 fun {i j x y} l m o p=>by
 obtain ⟨s,g,A,k⟩:=SI o p l m;refine ⟨s,by rw [Ym];exact g,fun a b e q u z d f=>⟨fun t=> ?_,fun _=>rfl,fun t=> ?_⟩,k⟩
 ·by_cases h:x<0
  ·exact Tw (d.1 h)
  ·exact Tx (f.2.2 (by omega))
 ·by_cases h:0<x
  ·exact Tw (d.2.2 h)
  ·exact Tx (f.1 (by omega)))
def ac2:bo:=mk aui (ac0 fun {i j x y} g h k l=>by
 obtain ⟨s,d,q,f⟩:=LP k l g h;exact ⟨s,d,fun a b e m o p t u=>s7,f⟩)
def ac3:bo:=mk auj (ajS fun {i s u x} k l o d=>by
 obtain ⟨m,g,h,j⟩:=AM (s:=s) (c:=u) o rfl d l k;have f:(0:Int)<2^s:=by
  have:(0:Nat)<2^s:=aM (by decide);exact_mod_cast this
 refine ⟨m,g,fun a b e d=> ?_,j⟩;subst h;exact ⟨fun t=>d.1 (by rcases (ph x 0) with q|q;exact q;have:=iU q (cR f);omega),fun t=>d.2.1 (by rcases Int.mul_eq_zero.1 t with q|q;exact q;omega),fun t=>d.2.2 (by rcases (ph 0 x) with q|q;exact q;have:=iU (show 0<= -x by omega) (cR f);rw [mf] at this;omega)⟩)
def Yp:bo:=mk auk (ajS fun {i s u x} k o l d=>by
 obtain ⟨m,h,g,j⟩:=Oo (s:=s) l rfl (by omega) k;have f:(0:Int)<2^s:=by
  have:(0:Nat)<2^s:=aM (by decide);exact_mod_cast this
 refine ⟨m,h,fun a b e d=>⟨fun t=> ?_,fun t=> ?_,fun t=> ?_⟩,j⟩
 ·refine d.1 ?_
  rw [g] at t;rcases (ph x 0) with q|q
  ·exact q
  ·have:=jD q (cR f);omega
 ·rcases dm x 0 with q|q|q
  ·have:=g8 q f;omega
  ·exact Tw (d.2.1 q)
  ·exact Tx (d.2.2 q)
 ·refine d.2.2 ?_
  rcases dm x 0 with q|q|q
  ·have:=g8 q f;omega
  ·rw [g,q,Int.zero_ediv] at t;omega
  ·exact q)
def aur {n i:Nat} {x:Int} {c:Cn} {L:List SD} {f:FuncId} (k:Bz i x) (o:aU L n= .z x) (l:c.al=Yl n i) (j:c.f=some f) (h:bH Tryz.prog bw f (c.ks.map (Kd.rel L)) (bj (.int .i64 x.sign))):
 ∃a∈c.al,∃M,dY a.nb M/\(∀y∈a.rf,y.2.ok (aU L y.1))/\(∀y∈a.rr,nZ (L++M) y)/\ ∀f,c.f=some f->bH Tryz.prog bw f (c.ks.map (Kd.rel L)) (a.r.rel (L++M)):=by
 rw [l];have e: ∀b:BD,b.ok (.z x)-> ∀y∈ [(n,b)],y.2.ok (aU L y.1):=fun b m y p=>by
  simp_all
 rcases dm x 0 with q|q|q
 ·rw [cF q] at h
  exact ⟨_,aC,[],gS,e _ ⟨⟨fun _=>rfl,fun t=>by omega,fun t=>by omega⟩,k⟩,iV,fun g d=>by rw [j] at d;cases d;exact h⟩
 ·rw [q,Int.sign_zero] at h
  exact ⟨_,aw _ aC,[],gS,e _ ⟨⟨fun t=>by omega,fun t=>rfl,fun t=>by omega⟩,k⟩,iV,fun g d=>by rw [j] at d;cases d;exact h⟩
 ·rw [cL q] at h
  exact ⟨_,aw _ (aw _ aC),[],gS,e _ ⟨⟨fun t=>by omega,fun t=>by omega,fun _=>rfl⟩,k⟩,iV,fun g d=>by rw [j] at d;cases d;exact h⟩
def ajX:bo:=mk ajN fun l=>by
 unfold ajN;split
 ·refine hc fun e L a _=> ?_
  obtain ⟨x,L,rfl,f,b,a⟩:=nG a;obtain rfl:L= []:=a;obtain ⟨c,rfl,d⟩:=ab1 b (aZ e);exact aur b rfl rfl rfl d
 ·exact sB
def ajY (x y:Int): -1<=wJ x y/\wJ x y<=1:=by unfold wJ;omega
def ajZ:bo:=mk ajO fun l=>by
 unfold ajO;split
 ·intro L a _
  obtain ⟨x,L,rfl,d,f,a⟩:=nG a;obtain ⟨y,L,rfl,e,g,a⟩:=nG a;obtain rfl:L= []:=a;obtain ⟨c,rfl,b⟩:=I8 (x:=x) (y:=y);have:=ajY x y;exact ⟨_,jr _,[.i (wJ x y)],pw this.1 this.2 gS,jZ,iV,jK b⟩
 ·exact sB
def aj0:bo:=mk ajP fun l=>by
 unfold ajP;split
 ·refine hc fun b L a _=> ?_
  obtain ⟨x,L,rfl,o,i,a⟩:=nG a;obtain ⟨y,L,rfl,h,j,a⟩:=nG a;obtain rfl:L= []:=a;obtain ⟨z,u,d,f,k,m,g⟩:=OA i j (DI b).1 (DI b).2 (fun e=>by have:=h.2.1 e;cases this);exact ⟨_,jr _,[.z z,.z u],qh s7 d (qh s7 f gS),jZ,iV,jK g⟩
 ·exact sB
end
section
open Go.RowKit Go.Ev
variable {a b:Int} {n C x g:Nat}
def Ty (z:Int) (n:Nat):(z/2^n).natAbs<=z.natAbs/2^n+1:=by
 have d:(0:Int)<2^n:=eE (by decide);have e:0<2^n:=aM (n:=n) (show 0<2 by decide);have hc:((2^n:Nat):Int)=2^n:=by simp_all
 have l:=du z.natAbs (2^n);have m:=cZ z.natAbs e;have j:((z.natAbs/2^n:Nat):Int)*2^n+((z.natAbs % 2^n:Nat):Int)=(z.natAbs:Int):=by
  grind
 have o:((z.natAbs % 2^n:Nat):Int)<2^n:=by omega
 generalize z.natAbs/2^n=k at*;generalize ((z.natAbs % 2^n:Nat):Int)=r at*;generalize f:(2:Int)^n=P at*;have h:z/P<=(k:Int):=by
  refine jI (gQ d ?_);grind
 have i: -((k:Int)+1)<=z/P:=by
  rw [fH d,mf,Int.add_mul,Int.one_mul];omega
 omega
def Pg (z:Int) (n:Nat):(-(-z/2^n)).natAbs<=z.natAbs/2^n+1:=by
 rw [iM];have:=Ty (-z) n;simp_all
def ac4 (f:b.natAbs<=C*2^n:=by omega):(a*b).natAbs/2^n<=a.natAbs*C:=by
 have e:0<2^n:=aM (n:=n) (show 0<2 by decide);rw [dK];have d:a.natAbs*b.natAbs<=a.natAbs*C*2^n:=by rw [bD];exact aR _ f
 exact aL (ef d) (Nat.le_of_eq (oO _ e))
def Ph (d:b.natAbs<=C*2^n):(a*b/2^n).natAbs<=a.natAbs*C+1:=by
 have:=Ty (a*b) n;have:=ac4 (a:=a) d;omega
def ac6 (d:b.natAbs<=C*2^n):(-(-(a*b)/2^n)).natAbs<=a.natAbs*C+1:=by
 have:=Pg (a*b) n;have:=ac4 (a:=a) d;omega
def Bz.sub {i j:Nat} {x y:Int} (d:Bz i x) (e:Bz j y):Bz (max i j+1) (x-y):=by
 rw [Int.sub_eq_add_neg];exact d.add e.neg
structure mC where
 a:Int
 b:Int
 c:Int
 d:Int
 i:Nat
 m:Bool
def aus {h:Nat} (e:x<2^g) (d:g<=h:=by omega):x<2^h:=ax e (aF (by decide) d)
def Hf {d e:Nat} (h:e<=d) (f:0<e:=by decide):x/d<=x/e:=Nat.div_le_div_left h f
def ac7 (i:x<2^g) (f:8<=x): ∃H,8<=H/\2^g=2*H/\2^(g-1)=H/\4<=g:=by
 have d:4<=g:=by
  refine dH fun h=> ?_
  have:2^g<=2^3:=aF (by decide) (by omega);omega
 have e:2^g=2*2^(g-1):=by
  conv=>lhs;rw [show g=(g-1)+1 by omega,bL,bG]
 have:2^3<=2^(g-1):=aF (by decide) (by omega);simp_all
end
end Go.Proofs.YthleenhngcdgkaaGreatDoor
