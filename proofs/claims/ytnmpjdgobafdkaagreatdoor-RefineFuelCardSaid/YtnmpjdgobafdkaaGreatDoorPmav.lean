/- refineFuel_proved. -/
import Derived.Test.YtnmpjdgobafdkaaGreatDoorPmau
set_option maxRecDepth 100000
set_option maxHeartbeats 16000000
set_option linter.all false
noncomputable section
namespace Go.Proofs.YtnmpjdgobafdkaaGreatDoor
section
open Go.RowKit Go.Ev
section
variable {L K:List SD} {p:Bool} {d:SD} {j:Nat}
def z_o (h:d.rO=true):d≠ .o:=fun e=>by subst e;cases h
def asV {x:Bool} (h:d.sg x=true):d≠ .o:=fun e=>by subst e;cases x<;>cases h
def n_o (h:d.Bq=true):d≠ .o:=fun e=>by subst e;cases h
def i_o (h:d.WN=true):d≠ .o:=fun e=>by subst e;cases h
def u_o (h:d.isU=true):d≠ .o:=fun e=>by subst e;cases h
def r_o (h:d.Bp=true):d≠ .o:=fun e=>by subst e;cases h
def KZ.ext (e:Ext L K) {a:KZ} (h:a.ok L p=true):a.ok K p=true/\a.val K=a.val L:=by
 cases a with
 |z j=>have:=e j (z_o h);exact ⟨by show (aU K j).rO=true;rw [this];exact h,by show (aU K j).zv=_;rw [this];rfl⟩
 |o=>exact ⟨h,rfl⟩
 |s b j=>have:=e j (asV h);exact ⟨by show (aU K j).sg b=true;rw [this];exact h,by show (aU K j).zv=_;rw [this];rfl⟩
def KN.ext (e:Ext L K) {a:KN} (h:a.ok L p=true):a.ok K p=true/\a.val K=a.val L:=by
 cases a with
 |n j=>have:=e j (n_o h);exact ⟨by show (aU K j).Bq=true;rw [this];exact h,by show (aU K j).nv=_;rw [this];rfl⟩
 |m j=>have:=e j (z_o h);exact ⟨by show (aU K j).rO=true;rw [this];exact h,by show (aU K j).nv=_;rw [this];rfl⟩
 |o=>exact ⟨h,rfl⟩
def KI.ext (e:Ext L K) {a:KI} (h:a.ok L=true):a.ok K=true/\a.val K=a.val L:=by
 cases a with
 |i j=>have:=e j (i_o h);exact ⟨by show (aU K j).WN=true;rw [this];exact h,by show (aU K j).iv=_;rw [this];rfl⟩
 |u j=>have:=e j (u_o h);exact ⟨by show (aU K j).isU=true;rw [this];exact h,by show (aU K j).iv=_;rw [this];rfl⟩
 |len j=>
  have:aU K j=aU L j:=e j (by
   rcases dw _ _▸(show ((aU L j).Bq||(aU L j).rO)=true from h) with q|q
   ·exact n_o q
   ·exact z_o q)
  exact ⟨by show ((aU K j).Bq||(aU K j).rO)=true;rw [this];exact h,by show ((mB (aU K j).nv:Nat):Int)=_;rw [this];rfl⟩
 |l k=>exact ⟨rfl,rfl⟩
 |k d v=>exact ⟨rfl,rfl⟩
def KI.EI (e:Ext L K) {a:KI} (h:(a.ok L&&a.w)=true):(a.ok K&&a.w)=true/\a.val K=a.val L:=by
 have:=KI.ext e (aY h).1;simp_all
def kA {a b:Bool} (h:a=true) (h':b=true):(a&&b)=true:=by rw [h,h'];rfl
def Kd.ext (e:Ext L K) {k:Kd} (h:k.ok L p=true):k.ok K p=true/\k.rel K=k.rel L:=by
 induction k with
 |z a=>have:=KZ.ext e h;exact ⟨this.1,by simp only [Kd.rel,this.2]⟩
 |n a=>have:=KN.ext e h;exact ⟨this.1,by simp only [Kd.rel,this.2]⟩
 |i a=>have:=KI.ext e h;exact ⟨this.1,by simp only [Kd.rel,this.2]⟩
 |b x=>exact ⟨rfl,rfl⟩
 |d a x=>have g:=KZ.ext e (aY h).1;have m:=KI.EI e (aY h).2;exact ⟨kA g.1 m.1,by simp only [Kd.rel,g.2,m.2]⟩
 |r a q=>have g:=KZ.ext e (aY h).1;have m:=KN.ext e (aY h).2;exact ⟨kA g.1 m.1,by simp only [Kd.rel,g.2,m.2]⟩
 |v a x c y=>
  have g:=KZ.ext e (aY (aY h).1).1;have m:=KI.EI e (aY (aY h).1).2;have o:=KZ.ext e (aY (aY h).2).1;have u:=KI.EI e (aY (aY h).2).2;exact ⟨kA (kA g.1 m.1) (kA o.1 u.1),by simp only [Kd.rel,g.2,m.2,o.2,u.2]⟩
 |s a c=>have g:=KZ.ext e (aY h).1;have m:=KZ.ext e (aY h).2;exact ⟨kA g.1 m.1,by simp only [Kd.rel,g.2,m.2]⟩
 |t a c A C=>have g:=A (aY h).1;have m:=C (aY h).2;exact ⟨kA g.1 m.1,by simp only [Kd.rel,g.2,m.2]⟩
 |t3 a c x A C E=>have g:=A (aY h).1;have m:=C (aY (aY h).2).1;have o:=E (aY (aY h).2).2;exact ⟨kA g.1 (kA m.1 o.1),by simp only [Kd.rel,g.2,m.2,o.2]⟩
 |lit l=>exact ⟨h,rfl⟩
 |nd k a b n t=>have g:=KI.EI e (aY h).1;have m:=KI.EI e (aY (aY h).2).1;have o:=KI.EI e (aY (aY h).2).2;exact ⟨kA g.1 (kA m.1 o.1),by simp only [Kd.rel,g.2,m.2,o.2]⟩
 |res a x y=>have g:=KZ.ext e (aY h).1;have m:=KN.ext e (aY (aY h).2).1;have o:=KI.EI e (aY (aY h).2).2;exact ⟨kA g.1 (kA m.1 o.1),by simp only [Kd.rel,g.2,m.2,o.2]⟩
 |out a x c f y=>
  have g:=KZ.ext e (aY (aY h).1).1;have m:=KI.EI e (aY (aY h).1).2;have o:=KZ.ext e (aY (aY (aY h).2).1).1;have u:=KI.EI e (aY (aY (aY h).2).1).2;have D:=KI.EI e (aY (aY h).2).2;exact ⟨kA (kA g.1 m.1) (kA (kA o.1 u.1) D.1),by simp only [Kd.rel,g.2,m.2,o.2,u.2,D.2]⟩
 |cat a c A C=>
  have g:=A (aY (aY h).1).1;have m:=C (aY (aY h).2).1;exact ⟨kA (kA g.1 (aY (aY h).1).2) (kA m.1 (aY (aY h).2).2),by simp only [Kd.rel,g.2,m.2]⟩
 |nil=>exact ⟨rfl,rfl⟩
 |ra j=>have:=e j (r_o h);exact ⟨by show (aU K j).Bp=true;rw [this];exact h,by show (aU K j).ar=_;rw [this];rfl⟩
 |fc f j=>have:=e j (r_o h);exact ⟨by show (aU K j).Bp=true;rw [this];exact h,by show (fun w v=> ∃p,v=_/\(aU K j).ar w p)=_;rw [this];rfl⟩
 |lv v=>exact ⟨h,rfl⟩
def Xg (e:Ext L K): ∀ {l:List Kd},qL L p l=true->qL K p l=true/\l.map (Kd.rel K)=l.map (Kd.rel L)
 | [],_=>⟨rfl,rfl⟩
 |_::_,h=>by
  have a:=Kd.ext e (aY h).1;have f:=Xg e (aY h).2;exact ⟨kA a.1 f.1,by simp_all⟩
def KF.ext (e:Ext L K) {f:KF} (h:f.ok L=true) (m:f.prop L):f.ok K=true/\f.prop K:=by
 cases f with
 |ar o a b c=>
  have i:=KI.ext e (aY (aY h).1).1;have k:=KI.ext e (aY (aY h).1).2;have l:=KI.ext e (aY (aY h).2).1;exact ⟨kA (kA i.1 k.1) (kA l.1 (aY (aY h).2).2),by simp only [KF.prop,i.2,k.2,l.2];exact m⟩
 |cm o a b r=>
  have i:=KI.ext e (aY (aY h).1).1;have k:=KI.ext e (aY (aY h).1).2;exact ⟨kA (kA i.1 k.1) (aY h).2,by simp only [KF.prop,i.2,k.2];exact m⟩
 |ng a c=>
  have i:=KI.ext e (aY (aY h).1).1;have k:=KI.ext e (aY (aY h).1).2;exact ⟨kA (kA i.1 k.1) (aY h).2,by simp only [KF.prop,i.2,k.2];exact m⟩
 |cv a c=>
  have i:=KI.ext e (aY h).1;have k:=KI.ext e (aY h).2;exact ⟨kA i.1 k.1,by simp only [KF.prop,i.2,k.2];exact m⟩
 |mx g a b c=>
  have i:=KI.ext e (aY (aY h).1).1;have k:=KI.ext e (aY (aY h).1).2;have l:=KI.ext e (aY (aY h).2).1;exact ⟨kA (kA i.1 k.1) (kA l.1 (aY (aY h).2).2),by simp only [KF.prop,i.2,k.2,l.2];exact m⟩
def wj.ext (e:Ext L K) {F:List KF} (a:wj L F) (o:okF L F=true):wj K F/\okF K F=true:=by
 induction a with
 |nil=>exact ⟨.nil,rfl⟩
 |k h _ i=>
  have f:=KF.ext e (aY o).1 h;have g:=i (aY o).2;exact ⟨.k f.2 g.1,kA f.1 g.2⟩
def uG.ext (e:Ext L K) {T:List KE} (a:uG L T) (o:tk L T=true):uG K T/\tk K T=true:=by
 induction a with
 |nil=>exact ⟨.nil,rfl⟩
 |@k x l hc _ i=>
  have g:=Xg e (aY (aY o).1).1;have h:=Kd.ext e (aY (aY o).1).2;have f:=i (aY o).2;exact ⟨.k (by grind) f.1,kA (kA g.1 h.1) f.2⟩
end
section
variable {B:List BD} {L L':List SD} {b:BD}
def Ag.sd (L:List SD) (b:BD):Ag->SD
 | .z a=>match b,a with
  | .y _ _ _ _,.s _ j=>aU L j
  |_,_=> .z (a.val L)
 | .n a=> .n (a.val L)
 | .i a=>match b with
  | .u _ _=> .u (a.val L).toNat
  |_=> .i (a.val L)
 | .ra j=>aU L j
def N4 (L:List SD) (d:SD):Ag->Prop
 | .z a=>d.zv=a.val L/\d.nv=(a.val L).natAbs
 | .n a=>d.nv=a.val L
 | .i a=>d.iv=a.val L
 | .ra j=>d=aU L j/\d.Bp=true
def aim {a m c:Bool} {k:Nat} {d:SD} (h:Sg a m c d.zv) (f:Bz k d.zv) (e:mZ (.z a m c k) b=true):b.ok (.z d.zv)/\ ∃a m c k,b= .z a m c k:=by
 have g:(BD.z a m c k).ok (.z d.zv):=⟨h,f⟩;cases b<;>first|(cases e;done)|skip
 refine ⟨?_,_,_,_,_,rfl⟩;rcases N3 g e with q|q
 ·exact q
 ·exact q.2
def ab5 (J:dU B L) {a:Ag} (G:mZ (a.bd B) b=true):b.ok (a.sd L b)/\N4 L (a.sd L b) a/\ ∀i,a.ix=some i->(a.sd L b).val=(aU L i).val:=by
 have R: ∀b,mZ .x b=true->False:=fun b h=>by cases b<;>cases h
 cases a with
 |z a=>
  cases a with
  |z j=>
   have A:mZ (dJ B j).C0 b=true:=G;have N:dJ B j≠ .x:=fun e=>by rw [e] at A;exact R _ A
   have f:=J.get N;cases e:(dJ B j).C0 with
   |z a m c k=>
    rw [e] at A;obtain ⟨D,M,F⟩:=aik f e;obtain ⟨H,_,_,_,_,rfl⟩:=aim D M A;refine ⟨H,⟨rfl,rfl⟩,fun i C=> ?_⟩;cases C;show (aU L j).zv=_;revert F;cases aU L j<;>intro F<;>first|rfl|cases F
   |y g m c k=>exfalso;revert e;cases dJ B j<;>intro e<;>first|(cases e;done)|(rename_i g _ _ _;cases g<;>cases e)
   |n p k=>exfalso;revert e;cases dJ B j<;>intro e<;>first|(cases e;done)|(rename_i g _ _ _;cases g<;>cases e)
   |i l h=>exfalso;revert e;cases dJ B j<;>intro e<;>first|(cases e;done)|(rename_i g _ _ _;cases g<;>cases e)
   |u l h=>exfalso;revert e;cases dJ B j<;>intro e<;>first|(cases e;done)|(rename_i g _ _ _;cases g<;>cases e)
   |ra=>exfalso;revert e;cases dJ B j<;>intro e<;>first|(cases e;done)|(rename_i g _ _ _;cases g<;>cases e)
   |x=>simp_all
  |s g j=>
   have A:mZ (match dJ B j with
    | .y h b c k=>cond (beq g h) (.y h b c k) .x
    |_=> .x) b=true:=G
   cases e:dJ B j with
   |y h m c k=>
    rw [e] at A;have f:=J.get (j:=j) (by simp_all);rw [e] at f;cases T:beq g h with
    |false=>simp_all
    |true=>
     simp only [T] at A;have D: ∃x N,aU L j= .zs x h N:=by
      revert f;cases aU L j<;>intro f<;>first|exact False.elim f|skip
      obtain ⟨q,_⟩:=f;simp_all
     obtain ⟨x,N,E⟩:=D;rcases N3 f A with q|⟨⟨_,_,_,_,rfl⟩,q⟩
     ·cases b with
      |y g' Y S X=>
       refine ⟨q,⟨rfl,?_⟩,fun i C=>by cases C;rfl⟩;show (aU L j).nv=(aU L j).zv.natAbs;rw [E];rfl
      |z Z Y S X=>exfalso;rw [E] at q;exact q
      |_=>cases A
     ·refine ⟨q,⟨rfl,rfl⟩,fun i C=> ?_⟩
      cases C;show (aU L j).zv=_;rw [E];rfl
   |_=>simp_all
  |o=>
   have M:(BD.z false true false 0).ok (.z 0):=⟨⟨fun h=>absurd h (by decide),fun _=>rfl,fun h=>absurd h (by decide)⟩,by unfold Bz;decide⟩;obtain ⟨H,_,_,_,_,rfl⟩:=aim (d:= .z 0) M.1 M.2 (show mZ (.z false true false 0) b=true from G);exact ⟨H,⟨rfl,rfl⟩,fun i C=>by cases C⟩
 |n a=>
  have I: ∀p k x,(BD.n p k).ok (.n x)->mZ (.n p k) b=true->b.ok (.n x):=fun p k x f D=>by
   rcases N3 f D with q|⟨⟨_,_,_,_,rfl⟩,_⟩
   ·exact q
   ·cases D
  cases a with
  |n j=>
   have A:mZ (match dJ B j with
    | .n p k=> .n p k
    |_=> .x) b=true:=G
   cases e:dJ B j with
   |n p k=>
    rw [e] at A;have f:=J.get (j:=j) (by simp_all);rw [e] at f;have D: ∃x,aU L j= .n x:=by
     revert f;cases aU L j<;>intro f<;>first|exact False.elim f|simp_all
    obtain ⟨x,E⟩:=D;rw [E] at f;refine ⟨?_,rfl,fun i C=> ?_⟩
    ·show b.ok (.n (aU L j).nv);rw [E];exact I _ _ _ f A
    ·cases C;show ((aU L j).nv:Int)=(aU L j).val;rw [E];rfl
   |_=>simp_all
  |m j=>
   have A:mZ (match (dJ B j).C0 with
    | .z _ b _ k=> .n (cond b false true) k
    |_=> .x) b=true:=G
   cases e:(dJ B j).C0 with
   |z a m c k=>
    rw [e] at A;have N:dJ B j≠ .x:=fun q=>by rw [q] at e;cases e
    obtain ⟨D,M,F⟩:=aik (J.get N) e;refine ⟨I _ _ _ ⟨fun q=> ?_,?_⟩ A,rfl,fun i C=>by cases C⟩
    ·show 0<(aU L j).nv
     rw [RQ F];rcases cC (aU L j).zv.natAbs with t|t
     ·have:=D.2.1 (by omega)
      rw [this] at q;cases q
     omega
    ·show (aU L j).nv<2^k
     rw [RQ F];exact M
   |_=>simp_all
  |o=>exact ⟨I false 0 0 ⟨fun q=>(by cases q),(by show 0<2^0;decide)⟩ G,rfl,fun i C=>by cases C⟩
 |i a=>
  have I: ∀l h x,(BD.i l h).ok (.i x)->mZ (.i l h) b=true->b.ok ((Ag.i a).sd L b)\/ ¬x=a.val L:=fun l h x f D=>by
   by_cases e:x=a.val L
   ·subst e
    cases b<;>first|(cases D;done)|skip
    exact .inl (by rcases N3 f D with q|⟨⟨_,_,_,_,q⟩,_⟩;exact q;cases q)
   omega
  have O: ∀l h x,(BD.u l h).ok (.u x)->mZ (.u l h) b=true->(x:Int)=a.val L->b.ok ((Ag.i a).sd L b)/\((Ag.i a).sd L b).iv=a.val L/\((Ag.i a).sd L b).val=a.val L:=fun l h x f D e=>by
   cases b<;>first|(cases D;done)|skip
   refine ⟨?_,?_,?_⟩
   ·show (BD.u _ _).ok (.u (a.val L).toNat)
    rw [<-e];rcases N3 f D with q|⟨⟨_,_,_,_,q⟩,_⟩
    all_goals grind
   ·show ((a.val L).toNat:Int)=_;rw [<-e];rfl
   ·show ((a.val L).toNat:Int)=_;rw [<-e];rfl
  cases a with
  |i j=>
   have A:mZ (match dJ B j with
    | .i x y=> .i x y
    |_=> .x) b=true:=G
   cases e:dJ B j with
   |i l h=>
    rw [e] at A;have f:=J.get (j:=j) (by simp_all);rw [e] at f;have D: ∃x,aU L j= .i x:=by
     revert f;cases aU L j<;>intro f<;>first|exact False.elim f|simp_all
    obtain ⟨x,E⟩:=D;rw [E] at f;have P:x=(KI.i j).val L:=by show x=(aU L j).iv;rw [E];rfl
    have F:b.ok ((Ag.i (.i j)).sd L b):=by grind
    have H:(Ag.i (.i j)).sd L b= .i ((KI.i j).val L):=by cases b<;>first|rfl|cases A
    refine ⟨F,by rw [H];rfl,fun i C=> ?_⟩;cases C;simp_all
   |_=>simp_all
  |u j=>
   have A:mZ (match dJ B j with
    | .u x y=> .u x y
    |_=> .x) b=true:=G
   cases e:dJ B j with
   |u l h=>
    rw [e] at A;have f:=J.get (j:=j) (by simp_all);rw [e] at f;have D: ∃x,aU L j= .u x:=by
     revert f;cases aU L j<;>intro f<;>first|exact False.elim f|simp_all
    obtain ⟨x,E⟩:=D;rw [E] at f;have P:(x:Int)=(KI.u j).val L:=by show (x:Int)=(aU L j).iv;rw [E];rfl
    obtain ⟨F,H,Q⟩:=O _ _ _ f A P;refine ⟨F,H,fun i C=> ?_⟩;cases C;rw [Q,<-P,E];rfl
   |_=>simp_all
  |l x=>
   have F:b.ok ((Ag.i (.l x)).sd L b):=by rcases I x x x ⟨gM _,gM _⟩ G with q|q;exact q;exact absurd rfl q
   have H:(Ag.i (.l x)).sd L b= .i x:=by cases b<;>first|rfl|cases G
   exact ⟨F,by rw [H];rfl,fun i C=>by cases C⟩
  |k d v=>
   have A:mZ (cond (nh d .u32&&gw 0 v) (.u v v) .x) b=true:=G;cases e:(nh d .u32&&gw 0 v) with
   |false=>simp_all
   |true=>
    rw [e] at A;have h0:=oT (aY e).2;have P:((v.toNat:Nat):Int)=(KI.k d v).val L:=by show ((v.toNat:Nat):Int)=v;omega
    obtain ⟨F,H,Q⟩:=O v v v.toNat ⟨by omega,by omega⟩ A P;exact ⟨F,H,fun i C=>by cases C⟩
  |len j=>exact (R _ G).elim
 |ra j=>
  have A:mZ (match dJ B j with| .ra=>BD.ra|_=> .x) b=true:=G;cases e:dJ B j with
  |ra=>
   rw [e] at A;have f:=J.get (j:=j) (by simp_all);rw [e] at f;have W:(aU L j).Bp=true:=by
    revert f;cases aU L j<;>intro f<;>first|exact False.elim f|rfl
   have U:b= .ra:=by cases b<;>first|rfl|cases A
   subst U;exact ⟨f,⟨rfl,W⟩,fun i C=>by cases C⟩
  |_=>simp_all
end
end
section
open Go.RowKit Go.Ev
def RP:Nat->List Int->Prop
 |1,[m,e,n,f]=>tR m e n f<=0
 |2,[m,e]=>((eN m.natAbs:Nat):Int)+e<=33
 |3,[m,e]=>m=0->e=0
 |4,[m,e]=>m≠0-> -8192<=e/\ko m e<=2048
 |5,[m,e,t]=>t=ko m e
 |6,[m,e]=>0<=((eN m.natAbs:Nat):Int)+e/\((eN m.natAbs:Nat):Int)+e<=1
 |7,[m,e]=>((eN m.natAbs:Nat):Int)+e<=13
 |8,[m,e]=>0<m->ko m e<=13
 |9,[x,z]=>z= -x
 |10,[s,d]=>s=1->0<d
 |_,_=>False
def nH (L:List SD) (x:Nat×List Nat):Prop:=RP x.1 (x.2.map fun j=>(aU L j).val)
def Lr (L:List SD) (x:Nat×List Nat):Prop:=nH L x/\ ∀j∈x.2,aU L j≠ .o
def Holds (c:Cn):Prop:= ∀L,dU c.ps L->(∀x∈c.pr,nH L x)-> ∃a∈c.al,∃M,dU a.nb M/\(∀x∈a.rf,x.2.ok (aU L x.1))/\(∀x∈a.rr,nH (L++M) x)/\
 ∀f,c.f=some f->bJ Tryz.prog bw f (c.ks.map (Kd.rel L)) (a.r.rel (L++M))
def Sat (s:St) (L:List SD):Prop:=dU s.b L/\(∀x∈s.r,Lr L x)/\(wj L s.f/\okF L s.f=true)/\uG L s.t/\tk L s.t=true
section
variable {B:List BD} {L L' K M:List SD} {g:List Ag} {ps nb:List BD} {n:Nat} {p:Bool}
def Ls (L:List SD):List BD->List Ag->List SD
 |b::ps,a::g=>a.sd L b::Ls L ps g
 |_,_=> []
def pR (L L':List SD) (g:List Ag):Prop:= ∀j a,po g j=some a->N4 L (aU L' j) a/\(∀i,a.ix=some i->(aU L' j).val=(aU L i).val/\aU L i≠ .o)
def aio {a:Ag} {d:SD} (e:Ext L K) (C:dU B L) (f:a.bd B≠ .x) (h:N4 L d a):N4 K d a:=by
 have t: ∀j,dJ B j≠ .x->aU K j=aU L j:=fun j D=>e j fun q=>by
  have:=C.get D;rw [q] at this;exact Xf _ this
 cases a with
 |z a=>
  have:a.val K=a.val L:=by
   cases a with
   |z j=>show (aU K j).zv=(aU L j).zv;rw [t j fun q=>f (by show (dJ B j).C0=_;rw [q];rfl)]
   |s b j=>show (aU K j).zv=(aU L j).zv;rw [t j fun q=>f (by show (match dJ B j with| .y h A c k=>cond (beq b h) (BD.y h A c k) .x|_=> .x)=_;rw [q])]
   |o=>rfl
  exact ⟨h.1.trans this.symm,by rw [this];exact h.2⟩
 |n a=>
  have:a.val K=a.val L:=by
   cases a with
   |n j=>show (aU K j).nv=(aU L j).nv;rw [t j fun q=>f (by show (match dJ B j with| .n p k=>BD.n p k|_=> .x)=_;rw [q])]
   |m j=>show (aU K j).nv=(aU L j).nv;rw [t j fun q=>f (by show (match (dJ B j).C0 with| .z _ b _ k=>BD.n (cond b false true) k|_=> .x)=_;rw [q];rfl)]
   |o=>rfl
  exact (show d.nv=_ from h).trans this.symm
 |i a=>
  have:a.val K=a.val L:=by
   cases a with
   |i j=>show (aU K j).iv=(aU L j).iv;rw [t j fun q=>f (by show (match dJ B j with| .i x y=>BD.i x y|_=> .x)=_;rw [q])]
   |u j=>show (aU K j).iv=(aU L j).iv;rw [t j fun q=>f (by show (match dJ B j with| .u x y=>BD.u x y|_=> .x)=_;rw [q])]
   |len j=>exact absurd rfl f
   |l k=>rfl
   |k d v=>rfl
  exact (show d.iv=_ from h).trans this.symm
 |ra j=>
  have:=t j fun q=>f (by show (match dJ B j with| .ra=>BD.ra|_=> .x)=_;rw [q])
  exact ⟨h.1.trans this.symm,h.2⟩
def ab6 {a:Ag} {i:Nat} (e:a.ix=some i) (f:a.bd B≠ .x):dJ B i≠ .x:=fun q=>by
 rcases a with a|a|a|a<;>first|(cases e;done)|(cases a<;>cases e<;>refine f ?_)
 ·show (dJ B i).C0=_;rw [q];rfl
 ·rename_i b;show (match dJ B i with| .y h d c k=>cond (beq b h) (BD.y h d c k) .x|_=> .x)=_;rw [q]
 ·show (match dJ B i with| .n p k=>BD.n p k|_=> .x)=_;rw [q]
 ·show (match dJ B i with| .i x y=>BD.i x y|_=> .x)=_;rw [q]
 ·show (match dJ B i with| .u x y=>BD.u x y|_=> .x)=_;rw [q]
def Xh {a:Ag} {b:BD} (h:mZ (a.bd B) b=true):a.bd B≠ .x:=fun q=>by rw [q] at h;cases b<;>cases h
def ab7 (f:dU B L): ∀ {g:List Ag} {ps:List BD},C1 (Am B g) ps=true->dU ps (Ls L ps g)/\pR L (Ls L ps g) g
 | [],[],_=>⟨rfl,fun j a h=>by cases h⟩
 | [],_::_,h=>by cases h
 |_::_,[],h=>by cases h
 |a::g,b::ps,h=>by
  obtain ⟨k,m⟩:=aY (show (mZ (a.bd B) b&&C1 (Am B g) ps)=true from h);obtain ⟨s,t⟩:=ab7 f m;obtain ⟨u,x,y⟩:=ab5 f k;have z: ∀i,a.ix=some i->aU L i≠ .o:=fun i d q=>by
   have:=f.get (ab6 d (Xh k));rw [q] at this;exact Xf _ this
  refine ⟨⟨_,_,rfl,u,s⟩,fun j l e=> ?_⟩;cases j with
  |zero=>cases e;exact ⟨x,fun i d=>⟨y i d,z i d⟩⟩
  |succ j=>exact t j l e
def aip: ∀ {g:List Ag} {ps:List BD},C1 (Am B g) ps=true-> ∀j a,po g j=some a->a.bd B≠ .x
 | [],_,_,_,_,e=>by cases e
 |_::_,[],h,_,_,_=>by cases h
 |a::g,b::ps,h,j,d,e=>by
  obtain ⟨f,i⟩:=aY (show (mZ (a.bd B) b&&C1 (Am B g) ps)=true from h);cases j with
  |zero=>cases e;exact Xh f
  |succ j=>exact aip i j d e
def ext_get (e:Ext L K) (a:dU B L) {j:Nat} (h:dJ B j≠ .x):aU K j=aU L j:=e j fun q=>by
 have:=a.get h;rw [q] at this;exact Xf _ this
def ab8 (e:Ext L K) (d:dU B L) (l:C1 (Am B g) ps=true) (h:pR L L' g):pR K L' g:=fun j a b=>by
 have k:=aip l j a b;refine ⟨aio e d k (h j a b).1,fun i f=> ?_⟩;rw [ext_get e d (ab6 f k)];exact (h j a b).2 i f
def Lu: ∀ {nb:List BD} {M N:List SD},dU nb M->pR (N++M) M (fresh N.length nb)
 | [],_,_,_=>fun j a h=>by cases h
 |b::nb,_,N,⟨d,M,e,s,t⟩=>by
  subst e;have k:aU (N++d::M) N.length=d:=NZ (j:=0);have q:N++d::M=(N++ [d])++M:=by simp
  have o:=Lu (N:=N++ [d]) t;rw [<-q,aX] at o;intro j a m;cases j with
  |succ j=>exact o j a m
  |zero=>
   have l:W3 N.length b=a:=fB m;subst l;show N4 _ d _/\ ∀i,_->d.val=_/\_;cases b<;>cases d<;>first|exact False.elim s|skip
   ·exact ⟨⟨by show _=(aU _ _).zv;rw [k],by show _=((aU _ _).zv).natAbs;rw [k];rfl⟩,fun i f=>by cases f;grind⟩
   ·exact ⟨⟨by show _=(aU _ _).zv;rw [k],by show _=((aU _ _).zv).natAbs;rw [k];rfl⟩,fun i f=>by cases f;grind⟩
   ·exact ⟨by show _=(aU _ _).nv;rw [k],fun i f=>by cases f;grind⟩
   ·exact ⟨by show _=(aU _ _).iv;rw [k],fun i f=>by cases f;grind⟩
   ·exact ⟨by show _=(aU _ _).iv;rw [k],fun i f=>by cases f;grind⟩
   ·exact ⟨⟨by grind,rfl⟩,fun i f=>by cases f⟩
def aiq: ∀ {g h:List Ag} {j:Nat} {a:Ag},po (BC g h) j=some a->(j<g.length/\po g j=some a)\/(∃k,j=g.length+k/\po h k=some a)
 | [],_,j,_,e=> .inr ⟨j,by simp,e⟩
 |_::_,_,0,_,e=> .inl ⟨by simp,e⟩
 |_::g,h,j+1,a,e=>by
  rcases aiq (g:=g) (h:=h) (j:=j) e with ⟨q,r⟩|⟨k,q,r⟩
  ·exact .inl ⟨Nat.succ_lt_succ q,r⟩
  grind
def ab9 {b d:List SD} {h:List Ag} (l:b.length=g.length) (f:pR L b g) (i:pR L d h):pR L (b++d) (BC g h):=fun j a e=>by
 rcases aiq e with ⟨q,r⟩|⟨k,rfl,r⟩
 ·rw [Xe (by omega)];exact f j a r
 ·rw [<-l,NZ];exact i k a r
def aca: ∀ {g:List Ag} {ps:List BD},C1 (Am B g) ps=true->(Ls L ps g).length=g.length
 | [],[],_=>rfl
 | [],_::_,h=>by cases h
 |_::_,[],h=>by cases h
 |_::_,_::_,h=>congrArg Nat.succ (aca (aY h).2)
def KZ.rS (m:pR L L' g) (d:L.length<=n) {k:KZ} (h:(k.sb n g).ok L p=true):(k.sb n g).val L=k.val L':=by
 have f: ∀b,(KZ.z n).ok L b=true->False:=fun b q=>by
  have:(aU L n).rO=true:=q;rw [N0 d] at this;cases this
 cases k with
 |o=>rfl
 |z j=>
  simp only [KZ.sb] at h⊢;cases e:po g j with
  |none=>grind
  |some a=>
   rw [e] at h;cases a with
   |z a=>exact (m j _ e).1.1.symm
   |n a=>grind
   |i a=>grind
   |ra a=>grind
 |s b j=>
  simp only [KZ.sb] at h⊢;cases e:po g j with
  |none=>grind
  |some a=>
   rw [e] at h;cases a with
   |z a=>exact (m j _ e).1.1.symm
   |n a=>grind
   |i a=>grind
   |ra a=>grind
def KN.rS (m:pR L L' g) (l:L.length<=n) {k:KN} (h:(k.sb n g).ok L p=true):(k.sb n g).val L=k.val L':=by
 have t: ∀b,(KN.n n).ok L b=true->False:=fun b q=>by
  have:(aU L n).Bq=true:=q;rw [N0 l] at this;cases this
 cases k with
 |o=>rfl
 |n j=>
  simp only [KN.sb] at h⊢;cases e:po g j with
  |none=>grind
  |some a=>
   rw [e] at h;cases a with
   |n a=>exact (show (aU L' j).nv=_ from (m j _ e).1).symm
   |z a=>grind
   |i a=>grind
   |ra a=>grind
 |m j=>
  simp only [KN.sb] at h⊢;cases e:po g j with
  |none=>grind
  |some a=>
   rw [e] at h;cases a with
   |n a=>grind
   |i a=>grind
   |ra a=>grind
   |z a=>
    have d:=(m j _ e).1.2;cases a with
    |o=>exact d.symm
    |z k=>
     have f:(aU L k).rO=true:=h;show (aU L k).nv=(aU L' j).nv;rw [RQ f,d];rfl
    |s b k=>
     have f:(aU L k).rO=true:=h;show (aU L k).nv=(aU L' j).nv;rw [RQ f,d];rfl
def air {a b:IntKind} (h:nh a b=true):a=b:=by revert h;cases a<;>cases b<;>intro h<;>first|rfl|cases h
def KI.rS (m:pR L L' g) (o:L.length<=n) {k:KI} (h:(k.sb n g).ok L=true):(k.sb n g).val L=k.val L'/\(k.sb n g).kd=k.kd:=by
 have f:(KI.i n).ok L=true->False:=fun q=>by
  have:(aU L n).WN=true:=q;rw [N0 o] at this;cases this
 cases k with
 |l k=>exact ⟨rfl,rfl⟩
 |k d v=>exact ⟨rfl,rfl⟩
 |len j=>exact (f h).elim
 |i j=>
  simp only [KI.sb] at h⊢;cases e:po g j with
  |none=>simp_all
  |some a=>
   rw [e] at h;cases a with
   |n a=>simp_all
   |z a=>simp_all
   |ra a=>simp_all
   |i a=>
    simp only at h⊢;cases b:a.w with
    |false=>simp_all
    |true=>exact ⟨(show (aU L' j).iv=_ from (m j _ e).1).symm,KI.abV b⟩
 |u j=>
  simp only [KI.sb] at h⊢;cases e:po g j with
  |none=>simp_all
  |some a=>
   rw [e] at h;cases a with
   |n a=>simp_all
   |z a=>simp_all
   |ra a=>simp_all
   |i a=>
    simp only at h⊢;cases b:nh a.kd .u32 with
    |false=>simp_all
    |true=>exact ⟨(show (aU L' j).iv=_ from (m j _ e).1).symm,air b⟩
def KI.EJ (m:pR L L' g) (a:L.length<=n) {k:KI} (h:((k.sb n g).ok L&&(k.sb n g).w)=true):(k.sb n g).val L=k.val L':=(KI.rS m a (aY h).1).1
def ais (m:pR L L' g) (b:L.length<=n) {j:Nat} (h:(aU L (Sa n g j)).Bp=true):aU L (Sa n g j)=aU L' j:=by
 have d:(aU L n).Bp=true->False:=fun q=>by rw [N0 b] at q;cases q
 unfold Sa at h⊢;cases e:po g j with
 |none=>simp_all
 |some a=>
  rw [e] at h;cases a with
  |ra i=>exact (show aU L' j=aU L i/\_ from (m j _ e).1).1.symm
  |_=>simp_all
def Kd.rS (m:pR L L' g) (e:L.length<=n) {k:Kd} (h:(k.sb n g).ok L p=true):(k.sb n g).rel L=k.rel L':=by
 induction k with
 |z a=>simp only [Kd.sb,Kd.rel,KZ.rS m e h]
 |n a=>simp only [Kd.sb,Kd.rel,KN.rS m e h]
 |i a=>simp only [Kd.sb,Kd.rel,(KI.rS m e h).1,(KI.rS m e h).2]
 |b x=>rfl
 |d a x=>simp only [Kd.sb,Kd.rel,KZ.rS m e (aY h).1,KI.EJ m e (aY h).2]
 |r a q=>simp only [Kd.sb,Kd.rel,KZ.rS m e (aY h).1,KN.rS m e (aY h).2]
 |v a x c y=>simp only [Kd.sb,Kd.rel,KZ.rS m e (aY (aY h).1).1,KI.EJ m e (aY (aY h).1).2,KZ.rS m e (aY (aY h).2).1,KI.EJ m e (aY (aY h).2).2]
 |s a c=>simp only [Kd.sb,Kd.rel,KZ.rS m e (aY h).1,KZ.rS m e (aY h).2]
 |t a c o u=>simp only [Kd.sb,Kd.rel,o (aY h).1,u (aY h).2]
 |t3 a c x o u A=>simp only [Kd.sb,Kd.rel,o (aY h).1,u (aY (aY h).2).1,A (aY (aY h).2).2]
 |lit l=>rfl
 |nd q a c x y=>simp only [Kd.sb,Kd.rel,KI.EJ m e (aY h).1,KI.EJ m e (aY (aY h).2).1,KI.EJ m e (aY (aY h).2).2]
 |res a x y=>simp only [Kd.sb,Kd.rel,KZ.rS m e (aY h).1,KN.rS m e (aY (aY h).2).1,KI.EJ m e (aY (aY h).2).2]
 |out a x c f y=>simp only [Kd.sb,Kd.rel,KZ.rS m e (aY (aY h).1).1,KI.EJ m e (aY (aY h).1).2,KZ.rS m e (aY (aY (aY h).2).1).1,KI.EJ m e (aY (aY (aY h).2).1).2,KI.EJ m e (aY (aY h).2).2]
 |cat a c o u=>simp only [Kd.sb,Kd.rel,o (aY (aY h).1).1,u (aY (aY h).2).1]
 |nil=>rfl
 |ra j=>simp only [Kd.sb,Kd.rel,ais m e h]
 |fc f j=>simp only [Kd.sb,Kd.rel,ais m e h]
 |lv v=>rfl
def ait (m:pR L L' g) (a:L.length<=n): ∀ {l:List Kd},qL L p (Lh n g l)=true->(Lh n g l).map (Kd.rel L)=l.map (Kd.rel L')
 | [],_=>rfl
 |_::_,h=>by show _::_=_::_;rw [Kd.rS m a (aY h).1];exact congrArg _ (ait m a (aY h).2)
def Xi (m:pR L L' g): ∀ {l b:List Nat},NV g l=some b->(l.map fun j=>(aU L' j).val)=(b.map fun j=>(aU L j).val)/\ ∀j∈b,aU L j≠ .o
 | [],_,h=>by cases h;simp_all
 |j::l,b,h=>by
  simp only [NV] at h;cases e:po g j with
  |none=>simp_all
  |some a=>
   rw [e] at h;simp only at h;cases d:a.ix with
   |none=>simp_all
   |some i=>
    rw [d] at h;simp only at h;cases f:NV g l with
    |none=>simp_all
    |some t=>
     rw [f] at h;cases h;rw [cI,cI,((m j a e).2 i d).1,(Xi m f).1];exact ⟨rfl,fun k s=>by rcases bu.1 s with rfl|q;exact ((m j a e).2 _ d).2;exact (Xi m f).2 k q⟩
def acb (m:pR L L' g) {x y:Nat×List Nat} (h:Li g x=some y):(nH L y↔nH L' x)/\ ∀j∈y.2,aU L j≠ .o:=by
 unfold Li at h;cases e:NV g x.2 with
 |none=>simp_all
 |some l=>
  rw [e] at h;cases h;unfold nH;rw [(Xi m e).1];exact ⟨jY,(Xi m e).2⟩
def aiu: ∀ {a b:List Nat},W4 a b=true->a=b
 | [],[],_=>rfl
 | [],_::_,h=>by cases h
 |_::_,[],h=>by cases h
 |_::_,_::_,h=>by rw [bD (aY h).1,aiu (aY h).2]
def aiv {x:Nat×List Nat} : ∀ {R:List (Nat×List Nat)},Sb x R=true->x∈R
 | [],h=>by cases h
 |y::R,h=>by
  rcases dw _ _▸(show ((Nat.beq x.1 y.1&&W4 x.2 y.2)||Sb x R)=true from h) with q|q
  ·have:x=y:=Prod.ext (bD (aY q).1) (aiu (aY q).2)
   simp_all
  ·exact aw _ (aiv q)
def acd (m:pR L L' g) {R:List (Nat×List Nat)} (b: ∀x∈R,Lr L x): ∀ {l:List (Nat×List Nat)},Sc g R l=true-> ∀x∈l,nH L' x
 | [],_,_,h=>by cases h
 |y::l,h,x,f=>by
  obtain ⟨a,d⟩:=aY (show ((match Li g y with|some z=>Sb z R|none=>false)&&Sc g R l)=true from h);rcases bu.1 f with rfl|q
  ·cases e:Li g x with
   |none=>simp_all
   |some z=>rw [e] at a;exact (acb m e).1.1 (b z (aiv a)).1
  ·exact acd m b d x q
def Sh (m:pR L L' g) {R:List (Nat×List Nat)} (b: ∀x∈R,Lr L x): ∀ {l:List (Nat×List Nat)},(∀x∈l,nH L' x)-> ∀x∈xJ g l R,Lr L x
 | [],_,x,a=>b x a
 |y::l,h,x,a=>by
  have f:=Sh m b (l:=l) fun z d=>h z (aw _ d)
  simp only [xJ] at a;cases e:Li g y with
  |none=>simp_all
  |some z=>
   rw [e] at a;rcases bu.1 a with rfl|q
   ·exact ⟨(acb m e).1.2 (h y aE),(acb m e).2⟩
   simp_all
def Lr.ext (e:Ext L K) {x:Nat×List Nat} (h:Lr L x):Lr K x:=by
 have:(x.2.map fun j=>(aU K j).val)=x.2.map fun j=>(aU L j).val:=dy fun j a=>by rw [e j (h.2 j a)]
 exact ⟨by unfold nH;rw [this];exact h.1,fun j a=>by rw [e j (h.2 j a)];exact h.2 j a⟩
def asW (s:dU B L) {a:Ag} {b:BD} {i:Nat} (l:mZ (a.bd B) b=true) (e:a.ix=some i):a.sd L b=aU L i\/(a.sd L b= .z (aU L i).zv/\(aU L i).rO=true):=by
 have d:=s.get (ab6 e (Xh l));have o:=Xh l;rcases a with a|a|a|a<;>first|(cases e;done)|(cases a<;>cases e)
 ·refine .inr ⟨by cases b<;>rfl,?_⟩
  have j:(dJ B i).C0≠ .x:=o;revert d j;cases dJ B i<;>intro d j<;>first|exact absurd rfl j|skip
  all_goals (revert d;cases aU L i<;>intro d<;>first|exact False.elim d|rfl)
 ·rename_i q
  have j:(match dJ B i with| .y h b c k=>cond (beq q h) (BD.y h b c k) .x|_=> .x)≠ .x:=o;have t:(aU L i).rO=true:=by
   revert d j;cases dJ B i<;>intro d j<;>first|simp_all|skip
   all_goals (revert d;cases aU L i<;>intro d<;>first|exact False.elim d|rfl)
  cases b with
  |y g m c k=>exact .inl rfl
  |_=>exact .inr ⟨rfl,t⟩
 ·refine .inl ?_
  show SD.n (aU L i).nv=_;have j:(match dJ B i with| .n p k=>BD.n p k|_=> .x)≠ .x:=o;revert d j;cases dJ B i<;>intro d j<;>first|simp_all|skip
  all_goals (revert d;cases aU L i<;>intro d<;>first|exact False.elim d|rfl)
 ·have f:mZ (match dJ B i with| .i x y=>BD.i x y|_=> .x) b=true:=l
  refine .inl ?_;revert d f;cases dJ B i<;>intro d f<;>first|(cases b<;>cases f;done)|skip
  cases b<;>first|(cases f;done)|skip
  show SD.i (aU L i).iv=_;revert d;cases aU L i<;>intro d<;>first|exact False.elim d|rfl
 ·have f:mZ (match dJ B i with| .u x y=>BD.u x y|_=> .x) b=true:=l
  refine .inl ?_;revert d f;cases dJ B i<;>intro d f<;>first|(cases b<;>cases f;done)|skip
  cases b<;>first|(cases f;done)|skip
  show SD.u (aU L i).iv.toNat=_;revert d;cases aU L i<;>intro d<;>first|exact False.elim d|rfl
end
end
end Go.Proofs.YtnmpjdgobafdkaaGreatDoor
