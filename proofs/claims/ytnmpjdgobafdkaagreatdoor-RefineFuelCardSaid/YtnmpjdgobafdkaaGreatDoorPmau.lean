/- refineFuel_proved. -/
import Derived.Test.YtnmpjdgobafdkaaGreatDoorPmat
set_option maxRecDepth 100000
set_option maxHeartbeats 16000000
set_option linter.all false
noncomputable section
namespace Go.Proofs.YtnmpjdgobafdkaaGreatDoor
section
open Go.RowKit Go.Ev
variable {i j k g:Nat} {a b n:Int}
def aic (a k:Nat) (e:0<a) (l:0<k): ∀f x,x<=f->0<x->0<yB a k f x/\yB a k f x<=yA a k (yB a k f x)
 |0,x,h,d=>absurd d (by omega)
 |f+1,x,h,d=>by
  unfold yB;split
  ·omega
  ·rename_i m;exact aic a k e l f _ (by omega) (abA e l d)
def aid {a m:Nat} (o:m*m<=a) (l:0<a): ∀f x,0<x->m<=x->m<=yB a 2 f x
 |0,x,_,h=>h
 |f+1,x,e,h=>by
  unfold yB;split
  ·exact h
  ·refine aid o l f _ (abA l (by decide) e) ?_
   unfold yA;rw [cK (by decide),show 2-1=1 from rfl,fk,mO,dt];have q:m*m/x<=a/x:=eh o
   suffices s:2*m-x<=m*m/x by omega
   rw [cK e];obtain ⟨d,rfl⟩: ∃d,x=m+d:=⟨x-m,by omega⟩;rcases Nat.le_total d m with p|p
   ·obtain ⟨g,rfl⟩: ∃g,m=d+g:=⟨m-d,by omega⟩
    rw [show 2*(d+g)-(d+g+d)=g by omega];grind
   grind
def asK {a:Nat} (l:0<a:=by omega):tf a 2*tf a 2<=a/\a<(tf a 2+1)*(tf a 2+1):=by
 have e:0<td a 2:=aO (by decide);have d:=aic a 2 l (by decide) (td a 2) (td a 2) (aq _) e;have q:=fun m (s:m*m<=a)=>aid s l (td a 2) (td a 2) e
 change 0<tf a 2/\tf a 2<=yA a 2 (tf a 2) at d;refine ⟨?_,Nat.lt_of_not_le fun h=> ?_⟩
 ·have f:=d.2
  unfold yA at f;rw [cK (by decide),show 2-1=1 from rfl,fk,mO,dt] at f;have o:tf a 2<=a/tf a 2:=by omega
  exact (cK d.1).1 o
 ·have p:tf a 2+1<=td a 2:=by
   refine dG fun t=> ?_
   have u:td a 2*td a 2<=tf a 2*tf a 2:=bH (by omega) (by omega);have x:a<td a 2*td a 2:=by
    unfold td;rw [<-bC];exact az (Et a) (aG (by decide) (by omega))
   grind
  have y:tf a 2+1<=tf a 2:=q _ h p;omega
def WW {n:Nat} (p:Bn k n) (G:k<=900000:=by omega): ∃r e,Bn (k+1) r/\Bn k e/\r*r<=n/\n<(r+1)*(r+1)/\e=n-r*r/\bJ Tryz.prog bw 323 [fw n] (o9 (fw r) (fw e)):=by
 have c1:=ahz p;by_cases q:n=0
 ·have f:decide ((mB (n):Int)=0)=true:=(Q5 (n)).trans (by rw [q];rfl)
  refine ⟨0,0,aO (by decide),aO (by decide),by omega,by omega,by omega,?_⟩;exact fP [.n n] [] 0 [.cm .eql (.len 0) (.l 0) true] [⟨107,[cU 0],cU 0⟩] [cU 0] (.t (.n (.o)) (.n (.o))) (by kernel_rfl) (.k f .nil) (.k c1 .nil)
 ·have f:decide ((mB (n):Int)=0)=false:=(Q5 (n)).trans (decide_eq_false q)
  obtain ⟨u,s,B,A⟩:=arz (n:=n) (k:=2) (by omega) p;have m:=asK (a:=n);rw [<-B] at m;obtain ⟨x,D,C,F⟩:=aru s;have E:x<=n:=by omega
  obtain ⟨d,y,h,z⟩:=ahw p D (by omega) (by omega) E;refine ⟨u,d,s,y,m.1,m.2,by rw [h,C],?_⟩;exact fP [.n n,.n u,.n x,.n d] [] 0 [.cm .eql (.len 0) (.l 0) false] [⟨107,[cU 0],cU 0⟩,⟨344,[cU 0,gz 2],cU 1⟩,⟨321,[cU 1],cU 2⟩,⟨135,[cU 0,cU 2],.t (cU 3) (.b true)⟩] [cU 0] (.t (cU 1) (cU 3)) (by kernel_rfl) (.k f .nil) (.k c1 (.k A (.k F (.k z .nil))))
def RU {d:Nat} (Z:Bz i a) (hb:Bz j b) (hi:i<=5000000:=by omega) (hj:j<=5000000:=by omega) (N:0<d:=by omega) (P:d<4294967296:=by omega): ∃x y,Bz i x/\Bz (max j 64+1) y/\(x=((a.natAbs/d:Nat):Int)/\0<=y/\y.natAbs<=b.natAbs/d+1/\b.natAbs/d<=y.natAbs)/\bJ Tryz.prog bw 350 [cD a b,bj (.int .u32 (d:Int))] (cD x y):=by
 obtain ⟨Q,S,O,J,e5,h6,I⟩:=F8 (d:=d) Z.abs (by omega) N P;obtain ⟨R,C,M,o,nC,lP,H⟩:=F8 (d:=d) hb.abs (by omega) N P;by_cases F:((C:Nat):Int)≠0
 ·have e:=decide_eq_true F
  obtain ⟨A,D,p,t⟩:=KJ (n:=1);obtain ⟨B,q,f,E⟩:=Q7 M D;obtain ⟨h,xH,X,W⟩:=nu (b:=false) O;obtain ⟨l,U,s,Y⟩:=nu (b:=false) q;refine ⟨h,l,xH,U.mono (by omega),⟨by rw [X,J];rfl,by rw [s];exact fe _,by rw [s];rw [vX,f,p,o];omega,by rw [s];rw [vX,f,p,o];omega⟩,?_⟩;exact fP [.z a,.u d,.n Q,.u S,.z b,.n R,.u C,.n A,.n B,.z h,.z l] [] 0 [.cm .neq (.u 6) (.k .u32 0) true] [⟨108,[.n (.m 0),.i (.u 1)],.t3 (cU 2) (.i (.u 3)) (.b true)⟩,⟨108,[.n (.m 4),.i (.u 1)],.t3 (cU 5) (.i (.u 6)) (.b true)⟩,⟨60,[.i (.k .u64 1)],cU 7⟩,⟨134,[cU 5,cU 7],cU 8⟩,⟨116,[.b false,cU 2],aL 9⟩,⟨116,[.b false,cU 8],aL 10⟩] [ah 0 4,.i (.u 1)] (ah 9 10) (by kernel_rfl) (.k e .nil) (.k I (.k H (.k t (.k E (.k W (.k Y .nil))))))
 ·have e:=decide_eq_false F
  obtain ⟨T,D,p,t⟩:=nu (b:=false) O;obtain ⟨G,q,f,E⟩:=nu (b:=false) M;refine ⟨T,G,D,q.mono (by omega),⟨by rw [p,J];rfl,by rw [f];exact fe _,by rw [f];rw [vX,o];omega,by rw [f];rw [vX,o];omega⟩,?_⟩;exact fP [.z a,.u d,.n Q,.u S,.z b,.n R,.u C,.z T,.z G] [] 0 [.cm .neq (.u 6) (.k .u32 0) false] [⟨108,[.n (.m 0),.i (.u 1)],.t3 (cU 2) (.i (.u 3)) (.b true)⟩,⟨108,[.n (.m 4),.i (.u 1)],.t3 (cU 5) (.i (.u 6)) (.b true)⟩,⟨116,[.b false,cU 2],aL 7⟩,⟨116,[.b false,cU 5],aL 8⟩] [ah 0 4,.i (.u 1)] (ah 7 8) (by kernel_rfl) (.k e .nil) (.k I (.k H (.k t (.k E .nil))))
def abY (b:Bool) (x y:Nat):Gh b x y<=x/y+1/\x/y<=Gh b x y:=by
 unfold Gh;grind
def WX (a:Int) (n:Nat):(a*2^n).natAbs=a.natAbs*2^n:=by rw [dP,ni];rfl
def abZ {l:Nat} {c d:Int} (O:Bz i a) (P:Bz j b) (hc:Bz k c) (Q:Bz l d) (I:c≠0:=by omega) (J:d≠0:=by omega) (hn:0<=n/\n<=(g:Int):=by omega) (hg:g<=1048576:=by omega) (hi:i<=3000000:=by omega) (hj:j<=3000000:=by omega) (hk:k<=3000000:=by omega) (hl:l<=3000000:=by omega): ∃x y,Bz (i+g+1) x/\Bz (j+g+1) y/\(x.natAbs<=a.natAbs*2^n.toNat/d.natAbs+1/\y.natAbs<=b.natAbs*2^n.toNat/c.natAbs+1)/\bJ Tryz.prog bw 336 [cD a b,cD c d,bj (.int .i64 n)] (cD x y):=by
 obtain ⟨W,M,G,F⟩:=zW (s:=(n).toNat) (c:=g) O (by omega:(n:Int)=(((n).toNat:Nat):Int));obtain ⟨p,X,N,h8,H,NR,D⟩:=Ns M Q (by omega) (by omega) J;obtain ⟨m,R,t,u⟩:=zW (s:=(n).toNat) (c:=g) P (by omega:(n:Int)=(((n).toNat:Nat):Int));obtain ⟨o,T,qo,S⟩:=Bg R;obtain ⟨q,E,A,Y,B,Z,C⟩:=Ns T hc (by omega) (by omega) I;obtain ⟨e,U,h,f⟩:=Bg A;refine ⟨p,e,N,U,⟨by rw [H,vX,<-WX,<-G];exact (abY _ _ _).1,by rw [h,iL,B,vX,<-WX,<-t,show m.natAbs=o.natAbs by omega];exact (abY _ _ _).1⟩,?_⟩;exact fP [.z a,.i n,.z W,.z d,.z p,.z X,.z b,.z m,.z o,.z c,.z q,.z E,.z e] [] 0 [] [⟨128,[aL 0,aA 1],aL 2⟩,⟨145,[aL 2,aL 3],.t3 (aL 4) (aL 5) (.b true)⟩,⟨128,[aL 6,aA 1],aL 7⟩,⟨146,[aL 7],aL 8⟩,⟨145,[aL 8,aL 9],.t3 (aL 10) (aL 11) (.b true)⟩,⟨146,[aL 10],aL 12⟩] [ah 0 6,ah 9 3,aA 1] (ah 4 12) (by kernel_rfl) .nil (.k F (.k D (.k u (.k S (.k C (.k f .nil))))))
def asL (ha:Bz i a) (hb:Bz j b) (hn:0<=n/\n<=(g:Int):=by omega) (hg:g<=200000:=by omega) (hi:i<=400000:=by omega) (hj:j<=400000:=by omega): ∃x y,Bz (i+g+1) x/\Bz (max (j+g+1) 64+1) y/\(0<=x/\ ∀m:Nat,m*m<=a.natAbs*2^n.toNat->m<=x.natAbs)/\(0<=y/\ ∀m:Nat,m*m<=b.natAbs*2^n.toNat->m<=y.natAbs)/\bJ Tryz.prog bw 352 [cD a b,bj (.int .i64 n)] (cD x y):=by
 obtain ⟨X,h2,e3,U⟩:=Q6 (s:=(n).toNat) (c:=g) ha.abs (by omega:(n:Int)=(((n).toNat:Nat):Int));obtain ⟨h,Y,W,h8,h9,eT,j9,Z⟩:=WW h2;obtain ⟨A,nU,CW,sK⟩:=Q6 (s:=(n).toNat) (c:=g) hb.abs (by omega:(n:Int)=(((n).toNat:Nat):Int));obtain ⟨e,d,u,Bx,Aj,Bv,IE,o⟩:=WW nU;by_cases xH:d=0
 ·have f:decide (0<(mB (d):Int))=false:=(Ig (d)).trans (by rw [xH];rfl)
  obtain ⟨B,I,G,M⟩:=nu (b:=false) W;obtain ⟨C,H,F,J⟩:=nu (b:=false) u;refine ⟨B,C,I.mono (by omega),H.mono (by omega),⟨by rw [G];exact fe _,fun m R=> ?_⟩,⟨by rw [F];exact fe _,fun m R=> ?_⟩,?_⟩
  ·rw [G,vX]
   refine dG fun N=> ?_
   have P:(h+1)*(h+1)<=m*m:=bH (by omega) (by omega);omega
  ·rw [F,vX]
   refine dG fun N=> ?_
   have P:(e+1)*(e+1)<=m*m:=bH (by omega) (by omega);omega
  exact fP [.z a,.i n,.n X,.n h,.n Y,.z b,.n A,.n e,.n d,.z B,.z C] [] 0 [.cm .gtr (.len 8) (.l 0) false] [⟨144,[.n (.m 0),aA 1],cU 2⟩,⟨323,[cU 2],.t (cU 3) (cU 4)⟩,⟨144,[.n (.m 5),aA 1],cU 6⟩,⟨323,[cU 6],.t (cU 7) (cU 8)⟩,⟨116,[.b false,cU 3],aL 9⟩,⟨116,[.b false,cU 7],aL 10⟩] [ah 0 5,aA 1] (ah 9 10) (by kernel_rfl) (.k f .nil) (.k U (.k Z (.k sK (.k o (.k M (.k J .nil))))))
 ·have f:decide (0<(mB (d):Int))=true:=(Ig (d)).trans (decide_eq_true xH)
  obtain ⟨S,I,G,M⟩:=KJ (n:=1);obtain ⟨T,H,F,J⟩:=Q7 u I;obtain ⟨D,NS,p,O⟩:=nu (b:=false) W;obtain ⟨E,Q,q,RV⟩:=nu (b:=false) H;refine ⟨D,E,NS.mono (by omega),Q.mono (by omega),⟨by rw [p];exact fe _,fun m R=> ?_⟩,⟨by rw [q];exact fe _,fun m R=> ?_⟩,?_⟩
  ·rw [p,vX]
   refine dG fun N=> ?_
   have P:(h+1)*(h+1)<=m*m:=bH (by omega) (by omega);omega
  ·rw [q,vX,F,G]
   refine dG fun N=> ?_
   have P:(e+1)*(e+1)<=m*m:=bH (by omega) (by omega);omega
  exact fP [.z a,.i n,.n X,.n h,.n Y,.z b,.n A,.n e,.n d,.n S,.n T,.z D,.z E] [] 0 [.cm .gtr (.len 8) (.l 0) true] [⟨144,[.n (.m 0),aA 1],cU 2⟩,⟨323,[cU 2],.t (cU 3) (cU 4)⟩,⟨144,[.n (.m 5),aA 1],cU 6⟩,⟨323,[cU 6],.t (cU 7) (cU 8)⟩,⟨60,[.i (.k .u64 1)],cU 9⟩,⟨134,[cU 7,cU 9],cU 10⟩,⟨116,[.b false,cU 3],aL 11⟩,⟨116,[.b false,cU 10],aL 12⟩] [ah 0 5,aA 1] (ah 11 12) (by kernel_rfl) (.k f .nil) (.k U (.k Z (.k sK (.k o (.k M (.k J (.k O (.k RV .nil))))))))
def NT {m e s:Int} (h:DV m e) (Q:0<=s/\s<=100000:=by omega): ∃x y,Zb 300000 x/\Zb 300000 y/\(0<=e+s/\x=m*2^(e+s).toNat/\y=m*2^(e+s).toNat\/e+s<0/\x=m/2^(-(e+s)).toNat/\y= -(-m/2^(-(e+s)).toNat))/\bJ Tryz.prog bw 334 [iR m e,bj (.int .i64 s)] (cD x y):=by
 obtain ⟨k,P,o,J⟩:=h;unfold EB at J;obtain ⟨C,O⟩: ∃C:Nat,C=170000:=⟨_,rfl⟩;have A:=aC (e+s) (by omega);by_cases t:0<=(e+s)
 ·have f:=decide_eq_true t
  obtain ⟨d,u,p,F⟩:=zW (s:=((e+s)).toNat) (c:=C) o (by omega:((e+s):Int)=((((e+s)).toNat:Nat):Int));have G:=NM (x:=d);refine ⟨d,d,⟨_,by omega,u⟩,⟨_,by omega,u⟩,.inl ⟨by omega,p,p⟩,?_⟩;exact fP [.i e,.i s,.i (e+s),.z m,.z d] [] 0 [.ar .add (.i 0) (.i 1) (.i 2),.cm .geq (.i 2) (.l 0) true] [⟨128,[aL 3,aA 2],aL 4⟩,⟨291,[aL 4],ah 4 4⟩] [eE 3 0,aA 1] (ah 4 4) (by kernel_rfl) (.k A (.k f .nil)) (.k F (.k G .nil))
 ·have f:=decide_eq_false t
  have E:=NM (x:=m);have M:IntKind.i64.wrap (-(e+s))= -(e+s):=aC _ (by omega);obtain ⟨B,D,H,I,q,N⟩:=uH (n:=(-(e+s))) o o;refine ⟨B,D,⟨_,by omega,H⟩,⟨_,by omega,I⟩,.inr ⟨by omega,q.1,q.2⟩,?_⟩;exact fP [.i e,.i s,.i (e+s),.z m,.i (-(e+s)),.z B,.z D] [] 0 [.ar .add (.i 0) (.i 1) (.i 2),.cm .geq (.i 2) (.l 0) false,.ng (.i 2) (.i 4)] [⟨291,[aL 3],ah 3 3⟩,⟨326,[ah 3 3,aA 4],ah 5 6⟩] [eE 3 0,aA 1] (ah 5 6) (by kernel_rfl) (.k A (.k f (.k M .nil))) (.k E (.k N .nil))
end
section
open Go.Proofs.Tryz Go.RowKit Go.Ev
def later:List Ev.Way->List Ev.Way->Bool
 | .l::_,.r::_=>true
 | .l::p,.l::q=>later p q
 | .r::p,.r::q=>later p q
 | .k::p,.k::q=>later p q
 |_,_=>false
def RY:List Ev.Way->List Ev.Way->List Ev.Way
 | .l::p,.l::q=> .l::RY p q
 | .r::p,.r::q=>RY p q
 | .k::p,.k::q=> .k::RY p q
 |_,q=>q
section
variable [aJ] {P:Program} {E:Env}
def asM (ok:eD P E) (M:H4 P E) {cf:FuncId->List aj->aP->VR} (O:sZ P E cf) (nt:Nat) {sub IH:Code} {out:Out} : ∀(p q:List Ev.Way) (c:Code) (s:Tm) (h:aP) (u:Tm) (i:aP),later p q=true->mJ p c=some sub->mJ q c=some IH->
 (fY E nt (Ac (RY p q) (tS (uB out) p c))).f cf s h= .ok .normal u i-> ∀(S:Nat->Prop) (m:Mp) (a:Act) (w:World) (Q:Exit->Act->World->Prop),bR E.gl S m h w->TR m h nt s a->
 (∀D G F,bR E.gl S D i F->TR D i nt u G->Goes m h w D i F->IH.wp P (sJ P q c Q) G F)->sJ P p c Q (vf out) a w:=by
 intro p
 induction p with
 |nil=>intro q c s h u i d;cases q<;>cases d
 |cons b p I=>
  intro q c s h u i d j g e S m a w Q r t H;cases b with
  |l=>
   obtain ⟨x,y,rfl,j⟩:=Wn j;cases q with
   |nil=>cases d
   |cons B q=>
    cases B with
    |l=>
     obtain ⟨J,T,z,g⟩:=Wn g;cases z;exact I q x s h u i d j g e S m a w _ r t H
    |r=>
     obtain ⟨J,T,z,g⟩:=RF g;cases z;have C:(fY E nt (.seq (tS (uB out) p x) (Ac q y))).f cf s h= .ok .normal u i:=e;simp only [fY] at C;cases N:(fY E nt (tS (uB out) p x)).f cf s h with
     |fail=>simp_all
     |ok o t1 Y=>
      rw [N] at C;show sJ P p x _ _ _ _;refine ahF ok M O nt p x s h o t1 Y j N S m a w _ r t fun m1 U w1 R mA X=> ?_
      cases o with
      |normal=>exact ahE ok M O nt q y _ _ _ _ g C S m1 U w1 Q R mA fun D G F r' t' W=>H D G F r' t' (Goes.trans r R X W)
      |ret=>cases C
      |exit id=>cases C
    |k=>cases d
  |r=>
   obtain ⟨x,y,rfl,j⟩:=RF j;cases q with
   |nil=>cases d
   |cons B q=>
    cases B with
    |r=>
     obtain ⟨J,T,z,g⟩:=RF g;cases z;exact I q y s h u i d j g e S m a w Q r t H
    |l=>cases d
    |k=>cases d
  |k=>
   obtain ⟨id,x,rfl,j⟩:=Wo j;cases q with
   |nil=>cases d
   |cons B q=>
    cases B with
    |k=>
     obtain ⟨Z,J,z,g⟩:=Wo g;cases z;exact I q x s h u i d j g e S m a w _ r t H
    |l=>cases d
    |r=>cases d
end
section
variable {nt:Nat} {c sub IH:Code} {p q:List Ev.Way} {fr rN:Fr} {out:Out}
def qp (nt:Nat) (c:Code) (fr:Fr) (out:Out) (rN:Fr):Prop:= ∀S base e a w Q,oP bw S base e nt fr a w->(∀b d,oP bw S base e nt rN b d->Q (vf out) b d)->c.wp prog Q a w
def BB (nt:Nat) (p:List Ev.Way) (c sub:Code) (fr rN:Fr):Prop:= ∀S base e a w Q,oP bw S base e nt fr a w->(∀b d,oP bw S base e nt rN b d->sub.wp prog (sJ prog p c Q) b d)->c.wp prog Q a w
def RZ (nt:Nat) (p:List Ev.Way) (out:Out) (q:List Ev.Way) (c IH:Code) (fr rN:Fr):Prop:= ∀S base e a w Q,oP bw S base e nt fr a w->(∀b d,oP bw S base e nt rN b d->IH.wp prog (sJ prog q c Q) b d)->sJ prog p c Q (vf out) a w
def xI (nt:Nat) (p:List Ev.Way) (out:Out) (c:Code) (d:Func) (fr:Fr) (R:World->Value->Prop):Prop:= ∀S base b a w,oP bw S base b nt fr a w->sJ prog p c (K2 prog d S base b R) (vf out) a w
def II {X O:Type} (I:X->Fr) (μ:X->Nat) (Ok:X->Prop) (J:O->Fr) (b:X->O->Prop)
 (step: ∀x,Ok x->(∃y,Ok y/\μ y<μ x/\(∀o,b y o->b x o)/\qp nt c (I x) .normal (I y))\/(∃o,b x o/\out≠ .normal/\qp nt c (I x) out (J o))):
 ∀x,Ok x-> ∃o,b x o/\qp nt (.loop c) (I x) out (J o):=by
 have m: ∀n x,μ x<n->Ok x-> ∃o,b x o/\ ∀S base d a w Q,oP bw S base d nt (I x) a w->(∀e f,oP bw S base d nt (J o) e f->Q (vf out) e f)->Code.rounds prog c Q n a w:=by
  intro n
  induction n with
  |zero=>omega
  |succ n B=>
   intro x D l;rcases step x l with ⟨y,z,C,t,k⟩|⟨o,i,u,k⟩
   ·obtain ⟨o,i,j⟩:=B y (by omega) z
    refine ⟨o,t o i,fun S base d a w Q h g=> ?_⟩;rw [rounds_succ];exact k S base d a w _ h fun e f s=>j S base d e f Q s g
   ·refine ⟨o,i,fun S base d a w Q h g=> ?_⟩
    rw [rounds_succ];refine k S base d a w _ h fun e f s=> ?_
    have:=g e f s;cases out with
    |normal=>simp_all
    |ret=>exact this
    |exit id=>exact this
 intro x l;obtain ⟨o,i,j⟩:=m (μ x+1) x (jl _) l;exact ⟨o,i,fun S base d a w Q h g=>wp_loop_rounds _ (j S base d a w Q h g)⟩
def R0 {f:FuncId} {d:Func} {Rs:List (World->Value->Prop)} {R:World->Value->Prop} {b:Code} (s:prog.funcs[f]? =some d) (m:d.body=some c) (e:Rs.length<=d.ntmps)
 (u:BB d.ntmps p c (.loop b) ⟨[],Af Rs 0⟩ fr) (t:qp d.ntmps (.loop b) fr out rN) (o:xI d.ntmps p out c d rN R):bJ prog bw f Rs R:=
 abP s m e fun S base g a w h=>u S base g a w _ h fun i x k=>t S base g i x _ k fun j y l=>o S base g j y l
end
structure KB where
 t:Nat
 e:TypeId
 s:Nat
 k:Kd
structure qN where
 b:List KB
 t:List (Nat×Kd)
def KB.fb (L:List SD) (b:KB):FB:=⟨b.t,b.e,b.s,b.k.rel L⟩
def KB.pb (b:KB):PB:=⟨b.t,b.e,b.s,b.k.cells⟩
def qN.fr (L:List SD) (x:qN):Fr:=⟨x.b.map (KB.fb L),x.t.map fun y=>(y.1,y.2.rel L)⟩
def qN.fp (x:qN):Fp:=⟨x.b.map KB.pb,x.t.map fun y=>(y.1,y.2.pat)⟩
def okB (L:List SD) (p:Bool):List KB->Bool
 | []=>true
 |b::l=>(b.k.ok L p&&b.k.tU)&&okB L p l
def K' (L:List SD) (p:Bool):List (Nat×Kd)->Bool
 | []=>true
 |x::l=>x.2.ok L p&&K' L p l
def qN.ok (L:List SD) (p:Bool) (x:qN):Bool:=okB L p x.b&&K' L p x.t
section
variable {L:List SD} {A:World->Prop}
def aie {k:Kd} {p:Bool} (h:k.ok L p=true) (a:k.tU=true):ja k.cells=true:=by
 have:=Kd.Iy h;rw [Gn a] at this;exact this
def R7: ∀(l:List KB),okB L true l=true-> @Ad ⟨cL (L.map SD.slot)⟩ (fv A (L.map SD.slot)) (l.map (KB.fb L)) (l.map KB.pb)
 | [],_=>rfl
 |b::l,h=>by
  simp only [okB,au] at h;have a: @fm ⟨cL (L.map SD.slot)⟩ (fv A (L.map SD.slot)) (b.k.rel L) (.agg b.k.cells):=Gn h.1.2▸Kd.into h.1.1;exact @ar8 ⟨cL (L.map SD.slot)⟩ _ _ _ _ _ _ _ _ (aie h.1.1 h.1.2) a (R7 l h.2)
def R8: ∀(l:List (Nat×Kd)),K' L true l=true-> @Ae ⟨cL (L.map SD.slot)⟩ (fv A (L.map SD.slot)) (l.map fun y=>(y.1,y.2.rel L)) (l.map fun y=>(y.1,y.2.pat))
 | [],_=>rfl
 |x::l,h=>by
  simp only [K',au] at h;exact @ar9 ⟨cL (L.map SD.slot)⟩ _ _ _ _ _ _ (Kd.Iy h.1) (Kd.into h.1) (R8 l h.2)
def WZ: ∀(l:List KB),okB L false l=true-> @Ep ⟨cL (L.map SD.slot)⟩ (fv A (L.map SD.slot)) (l.map KB.pb) (l.map (KB.fb L))
 | [],_=>rfl
 |b::l,h=>by
  simp only [okB,au] at h;have a: @ft ⟨cL (L.map SD.slot)⟩ (fv A (L.map SD.slot)) (.agg b.k.cells) (b.k.rel L):=Gn h.1.2▸Kd.qK h.1.1;exact @asa ⟨cL (L.map SD.slot)⟩ _ _ _ _ _ _ _ _ (aie h.1.1 h.1.2) a (WZ l h.2)
def W2: ∀(l:List (Nat×Kd)),K' L false l=true-> @Er ⟨cL (L.map SD.slot)⟩ (fv A (L.map SD.slot)) (l.map fun y=>(y.1,y.2.pat)) (l.map fun y=>(y.1,y.2.rel L))
 | [],_=>rfl
 |x::l,h=>by
  simp only [K',au] at h;exact @asb ⟨cL (L.map SD.slot)⟩ _ _ _ _ _ _ (Kd.Iy h.1) (Kd.qK h.1) (W2 l h.2)
end
section
variable {nt:Nat} {c sub IH:Code} {p q:List Ev.Way} {out:Out}
def IJ (L:List SD) (F:List KF):Env:=Env.sy prog (fv bw (L.map SD.slot)) (F.map KF.fact)
def tr (L:List SD) (I:List FuncId) (b:Nat) (F:List KF) (T:List KE) (x y:qN)
 (e: ∀d,(Es (IJ L F) (T.map KE.Ey) I b nt c out x.fp y.fp d&&((okF L F&&tk L T)&&(x.ok L true&&y.ok L false)))=true)
 (m:wj L F) (s:uG L T):qp nt c (x.fr L) out (y.fr L):=fun S base u a w Q t o=>by
 have f:=e fun _=> .bool false
 simp only [au,qN.ok] at f;obtain ⟨_,⟨g,h⟩,⟨i,j⟩,k,l⟩:=f;exact asc (L.map SD.slot) mix (fun d=>by have:=e d;simp only [au] at this;exact this.1) (m.ok g) (s.ok h) (R7 _ i) (R8 _ j) (WZ _ k) (W2 _ l) t o
def La (L:List SD) (I:List FuncId) (b:Nat) (F:List KF) (T:List KE) (x y:qN) (u:mJ p c=some sub)
 (e: ∀d,(Es (IJ L F) (T.map KE.Ey) I b nt (Ac p c) .normal x.fp y.fp d&&((okF L F&&tk L T)&&(x.ok L true&&y.ok L false)))=true)
 (m:wj L F) (s:uG L T):BB nt p c sub (x.fr L) (y.fr L):=fun S base z a w Q t o=>by
 have f:=e fun _=> .bool false
 simp only [au,qN.ok] at f;obtain ⟨_,⟨g,h⟩,⟨i,j⟩,k,l⟩:=f;exact ase (L.map SD.slot) mix u (fun d=>by have:=e d;simp only [au] at this;exact this.1) (m.ok g) (s.ok h) (R7 _ i) (R8 _ j) (WZ _ k) (W2 _ l) t o
def Gr (L:List SD) (I:List FuncId) (b:Nat) (F:List KF) (T:List KE) (x:qN) (r:Kd) {g:Func} (t:mJ p c=some sub)
 (e: ∀d,(NB (IJ L F) (T.map KE.Ey) I b nt g.results.toList (tS (uB out) p c) x.fp r.pat d&&((okF L F&&tk L T)&&(x.ok L true&&r.ok L false)))=true)
 (m:wj L F) (o:uG L T):xI nt p out c g (x.fr L) (r.rel L):=fun S base u a w s=>by
 have f:=e fun _=> .bool false
 simp only [au,qN.ok] at f;obtain ⟨_,⟨i,j⟩,⟨k,l⟩,h⟩:=f;exact asf (L.map SD.slot) mix t (fun d=>by have:=e d;simp only [au] at this;exact this.1) (Kd.Iy h) (m.ok i) (o.ok j) (R7 _ k) (R8 _ l) (Kd.qK h) s
def aif (L:List SD) (I:List FuncId) (b:Nat) (F:List KF) (T:List KE) (x y:qN) (R:later p q=true) (U:mJ p c=some sub) (W:mJ q c=some IH)
 (e: ∀d,(Es (IJ L F) (T.map KE.Ey) I b nt (Ac (RY p q) (tS (uB out) p c)) .normal x.fp y.fp d&&((okF L F&&tk L T)&&(x.ok L true&&y.ok L false)))=true)
 (M:wj L F) (O:uG L T):RZ nt p out q c IH (x.fr L) (y.fr L):=fun S base w0 a w Q f N=>by
 have g:=e fun _=> .bool false
 simp only [au,qN.ok] at g;obtain ⟨_,⟨z,C⟩,⟨D,G⟩,H,J⟩:=g
 letI:aJ:=⟨cL (L.map SD.slot)⟩
 have s:=WI (A:=bw) (L.map SD.slot) mix (M.ok z) (O.ok C);have i:=e fun t=>tj (a.tmps.getD t undef)
 simp only [au] at i;obtain ⟨tm,h,j,zU,l⟩:=abO i.1;obtain ⟨B,m,r,t,X⟩:=WG (fp:=x.fp) s f (R7 _ D) (R8 _ G);refine asM s.env (F1 s.mix s.env) (s.cf I b) nt p q c _ _ _ _ R U W j _ m a w _ r t fun m' o w' r' k u=> ?_
 obtain ⟨Y,Z,q3,q4⟩:=WH f r t X k u (WE _ j);exact N o w' (abM (fun w v h=>(s.NC w v).1 h) Y r' k Z f.lim q3 q4 zU l (WZ _ H) (W2 _ J))
end
def zS:List aj:= [.bool false,.jP,.bool false,.jP]
def ZS:World->Value->Prop:=bj (.agg ⟨zS.map Gm⟩)
def nD (f:Func):Code:=f.body.getD .skip
def asN:Code->Code
 | .loop b=>b
 |c=>c
def ka (p:List Ev.Way) (f:Func):Code:=asN ((mJ p (nD f)).getD .skip)
end
section
open Go.RowKit Go.Ev
inductive BD where
 |z (a b c:Bool) (k:Nat)|y (g b c:Bool) (k:Nat)|n (p:Bool) (k:Nat)|i (l h:Int)|u (l h:Int)|x|ra
 deriving Inhabited
inductive Ag where
 |z (a:KZ)|n (a:KN)|i (a:KI)|ra (j:Nat)
structure Alt where
 nb:List BD
 rf:List (Nat×BD)
 rr:List (Nat×List Nat)
 r:Kd
structure Cn where
 f:Option FuncId
 ps:List BD
 pr:List (Nat×List Nat)
 ks:List Kd
 al:List Alt
structure St where
 b:List BD
 r:List (Nat×List Nat)
 f:List KF
 t:List KE
inductive Nd where
 |c (i:Nat) (s:List Ag)|a (o:BinOp) (p q:KI)|t (o:BinOp) (p q:KI)|e (o:BinOp) (j:Nat)|g (p:KI)|m (g:Bool) (p q:KI)|v (p:KI)|r (k:Nat) (s:List Ag)
def mD(j:Nat):Ag:=.z (.z j)
def j4(j:Nat):Ag:=.i (.i j)
def CZ(k:Int):Ag:=.i (.l k)
def sM(i:Nat)(s:List Ag):Nd:=.c i s
def uJ(i:Nat)(s:List Ag):Nd:=.r i s
def NdG(j:Nat):Nd:=.g (.i j)
def Lb(o:BinOp)(i:Nat)(k:Int):Nd:=.t o (.i i) (.l k)
def NdA(o:BinOp)(i:Nat)(k:Int):Nd:=.a o (.i i) (.l k)
def NdB(o:BinOp)(i j:Nat):Nd:=.a o (.i i) (.i j)
def Lc:Ag:=.z (.o)
def nF(i j:Nat)(s:Int):Alt:=⟨[.z false true false 0,.n false 0],[],[],.res (.z i) (.n j) (.l s)⟩
def nG(i j:Nat):Alt:=⟨[.z true true true 1024,.n true 1024],[],[],.res (.z i) (.n j) (.l 1)⟩
def wD(i j k:Nat):Kd:=.res (.z i) (.n j) (.i k)
def cM(i j:Nat):Kd:=.r (.z i) (.n j)
def lF(i j k l:Nat):Kd:=.v (.z i) (.i j) (.z k) (.i l)
def gw (a b:Int):Bool:=match b-a with
 | .ofNat _=>true
 | .negSucc _=>false
def imax (a b:Int):Int:=cond (gw a b) b a
def uK (a b:Int):Int:=cond (gw a b) a b
def R9 (a b:Nat):Nat:=cond (Nat.ble a b) a b
def Ld (a b:Nat):Nat:=cond (Nat.ble a b) b a
def imp (a b:Bool):Bool:=cond a b true
def beq (a b:Bool):Bool:=cond a b (cond b false true)
def dJ:List BD->Nat->BD
 | [],_=> .x
 |b::_,0=>b
 |_::l,n+1=>dJ l n
def Lg:List BD->Nat->BD->List BD
 | [],_,_=> []
 |_::l,0,c=>c::l
 |b::l,n+1,c=>b::Lg l n c
def BD.C0:BD->BD
 | .z a b c k=> .z a b c k
 | .y g b c k=>cond g (.z true false false k) (.z false b c k)
 |_=> .x
def KZ.bd (B:List BD):KZ->BD
 | .z j=>(dJ B j).C0
 | .s g j=>match dJ B j with
  | .y h b c k=>cond (beq g h) (.y h b c k) .x
  |_=> .x
 | .o=> .z false true false 0
def KN.bd (B:List BD):KN->BD
 | .n j=>match dJ B j with
  | .n p k=> .n p k
  |_=> .x
 | .m j=>match (dJ B j).C0 with
  | .z _ b _ k=> .n (cond b false true) k
  |_=> .x
 | .o=> .n false 0
def KI.bd (B:List BD):KI->BD
 | .i j=>match dJ B j with
  | .i x y=> .i x y
  |_=> .x
 | .u j=>match dJ B j with
  | .u x y=> .u x y
  |_=> .x
 | .l x=> .i x x
 | .k d v=>cond (nh d .u32&&gw 0 v) (.u v v) .x
 | .len _=> .x
def Ag.bd (B:List BD):Ag->BD
 | .z a=>a.bd B
 | .n a=>a.bd B
 | .i a=>a.bd B
 | .ra j=>match dJ B j with
  | .ra=> .ra
  |_=> .x
def mZ:BD->BD->Bool
 | .z a b c k,.z j e f d=>(imp a j&&imp b e)&&(imp c f&&Nat.ble k d)
 | .y g b c k,.z j e f d=>cond g j (imp b e&&imp c f)&&Nat.ble k d
 | .y g b c k,.y h e f d=>(beq g h&&imp b e)&&(imp c f&&Nat.ble k d)
 | .n p k,.n q d=>imp q p&&Nat.ble k d
 | .i l h,.i o m=>gw o l&&gw h m
 | .u l h,.u o m=>gw o l&&gw h m
 | .ra,.ra=>true
 |_,_=>false
def C1:List BD->List BD->Bool
 | [],[]=>true
 |a::l,b::m=>mZ a b&&C1 l m
 |_,_=>false
def ab1:BD->BD->BD
 | .z a b c k,.z o e f d=> .z (a&&o) (b&&e) (c&&f) (R9 k d)
 | .y g b c k,.z _ e f d=> .y g (b&&e) (c&&f) (R9 k d)
 | .n p k,.n q d=> .n (p||q) (R9 k d)
 | .i l h,.i m j=> .i (imax l m) (uK h j)
 | .u l h,.u m j=> .u (imax l m) (uK h j)
 |b,_=>b
def ab2:BD->Bool
 | .z a b c _=>cond a false (cond b false (cond c false true))
 | .y g b c _=>cond g false (cond b false (cond c false true))
 | .n p k=>p&&Nat.beq k 0
 | .i l h=>cond (gw l h) false true
 | .u l h=>cond (gw l h) false true
 | .x=>false
 | .ra=>false
def NU:List BD->Bool
 | []=>false
 |b::l=>ab2 b||NU l
def mg:List BD->Nat
 | []=>0
 |_::l=>Nat.succ (mg l)
def sO:List BD->List BD->List BD
 | [],m=>m
 |b::l,m=>b::sO l m
def W3 (n:Nat):BD->Ag
 | .z _ _ _ _=>Ag.z (.z n)
 | .y g _ _ _=>Ag.z (.s g n)
 | .n _ _=>Ag.n (.n n)
 | .u _ _=>Ag.i (.u n)
 | .ra=>Ag.ra n
 |_=>Ag.i (.i n)
def fresh:Nat->List BD->List Ag
 |_,[]=> []
 |n,b::l=>W3 n b::fresh (Nat.succ n) l
def po:List Ag->Nat->Option Ag
 | [],_=>none
 |a::_,0=>some a
 |_::l,n+1=>po l n
def BC:List Ag->List Ag->List Ag
 | [],m=>m
 |b::l,m=>b::BC l m
def KZ.sb (n:Nat) (s:List Ag):KZ->KZ
 | .o=> .o
 | .z j=>match po s j with
  |some (.z a)=>a
  |_=> .z n
 | .s _ j=>match po s j with
  |some (.z a)=>a
  |_=> .z n
def KN.sb (n:Nat) (s:List Ag):KN->KN
 | .o=> .o
 | .n j=>match po s j with
  |some (.n a)=>a
  |_=> .n n
 | .m j=>match po s j with
  |some (.z (.z k))=> .m k
  |some (.z (.s _ k))=> .m k
  |some (.z .o)=> .o
  |_=> .n n
def KI.sb (n:Nat) (s:List Ag):KI->KI
 | .i j=>match po s j with
  |some (.i a)=>cond a.w a (.i n)
  |_=> .i n
 | .u j=>match po s j with
  |some (.i a)=>cond (nh a.kd .u32) a (.i n)
  |_=> .i n
 | .len _=> .i n
 |x=>x
def Sa (n:Nat) (s:List Ag) (j:Nat):Nat:=match po s j with
 |some (.ra i)=>i
 |_=>n
def Kd.sb (n:Nat) (s:List Ag):Kd->Kd
 | .z a=> .z (a.sb n s)
 | .n a=> .n (a.sb n s)
 | .i a=> .i (a.sb n s)
 | .d a e=> .d (a.sb n s) (e.sb n s)
 | .r a q=> .r (a.sb n s) (q.sb n s)
 | .v a e c f=> .v (a.sb n s) (e.sb n s) (c.sb n s) (f.sb n s)
 | .s a c=> .s (a.sb n s) (c.sb n s)
 | .t a c=> .t (a.sb n s) (c.sb n s)
 | .t3 a c e=> .t3 (a.sb n s) (c.sb n s) (e.sb n s)
 | .nd q a c x y=> .nd q (a.sb n s) (c.sb n s) (x.sb n s) y
 | .res a x y=> .res (a.sb n s) (x.sb n s) (y.sb n s)
 | .out a e c f y=> .out (a.sb n s) (e.sb n s) (c.sb n s) (f.sb n s) (y.sb n s)
 | .cat a c=> .cat (a.sb n s) (c.sb n s)
 | .ra j=> .ra (Sa n s j)
 | .fc f j=> .fc f (Sa n s j)
 |x=>x
def Lh (n:Nat) (s:List Ag):List Kd->List Kd
 | []=> []
 |k::l=>k.sb n s::Lh n s l
def Ag.ix:Ag->Option Nat
 | .z (.z j)=>some j
 | .z (.s _ j)=>some j
 | .n (.n j)=>some j
 | .i (.i j)=>some j
 | .i (.u j)=>some j
 |_=>none
def NV (s:List Ag):List Nat->Option (List Nat)
 | []=>some []
 |j::l=>match po s j with
  |some a=>match a.ix with
   |some i=>match NV s l with
    |some m=>some (i::m)
    |none=>none
   |none=>none
  |none=>none
def Li (s:List Ag) (x:Nat×List Nat):Option (Nat×List Nat):=match NV s x.2 with
 |some m=>some (x.1,m)
 |none=>none
def W4:List Nat->List Nat->Bool
 | [],[]=>true
 |a::l,b::m=>Nat.beq a b&&W4 l m
 |_,_=>false
def Sb (x:Nat×List Nat):List (Nat×List Nat)->Bool
 | []=>false
 |y::l=>(Nat.beq x.1 y.1&&W4 x.2 y.2)||Sb x l
def Sc (s:List Ag) (R:List (Nat×List Nat)):List (Nat×List Nat)->Bool
 | []=>true
 |x::l=>(match Li s x with
  |some y=>Sb y R
  |none=>false)&&Sc s R l
def xJ (s:List Ag):List (Nat×List Nat)->List (Nat×List Nat)->List (Nat×List Nat)
 | [],R=>R
 |x::l,R=>match Li s x with
  |some y=>y::xJ s l R
  |none=>xJ s l R
def IL (s:List Ag):List (Nat×BD)->List BD->List BD
 | [],B=>B
 |x::l,B=>match po s x.1 with
  |some a=>match a.ix with
   |some i=>Lg (IL s l B) i (ab1 (dJ (IL s l B) i) x.2)
   |none=>IL s l B
  |none=>IL s l B
def Am (B:List BD):List Ag->List BD
 | []=> []
 |a::l=>a.bd B::Am B l
def live:List St->List St
 | []=> []
 |s::l=>cond (NU s.b) (live l) (s::live l)
def ab3 (s:St) (c:Cn) (g:List Ag) (a:Alt):St:=
 ⟨sO (IL g a.rf s.b) a.nb,xJ (BC g (fresh (mg s.b) a.nb)) a.rr s.r,s.f,match c.f with
  |some f=>⟨f,Lh (mg (sO s.b a.nb)) g c.ks,a.r.sb (mg (sO s.b a.nb)) (BC g (fresh (mg s.b) a.nb))⟩::s.t
  |none=>s.t⟩
def W5 (s:St) (c:Cn) (g:List Ag):List Alt->List St
 | []=> []
 |a::l=>ab3 s c g a::W5 s c g l
def ab4 (s:St) (c:Cn) (g:List Ag):Option (List St):=cond (C1 (Am s.b g) c.ps&&Sc g s.r c.pr) (some (live (W5 s c g c.al))) none
def iv (B:List BD) (k:KI):Option (Int×Int):=match k.bd B with
 | .i l h=>some (l,h)
 | .u l h=>some (l,h)
 |_=>none
def EF (k:KI) (l h:Int) (B:List BD):List BD:=match k with
 | .i j=>match dJ B j with
  | .i _ _=>Lg B j (.i l h)
  |_=>B
 | .u j=>match dJ B j with
  | .u _ _=>Lg B j (.u l h)
  |_=>B
 |_=>B
def NW (r:Bool) (x y:Int×Int):(Int×Int)×(Int×Int):=cond r ((x.1,uK x.2 (y.2-1)),(imax y.1 (x.1+1),y.2)) ((imax x.1 y.1,x.2),(y.1,uK y.2 x.2))
def vo (r:Bool):Bool:=cond r false true
def swp (p:(Int×Int)×(Int×Int)):(Int×Int)×(Int×Int):=(p.2,p.1)
def IM (a b:Int):Bool:=gw a b&&gw b a
def Sd (x y:Int×Int):Int×Int:=cond (IM y.1 y.2) (cond (IM x.1 y.1) (x.1+1,x.2) (cond (IM x.2 y.1) (x.1,x.2-1) x)) x
def W6 (r:Bool) (x y:Int×Int):(Int×Int)×(Int×Int):=cond r ((imax x.1 y.1,uK x.2 y.2),(imax x.1 y.1,uK x.2 y.2)) (Sd x y,Sd y x)
def NX (o:BinOp) (r:Bool) (x y:Int×Int):Option ((Int×Int)×(Int×Int)):=match o with
 | .lss=>some (NW r x y)
 | .gtr=>some (swp (NW r y x))
 | .leq=>some (swp (NW (vo r) y x))
 | .geq=>some (NW (vo r) x y)
 | .eql=>some (W6 r x y)
 | .neq=>some (W6 (vo r) x y)
 |_=>none
def EG (s:St) (o:BinOp) (p q:KI) (x y:Int×Int) (r:Bool):List St:=match NX o r x y with
 |some ((l,h),(d,a))=>cond (gw l h&&gw d a) [⟨EF q d a (EF p l h s.b),s.r,.cm o p q r::s.f,s.t⟩] []
 |none=> []
def Ao:List St->List St->List St
 | [],m=>m
 |s::l,m=>s::Ao l m
def W7 (b:BD):BD:=match b with
 | .n _ _=> .n false 0
 | .z _ _ _ k=> .z false true false k
 | .y g _ _ k=> .y g true false k
 |b=>b
def W8 (b:BD):BD:=match b with
 | .n _ k=> .n true k
 | .z a _ c k=> .z a false c k
 | .y g _ c k=> .y g false c k
 |b=>b
def aih (z:Bool):BD->Bool
 | .n p k=>cond z p (Nat.beq k 0)
 | .z a m c _=>cond z (vo m) (vo (a||c))
 | .y g m c _=>cond z (g||vo m) (vo (g||c))
 |_=>true
def Gs (s:St) (o:BinOp) (j:Nat) (r z:Bool):List St:=cond (aih z (dJ s.b j)) [] [⟨Lg s.b j (cond z (W7 (dJ s.b j)) (W8 (dJ s.b j))),s.r,.cm o (.len j) (.l 0) r::s.f,s.t⟩]
def aii:BD->Bool
 | .n _ _=>true
 | .z _ _ _ _=>true
 | .y _ _ _ _=>true
 |_=>false
def big:Int:=9223372036854775807
def W9 (l h:Int):Bool:=gw (-9223372036854775808) l&&gw h big
def arB (o:BinOp) (x y:Int×Int):Option (Int×Int):=match o with
 | .add=>some (x.1+y.1,x.2+y.2)
 | .sub=>some (x.1-y.2,x.2-y.1)
 | .mul=>let a:=x.1*y.1;let b:=x.1*y.2;let c:=x.2*y.1;let d:=x.2*y.2
  some (uK (uK a b) (uK c d),imax (imax a b) (imax c d))
 | .rem=>cond (IM y.1 y.2&&gw 1 y.1) (some (cond (gw 0 x.1) 0 (1-y.1),cond (gw x.2 0) 0 (y.1-1))) none
 |_=>none
def Lj (k:KI):Bool:=nh k.kd .i64
def step (C:Nat->List BD->Option Cn) (n:Nd) (s:St):Option (List St):=match n with
 | .c i g=>match C i (Am s.b g) with
  |some c=>ab4 s c g
  |none=>none
 | .a o p q=>match iv s.b p with
  |some x=>match iv s.b q with
   |some y=>match arB o x y with
    |some (l,h)=>cond ((Lj p&&Lj q)&&(gw l h&&W9 l h)) (some [⟨sO s.b [.i l h],s.r,.ar o p q (.i (mg s.b))::s.f,s.t⟩]) none
    |none=>none
   |none=>none
  |none=>none
 | .t o p q=>match iv s.b p with
  |some x=>match iv s.b q with
   |some y=>match NX o true x y with
    |some _=>cond (nh p.kd q.kd) (some (Ao (EG s o p q x y true) (EG s o p q x y false))) none
    |none=>none
   |none=>none
  |none=>none
 | .e o j=>cond (aii (dJ s.b j)) (match o with
  | .gtr=>some (Ao (Gs s o j true false) (Gs s o j false true))
  | .neq=>some (Ao (Gs s o j true false) (Gs s o j false true))
  | .eql=>some (Ao (Gs s o j true true) (Gs s o j false false))
  |_=>none) none
 | .g p=>match iv s.b p with
  |some (l,h)=>cond (Lj p&&(gw l h&&W9 (-h) (-l))) (some [⟨sO s.b [.i (-h) (-l)],s.r,.ng p (.i (mg s.b))::s.f,s.t⟩]) none
  |none=>none
 | .m g p q=>match iv s.b p with
  |some x=>match iv s.b q with
   |some y=>cond (Lj p&&Lj q) (some [⟨sO s.b [cond g (.i (imax x.1 y.1) (imax x.2 y.2)) (.i (uK x.1 y.1) (uK x.2 y.2))],s.r,.mx g p q (.i (mg s.b))::s.f,s.t⟩]) none
   |none=>none
  |none=>none
 | .v p=>match iv s.b p with
  |some (l,h)=>cond (Lj p) (cond (gw 0 l&&gw h 4294967295) (some [⟨sO s.b [.u l h],s.r,.cv p (.u (mg s.b))::s.f,s.t⟩]) none)
   (cond (nh p.kd .u32&&(gw 0 l&&gw h 4294967295)) (some [⟨sO s.b [.i l h],s.r,.cv p (.i (mg s.b))::s.f,s.t⟩]) none)
  |none=>none
 | .r _ _=>none
def Xa:List Alt->Nat->Option Alt
 | [],_=>none
 |a::_,0=>some a
 |_::l,n+1=>Xa l n
def Xb:BD->Bool
 | .y _ _ _ _=>true
 |_=>false
def Xc (n:Nat) (B:List BD):List (Nat×BD)->Bool
 | []=>true
 |x::l=>(mZ (dJ B x.1) x.2&&beq (Xb (dJ B x.1)) (Xb x.2))&&(Nat.blt x.1 n&&Xc n B l)
def Ll (c:Cn) (s:St) (k:Nat) (g:List Ag):Option Kd:=match Xa c.al k with
 |some a=>cond (C1 (Am s.b g) a.nb&&(Xc (mg c.ps) s.b a.rf&&Sc (BC (fresh 0 c.ps) g) s.r a.rr)) (some (a.r.sb (mg s.b) (BC (fresh 0 c.ps) g))) none
 |none=>none
end
section
open Go.RowKit Go.Ev
def SD.val:SD->Int
 | .z x=>x
 | .zs x _ _=>x
 | .n x=>x
 | .i x=>x
 | .u x=>x
 | .o=>0
 | .ra _ _=>0
def EH:Type:= {R:World->Value->Prop// ∀w v,R w v->v.oneCell'=true}
def NY:EH:=⟨fun _ _=>False,fun _ _ h=>h.elim⟩
def SD.asO:SD->EH
 | .ra R h=>⟨R,h⟩
 |_=>NY
def SD.vx (d:SD):Int×EH:=(d.val,d.asO)
def Sg (a b c:Bool) (x:Int):Prop:=(x<0->a=true)/\(x=0->b=true)/\(0<x->c=true)
def BD.ok:BD->SD->Prop
 | .z a b c k,.z v=>Sg a b c v/\Bz k v
 | .y g b c k,.zs v h _=>h=g/\Sg g b c v/\Bz k v
 | .n p k,.n v=>(p=true->0<v)/\Bn k v
 | .i l h,.i v=>l<=v/\v<=h
 | .u l h,.u v=>l<=(v:Int)/\(v:Int)<=h
 | .ra,.ra _ _=>True
 |_,_=>False
def dU:List BD->List SD->Prop
 | [],L=>L= []
 |b::B,L=> ∃d M,L=d::M/\b.ok d/\dU B M
def aY {a b:Bool} (h:(a&&b)=true):a=true/\b=true:=au a b▸h
def Gu {a b:Bool} (h:imp a b=true) (e:a=true):b=true:=by subst e;exact h
def aij {a b:Bool} (h:beq a b=true):a=b:=by cases a<;>cases b<;>first|rfl|cases h
def yG {a:Bool} {α:Type} {x y:α} {z:α} (h:cond a x y=z):(a=true/\x=z)\/(a=false/\y=z):=by
 grind
def BF (a b:Int):gw a b=decide (a<=b):=by
 unfold gw;cases e:b-a with
 |ofNat n=>
  grind
 |negSucc n=>
  grind
def oT {a b:Int} (h:gw a b=true):a<=b:=of_decide_eq_true (BF a b▸h)
def Xd {a b:Int} (h:gw a b=false):b<a:=by
 have:=of_decide_eq_false (BF a b▸h);omega
def Lm (a b:Int):imax a b=max a b:=by
 unfold imax;cases h:gw a b
 ·have:=Xd h;show a=_;omega
 ·have:=oT h;show b=_;omega
def Ln (a b:Int):uK a b=min a b:=by
 unfold uK;cases h:gw a b
 ·have:=Xd h;show b=_;omega
 ·have:=oT h;show a=_;omega
def asP (a b:Nat):R9 a b=min a b:=by
 unfold R9;cases h:Nat.ble a b
 ·have: ¬a<=b:=fun q=>by rw [nk q] at h;cases h
  show b=_;omega
 simp_all
def C3 {k j:Nat} {x:Int} (h:Bz k x) (a:k<=j:=by omega):Bz j x:=az h (aG (by decide) a)
def Lo {k j:Nat} {x:Nat} (h:Bn k x) (a:k<=j:=by decide):Bn j x:=az h (aG (by decide) a)
section
variable {B:List BD} {L M:List SD} {b b':BD} {d:SD} {j:Nat}
def dU.get: ∀ {B:List BD} {L:List SD} {j:Nat},dU B L->dJ B j≠ .x->(dJ B j).ok (aU L j)
 | [],_,_,_,h=>absurd rfl h
 |_::_,_,0,⟨_,_,e,h,_⟩,_=>by subst e;exact h
 |_::B,_,n+1,⟨_,_,e,_,h⟩,a=>by subst e;exact dU.get (B:=B) (j:=n) h a
def dU.len: ∀ {B:List BD} {L:List SD},dU B L->mg B=L.length
 | [],_,h=>by rw [show _= [] from h];rfl
 |_::_,_,⟨_,_,e,_,h⟩=>by subst e;exact congrArg Nat.succ h.len
def dU.app: ∀ {B:List BD} {L:List SD} {C:List BD} {M:List SD},dU B L->dU C M->dU (sO B C) (L++M)
 | [],_,_,_,h,g=>by rw [show _= [] from h];exact g
 |_::_,_,_,_,⟨d,N,e,a,h⟩,g=>by subst e;exact ⟨d,_,rfl,a,h.app g⟩
def dU.set: ∀ {B:List BD} {L:List SD} {j:Nat} {b:BD},dU B L->(dJ B j≠ .x->b.ok (aU L j))->dU (Lg B j b) L
 | [],_,_,_,h,_=>h
 |c::_,_,0,_,⟨d,N,e,a,h⟩,g=>by
  subst e;refine ⟨d,N,rfl,g fun e=> ?_,h⟩;rw [show c= .x from e] at a;cases d<;>exact a
 |_::_,_,n+1,_,⟨d,N,e,a,h⟩,g=>by subst e;exact ⟨d,N,rfl,a,dU.set (j:=n) h g⟩
def Xe: ∀ {L M:List SD} {j:Nat},j<L.length->aU (L++M) j=aU L j
 | [],_,_,h=>absurd h (gJ _)
 |_::_,_,0,_=>rfl
 |_::L,_,n+1,h=>Xe (L:=L) (Nat.lt_of_succ_lt_succ h)
def NZ: ∀ {L M:List SD} {j:Nat},aU (L++M) (L.length+j)=aU M j
 | [],_,_=>by simp
 |_::L,M,j=>by
  show aU (_::(L++M)) (L.length+1+j)=_;rw [show L.length+1+j=(L.length+j)+1 by omega];exact NZ (L:=L)
def N0: ∀ {L:List SD} {j:Nat},L.length<=j->aU L j= .o
 | [],_,_=>rfl
 |_::_,0,h=>absurd h (by simp)
 |_::L,n+1,h=>N0 (L:=L) (Nat.le_of_succ_le_succ h)
def Ext (L K:List SD):Prop:= ∀j,aU L j≠ .o->aU K j=aU L j
def Lq:Ext L (L++M):=fun j h=>Xe (Nat.lt_of_not_le fun q=>h (N0 q))
def Xf (b:BD): ¬b.ok .o:=by cases b<;>exact id
def asQ (h:b.ok d):b≠ .x:=fun e=>by subst e;cases d<;>exact h
def BD.sd:BD->Int×EH->SD
 | .y true _ _ _,v=> .zs (min v.1 (-1)) true (decide_eq_true (by omega))
 | .y false _ _ _,v=> .zs (max v.1 0) false (decide_eq_false (by omega))
 | .n _ _,v=> .n v.1.toNat
 | .i _ _,v=> .i v.1
 | .u _ _,v=> .u v.1.toNat
 | .ra,v=> .ra v.2.1 v.2.2
 |_,v=> .z v.1
def pq:List BD->(Nat->Int×EH)->List SD
 | [],_=> []
 |b::B,V=>b.sd (V 0)::pq B fun n=>V (n+1)
def asR (h:b.ok d):b.sd d.vx=d:=by
 cases b<;>cases d<;>first
  |exact False.elim h
  |rfl
  |(
    rename_i x g a;obtain ⟨e,_,_⟩:=h;subst e;cases g
    ·show SD.zs (max x 0) false _=SD.zs x false a
     grind
    ·show SD.zs (min x (-1)) true _=SD.zs x true a
     grind)
  |omega
  |omega
def IP: ∀ {B:List BD} {L:List SD},dU B L->pq B (fun j=>(aU L j).vx)=L
 | [],_,h=>by rw [show _= [] from h];rfl
 |b::B,_,⟨d,N,e,a,h⟩=>by
  subst e;show b.sd d.vx::pq B (fun j=>(aU N j).vx)=_;rw [asR a,IP h]
def asS {a b c e b' f:Bool} {x:Int} (h:Sg a b c x) (g:imp a e=true) (i:imp b b'=true) (hc:imp c f=true):Sg e b' f x:=
 ⟨fun q=>Gu g (h.1 q),fun q=>Gu i (h.2.1 q),fun q=>Gu hc (h.2.2 q)⟩
def aik (h:b.ok d) {a m c:Bool} {k:Nat} (e:b.C0= .z a m c k):Sg a m c d.zv/\Bz k d.zv/\d.rO=true:=by
 cases b with
 |z G F A t=>cases e;cases d<;>first|exact False.elim h|exact ⟨h.1,h.2,rfl⟩
 |y g F A t=>
  cases d<;>first|exact False.elim h|skip
  rename_i x D s;obtain ⟨C,f,o⟩:=h;subst C;cases D<;>cases e
  ·have:=of_decide_eq_false s
   exact ⟨⟨fun q=>absurd q this,f.2.1,f.2.2⟩,o,rfl⟩
  ·have:=of_decide_eq_true s
   exact ⟨⟨fun _=>rfl,fun q=>by change x=0 at q;omega,fun q=>by change 0<x at q;omega⟩,o,rfl⟩
 |n p t=>cases e
 |i l E=>cases e
 |u l E=>cases e
 |x=>cases e
 |ra=>cases e
def N3 (h:b.ok d) (l:mZ b b'=true):b'.ok d\/(∃a m c k,b'= .z a m c k)/\b'.ok (.z d.zv):=by
 cases b<;>cases b'<;>first|(cases l;done)|skip
 all_goals (cases d<;>first|exact False.elim h|skip)
 ·obtain ⟨f,i⟩:=aY l
  exact .inl ⟨asS h.1 (aY f).1 (aY f).2 (aY i).1,C3 h.2 (bq (aY i).2)⟩
 ·rename_i g m c k D C u E x A t
  obtain ⟨f,i⟩:=aY l;obtain ⟨e,o,s⟩:=h;subst e;refine .inr ⟨⟨_,_,_,_,rfl⟩,?_,C3 s (bq i)⟩;cases A
  ·have:=of_decide_eq_false t
   have p:=aY (show (imp m C&&imp c u)=true from f);exact ⟨fun q=>absurd q this,fun q=>Gu p.1 (o.2.1 q),fun q=>Gu p.2 (o.2.2 q)⟩
  ·have:=of_decide_eq_true t
   exact ⟨fun _=>f,fun q=>by change x=0 at q;omega,fun q=>by change 0<x at q;omega⟩
 ·obtain ⟨f,i⟩:=aY l
  obtain ⟨e,o,s⟩:=h;have y:=aij (aY f).1;subst e;subst y;exact .inl ⟨rfl,⟨o.1,fun q=>Gu (aY f).2 (o.2.1 q),fun q=>Gu (aY i).1 (o.2.2 q)⟩,C3 s (bq (aY i).2)⟩
 ·obtain ⟨f,i⟩:=aY l
  exact .inl ⟨fun q=>h.1 (Gu f q),Lo h.2 (bq i)⟩
 ·obtain ⟨f,i⟩:=aY l
  have:=oT f;have:=oT i;exact .inl ⟨by have:=h.1;omega,by have:=h.2;omega⟩
 ·obtain ⟨f,i⟩:=aY l
  have:=oT f;have:=oT i;exact .inl ⟨by have:=h.1;omega,by have:=h.2;omega⟩
 simp_all
def asT (h:b.ok d) (h':b'.ok d\/b'.ok (.z d.zv)/\d.rO=true):(ab1 b b').ok d:=by
 cases b<;>cases d<;>first|exact False.elim h|skip
 all_goals (cases b'<;>first|exact h|skip)
 all_goals (rcases h' with h'|⟨h',g⟩<;>first|exact False.elim h'|(cases g;done)|skip)
 all_goals (simp only [ab1,BD.ok,Sg,Lm,Ln,asP] at h h'⊢)
 ·grind
 ·exact ⟨⟨fun q=>by rw [h.1.1 q,h'.1.1 q];rfl,fun q=>by rw [h.1.2.1 q,h'.1.2.1 q];rfl,fun q=>by rw [h.1.2.2 q,h'.1.2.2 q];rfl⟩,by rw [Nat.min_def];split;exact h.2;exact h'.2⟩
 ·obtain ⟨e,a,f⟩:=h
  exact ⟨e,⟨a.1,fun q=>by rw [a.2.1 q];exact h'.1.2.1 q,fun q=>by rw [a.2.2 q];exact h'.1.2.2 q⟩,by rw [Nat.min_def];split;exact f;exact h'.2⟩
 all_goals grind
def asU (h:ab2 b=true): ¬b.ok d:=fun q=>by
 cases b<;>cases d<;>first|exact False.elim q|skip
 ·rename_i a m c k x
  have o:cond a false (cond m false (cond c false true))=true:=h;have p:a=false:=by simp_all
  have s:m=false:=by simp_all
  have i:c=false:=by simp_all
  have f:=q.1;rcases dp x 0 with t|t|t
  ·have:=f.1 t
   simp_all
  ·have:=f.2.1 t
   simp_all
  ·have:=f.2.2 t
   simp_all
 ·rename_i a m c k x g y
  have o:cond a false (cond m false (cond c false true))=true:=h;have p:a=false:=by simp_all
  have s:m=false:=by simp_all
  have i:c=false:=by simp_all
  have f:=q.2.1;rcases dp x 0 with t|t|t
  ·have:=f.1 t
   simp_all
  ·have:=f.2.1 t
   simp_all
  ·have:=f.2.2 t
   simp_all
 ·obtain ⟨p,s⟩:=aY h
  have:=q.1 p;have i:=q.2;rw [bD s] at i;exact absurd (show _<1 from i) (by omega)
 ·rename_i l u x
  have o:cond (gw l u) false true=true:=h;cases e:gw l u
  ·have:=Xd e;have:=q.1;have:=q.2;omega
  simp_all
 ·rename_i l u x
  have o:cond (gw l u) false true=true:=h;cases e:gw l u
  ·have:=Xd e;have:=q.1;have:=q.2;omega
  simp_all
 ·cases h
def ail: ∀ {B:List BD} {L:List SD},NU B=true-> ¬dU B L
 | [],_,h,_=>by cases h
 |b::B,_,h,⟨d,M,_,a,e⟩=>by
  rcases dw _ _▸(show (ab2 b||NU B)=true from h) with q|q
  ·exact asU q a
  ·exact ail q e
end
end
end Go.Proofs.YtnmpjdgobafdkaaGreatDoor
