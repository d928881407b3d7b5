/- refineCopies_proved. -/
import Derived.Test.YthleenhngcdgkaaGreatDoorPmav
set_option maxRecDepth 100000
set_option maxHeartbeats 16000000
set_option linter.all false
noncomputable section
namespace Go.Proofs.YthleenhngcdgkaaGreatDoor
section
open Go.RowKit Go.Ev
variable {e x m p:Int} {i K N j q:Nat} {L:List SD} {ps B:List BD} {pr:List (Nat×List Nat)} {f:Option FuncId} {ks k1 k2:List Kd} {al:List Alt} {b c:Bool}
def eb:BD:= .i (-65536) 65536
def ww:BD:= .i 0 4096
def m64:BD:= .i (-9223372036854775808) 9223372036854775807
def b1 (r:Nat->Bool->Kd) (a:List (Nat×BD)) (d:List (Nat×List Nat)) (n:Nat):List Alt:= [⟨[],a,d,r n true⟩,⟨[],[],[],r n false⟩]
def A6 (j:Nat):Kd:= .s (.z j) (.z (j+1))
def akz:List BD->Cn
 | [.z a b c i,.i l h]=>cond (Nat.ble i 1000000) ⟨some 86,[.z a b c i,.i l h],[],[kz 0,ki 1],dR [zz 65536,eb,.i 0 3] (.t (kd 2) (ki 4))⟩ j3
 |_=>j3
def akA:List BD->Cn
 | [.z a b c i,.i l h]=>cond (Nat.ble i 10000000) ⟨some 132,[.z a b c i,.i l h],[],[kd 0],b1 (fun _ b=> .b b) [(0,zz 65536),(1,eb)] [(3,[0,1])] 0⟩ j3
 |_=>j3
def av9:List BD->Cn:=fun _=>⟨some 46,[zz 65536,eb,zz 65536,eb],[],[kd 0,kd 2],[⟨[.i (-1) 0],[],[(1,[0,1,2,3])],ki 4⟩,⟨[],[],[],.i (.l 1)⟩]⟩
def awa:List BD->Cn:=fun _=>⟨some 46,[zz 65536,eb,zz 65536,eb],[],[kd 0,kd 2],[⟨[.i (-1) 1],[],[],ki 4⟩]⟩
def awb:List BD->Cn:=fun _=>⟨some 80,[zz 65536,eb],[],[kd 0],[⟨[.i (-65536) 131072],[],[(5,[0,1,2])],ki 2⟩]⟩
def awc:List BD->Cn:=fun _=>⟨some 80,[zz 65536,eb],[(4,[0,1]),(3,[0,1])],[kd 0],[⟨[.i (-8192) 2048],[(0,zz 10240),(1,.i (-8192) 2048)],[(5,[0,1,2])],ki 2⟩]⟩
def awd:List BD->Cn:=fun _=>⟨some 81,[zz 65536,eb,zz 65536,eb],[],[kd 0,kd 2],dR [zz 200000,zz 200000,eb] (.t3 (kz 4) (kz 5) (ki 6))⟩
def PD (s:Int) (b:Bool) (p q:BD):Alt:=⟨[],[(0,p),(2,q)],[],.t (.i (.l s)) (.b b)⟩
def zm:BD:= .z true false false 65536
def z0:BD:= .z false true false 65536
def zp:BD:= .z false false true 65536
def awe:List BD->Cn:=fun _=>⟨some 287,[zz 65536,eb,zz 65536,eb],[(1,[0,1,2,3])],[.v (.z 0) (.i 1) (.z 2) (.i 3)],[PD (-1) true zm zm,PD 0 true z0 z0,PD 1 true zp zp,PD 0 false zm z0,PD 0 false zm zp,PD 0 false z0 zp]⟩
def zn:BD:= .z true false true 65536
def awf:List BD->Cn:=fun _=>⟨some 287,[zz 65536,eb,zz 65536,eb],[],[.v (.z 0) (.i 1) (.z 2) (.i 3)],[⟨[.i (-1) 1],[(0,zn),(2,zn)],[],.t (ki 4) (.b true)⟩,⟨[],[],[],.t (.i (.l 0)) (.b true)⟩,⟨[],[],[],.t (.i (.l 0)) (.b false)⟩]⟩
def akB:List BD->Cn
 | [.z a b c i,.n true j]=>cond (Nat.ble i 10000000&&Nat.ble j 10000000) ⟨some 187,[.z a b c i,.n true j],[],[kz 0,kn 1],dR [.z a b c i,.n true j] (.r (.z 2) (.n 3))⟩ j3
 |_=>j3
def akC:List BD->Cn
 | [.n p i]=>cond (Nat.ble i 20000000) ⟨some 119,[.n p i],[],[kn 0],[⟨[],[],[],kn 0⟩]⟩ j3
 |_=>j3
def awg:List BD->Cn:=fun _=>⟨some 268,[.i 16 90000],[],[ki 0],dR [zz 300100,zz 300100] (A6 1)⟩
def awh:List BD->Cn:=fun _=>⟨some 269,[.i 0 90000],[],[ki 0],dR [zz 300000,zz 300000] (A6 1)⟩
def awi:List BD->Cn:=fun _=>⟨some 338,[zz 65536,eb,.i 0 17000],[],[kd 0,ki 2],dR [zz 500000,zz 500000] (A6 3)⟩
def awj:List BD->Cn:=fun _=>⟨some 364,[zz 65536,eb,.i 24 10300],[(7,[0,1])],[kd 0,ki 2],dR [zz 300000,zz 300000] (A6 3)⟩
def awk:List BD->Cn:=fun _=>⟨some 328,[zp,eb,.i (-1000000) 1000000,.i 0 17000],[(6,[0,1])],[kd 0,ki 2,ki 3],dR [zz 500000,zz 500000] (A6 4)⟩
def awl:List BD->Cn:=fun _=>⟨some 276,[zz 65536,eb,.i 0 8000],[],[kd 0,ki 2],[⟨[],[],[(8,[0,1])],.b false⟩,⟨[],[],[],.b true⟩]⟩
def awm:List BD->Cn:=fun _=>⟨some 326,[zp,eb],[],[kd 0],[⟨[.i (-200000) 200000,zp,eb],[],[(6,[3,4])],.t3 (ki 2) (kd 3) (.i (.l 0))⟩]⟩
def awn:List BD->Cn:=fun _=>⟨some 314,[],[],[.i (.l 1)],[⟨[zz 65536,eb],[],[(3,[0,1]),(4,[0,1])],kd 0⟩]⟩
def akD:List BD->Cn
 | [.z a b c i,.n p j]=>cond (Nat.ble i 1000000&&Nat.ble j 1000000) ⟨some 256,[.z a b c i,.n p j],[],[.r (.z 0) (.n 1)],b1 (fun _ b=> .b b) [(0,zz 1024),(1,.n false 1024)] [] 0⟩ j3
 |_=>j3
def awo:List BD->Cn:=fun _=>⟨none,[zz 65536,eb,zz 65536],[(8,[0,1]),(8,[2,1]),(9,[0,2]),(3,[0,1])],[],[⟨[],[],[(7,[0,1])],.nil⟩]⟩
def awp:List BD->Cn:=fun _=>⟨none,[zz 65536,eb,zz 65536,eb],[(1,[0,1,2,3]),(8,[2,3])],[],[⟨[],[],[(8,[0,1])],.nil⟩]⟩
def awq:List BD->Cn:=fun _=>⟨none,[.i 1 1,.n false 1024],[(10,[0,1])],[],[⟨[],[(1,.n true 1024)],[],.nil⟩]⟩
def awr:List BD->Cn:=fun _=>⟨none,[z0,eb],[],[],[⟨[],[],[(4,[0,1])],.nil⟩]⟩
def aws:List BD->Cn:=fun _=>⟨none,[zz 65536,.i (-8192) 65536,.i (-65536) 2048],[(5,[0,1,2])],[],[⟨[],[],[(4,[0,1])],.nil⟩]⟩
def dv (g:Bz 65536 x) (a: -65536<=e) (d:e<=65536):DV x e:=⟨_,ak _,g,a,d⟩
def DZ (h:DV x e):Bz 65536 x/\ -65536<=e/\e<=65536:=by
 obtain ⟨k,d,g,a⟩:=h;exact ⟨DF g d,a⟩
def adp (h:Zb N x):Bz N x:=by
 obtain ⟨k,a,d⟩:=h;exact DF d a
def s8:bo:=mk akz fun l=>by
 unfold akz;split
 ·refine hc fun o L a _=> ?_
  obtain ⟨x,L,rfl,C,s,a⟩:=nG a;obtain ⟨e,L,rfl,y,A,a⟩:=qC a;obtain rfl:L= []:=a;obtain ⟨t,d,D,u⟩:=SX (e:=e) s (aZ o);obtain ⟨g,h,k⟩:=DZ d.1;exact ⟨_,jr _,[.z t.1,.i t.2.1,.i t.2.2],qh s7 g (pw h k (pw d.2.1 d.2.2 gS)),jZ,iV,jK u⟩
 ·exact sB
def awt:bo:=mk akA fun l=>by
 unfold akA;split
 ·refine hc fun u L d _=> ?_
  obtain ⟨x,L,rfl,C,y,d⟩:=nG d;obtain ⟨e,L,rfl,z,A,d⟩:=qC d;obtain rfl:L= []:=d;have g:=ait (e:=e) y (aZ u);cases a:E1 x e with
  |false=>rw [a] at g;exact ⟨_,aw _ (jr _),[],gS,jZ,iV,jK g⟩
  |true=>
   rw [a] at g;obtain ⟨k,o,s⟩:=DZ (aiP a);refine ⟨_,aC,[],gS,DH ⟨s7,k⟩ (DH ⟨o,s⟩ jZ),zx fun t=> ?_,jK g⟩;have h:x=0:=t;unfold E1 at a;rw [if_pos h] at a;exact of_decide_eq_true a
 ·exact sB
def tN (h:dY (zz 65536::eb::B) L): ∃x e M,L= .z x:: .i e::M/\DV x e/\dY B M:=by
 obtain ⟨x,L,rfl,l,k,a⟩:=nG h;obtain ⟨e,L,rfl,d,g,a⟩:=qC a;exact ⟨x,e,L,rfl,dv k d g,a⟩
def akE (m e n f:Int): -1<=ug m e n f/\ug m e n f<=1:=by
 have a: -1<=m.sign/\m.sign<=1:=by
  grind
 unfold ug;split
 ·omega
 ·split
  ·omega
  ·split
   ·omega
   ·exact ajY _ _
def adq:bo:=mk av9 fun _ L a _=>by
 obtain ⟨m,e,L,rfl,k,a⟩:=tN a;obtain ⟨n,f,L,rfl,l,a⟩:=tN a;obtain rfl:L= []:=a;obtain ⟨c,rfl,d⟩:=OP k l;have:=akE m e n f;by_cases h:ug m e n f<=0
 ·exact ⟨_,aC,[.i (ug m e n f)],pw this.1 h gS,jZ,zx h,jK d⟩
 ·have g:ug m e n f=1:=by omega
  rw [g] at d;exact ⟨_,aw _ (jr _),[],gS,jZ,iV,jK d⟩
def awu:bo:=mk awa fun _ L a _=>by
 obtain ⟨m,e,L,rfl,d,a⟩:=tN a;obtain ⟨n,f,L,rfl,g,a⟩:=tN a;obtain rfl:L= []:=a;obtain ⟨c,rfl,h⟩:=OP d g;have:=akE m e n f;exact ⟨_,jr _,[.i (ug m e n f)],pw this.1 this.2 gS,jZ,iV,jK h⟩
def awv:bo:=mk awd fun _ L a _=>by
 obtain ⟨m,e,L,rfl,o,a⟩:=tN a;obtain ⟨n,f,L,rfl,s,a⟩:=tN a;obtain rfl:L= []:=a;obtain ⟨E,F,G⟩:=DZ o;obtain ⟨H,I,J⟩:=DZ s;have d: ∀ {C:Nat},C=131072-> ∃x y,Bz 200000 x/\Bz 200000 y/\bH Tryz.prog bw 81 [i9 m e,i9 n f] (EV (dU x) (dU y) (bj (.int .i64 (min e f)))):=fun {C} M=>by
  obtain ⟨k,P,A,t⟩:=o;obtain ⟨j,O,D,u⟩:=s;obtain ⟨x,y,g,h,_,_,l⟩:=aiv (C:=C) (by omega) (by omega) A D t u;exact ⟨x,y,DF g,DF h,l⟩
 obtain ⟨x,y,g,h,l⟩:=d rfl;exact ⟨_,jr _,[.z x,.z y,.i (min e f)],qh s7 g (qh s7 h (pw (by omega) (by omega) gS)),jZ,iV,jK l⟩
def aww (h:DV m e): -65536<=kO m e/\kO m e<=131072:=by
 obtain ⟨k,l,a,d,g⟩:=h;have:=Om a;unfold kO;omega
def akF:bo:=mk awb fun _ L a _=>by
 obtain ⟨m,e,L,rfl,d,a⟩:=tN a;obtain rfl:L= []:=a;obtain ⟨t,g,h⟩:=acv d;have:=aww d;exact ⟨_,jr _,[.i t],pw (by omega) (by omega) gS,jZ,zx g,jK h⟩
def bzz (k:Nat):Bz k 0:=aM (by decide)
def awx (h:eW m.natAbs<=K:=by omega):Bz K m:=ax (E6 _) (aF (by decide) h)
def awy (h:0<K:=by decide):Bz K 1:=Nat.one_lt_two_pow (by omega)
def akG :Bz K 0:=Nat.two_pow_pos K
def awz (d:m≠0-> -8192<=e/\kO m e<=2048) (a:m=0->e=0):(-8192<=kO m e/\kO m e<=2048)/\Bz 10240 m/\ -8192<=e/\e<=2048:=by
 by_cases h:m=0
 ·have:=a h
  subst h;refine ⟨by unfold kO;rw [if_pos rfl];omega,bzz _,by omega,by omega⟩
 ·have g:=d h
  have k:=YT (e:=e) h;have l:1<=eW m.natAbs:=by
   rcases bT (eW m.natAbs) with q|q
   ·have:=E6 m.natAbs;rw [q] at this;omega
   ·exact q
  exact ⟨by omega,awx,by omega,by omega⟩
def adr:bo:=mk awc fun _ L a d=>by
 obtain ⟨m,e,L,rfl,g,a⟩:=tN a;obtain rfl:L= []:=a;obtain ⟨t,h,k⟩:=acv g;have s:RP 4 [m,e]:=d _ aC;have u:RP 3 [m,e]:=d _ (aw _ aC);obtain ⟨y,l,o⟩:=awz s u;exact ⟨_,jr _,[.i t],pw (by omega) (by omega) gS,DH ⟨s7,l⟩ (DH o jZ),zx h,jK k⟩
def awA {n f:Int} (h:ug m e n f<=0):m.sign<=n.sign:=by
 unfold ug at h;omega
def awB:bo:=mk awe fun _ L u D=>by
 obtain ⟨m,e,L,rfl,A,u⟩:=tN u;obtain ⟨n,f,L,rfl,C,u⟩:=tN u;obtain rfl:L= []:=u;have G:m.sign<=n.sign:=awA (D _ aC:ug m e n f<=0);obtain ⟨s,o,k⟩:=aiR A C;have b1:=(DZ A).1;have l:=(DZ C).1;have sm: ∀ {x:Int},x<0->Sg true false false x:=fun h=>⟨fun _=>rfl,fun t=>by omega,fun t=>by omega⟩
 have s0: ∀ {x:Int},x=0->Sg false true false x:=fun h=>⟨fun t=>by omega,fun _=>rfl,fun t=>by omega⟩
 have y: ∀ {x:Int},0<x->Sg false false true x:=fun h=>⟨fun t=>by omega,fun t=>by omega,fun _=>rfl⟩
 have g: ∀ {p q:BD},p.ok (.z m)->q.ok (.z n)-> ∀x∈ [(0,p),(2,q)],x.2.ok (aU [SD.z m,.i e,.z n,.i f] x.1):=fun E F=>DH E (DH F jZ)
 rcases dm m 0 with q|q|q<;>rcases dm n 0 with r|r|r
 ·have a:=cF q;have d:=cF r
  rw [o,a,d] at k;exact ⟨_,aC,[],gS,g ⟨sm q,b1⟩ ⟨sm r,l⟩,iV,jK k⟩
 ·have a:=cF q;have d:n.sign=0:=by rw [r];rfl
  rw [o,a,d] at k;exact ⟨_,aw _ (aw _ (aw _ aC)),[],gS,g ⟨sm q,b1⟩ ⟨s0 r,l⟩,iV,jK k⟩
 ·have a:=cF q;have d:=cL r
  rw [o,a,d] at k;exact ⟨_,aw _ (aw _ (aw _ (aw _ aC))),[],gS,g ⟨sm q,b1⟩ ⟨y r,l⟩,iV,jK k⟩
 ·exfalso;have a:m.sign=0:=by rw [q];rfl
  have d:=cF r;omega
 ·have a:m.sign=0:=by rw [q];rfl
  have d:n.sign=0:=by rw [r];rfl
  rw [o,a,d] at k;exact ⟨_,aw _ aC,[],gS,g ⟨s0 q,b1⟩ ⟨s0 r,l⟩,iV,jK k⟩
 ·have a:m.sign=0:=by rw [q];rfl
  have d:=cL r;rw [o,a,d] at k;exact ⟨_,aw _ (aw _ (aw _ (aw _ (aw _ aC)))),[],gS,g ⟨s0 q,b1⟩ ⟨y r,l⟩,iV,jK k⟩
 ·exfalso;have a:=cL q;have d:=cF r;omega
 ·exfalso;have a:=cL q;have d:n.sign=0:=by rw [r];rfl
  omega
 ·have a:=cL q;have d:=cL r
  rw [o,a,d] at k;exact ⟨_,aw _ (aw _ aC),[],gS,g ⟨y q,b1⟩ ⟨y r,l⟩,iV,jK k⟩
def awC:bo:=mk awf fun _ L d _=>by
 obtain ⟨m,e,L,rfl,k,d⟩:=tN d;obtain ⟨n,f,L,rfl,l,d⟩:=tN d;obtain rfl:L= []:=d;obtain ⟨s,y,a⟩:=aiR k l;rw [y] at a;by_cases g:m.sign=n.sign
 ·rw [decide_eq_true g,if_neg (fun q=>q g)] at a
  by_cases h:m.sign=0
  ·rw [h] at a
   exact ⟨_,aw _ aC,[],gS,jZ,iV,jK a⟩
  ·have u: ∀ {x:Int},x.sign≠0->Sg true false true x:=fun z=>⟨fun _=>rfl,fun t=>absurd (by rw [t];rfl) z,fun _=>rfl⟩
   have o: -1<=m.sign/\m.sign<=1:=by
    rcases dm m 0 with q|q|q
    ·rw [cF q];omega
    ·rw [q,Int.sign_zero];omega
    ·rw [cL q];omega
   exact ⟨_,aC,[.i m.sign],pw o.1 o.2 gS,DH ⟨u h,(DZ k).1⟩ (DH ⟨u (by rw [<-g];exact h),(DZ l).1⟩ jZ),iV,jK a⟩
 ·rw [decide_eq_false g,if_pos g] at a
  exact ⟨_,aw _ (aw _ aC),[],gS,jZ,iV,jK a⟩
def xz:bo:=mk akB fun l=>by
 unfold akB;split
 ·refine hc fun F L g _=> ?_
  obtain ⟨x,L,rfl,u,P,g⟩:=nG g;obtain ⟨y,L,rfl,G,Q,g⟩:=s6 g;obtain rfl:L= []:=g;obtain ⟨z,d,I,J,M,C,D,E⟩:=asG P Q (DI F).1 (DI F).2 (G rfl);refine ⟨_,jr _,[.z z,.n d],qh ?_ I (yq (fun _=>M) J gS),jZ,iV,jK E⟩;have H:0<Nat.gcd x.natAbs y:=iL _ (G rfl);have A:Nat.gcd x.natAbs y∣x.natAbs:=Nat.gcd_dvd_left _ _;have k:x≠0->0<x.natAbs/Nat.gcd x.natAbs y:=fun h=>Nat.div_pos (Nat.le_of_dvd (by omega) A) H
  have a:z=jB (decide (x<0)) (x.natAbs/Nat.gcd x.natAbs y):=C;revert a k;generalize x.natAbs/Nat.gcd x.natAbs y=w;intro k a;unfold jB at a;by_cases s:x<0
  ·have:=k (by omega)
   rw [decide_eq_true s] at a;have D:z= -((w:Nat):Int):=a;exact ⟨fun _=>u.1 s,fun t=>by omega,fun t=>by omega⟩
  ·rw [decide_eq_false s] at a
   have D:z=((w:Nat):Int):=a;refine ⟨fun t=>by omega,fun t=>u.2.1 ?_,fun t=>u.2.2 ?_⟩
   ·by_cases o:x=0
    ·exact o
    ·have:=k o;omega
   ·by_cases o:x=0
    ·exfalso
     have E:Nat.gcd x.natAbs y∣x.natAbs:=A;subst o;have O:acf 0 y=0:=by unfold acf jB;simp
     rw [O] at C;omega
    ·omega
 ·exact sB
def T1:bo:=mk akC fun l=>by
 unfold akC;split
 ·refine hc fun d L a _=> ?_
  obtain ⟨x,L,rfl,h,g,a⟩:=s6 a;obtain rfl:L= []:=a;exact ⟨_,jr _,[],gS,jZ,iV,jK (ais g (aZ d))⟩
 ·exact sB
def T2 {c:Cn} {a b:Int} {f:FuncId} {r:Kd} (l:c.al=dR [zz N,zz N] r) (o:c.f=some f) (d:Zb N a) (k:Zb N b) (h:bH Tryz.prog bw f (c.ks.map (Kd.rel L)) (r.rel (L++ [.z a,.z b]))):
 ∃x∈c.al,∃M,dY x.nb M/\(∀y∈x.rf,y.2.ok (aU L y.1))/\(∀y∈x.rr,nZ (L++M) y)/\ ∀f,c.f=some f->bH Tryz.prog bw f (c.ks.map (Kd.rel L)) (x.r.rel (L++M)):=by
 rw [l];exact ⟨_,jr _,[.z a,.z b],qh s7 (adp d) (qh s7 (adp k) gS),jZ,iV,fun g s=>by simp_all⟩
def awD:bo:=mk awg fun _ L a _=>by
 obtain ⟨s,L,rfl,d,g,a⟩:=qC a;obtain rfl:L= []:=a;obtain ⟨x,y,h,k,_,l⟩:=Yw (s:=s) ⟨d,g⟩;exact T2 rfl rfl h k l
def Ffe:bo:=mk awh fun _ L a _=>by
 obtain ⟨s,L,rfl,d,g,a⟩:=qC a;obtain rfl:L= []:=a;obtain ⟨x,y,h,k,l⟩:=f_e (s:=s) ⟨d,g⟩;exact T2 rfl rfl h k l
def awE:bo:=mk awi fun _ L a _=>by
 obtain ⟨m,e,L,rfl,h,a⟩:=tN a;obtain ⟨s,L,rfl,d,g,a⟩:=qC a;obtain rfl:L= []:=a;obtain ⟨x,y,k,l,o⟩:=avH (s:=s) h ⟨d,g⟩;exact T2 rfl rfl k l o
def awF:bo:=mk awj fun _ L a k=>by
 obtain ⟨m,e,L,rfl,h,a⟩:=tN a;obtain ⟨s,L,rfl,d,g,a⟩:=qC a;obtain rfl:L= []:=a;obtain ⟨x,y,l,o,t⟩:=av1 (s:=s) h (k _ aC:RP 7 [m,e]) ⟨d,g⟩;exact T2 rfl rfl l o t
def akH (h:dY (zp::eb::B) L): ∃x e M,L= .z x:: .i e::M/\DV x e/\0<x/\dY B M:=by
 obtain ⟨x,L,rfl,d,l,a⟩:=nG h;obtain ⟨e,L,rfl,g,k,a⟩:=qC a;refine ⟨x,e,L,rfl,dv l g k,?_,a⟩;rcases dm x 0 with q|q|q
 ·cases d.1 q
 ·cases d.2.1 q
 omega
def awG:bo:=mk awk fun _ L a t=>by
 obtain ⟨m,e,L,rfl,h,u,a⟩:=akH a;obtain ⟨k,L,rfl,d,g,a⟩:=qC a;obtain ⟨s,L,rfl,l,o,a⟩:=qC a;obtain rfl:L= []:=a;have r:RP 6 [m,e]:=t _ aC;obtain ⟨x,y,z,A,C⟩:=avI (s:=s) (k:=k) h u r.1 r.2 ⟨d,g⟩ ⟨l,o⟩;exact T2 rfl rfl z A C
def akI:bo:=mk awl fun _ L a _=>by
 obtain ⟨m,e,L,rfl,h,a⟩:=tN a;obtain ⟨n,L,rfl,g,k,a⟩:=qC a;obtain rfl:L= []:=a;obtain ⟨b,l,d⟩:=av6 (n:=n) h ⟨g,k⟩;cases b
 ·exact ⟨_,aC,[],gS,jZ,zx (l rfl),jK d⟩
 ·exact ⟨_,aw _ (jr _),[],gS,jZ,iV,jK d⟩
def awH:bo:=mk awm fun _ L d _=>by
 obtain ⟨m,e,L,rfl,h,u,d⟩:=akH d;obtain rfl:L= []:=d;obtain ⟨k,a,b,y,E,A,C,g,D⟩:=av7 h u;obtain ⟨l,o,s⟩:=DZ y;exact ⟨_,jr _,[.i k,.z a,.i b],pw g.1 g.2 (qh ⟨fun t=>by omega,fun t=>by omega,fun _=>rfl⟩ l (pw o s gS)),jZ,zx ⟨A,C⟩,jK D⟩
def akJ (o:Bz i p) (s:Bn j q) (hi:i<=10000000:=by decide) (y:j<=10000000:=by decide):bH Tryz.prog bw 304 [sU p q] (bj (.int .i64 (max ((eW p.natAbs:Nat):Int) ((eW q:Nat):Int)))):=by
 obtain ⟨b1,t,h,d⟩:=GN o.abs;obtain ⟨a,u,l,g⟩:=GN s;rw [<-h,<-l];exact fR [.z p,.i (b1:Nat),.n q,.i (a:Nat),.i (max (b1:Nat) (a:Nat))] [] 0 [.mx true (.i 1) (.i 3) (.i 4)] [⟨135,[.n (.m 0)],.i (.i 1)⟩,⟨135,[.n (.n 2)],.i (.i 3)⟩] [.r (.z 0) (.n 2)] (.i (.i 4)) (by kernel_rfl) (.k rfl .nil) (.k d (.k g .nil))
def awI (o:Bz i p) (s:Bn j q) (hi:i<=10000000) (g:j<=10000000): ∃b:Bool,(b=true->Zb 1024 p/\Nb 1024 q)/\bH Tryz.prog bw 256 [sU p q] (bj (.bool b)):=by
 have c1:=akJ o s hi g;obtain ⟨d,a⟩:=pS (decide ((max ((eW p.natAbs:Nat):Int) ((eW q:Nat):Int))<=1024));refine ⟨d,fun h=> ?_,?_⟩
 ·rw [h] at a
  have t:=of_decide_eq_true a;exact ⟨⟨eW p.natAbs,by omega,E6 _⟩,⟨eW q,by omega,E6 _⟩⟩
 exact fR [.z p,.n q,.i (max ((eW p.natAbs:Nat):Int) ((eW q:Nat):Int))] [] 0 [.cm .leq (.i 2) (.l 1024) d] [⟨304,[.r (.z 0) (.n 1)],.i (.i 2)⟩] [.r (.z 0) (.n 1)] (.b d) (by cases d<;>kernel_rfl) (by cases d<;>exact (.k a .nil)) (by cases d<;>(exact (.k c1 .nil)))
def awJ:bo:=mk akD fun l=>by
 unfold akD;split
 ·refine hc fun h L a _=> ?_
  obtain ⟨x,L,rfl,C,o,a⟩:=nG a;obtain ⟨y,L,rfl,D,s,a⟩:=s6 a;obtain rfl:L= []:=a;have d:=DI h;obtain ⟨b,t,g⟩:=awI o s (aL d.1 (by decide)) (aL d.2 (by decide));cases b
  ·exact ⟨_,aw _ (jr _),[],gS,jZ,iV,jK g⟩
  ·obtain ⟨u,k,z,A⟩:=t rfl
   exact ⟨_,aC,[],gS,DH ⟨s7,adp u⟩ (DH ⟨Pd,Mi A z⟩ jZ),iV,jK g⟩
 ·exact sB
def YV {a:List (Nat×List Nat)} (h: ∀L,dY ps L->(∀x∈pr,nZ L x)-> ∀x∈a,nZ L x):Holds ⟨none,ps,pr,[],[⟨[],[],a,.nil⟩]⟩:=fun L g k=>
 ⟨_,jr _,[],gS,jZ,by simp_all,fun f d=>by cases d⟩
def awK:bo:=mk awo fun _=>YV fun L a g=>by
 obtain ⟨m,e,L,rfl,h,a⟩:=tN a;obtain ⟨x,L,rfl,_,_,a⟩:=nG a;obtain rfl:L= []:=a;have o:RP 8 [m,e]:=g _ aC;have s:RP 8 [x,e]:=g _ (aw _ aC);have k:RP 9 [m,x]:=g _ (aw _ (aw _ aC));have t:RP 3 [m,e]:=g _ (aw _ (aw _ (aw _ aC)));refine zx (aky t (by decide) fun l=> ?_);rcases dm m 0 with d|d|d
 ·have:=s (by have:x= -m:=k;omega)
  rw [show x= -m from k,akx] at this;exact this
 ·exact absurd d l
 ·exact o d
def awL:bo:=mk awp fun _=>YV fun L a d=>by
 obtain ⟨m,e,L,rfl,o,a⟩:=tN a;obtain ⟨n,f,L,rfl,s,a⟩:=tN a;obtain rfl:L= []:=a;have k:ug m e n f<=0:=d _ aC;have l:0<n->kO n f<=13:=d _ (aw _ aC);refine zx (show RP 8 [m,e] from fun h=> ?_);obtain ⟨g,t⟩:=YS k h;have:=l g;omega
def awM:bo:=mk awn fun _ L o _=>by
 obtain rfl:L= []:=o;obtain ⟨z,g,h,c1⟩:=GP (n:=1);obtain ⟨t,y,s,u⟩:=SX (e:=0) g (by decide);have a:t=(1,0,0):=by
  rw [s,h];show Dn 1 0=_;unfold Dn;rw [if_neg (by decide),if_neg (by decide),show qI (Int.natAbs 1)=0 from aaa (t:=0) (m:=0)];decide
 have c:bH Tryz.prog bw 314 [bj (.int .i64 1)] (i9 t.1 t.2.1):=fR [.z z,.z t.1,.i t.2.1,.i t.2.2] [] 0 [] [⟨37,[.i (.l 1)],.z (.z 0)⟩,⟨86,[.z (.z 0),.i (.l 0)],.t (.d (.z 1) (.i 2)) (.i (.i 3))⟩] [.i (.l 1)] (.d (.z 1) (.i 2)) (by kernel_rfl) .nil (.k c1 (.k u .nil));subst a;refine ⟨_,jr _,[.z 1,.i 0],qh s7 (awy) (pw (by decide) (by decide) gS),jZ,ajD (show RP 3 [1,0] from fun _=>rfl) (zx (show RP 4 [1,0] from fun _=>⟨by decide,?_⟩)),jK c⟩;decide
def A7:Kd->Kd
 | .z (.s _ j)=> .z (.z j)
 | .d (.s _ j) e=> .d (.z j) e
 | .r (.s _ j) q=> .r (.z j) q
 |k=>k
def akK (L:List SD) (k:Kd):(A7 k).rel L=k.rel L:=by
 cases k<;>first|rfl|(rename_i a;cases a<;>rfl)|(rename_i a _;cases a<;>rfl)
def akL {K:List SD} (h: ∀j,(aU L j).zv=(aU K j).zv/\(aU L j).nv=(aU K j).nv/\(aU L j).iv=(aU K j).iv/\(aU L j).ar=(aU K j).ar) (k:Kd):k.rel L=k.rel K:=by
 have o: ∀a:KZ,a.val L=a.val K:=fun a=>by cases a<;>first|rfl|exact (h _).1
 have l: ∀a:KN,a.val L=a.val K:=fun a=>by cases a<;>first|rfl|exact (h _).2.1
 have g: ∀a:KI,a.val L=a.val K:=fun a=>by
  cases a<;>first|rfl|exact (h _).2.2.1|skip
  rename_i j;show ((m6 (aU L j).nv:Nat):Int)=((m6 (aU K j).nv:Nat):Int);simp_all
 have d: ∀j,(aU L j).ar=(aU K j).ar:=fun j=>(h j).2.2.2
 induction k<;>simp only [Kd.rel,o,l,g,d, *]
def PE:List Alt->Bool
 | []=>true
 |a::l=>(a.rf.all fun x=>Nat.blt 0 x.1)&&PE l
def akM: ∀ {l:List Alt},PE l=true-> ∀a∈l,∀x∈a.rf,0<x.1
 |b::l,h,a,o,x,d=>by
  obtain ⟨g,k⟩:=aY (show ((b.rf.all fun x=>Nat.blt 0 x.1)&&PE l)=true from h);rcases bq.1 o with rfl|q
  ·exact aZ (dw.1 g x d)
  ·exact akM k a q x d
def ads {g:Bool} (h:Holds ⟨f,.y g b c i::ps,pr,k1,al⟩) (e:k1.map A7=ks.map A7) (H:PE al=true) {M:List SD} (d:decide (x<0)=g) (E:Sg true b c x) (Q:Bz i x) (I:dY ps M) (J: ∀y∈pr,nZ (.z x::M) y):
 ∃a∈al,∃N,dY a.nb N/\(∀y∈a.rf,y.2.ok (aU (.z x::M) y.1))/\(∀y∈a.rr,nZ ((.z x::M)++N) y)/\ ∀s,f=some s->bH Tryz.prog bw s (ks.map (Kd.rel (.z x::M))) (a.r.rel ((.z x::M)++N)):=by
 have sm: ∀(N:List SD) j,(aU (SD.zs x g d::N) j).zv=(aU (SD.z x::N) j).zv/\(aU (SD.zs x g d::N) j).nv=(aU (SD.z x::N) j).nv/\(aU (SD.zs x g d::N) j).iv=(aU (SD.z x::N) j).iv/\(aU (SD.zs x g d::N) j).ar=(aU (SD.z x::N) j).ar:=fun N j=>by cases j<;>exact ⟨rfl,rfl,rfl,rfl⟩
 have F: ∀(N:List SD) (y:Nat×List Nat),nZ (SD.zs x g d::N) y↔nZ (SD.z x::N) y:=fun N y=>by
  have: ∀j,(aU (SD.zs x g d::N) j).val=(aU (SD.z x::N) j).val:=fun j=>by cases j<;>rfl
  unfold nZ;simp_all
 obtain ⟨a,D,N,R,S,T,U⟩:=h (.zs x g d::M) ⟨_,_,rfl,⟨rfl,⟨fun q=>by grind,E.2.1,E.2.2⟩,Q⟩,I⟩ fun y o=>(F M y).2 (J y o)
 refine ⟨a,D,N,R,fun y o=> ?_,fun y o=>(F (M++N) y).1 (T y o),fun s O=> ?_⟩
 ·have A:=akM H a D y o
  have C:=S y o;obtain ⟨n,P⟩: ∃n,y.1=n+1:=⟨y.1-1,by omega⟩;rw [P] at C⊢;exact C
 ·have A:=U s O
  have G:k1.map (Kd.rel (.zs x g d::M))=ks.map (Kd.rel (.z x::M)):=by
   have u: ∀l:List Kd,l.map (Kd.rel (.zs x g d::M))=(l.map A7).map (Kd.rel (.z x::M)):=fun l=>by
    rw [kP];exact dy fun k _=>by show _=(A7 k).rel _;rw [akK];exact akL (sm M) k
   have v: ∀l:List Kd,l.map (Kd.rel (.z x::M))=(l.map A7).map (Kd.rel (.z x::M)):=fun l=>by
    rw [kP];exact dy fun k _=>by show _=(A7 k).rel _;rw [akK]
   grind
  have t:bH Tryz.prog bw s (k1.map (Kd.rel (.zs x g d::M))) (a.r.rel (.zs x g d::(M++N))):=A;rw [G,akL (sm (M++N)) a.r] at t;grind
def ML (A B:bo) (u:A.c []=⟨f,.y true b c i::ps,pr,k1,al⟩) (C:B.c []=⟨f,.y false b c i::ps,pr,k2,al⟩) (h:(A.ok []&&B.ok [])=true) (e:k1.map A7=ks.map A7/\k2.map A7=ks.map A7) (a:PE al=true):bo:=
 mk (fun _=>⟨f,.z true b c i::ps,pr,ks,al⟩) fun _ L D l=>by
  have d:=A.h [] (aY h).1;have g:=B.h [] (aY h).2;rw [u] at d;rw [C] at g;obtain ⟨x,M,rfl,s,t,k⟩:=nG D;by_cases o:x<0
  ·exact ads d e.1 a (decide_eq_true o) s t k l
  ·exact ads g e.2 a (decide_eq_false o) s t k l
def awN (B:bo) (k:B.c []=⟨f,.y false b c i::ps,pr,k2,al⟩) (h:B.ok []=true) (e:k2.map A7=ks.map A7) (g:PE al=true):bo:=
 mk (fun _=>⟨f,.z false b c i::ps,pr,ks,al⟩) fun _ L l s=>by
  have d:=B.h [] h;rw [k] at d;obtain ⟨x,M,rfl,a,t,o⟩:=nG l;exact ads d e g (decide_eq_false fun q=>by have:=a.1 q;cases this) ⟨fun _=>rfl,a.2.1,a.2.2⟩ t o s
def Cm:bo:=mk awq fun _ L a h=>by
 obtain ⟨s,L,rfl,l,o,a⟩:=qC a;obtain ⟨d,L,rfl,_,g,a⟩:=s6 a;obtain rfl:L= []:=a;have r:s=1->0<((d:Nat):Int):=h _ aC;have:=r (by omega);exact ⟨_,jr _,[],gS,DH ⟨fun _=>by omega,g⟩ jZ,iV,fun f k=>by cases k⟩
def akN:bo:=mk awr fun _=>YV fun L a _=>by
 obtain ⟨x,L,rfl,g,o,a⟩:=nG a;obtain ⟨e,L,rfl,k,l,a⟩:=qC a;refine zx fun h=> ?_
 have d:x≠0:=h;rcases dm x 0 with q|q|q
 ·cases g.1 q
 ·exact absurd q d
 ·cases g.2.2 q
def awO:bo:=mk aws fun _=>YV fun L a h=>by
 obtain ⟨x,L,rfl,u,y,a⟩:=nG a;obtain ⟨e,L,rfl,d,o,a⟩:=qC a;obtain ⟨t,L,rfl,s,g,a⟩:=qC a;obtain rfl:L= []:=a;have k:RP 5 [x,e,t]:=h _ aC;have l:t=kO x e:=k;exact zx (show RP 4 [x,e] from fun _=>⟨d,by rw [<-l];exact g⟩)
end
section
open Go.RowKit Go.Ev
def J5:bo:=cD [Tv] [] 0 133 [zz 65536,eb] [] [kd 0] [⟨[zz 65536],[],[(9,[0,2])],.d (.z 2) (.i 1)⟩] 69793288194
def Co:bo:=cD [ajX] [] 0 79 [zz 65536,eb] [] [kd 0] (Yl 0 65536) 0x41000400401402
def adt:bo:=cD [s8] [] 0 138 [zz 1000000,m64] [] [kz 0,ki 1] (dR [zz 65536,eb,.i 0 3] (.t (kd 2) (ki 4))) 0x4200006513c01303af00f064c0083f00
def adu:bo:=cD [Co,awv,ac1,adt] [] 0 83 [zz 65536,eb,zz 65536,eb] [] [kd 0,kd 2] (dR [zz 65536,eb,.i 0 3] (.t (kd 4) (ki 6))) 0x108000180073f5402ff0831406ff0800834c027f0830014c01051840400420c20841420c719300824a
def awP:bo:=cD [ac2,adt] [] 0 286 [zz 65536,eb,zz 65536,eb] [] [kd 0,kd 2] (dR [zz 65536,eb,.i 0 3] (.t (kd 4) (ki 6))) 0x10800029810c20441530061c8
def T3:bo:=cD [] [] 0 139 [m64] [] [ki 0] (b1 (fun _ b=> .b b) [(0,.i (-2048) 8192)] [] 0) 0x18c0f4f201880f44844400401401
def akO:bo:=cD [T3,Co] [] 0 85 [zz 65536,eb,.i (-100000) 100000] [] [kd 0,ki 2] (b1 (fun _ b=> .b b) [] [] 0) 0x4100208100128007f0300a3043400401401
def awQ:bo:=cD [T3,Co] [] 0 85 [zz 65536,eb] [] [kd 0,.i (.l 8192)] [⟨[],[(0,z0)],[],.b true⟩,⟨[],[(1,.i (-8192) 65536)],[],.b true⟩,⟨[],[],[],.b false⟩] 0x4103d12110204004b001fc08c1f43844401402402
def akP:bo:=cD [Yp,ac3] [] 0 90 [zz 65536,.i (-200000) 200000] [] [kz 0,ki 1] (dR [zz 265536] (kz 2)) 0x1801f00c010800024400c2040051002
def YW:bo:=cD [akO,s8,T3,akP] [87,362] 8 322 [zz 65536,eb,.i 0 4096] [] [kd 0,ki 2] (dR [zz 65536,eb,.i 0 3] (.t (kd 3) (ki 5))) 0x10c00010820400530031050420a6042083003c020811054c018721303af00f02
def adv:bo:=cD [J5,YW] [] 0 323 [zz 65536,eb,.i 0 4096] [] [kd 0,ki 2] (dR [zz 65536,eb,.i 0 3] (.t (kd 3) (ki 5))) 0x42000043043042946f004c0ebc0060801054c01c5f00
def akQ:bo:=cD [T3,(lV false),ac3,aj0,s8] [87,152] 8 98 [zz 400000,.n true 400000,.i 0 4096] [] [cQ 0 1,ki 2] (dR [zz 65536,eb,.i 0 3] (.t (kd 3) (ki 5))) 0x10400810418c2f00082002083103c020841474c020929303af00f02
def awR:bo:=cD [Tv,akQ,J5] [] 0 99 [zz 400000,.n true 400000,.i 0 4096] [] [cQ 0 1,ki 2] (dR [zz 65536,eb,.i 0 3] (.t (kd 3) (ki 5))) 0x1040003043042946f004c0ebc0060821054c01c5f00
def awS:bo:=cD [awt,adq] [] 0 76 [zz 65536,eb,zz 65536,eb] [] [mg 0 1 2 3] (b1 (fun _ b=> .b b) [] [(3,[0,1]),(3,[2,3]),(1,[0,1,2,3])] 0) 0x1080001080083101001083884f00400401401401
def T4:bo:=cD [] [] 0 97 [m64] [] [ki 0] (b1 (fun _ b=> .b b) [(0,ww)] [] 0) 0x18c0f00880f60402400401401
def awT:bo:=cD [Co,akF,awQ,awO,akN] [] 0 77 [zz 65536,eb] [] [kd 0] (b1 (fun _ b=> .b b) [] [(4,[0,1])] 0) 0x1080019012fc5017fc6000fc21000500100420400620bd4080420800430c0042400401401
def yr:bo:=cD [awS,awT] [] 0 44 [zz 65536,eb,zz 65536,eb] [] [mg 0 1 2 3] (b1 (fun _ b=> .b b) [] [(3,[0,1]),(3,[2,3]),(1,[0,1,2,3]),(4,[0,1]),(4,[2,3])] 0) 0x1100001083081001081083400401401401
def T5:bo:=cD [yr] [] 0 100 [zz 65536,eb,zz 65536,eb,m64,m64] [] [kd 0,kd 2,ki 4,ki 5] (dR [zz 65536,eb,zz 65536,eb,.i 0 11] (.t (mg 6 7 8 9) (ki 10))) 0x6510c002fe514c00cfc414007f540001083f00540ebc03af00f06
def awU:bo:=cD [T4,akQ,awR,T5] [] 0 54 [zz 400000,.n true 400000,m64] [] [cQ 0 1,ki 2] (dR [zz 65536,eb,zz 65536,eb,.i 0 11] (.t (mg 3 4 5 6) (ki 7))) 0x10400830400420c20010860c31061c521500928b30d540ebc03af00f02
def awV:bo:=cD [T4,J5,YW,adv,T5] [270,284,271] 8 212 [zz 65536,eb,zz 65536,eb,m64] [] [mg 0 1 2 3,ki 4] (dR [zz 65536,eb,zz 65536,eb,.i 0 11] (.t (mg 5 6 7 8) (ki 9))) 0x10401020420c20400430850c40c318110610720a2c931500d38f411540ebc03af00f02
def akR:bo:=cD [T4,adu,YW,adv,T5] [270,284,283] 8 220 [zz 65536,eb,zz 65536,eb,zz 65536,eb,zz 65536,eb,m64] [] [mg 0 1 2 3,mg 4 5 6 7,ki 8] (dR [zz 65536,eb,zz 65536,eb,.i 0 11] (.t (mg 9 10 11 12) (ki 13))) 0x10402040400441440420c61f22ce94ff002006bf3c30892880c330d2061104535125550165d865a540ebc03af00f02
def awW:bo:=cD [J5,akR] [] 0 221 [zz 65536,eb,zz 65536,eb,zz 65536,eb,zz 65536,eb,m64] [] [mg 0 1 2 3,mg 4 5 6 7,ki 8] (dR [zz 65536,eb,zz 65536,eb,.i 0 11] (.t (mg 9 10 11 12) (ki 13))) 0x108018708010524100108324728521500b30d38f
def awX:bo:=cD [T4,awP,awu,YW,adv,T5] [270,284,285] 8 222 [zz 65536,eb,zz 65536,eb,zz 65536,eb,zz 65536,eb,m64] [] [mg 0 1 2 3,mg 4 5 6 7,ki 8] (dR [zz 65536,eb,zz 65536,eb,.i 0 11] (.t (mg 9 10 11 12) (ki 13))) 0x41008101001105101001187c8b38408c3492a043c00d324fc6335fe057c00616cff0301ffe2f3ffe2f3fef179ffe16affe2f3fd5135fc61affe15bc00f0c0fef302ffe2f3ffe091fde313fc618dfe06fc00b053ffe14bfd5049fc61f4fe173c015015fe8103fcc3453b4fd00f1fe143c01331afca168fd3086fd5019fc9199fd13a4fdbf0044067f2431bf44bbbf693320fd53bdfc90d0fc60ddfee17affe16afd5015fe8053fd1497133fd148c3615bc0130bcfcb053ffe091fc5059fd40bbfd14a1f8247f249fff400dff2037bf6440976092a06fc00a054fd5015fe8036fd7616048fc25d830d85cf006004bf5d84006bfc9af0095d28153f747188fcc34818579f8628235409259a7a040420c41723d310245224a815f003431bf1835ff81af002c14fff8257f54127f18197f85bf0054057fa0137f4521443ff400eff855f004c2f3f28153f54057fa00dbf59758123f0965d14a16fc011019fc9090fd001afc503cfdc280dff707068fd148818575e8217e25408e49669c40420c61f251810259724a81af005c05ff5975410ff85af006004bf5974006bfc99f0095bf002006bf6c30c92880c424a20615c75f81e8550228e4966540ebc03af00f02
def awY:bo:=cD [ac3,aj0] [] 0 288 [zz 65536,eb,.z true false true 65536,eb,ww] [] [kd 0,kd 2,ki 4] (dR [zz 300000] (kz 5)) 0x19c10e61448c6f000800060811c24402301820021c2040211009
def awZ:bo:=cD [awC,T4,awY,J5,Tv,ajZ,s8,T5] [] 0 223 [zz 65536,eb,zz 65536,eb,zz 65536,eb,zz 65536,eb,m64] [] [mg 0 1 2 3,mg 4 5 6 7,ki 8] (dR [zz 65536,eb,zz 65536,eb,.i 0 11] (.t (mg 9 10 11 12) (ki 13))) 0x440041461c1048909f002a73ff142001140c7f0011422c1140c7f305080045041fcb045041fcf08538a811f002130bf64923fc9263ff888fff888fff8393ff9233fb88cfff888fff888fff8dabf886cbfb127bf3b6494ffe22bffe22bffe0e4ffe48cfd9074ffe109fe206bfe811ffce20e83ff8dabf14053f601a3f396358fd03614bc020241fd0b88cfff888fff888fff8393f946bff41324efd0c48c3ff888fff888ff42508dfd04c27ff4251affd05027bf1052020c20c50940c41480445421532a05fc00811afd9074ffe0e4fe206bfe80fafd32046bff8393f14053f6010ff4d60d2fd636163c01c071fd6941a3f59307afd6941a3f59002afc50820c61c814250318720111a08564a81cf00200cbf14053f6008bf654026fc215b36177c008011fdb40027fc0808629e08635e1877e08a38645409669e8a56001fc428037f041209001fca540ebc03af00f02
def YX:bo:=cD [] [] 0 272 [m64] [] [ki 0] (b1 (fun _ b=> .b b) [(0,ww)] [] 0) 0x18c0f00880f60402400401401
def akS:bo:=cD [Yo,aun,ajT,ajU] [] 0 363 [zz 65536,eb,ww] [] [kd 0,ki 2] [⟨[.n false 200000],[],[],.t (kn 3) (.b true)⟩,⟨[.n false 200000],[],[],.t (kn 3) (.b false)⟩] 0x68f040a60438c4f00080e40101045b87440191046c04082e40141046b88083e4016e2510074411d1047
def aw0:bo:=cD [YX,Co,akS,(lV false),s8,qD,Ms] [] 0 324 [zz 65536,eb,m64] [] [kd 0,ki 2,.b true] (dR [zz 65536,eb,.i 0 4] (.t (kd 3) (ki 5))) 0x104008204004604ffc89c003f0c20010810c3c020841054c01872001421831010c5c020841874c020929303af00f02
def aw1:bo:=cD [YX,Co,akS,(lV false),s8] [] 0 324 [zz 65536,eb,m64] [] [kd 0,ki 2,.b false] (dR [zz 65536,eb,.i 0 4] (.t (kd 3) (ki 5))) 0x1040082040046043fc884003f0c200108e000fc10c3c020841054c018721303af00f02
def aw2:bo:=cD [aw1] [] 0 273 [zz 65536,eb,m64] [] [kd 0,ki 2] (dR [zz 65536,eb,.i 0 4] (.t (kd 3) (ki 5))) 0x10c0001093003105
def aw3:bo:=cD [aw0] [] 0 274 [zz 65536,eb,m64] [] [kd 0,ki 2] (dR [zz 65536,eb,.i 0 4] (.t (kd 3) (ki 5))) 0x10c0001093003105
def akT:bo:=cD [yr] [] 0 275 [zz 65536,eb,zz 65536,eb,m64,m64] [] [kd 0,kd 2,ki 4,ki 5] (dR [zz 65536,eb,zz 65536,eb,.i 0 11] (.t (mg 6 7 8 9) (ki 10))) 0x6510c002fe514c00cfc414007f540001083f00540ebc03af00f06
def aw4:bo:=cD [YX,Co,aw2,aw3,akT] [] 0 213 [zz 65536,eb,zz 65536,eb,m64] [] [mg 0 1 2 3,ki 4] (dR [zz 65536,eb,zz 65536,eb,.i 0 11] (.t (mg 5 6 7 8) (ki 9))) 0x10401020420c9005fc8081f800bf081001240cff299000fc30800440c308310610518824729500b30d38f540ebc03af00f02
def aw5:bo:=cD [Co,adr] [] 0 313 [zz 65536,eb,.i (-64) 64] [(4,[0,1]),(3,[0,1])] [kd 0,ki 2] (b1 (fun _ b=> .b b) [] [] 0) 0x42000bc007f401802f00c02081001c04a0316118800dfc20400670fc0a8084845f50201400401
def YY:bo:=cD [adr,Co,Ts,Yo,ajT,ajU] [] 0 356 [zz 65536,eb,.i 0 64,ww] [(4,[0,1]),(3,[0,1])] [kd 0,ki 2,ki 3] [⟨[.n false 900000],[],[],.t (kn 4) (.b true)⟩,⟨[.n false 900000],[],[],.t (kn 4) (.b false)⟩] 0x420000680819850e10bc00204006b03effe02bfe8084c0388721107b2009ff2420b900a28097f2c644033018210b30214b32e39100d4413600bc0300b2087082e402230bc0231bc0020c919100ac0608424a08524ab8c4402d104b
def YZ:bo:=cD [adr,Ts,qD,Yo,aum] [] 0 356 [.z true false true 65536,eb,.i (-64) (-1),ww] [(4,[0,1]),(3,[0,1])] [kd 0,ki 2,ki 3] [⟨[.n false 900000],[],[],.t (kn 4) (.b true)⟩,⟨[.n false 900000],[],[],.t (kn 4) (.b false)⟩] 0x420000680819850e10bc0200bc0300a713c0a81c88490d107bc821c207900a8c2f000028c6f0008330608434bb8f44039104ec060832cd08430eb904403d104f
def aw6:bo:=cD [akN,akF,Co,Ts,Yo] [] 0 356 [.y false true false 0,.i 0 0,.i 1 64,ww] [] [.d (.s false 0) (.i 1),ki 2,ki 3] [⟨[.n false 900000],[],[],.t (kn 4) (.b true)⟩,⟨[.n false 900000],[],[],.t (kn 4) (.b false)⟩] 0x420000420400680819850e10bc0020800600bc0300b2087083e402230bc0231bc00210919100a
def aw7:bo:=cD [YY,(lV true),s8,(lV false),qD,Ms] [] 0 315 [.y true true true 65536,eb,.i 0 64,ww] [(4,[0,1]),(3,[0,1])] [.d (.s true 0) (.i 1),ki 2,ki 3,.b true] (dR [zz 65536,eb,.i 0 3] (.t (kd 4) (ki 6))) 0x1a42f04944f0018073f38003f04130023f1000010830431700c20861d300824a0040851460431f00c208825300a2cc
def aw8:bo:=cD [YY,(lV false),s8,qD,Ms] [] 0 315 [.y false true true 65536,eb,.i 0 64,ww] [(4,[0,1]),(3,[0,1])] [.d (.s false 0) (.i 1),ki 2,ki 3,.b true] (dR [zz 65536,eb,.i 0 3] (.t (kd 4) (ki 6))) 0x11000010830411300c20851930072090030841050411b00c208721300928b
def aw9:bo:=ML aw7 aw8 (ks:= [.d (.z 0) (.i 1),ki 2,ki 3,.b true]) rfl rfl rfl ⟨rfl,rfl⟩ rfl
def axa:bo:=cD [YZ,(lV true),s8,(lV false),qD,Ms] [] 0 315 [.y true false true 65536,eb,.i (-64) (-1),ww] [(4,[0,1]),(3,[0,1])] [.d (.s true 0) (.i 1),ki 2,ki 3,.b true] (dR [zz 65536,eb,.i 0 3] (.t (kd 4) (ki 6))) 0x1a42f04944f0018073f38003f04130023f1000010830431700c20861d300824a0040851460431f00c208825300a2cc
def axb:bo:=cD [YZ,(lV false),s8,qD,Ms] [] 0 315 [.y false false true 65536,eb,.i (-64) (-1),ww] [(4,[0,1]),(3,[0,1])] [.d (.s false 0) (.i 1),ki 2,ki 3,.b true] (dR [zz 65536,eb,.i 0 3] (.t (kd 4) (ki 6))) 0x11000010830411300c20851930072090030841050411b00c208721300928b
def axc:bo:=ML axa axb (ks:= [.d (.z 0) (.i 1),ki 2,ki 3,.b true]) rfl rfl rfl ⟨rfl,rfl⟩ rfl
def axd:bo:=cD [YY,(lV true),s8,qD,Ms,(lV false)] [] 0 315 [.y true true true 65536,eb,.i 0 64,ww] [(4,[0,1]),(3,[0,1])] [.d (.s true 0) (.i 1),ki 2,ki 3,.b false] (dR [zz 65536,eb,.i 0 3] (.t (kd 4) (ki 6))) 0x690bc12513c007021fc130073f0030841460411f00c208825300a2cc10000108338003f0451700c20861d300824a
def axe:bo:=cD [YY,(lV false),s8] [] 0 315 [.y false true true 65536,eb,.i 0 64,ww] [(4,[0,1]),(3,[0,1])] [.d (.s false 0) (.i 1),ki 2,ki 3,.b false] (dR [zz 65536,eb,.i 0 3] (.t (kd 4) (ki 6))) 0x110000108338003f0411300c2085193007209
def axf:bo:=ML axd axe (ks:= [.d (.z 0) (.i 1),ki 2,ki 3,.b false]) rfl rfl rfl ⟨rfl,rfl⟩ rfl
def axg:bo:=cD [YZ,(lV true),s8,qD,Ms,(lV false)] [] 0 315 [.y true false true 65536,eb,.i (-64) (-1),ww] [(4,[0,1]),(3,[0,1])] [.d (.s true 0) (.i 1),ki 2,ki 3,.b false] (dR [zz 65536,eb,.i 0 3] (.t (kd 4) (ki 6))) 0x690bc12513c007021fc130073f0030841460411f00c208825300a2cc10000108338003f0451700c20861d300824a
def axh:bo:=cD [YZ,(lV false),s8] [] 0 315 [.y false false true 65536,eb,.i (-64) (-1),ww] [(4,[0,1]),(3,[0,1])] [.d (.s false 0) (.i 1),ki 2,ki 3,.b false] (dR [zz 65536,eb,.i 0 3] (.t (kd 4) (ki 6))) 0x110000108338003f0411300c2085193007209
def axi:bo:=ML axg axh (ks:= [.d (.z 0) (.i 1),ki 2,ki 3,.b false]) rfl rfl rfl ⟨rfl,rfl⟩ rfl
def axj:bo:=cD [aw6,(lV false),s8] [] 0 315 [.y false true false 0,.i 0 0,.i 1 64,ww] [] [.d (.s false 0) (.i 1),ki 2,ki 3,.b false] (dR [zz 65536,eb,.i 0 3] (.t (kd 4) (ki 6))) 0x110000108338003f0411300c2085193007209
def axk:bo:=awN axj (ks:= [kd 0,ki 2,ki 3,.b false]) rfl rfl rfl rfl
def axl:bo:=cD [awB,Co,YX,aw5,axi,axc,akT,awM,axf,aw9,J5,adq,axk] [] 0 266 [zz 65536,eb,zz 65536,eb,m64,m64] [(3,[0,1]),(3,[2,3]),(1,[0,1,2,3]),(4,[0,1]),(4,[2,3])] [mg 0 1 2 3,ki 4,ki 5] (dR [zz 65536,eb,zz 65536,eb,.i 0 11] (.t (mg 6 7 8 9) (ki 10))) 0x11000010835c493ff889bf18067f142e3f1420d8250ffe22afe3019fc51e2fc95474bff83bfff88bbf13e22effe22effe22effe101fe711cfea03efce011fd5070fc41020c4144140051055fe70befc1083f0003fd03e7ff83bfff83bfff83bfff83bfff83bfff83bfff83bfff83bfff83bfff83bff08100108108304216013d1cc004fe113d20200a0f8fe013c009006fca0c30012c013f0c30831090cdfc6a44f04906f0008a00110b1c1083848f00200d7f24a10510924a1051862cc38f3505404524d4545038fc6073fd104dfc8035fc824414424824414618a2cd38c3d50104524d410cebc00414424004414618824b30a35500e3d0452904f000071081c81051091c810518624a30d2ce5403d04524c42000441442420c414618720a2c931500d38f411540ebc03af00f02
def axm:bo:=cD [Tv,Yp] [] 0 381 [zz 500001,.i 0 20000] [] [kz 0,ki 1] (dR [zz 500001] (kz 2)) 0x410000810810400d1004
def T6:bo:=cD [auq] [] 0 357 [zz 500000,zz 500000] [] [A6 0] (dR [zz 500001] (kz 2)) 0x42001011002
def T7:bo:=cD [Yp,axm] [] 0 358 [zz 500000,zz 500000,.i 0 20000] [] [A6 0,ki 2] (dR [zz 500001,zz 500001] (A6 3)) 0x10800020810424800c4
def kE:Nd:= .r 0 [.z (.o),.i (.l 0),.z (.o),.i (.l 0),.i (.l 1)]
def axn:bo:=cD [awD,T6,Tt,T7,s8] [316,267] 8 210 [m64] [] [ki 0] (dR [zz 65536,eb,zz 65536,eb,.i 0 11] (.t (mg 1 2 3 4) (ki 5))) 0x6000c035fe103dc1408a027fe603cc01001081083042e44885f300c3083f30c000841880841c894b34103f38e03ffc928c34612efc10010060811c8042e4988af640400c31c8f64045048fcb34210c36540d040fd3380fff38f452184bbf0c00402c204c3410b93a23fd3030030cc37d30314123f41208445295534103f60e03ffd35165c612efc6001010081452042e53894f581800c3452f58185048fd55c21165e568d040fdd380fff6196dc184bbf3000405420565c10b962267dc0c0030d65fdc0c14123f69c0846dc95f34103f88e03ffdd7a0845048fe464004068205b7010b97627bd9190030db73d91914123f7e108482196434103f9ce03ffe28e5985048fcccc00407c20608410b98a28fd3330030e087d3330300021249821259a5a4d040fec380fff9e8aab14123f62a041024081966042e678a8f58a810c3966f58a81c00084a6b084aab96e34103fc4e03ffecb6fc3c02603dc180c1029081aab042e6c8adf70603d8003f0c3aabf70603c00084bb0084bf09733000bf976f00540ebc03af00f02540c72d35f00
def Fke:bo:=cD [Ffe,T6,Tt,T7,s8] [316,267] 8 211 [m64] [] [ki 0] (dR [zz 65536,eb,zz 65536,eb,.i 0 11] (.t (mg 1 2 3 4) (ki 5))) 0x6000c035fe103dc1408a027fe603cc01001081083042e44885f300c3083f30c000841880841c894b34103f38e03ffc928c34612efc10010060811c8042e4988af640400c31c8f64045048fcb34210c36540d040fd3380fff38f452184bbf0c00402c204c3410b93a23fd3030030cc37d30314123f41208445295534103f60e03ffd35165c612efc6001010081452042e53894f581800c3452f58185048fd55c21165e568d040fdd380fff6196dc184bbf3000405420565c10b962267dc0c0030d65fdc0c14123f69c0846dc95f34103f88e03ffdd7a0845048fe464004068205b7010b97627bd9190030db73d91914123f7e108482196434103f9ce03ffe28e5985048fcccc00407c20608410b98a28fd3330030e087d3330300021249821259a5a4d040fec380fff9e8aab14123f62a041024081966042e678a8f58a810c3966f58a81c00084a6b084aab96e34103fc4e03ffecb6fc3c02603dc180c1029081aab042e6c8adf70603d8003f0c3aabf70603c00084bb0084bf09733000bf976f00540ebc03af00f02540c72d35f00
def axo:bo:=cD [awE,T6,Tt,T7] [316,337] 8 281 [zz 65536,eb,ww] [] [kd 0,ki 2] (dR [zz 500001,zz 500001] (A6 3)) 0x660bcc03000043081105042e46887f300c3105f30480209982f64045020fc808124a042e4b88cf640400c324af6404048034e982f4c0c5020fcd08138f042e50891f4c0c00c338ff4c0c0480493982f58185020fd20814d4042e55896f581800c34d4f581804805d8982f70305020fd7081619042e5a89bf703000c3619f7030048071d982f64645020fdc08175e042e5f8a0f646400c375ef646404808629821403bf0000610818a3042e648a5f4ccc00c38a3f4ccc04809a79821403bf0000660819e8042e698aaf58a810c39e8f58a81480aec9821403bf00006b081b2d042e6e8aff7060330003f0c3b2df70603480c31
def axp:bo:=cD [s8] [] 0 280 [zz 500001,zz 500001,zz 500001,zz 500001,ww] [] [A6 0,A6 2,ki 4] (dR [zz 65536,eb,zz 65536,eb,.i 0 11] (.t (mg 5 6 7 8) (ki 9))) 0x1c040800050800c59483000bf94bf00540ebc03af00f0654018724af00
def axq:bo:=cD [axo,axp] [] 0 218 [zz 65536,eb,zz 65536,eb,m64] [] [mg 0 1 2 3,ki 4] (dR [zz 65536,eb,zz 65536,eb,.i 0 11] (.t (mg 5 6 7 8) (ki 9))) 0x1804f002801bf844f60402540ebc03af00f020c00011030020c41411461c811500928b30d
def axr:bo:=cD [J5,akI,awK,awF,T6,Tt,T7,Tu] [316,325] 8 277 [zz 65536,eb,ww] [(8,[0,1]),(3,[0,1])] [kd 0,ki 2] (dR [zz 500001,zz 500001] (A6 3)) 0x1080001982f020c10c11260bcc0308004511ffc5084187045e48889f300c6187f3048028b982f64045020fca0842cc045e4d88ef640400c62ccf640404803d0982f4c0c5020fcf084411045e52893f4c0c00c6411f4c0c0480515982f58185020fd4084556045e57898f581800c6556f5818048065a982f70305020fd908469b045e5c89df703000c669bf7030048079f982f64645020fde0847e0045e618a2f646400c67e0f646404808e49821403bf0c0063084925045e668a7f4ccc00c6925f4ccc0480a299821403bf0c0068084a6a045e6b8acf58a810c6a6af58a81480b6e9821403bf0c006d084baf045e708b1f7060330003f0c6baff70603480cb3047f02480e85
def axs:bo:=cD [akI,awL,axr,s8] [] 0 214 [zz 65536,eb,zz 65536,eb,m64] [(3,[0,1]),(3,[2,3]),(1,[0,1,2,3])] [mg 0 1 2 3,ki 4] (dR [zz 65536,eb,zz 65536,eb,.i 0 11] (.t (mg 5 6 7 8) (ki 9))) 0x6013c00a006fe113d810089027fc20c0083f548401010010830c20011301020c51c30820c408330794a3000bf94f3001bf54020934ef00540ebc03af00f06
def axt:bo:=cD [awH,awG,T6,Tt,T7] [316,327] 8 278 [zp,eb,ww] [] [kd 0,ki 2] (dR [zz 500001,zz 500001] (A6 3)) 0x420000660bcc0501dfc60821c8043e4988af300c41c8f304802cc982f64046020fcb08230d043e4e88ff640400c430df64040480411982f4c0c6020fd0082452043e53894f4c0c00c4452f4c0c0480556982f58186020fd5082597043e58899f581800c4597f5818048069b982f70306020fda0826dc043e5d89ef703000c46dcf703004807e0982f64646020fdf082821043e628a3f646400c4821f64640480925982f4ccc014087f9020a59810f99e2a3d3330031259bd333012029aa60bd62a045021fe9082aab043e6c8adf58a810c4aabf58a81480baf982f706031011050ee082bf0043e718b2f7060330003f0c4bf0f70603480cf4
def axu:bo:=cD [Co,axt,s8] [] 0 215 [zz 65536,eb,zz 65536,eb,m64] [] [mg 0 1 2 3,ki 4] (dR [zz 65536,eb,zz 65536,eb,.i 0 11] (.t (mg 5 6 7 8) (ki 9))) 0x6013c00a006fe113d810089005fc208008328003f24017f20200004a000fc9019fca0c10011301020851c30420c408230794a3000bf94ff00540ebc03af00f0654020934ef00
def akU:bo:=cD [(lV false),ac2] [] 0 309 [zz 1024,.n true 1024,zz 1024,.n true 1024] [] [cQ 0 1,cQ 2 3] (dR [zz 2048,zz 2048] (.t (kz 4) (kz 5))) 0x10400c2040101001081086480147
def axv:bo:=cD [akU,ajZ] [] 0 260 [zz 1024,.n true 1024,zz 1024,.n true 1024] [] [cQ 0 1,cQ 2 3] (dR [.i (-1) 1] (ki 4)) 0x440000420c2044151006
def xA:bo:=cD [ajX] [] 0 203 [zz 1024,.n true 1024] [] [cQ 0 1] (Yl 0 1024) 0x41000400401402
def adw:bo:=cD [Tv,T1] [] 0 151 [zz 1024,.n true 1024] [] [cQ 0 1] [⟨[zz 1024],[],[(9,[0,2])],cQ 2 1⟩] 0x41000041051002
def akV:bo:=cD [akU,ac1,ajV,xz] [] 0 310 [zz 1024,.n true 1024,zz 1024,.n true 1024] [] [cQ 0 1,cQ 2 3] (dR [zz 4000,.n true 2048] (cQ 4 5)) 0x1100001083081105082043083187480209
def axw:bo:=cD [adw,akV] [] 0 311 [zz 1024,.n true 1024,zz 1024,.n true 1024] [] [cQ 0 1,cQ 2 3] (dR [zz 4000,.n true 2048] (cQ 4 5)) 0x1080083101001103480146
def akW:bo:=cD [ac2,ajV,xz] [] 0 307 [zz 1024,.n true 1024,zz 1024,.n true 1024] [] [cQ 0 1,cQ 2 3] (dR [zz 4000,.n true 2048] (cQ 4 5)) 0x1080002081043082105480187
def axx:bo:=cD [(lV true),T1] [] 0 305 [.y true false true 1024,.n true 1024] [] [.r (.s true 0) (.n 1)] (dR [zz 1024,.n true 1024] (cQ 2 3)) 0x1040041079012002e40
def axy:bo:=cD [(lV false),T1] [] 0 305 [.y false false true 1024,.n true 1024] [] [.r (.s false 0) (.n 1)] (dR [zz 1024,.n true 1024] (cQ 2 3)) 0x1040041079012002e40
def axz:bo:=ML axx axy (ks:= [.r (.z 0) (.n 1)]) rfl rfl rfl ⟨rfl,rfl⟩ rfl
def axA:bo:=cD [xA,axz,akW] [] 0 258 [zz 1024,.n true 1024,.z true false true 1024,.n true 1024] [] [cQ 0 1,cQ 2 3] (dR [zz 4000,.n true 2048] (.t (cQ 4 5) (.i (.l 0)))) 0x108008338003f081083102001105480187
def axB:bo:=cD [(ajW true),T1] [] 0 305 [.y true false true 1024,.n true 1024] [] [.r (.s true 0) (.n 1)] (dR [.y true false true 1024,.n true 1024] (.r (.s true 2) (.n 3))) 0x1040041079012002e40
def axC:bo:=cD [(ajW false),T1] [] 0 305 [.y false false true 1024,.n true 1024] [] [.r (.s false 0) (.n 1)] (dR [.y false false true 1024,.n true 1024] (.r (.s false 2) (.n 3))) 0x1040041079012002e40
def axD:bo:=cD [xA,axB,Ts,(lV true),(lV false)] [] 0 257 [.y true true true 1024,.n true 1024,m64] [] [.r (.s true 0) (.n 1),ki 2] [⟨[zz 70000,.n true 70000],[],[],.t (cQ 3 4) (.i (.l 0))⟩,⟨[.z false true false 0,.n false 0,.i 1 2],[],[],.t (cQ 3 4) (ki 5)⟩] 0x600bd1c8004fe10bd202005037fc2802f00080001b801bf4c1ebbf04081001c02a45f04906f021802bf0c9007fc20b90c50441c20841520082690bc1240fc08600afc32401ff082e40081104082042480146
def axE:bo:=cD [xA,axC,Ts,(lV false)] [] 0 257 [.y false true true 1024,.n true 1024,m64] [] [.r (.s false 0) (.n 1),ki 2] [⟨[zz 70000,.n true 70000],[],[],.t (cQ 3 4) (.i (.l 0))⟩,⟨[.z false true false 0,.n false 0,.i 1 2],[],[],.t (cQ 3 4) (ki 5)⟩] 0x600bd1c8004fe10bd202005009fc2802f000800014c1ebbf04081001c02082e431410c60821054801c8082e400810c3082042480105
def akX:bo:=ML axD axE (ks:= [.r (.z 0) (.n 1),ki 2]) rfl rfl rfl ⟨rfl,rfl⟩ rfl
def axF:bo:=cD [] [] 0 259 [.y true true true 1024,.n true 1024] [] [.r (.s true 0) (.n 1)] [⟨[zz 1025,.n true 1025],[],[],.t (cQ 2 3) (.b true)⟩,⟨[.z false true false 0,.n false 0],[],[],.t (cQ 2 3) (.b false)⟩] 21503675
def axG:bo:=cD [aup,(lV false)] [] 0 259 [.y false true true 1024,.n true 1024] [] [.r (.s false 0) (.n 1)] [⟨[zz 1025,.n true 1025],[],[],.t (cQ 2 3) (.b true)⟩,⟨[.z false true false 0,.n false 0],[],[],.t (cQ 2 3) (.b false)⟩] 0x410390010010410920040d207aec1001481ebb481ebb
def axH:bo:=ML axF axG (ks:= [.r (.z 0) (.n 1)]) rfl rfl rfl ⟨rfl,rfl⟩ rfl
def D2:bo:=cD [Tu,qD] [] 0 202 [] [] [.i (.l 0)] (dR [.z false true false 0,.n true 1] (cQ 0 1)) 0x1040f00001480001
def adx:bo:=cD [Tu,qD] [] 0 202 [] [] [.i (.l 1)] (dR [.z false false true 1,.n true 1] (cQ 0 1)) 0x1040f02001480001
def Cp:bo:=cD [awJ] [] 0 201 [zz 70000,.n true 70000] [] [cQ 0 1,.b true] [nY 2 3,nX 2 3 0,nX 2 3 2] 0x1080001480001481ebb
def axI:bo:=cD [adw] [] 0 95 [zz 1024,.n true 1024] [] [cQ 0 1] (dR [zz 1024] (cQ 2 1)) 0x6e042000042002051003
def axJ:bo:=cD [] [] 0 95 [.z false true false 0,.n false 0] [] [cQ 0 1] (dR [.z false true false 0,.n false 0] (cQ 2 3)) 0x1b81480ebb
def axK:bo:=cD [xA,adw] [] 0 204 [zz 1024,.n true 1024,zz 1024,.n true 1024,m64,m64,m64] [] [.nd 5 (.i 4) (.i 5) (.i 6) [],cQ 0 1,cQ 2 3] [⟨[zz 70000,.n true 70000],[],[],.t (cQ 7 8) (.i (.l 1))⟩,⟨[.z false true false 0,.n false 0],[],[],.t (cQ 7 8) (.i (.l 0))⟩,⟨[.z false true false 0,.n false 0],[],[],.t (cQ 7 8) (.i (.l 2))⟩] 0x420002401ff20003f0810014801c1
def axL:bo:=cD [xA,akV] [261] 8 204 [zz 1024,.n true 1024,zz 1024,.n true 1024,m64,m64,m64] [] [.nd 6 (.i 4) (.i 5) (.i 6) [],cQ 0 1,cQ 2 3] [⟨[zz 70000,.n true 70000],[],[],.t (cQ 7 8) (.i (.l 1))⟩,⟨[.z false true false 0,.n false 0],[],[],.t (cQ 7 8) (.i (.l 0))⟩,⟨[.z false true false 0,.n false 0],[],[],.t (cQ 7 8) (.i (.l 2))⟩] 0x108000128003f28003f1010010834801c8
def axM:bo:=cD [xA,axw] [261] 8 204 [zz 1024,.n true 1024,zz 1024,.n true 1024,m64,m64,m64] [] [.nd 7 (.i 4) (.i 5) (.i 6) [],cQ 0 1,cQ 2 3] [⟨[zz 70000,.n true 70000],[],[],.t (cQ 7 8) (.i (.l 1))⟩,⟨[.z false true false 0,.n false 0],[],[],.t (cQ 7 8) (.i (.l 0))⟩,⟨[.z false true false 0,.n false 0],[],[],.t (cQ 7 8) (.i (.l 2))⟩] 0x108000128003f28003f1010010834801c8
def axN:bo:=cD [xA,akW] [261] 8 204 [zz 1024,.n true 1024,zz 1024,.n true 1024,m64,m64,m64] [] [.nd 8 (.i 4) (.i 5) (.i 6) [],cQ 0 1,cQ 2 3] [⟨[zz 70000,.n true 70000],[],[],.t (cQ 7 8) (.i (.l 1))⟩,⟨[.z false true false 0,.n false 0],[],[],.t (cQ 7 8) (.i (.l 0))⟩,⟨[.z false true false 0,.n false 0],[],[],.t (cQ 7 8) (.i (.l 2))⟩] 0x108000128003f28003f1010010834801c8
def axO:bo:=cD [xA,akX,axA] [] 0 204 [zz 1024,.n true 1024,.z true false true 1024,.n true 1024,m64,m64,m64] [] [.nd 9 (.i 4) (.i 5) (.i 6) [],cQ 0 1,cQ 2 3] [⟨[zz 70000,.n true 70000],[],[],.t (cQ 7 8) (.i (.l 1))⟩,⟨[.z false true false 0,.n false 0],[],[],.t (cQ 7 8) (.i (.l 0))⟩,⟨[.z false true false 0,.n false 0],[],[],.t (cQ 7 8) (.i (.l 2))⟩] 0x42000059000fd9000fc30400462000bf24a10200108348028b
def axP:bo:=cD [xA,akX] [] 0 204 [zz 1024,.n true 1024,zz 1024,.n true 1024,m64,m64,m64] [] [.nd 10 (.i 4) (.i 5) (.i 6) [],cQ 0 1,cQ 2 3] [⟨[zz 70000,.n true 70000],[],[],.t (cQ 7 8) (.i (.l 1))⟩,⟨[.z false true false 0,.n false 0],[],[],.t (cQ 7 8) (.i (.l 0))⟩,⟨[.z false true false 0,.n false 0],[],[],.t (cQ 7 8) (.i (.l 2))⟩] 0x42000051000fd1000fc30400464801c8949f00482ebb
def axQ:bo:=cD [xA,axH] [] 0 204 [zz 1024,.n true 1024,zz 1024,.n true 1024,m64,m64,m64] [] [.nd 11 (.i 4) (.i 5) (.i 6) [],cQ 0 1,cQ 2 3] [⟨[zz 70000,.n true 70000],[],[],.t (cQ 7 8) (.i (.l 1))⟩,⟨[.z false true false 0,.n false 0],[],[],.t (cQ 7 8) (.i (.l 0))⟩,⟨[.z false true false 0,.n false 0],[],[],.t (cQ 7 8) (.i (.l 2))⟩] 0x1080001482ebb30003f0810014801c8481ebb
def axR:bo:=cD [xA,adx] [] 0 204 [zz 1024,.n true 1024,zz 1024,.n true 1024,m64,m64,m64] [] [.nd 12 (.i 4) (.i 5) (.i 6) [],cQ 0 1,cQ 2 3] [⟨[zz 70000,.n true 70000],[],[],.t (cQ 7 8) (.i (.l 1))⟩,⟨[.z false true false 0,.n false 0],[],[],.t (cQ 7 8) (.i (.l 0))⟩,⟨[.z false true false 0,.n false 0],[],[],.t (cQ 7 8) (.i (.l 2))⟩] 0x1080001481ebb0014801c8481ebb
def axS:bo:=cD [xA,adx,axv,D2] [] 0 204 [zz 1024,.n true 1024,zz 1024,.n true 1024,m64,m64,m64] [] [.nd 13 (.i 4) (.i 5) (.i 6) [],cQ 0 1,cQ 2 3] [⟨[zz 70000,.n true 70000],[],[],.t (cQ 7 8) (.i (.l 1))⟩,⟨[.z false true false 0,.n false 0],[],[],.t (cQ 7 8) (.i (.l 0))⟩,⟨[.z false true false 0,.n false 0],[],[],.t (cQ 7 8) (.i (.l 2))⟩] 0x1080001482ebb482ebb0011020011c8909f0000348028b481ebb
def axT:bo:=cD [xA,D2] [] 0 204 [zz 1024,.n true 1024,zz 1024,.n true 1024,m64,m64,m64] [] [.nd 14 (.i 4) (.i 5) (.i 6) [],cQ 0 1,cQ 2 3] [⟨[zz 70000,.n true 70000],[],[],.t (cQ 7 8) (.i (.l 1))⟩,⟨[.z false true false 0,.n false 0],[],[],.t (cQ 7 8) (.i (.l 0))⟩,⟨[.z false true false 0,.n false 0],[],[],.t (cQ 7 8) (.i (.l 2))⟩] 0x1080001481ebb0014801c8481ebb
def axU:bo:=cD [xA,adx] [] 0 204 [zz 1024,.n true 1024,zz 1024,.n true 1024,m64,m64,m64] [] [.nd 15 (.i 4) (.i 5) (.i 6) [],cQ 0 1,cQ 2 3] [⟨[zz 70000,.n true 70000],[],[],.t (cQ 7 8) (.i (.l 1))⟩,⟨[.z false true false 0,.n false 0],[],[],.t (cQ 7 8) (.i (.l 0))⟩,⟨[.z false true false 0,.n false 0],[],[],.t (cQ 7 8) (.i (.l 2))⟩] 0x1080001481ebb0014801c8481ebb
def axV:bo:=cD [xA,D2] [] 0 204 [zz 1024,.n true 1024,zz 1024,.n true 1024,m64,m64,m64] [] [.nd 16 (.i 4) (.i 5) (.i 6) [],cQ 0 1,cQ 2 3] [⟨[zz 70000,.n true 70000],[],[],.t (cQ 7 8) (.i (.l 1))⟩,⟨[.z false true false 0,.n false 0],[],[],.t (cQ 7 8) (.i (.l 0))⟩,⟨[.z false true false 0,.n false 0],[],[],.t (cQ 7 8) (.i (.l 2))⟩] 0x1080001481ebb0014801c8481ebb
end
section
open Go.Proofs.Tryz Go.RowKit Go.Ev
def yu:bo:=cD [] [] 0 53 [zz 65536,eb,zz 65536,eb,.i 0 11] [] [mg 0 1 2 3,ki 4] [⟨[zz 65536,eb,zz 65536,eb,.i 0 11],[],[],.out (.z 5) (.i 6) (.z 7) (.i 8) (.i 9)⟩] 0x6413c0150000420fc02413c10a004fe413c209001fd6540ebc03af00f0a
def axW:=zu [axn,yu] [101,156,208,219,206,265,282,264,209] 9 f56 [ww] [] ⟨[],[(0,.nd 3 (.l 0) (.l 0) (.l 0) []),(1,.nil),(2,ki 0)]⟩ [⟨[zz 65536,eb,zz 65536,eb,.i 0 11],[],[],.out (.z 1) (.i 2) (.z 3) (.i 4) (.i 5)⟩] 0x6003c02103d8100810001410420c41550061c824a
def axX:=zu [Fke,yu] [101,156,208,219,206,265,282,264,209] 9 f56 [ww] [] ⟨[],[(0,.nd 4 (.l 0) (.l 0) (.l 0) []),(1,.nil),(2,ki 0)]⟩ [⟨[zz 65536,eb,zz 65536,eb,.i 0 11],[],[],.out (.z 1) (.i 2) (.z 3) (.i 4) (.i 5)⟩] 0x6003c02103d8100810001410420c41550061c824a
def axY:=zu [yr,awV,yu] [101,156,208,219,206,265,282,264,209] 9 f56 [zz 65536,eb,zz 65536,eb,.i 0 11,m64,.i 0 0,ww] [] ⟨[⟨2049,113,7,.out (.z 0) (.i 1) (.z 2) (.i 3) (.i 4)⟩],[(0,.nd 5 (.i 5) (.l 0) (.l 0) []),(2,ki 7)]⟩ [⟨[zz 65536,eb,zz 65536,eb,.i 0 11],[],[],.out (.z 8) (.i 9) (.z 10) (.i 11) (.i 12)⟩] 0x1904f1634003f944f00540180a3f1201fc0211fd8100840000420c50400420c71421404ff54034e3d04450baf00ebc03c09500824a2cc
def axZ:=zu [yr,axl,yu] [101,156,208,219,206,265,282,264,209] 9 f56 [zz 65536,eb,zz 65536,eb,.i 0 11,m64,.i (-64) 64,ww] [] ⟨[⟨2049,113,7,.out (.z 0) (.i 1) (.z 2) (.i 3) (.i 4)⟩],[(0,.nd 10 (.i 5) (.l 0) (.i 6) []),(2,ki 7)]⟩ [⟨[zz 65536,eb,zz 65536,eb,.i 0 11],[],[],.out (.z 8) (.i 9) (.z 10) (.i 11) (.i 12)⟩] 0x1904f1634003f944f00540180d7f1231bd1c20221bd2020201fc0211fd810084005001fc10010831871421404ff54034e3d04450baf00ebc03c09500824a2cc
def ax0:=zu [yr,aw4,yu] [101,156,208,219,206,265,282,264,209] 9 f56 [zz 65536,eb,zz 65536,eb,.i 0 11,m64,.i 0 0,ww] [] ⟨[⟨2049,113,7,.out (.z 0) (.i 1) (.z 2) (.i 3) (.i 4)⟩],[(0,.nd 11 (.i 5) (.l 0) (.l 0) []),(2,ki 7)]⟩ [⟨[zz 65536,eb,zz 65536,eb,.i 0 11],[],[],.out (.z 8) (.i 9) (.z 10) (.i 11) (.i 12)⟩] 0x1904f1634003f944f00540180a3f1201fc0211fd8100840000420c50400420c71421404ff54034e3d04450baf00ebc03c09500824a2cc
def ax1:=zu [yr,axs,yu] [101,156,208,219,206,265,282,264,209] 9 f56 [zz 65536,eb,zz 65536,eb,.i 0 11,m64,.i 0 0,ww] [] ⟨[⟨2049,113,7,.out (.z 0) (.i 1) (.z 2) (.i 3) (.i 4)⟩],[(0,.nd 12 (.i 5) (.l 0) (.l 0) []),(2,ki 7)]⟩ [⟨[zz 65536,eb,zz 65536,eb,.i 0 11],[],[],.out (.z 8) (.i 9) (.z 10) (.i 11) (.i 12)⟩] 0x1904f1634003f944f00540180a3f1201fc0211fd8100840000420c50400420c71421404ff54034e3d04450baf00ebc03c09500824a2cc
def ax2:=zu [yr,axu,yu] [101,156,208,219,206,265,282,264,209] 9 f56 [zz 65536,eb,zz 65536,eb,.i 0 11,m64,.i 0 0,ww] [] ⟨[⟨2049,113,7,.out (.z 0) (.i 1) (.z 2) (.i 3) (.i 4)⟩],[(0,.nd 13 (.i 5) (.l 0) (.l 0) []),(2,ki 7)]⟩ [⟨[zz 65536,eb,zz 65536,eb,.i 0 11],[],[],.out (.z 8) (.i 9) (.z 10) (.i 11) (.i 12)⟩] 0x1904f1634003f944f00540180a3f1201fc0211fd8100840000420c50400420c71421404ff54034e3d04450baf00ebc03c09500824a2cc
def ax3:=zu [yr,axq,yu] [101,156,208,219,206,265,282,264,209] 9 f56 [zz 65536,eb,zz 65536,eb,.i 0 11,m64,.i 0 0,ww] [] ⟨[⟨2049,113,7,.out (.z 0) (.i 1) (.z 2) (.i 3) (.i 4)⟩],[(0,.nd 16 (.i 5) (.l 0) (.l 0) []),(2,ki 7)]⟩ [⟨[zz 65536,eb,zz 65536,eb,.i 0 11],[],[],.out (.z 8) (.i 9) (.z 10) (.i 11) (.i 12)⟩] 0x1904f1634003f944f00540180a3f1201fc0211fd8100840000420c50400420c71421404ff54034e3d04450baf00ebc03c09500824a2cc
def ax4:=zu [yr,akR,yu] [101,156,208,219,206,265,282,264,209] 9 f56 [zz 65536,eb,zz 65536,eb,.i 0 11,zz 65536,eb,zz 65536,eb,.i 0 11,m64,m64,ww] [] ⟨[⟨3073,113,7,.cat (.out (.z 0) (.i 1) (.z 2) (.i 3) (.i 4)) (.out (.z 5) (.i 6) (.z 7) (.i 8) (.i 9))⟩],[(0,.nd 6 (.i 10) (.i 11) (.l 0) []),(2,ki 12)]⟩ [⟨[zz 65536,eb,zz 65536,eb,.i 0 11],[],[],.out (.z 13) (.i 14) (.z 15) (.i 16) (.i 17)⟩] 0x6413c59500dfcd073fe427c58d004fe413c02524a054fc980cf0084cf604021000010831001461c82410010831461c8305085013fd50124d455644003f1421803fff0254034e3d046513c01503af00ebc004
def ax5:=zu [yr,awW,yu] [101,156,208,219,206,265,282,264,209] 9 f56 [zz 65536,eb,zz 65536,eb,.i 0 11,zz 65536,eb,zz 65536,eb,.i 0 11,m64,m64,ww] [] ⟨[⟨3073,113,7,.cat (.out (.z 0) (.i 1) (.z 2) (.i 3) (.i 4)) (.out (.z 5) (.i 6) (.z 7) (.i 8) (.i 9))⟩],[(0,.nd 7 (.i 10) (.i 11) (.l 0) []),(2,ki 12)]⟩ [⟨[zz 65536,eb,zz 65536,eb,.i 0 11],[],[],.out (.z 13) (.i 14) (.z 15) (.i 16) (.i 17)⟩] 0x6413c59500dfcd073fe427c58d004fe413c02524a054fc980cf0084cf604021000010831001461c82410010831461c8305085013fd50124d455644003f1421803fff0254034e3d046513c01503af00ebc004
def ax6:=zu [yr,awX,yu] [101,156,208,219,206,265,282,264,209] 9 f56 [zz 65536,eb,zz 65536,eb,.i 0 11,zz 65536,eb,zz 65536,eb,.i 0 11,m64,m64,ww] [] ⟨[⟨3073,113,7,.cat (.out (.z 0) (.i 1) (.z 2) (.i 3) (.i 4)) (.out (.z 5) (.i 6) (.z 7) (.i 8) (.i 9))⟩],[(0,.nd 8 (.i 10) (.i 11) (.l 0) []),(2,ki 12)]⟩ [⟨[zz 65536,eb,zz 65536,eb,.i 0 11],[],[],.out (.z 13) (.i 14) (.z 15) (.i 16) (.i 17)⟩] 0x6413c59500dfcd073fe427c58d004fe413c02524a054fc980cf0084cf604021000010831001461c82410010831461c8305085013fd50124d455644003f1421803fff0254034e3d046513c01503af00ebc004
def ax7:=zu [yr,awZ,yu] [101,156,208,219,206,265,282,264,209] 9 f56 [zz 65536,eb,zz 65536,eb,.i 0 11,zz 65536,eb,zz 65536,eb,.i 0 11,m64,m64,ww] [] ⟨[⟨3073,113,7,.cat (.out (.z 0) (.i 1) (.z 2) (.i 3) (.i 4)) (.out (.z 5) (.i 6) (.z 7) (.i 8) (.i 9))⟩],[(0,.nd 9 (.i 10) (.i 11) (.l 0) []),(2,ki 12)]⟩ [⟨[zz 65536,eb,zz 65536,eb,.i 0 11],[],[],.out (.z 13) (.i 14) (.z 15) (.i 16) (.i 17)⟩] 0x6413c59500dfcd073fe427c58d004fe413c02524a054fc980cf0084cf604021000010831001461c82410010831461c8305085013fd50124d455644003f1421803fff0254034e3d046513c01503af00ebc004
end
end Go.Proofs.YthleenhngcdgkaaGreatDoor
