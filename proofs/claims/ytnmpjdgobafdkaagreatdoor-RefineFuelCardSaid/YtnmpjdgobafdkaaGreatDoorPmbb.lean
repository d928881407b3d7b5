/- refineFuel_proved. -/
import Derived.Test.YtnmpjdgobafdkaaGreatDoorPmba
set_option maxRecDepth 100000
set_option maxHeartbeats 16000000
set_option linter.all false
noncomputable section
namespace Go.Proofs.YtnmpjdgobafdkaaGreatDoor
section
open Go.RowKit Go.Ev
variable {m e n:Int} {k:Nat}
def X3 {f:Int} (h:tR m e n f<=0) (a:0<m:=by omega):0<n/\ko m e<=ko n f:=by
 have b:m.sign=1:=cO a;unfold tR at h;grind
def X4 (h:m≠0:=by omega):ko m e=((eN m.natAbs:Nat):Int)+e:=by unfold ko;omega
def ajF :ko (-m) e=ko m e:=by unfold ko;rw [iL];simp
def avb (f:0<=n) (g:n<2^k):ko (CO n 0).1 (CO n 0).2.1<=(k:Int):=by
 unfold CO;rw [if_neg (by omega)];by_cases a:n=0
 ·rw [if_pos a];show ko 0 0<=_;unfold ko;omega
 ·rw [if_neg a,decide_eq_false (by omega)]
  split
  ·show ko (jm false (n.natAbs/2^qA n.natAbs)) (0+(qA n.natAbs:Nat))<=_
   have b:n.natAbs<2^k:=by
    grind
   obtain ⟨h,i⟩:=ahB (n:=n.natAbs) (by omega) b;have d:n.natAbs/2^qA n.natAbs<2^(k-qA n.natAbs):=by
    refine nQ ?_;rw [<-bC];grind
   have j:=Nf (k:=k-qA n.natAbs) d;rw [X4 (by show ((_:Nat):Int)≠0;omega)];show ((eN (Int.natAbs ((n.natAbs/2^qA n.natAbs:Nat):Int)):Nat):Int)+_<=_;grind
  ·show ko 0 0<=_;unfold ko;omega
structure S4 (m e n f:Int):Prop where
 z1:m=0->e=0
 z2:n=0->f=0
 le:tR m e n f<=0
 g1:m≠0-> -8192<=e/\ko m e<=2048
 g2:n≠0-> -8192<=f/\ko n f<=2048
 v1:DV m e
 v2:DV n f
def ajG {k:Int} (b:m=0->e=0) (d:0<=k) (h:m≠0->ko m e<=k):((eN m.natAbs:Nat):Int)+e<=k:=by
 by_cases a:m=0
 ·have:=b a;subst a;rw [this];show ((eN 0:Nat):Int)+0<=k;rw [ana];omega
 ·rw [<-X4 a];omega
def avc (o:0<=n:=by omega) (p:n<2^k:=by omega) (f:n<=100000:=by omega): ∃a b,DV a b/\ko a b<=(k:Int)/\bJ Tryz.prog bw 285 [bj (.int .i64 n)] (iR a b):=by
 obtain ⟨s,f,j,g⟩:=NL (n:=n);obtain ⟨d,q,l,h⟩:=RO (e:=0) f;refine ⟨d.1,d.2.1,q.1,?_,?_⟩
 ·rw [l,j];exact avb o p
 exact fP [.i n,.z s,.z d.1,.i d.2.1,.i d.2.2] [] 0 [] [⟨31,[aA 0],aL 1⟩,⟨80,[aL 1,gz 0],.t (eE 2 3) (aA 4)⟩] [aA 0] (eE 2 3) (by kernel_rfl) .nil (.k g (.k h .nil))
def avd (h:DV m e) (y:0<=n/\n<=8000): ∃b:Bool,(b=false->0<m->ko m e<=13)/\bJ Tryz.prog bw 245 [iR m e,bj (.int .i64 n)] (bj (.bool b)):=by
 obtain ⟨g,j,t,q,o⟩:=avc (n:=n) (k:=13);obtain ⟨f,s,p⟩:=NH h t;obtain ⟨a,d⟩:=pQ (decide (0<f));refine ⟨a,fun x u=> ?_,?_⟩
 ·have hc: ¬0<f:=by simp_all
  rw [s] at hc;exact pF (X3 (by omega) u).2 q
 exact fP [.i n,.z g,.i j,.z m,.i e,.i f] [] 0 [.cm .gtr (.i 5) (.l 0) a] [⟨285,[aA 0],eE 1 2⟩,⟨44,[eE 3 4,eE 1 2],aA 5⟩] [eE 3 4,aA 0] (.b a) (by cases a<;>kernel_rfl) (by cases a<;>exact (.k d .nil)) (by cases a<;>(exact (.k o (.k p .nil))))
def ave (h:DV m e) (U:0<m): ∃k a b,DV a b/\0<a/\0<=((eN a.natAbs:Nat):Int)+b/\((eN a.natAbs:Nat):Int)+b<=1/\(-200000<=k/\k<=200000)/\bJ Tryz.prog bw 297 [iR m e] (Ef (bj (.int .i64 k)) (iR a b) (bj (.int .i64 0))):=by
 obtain ⟨i,t,C,P⟩:=id h;obtain ⟨u,S,D⟩:=asw (e:=e) h;have F:decide (u<=0)=false:=decide_eq_false (by simp_all);obtain ⟨f,O,E⟩:=abQ h;have W:f=((eN m.natAbs:Nat):Int)+e:=by rw [O,X4]
 have X:eN m.natAbs<=65536:=aK (Nf C) t;unfold EB at P;have N:1<=eN m.natAbs:=Nat.not_lt.1 fun h=>by have:=Et m.natAbs;rw [show eN m.natAbs=0 by omega,lR] at this;omega
 obtain ⟨o,G,M,B⟩:=nu (b:=false) C.abs;have p:=aC (e-f) (by omega);have T:o=m:=by rw [M];show ((m.natAbs:Nat):Int)=m;omega
 have H:DV o (e-f):=⟨i,t,G,by unfold EB;omega⟩;obtain ⟨q,Q,R,J⟩:=F9 (n:=3);have s:DV q (-2):=⟨63,by decide,Q,by unfold EB;decide⟩;obtain ⟨j,Y,I⟩:=NH H s;by_cases A:j<0
 ·have g:=decide_eq_true A
  have x:=aC (f-1) (by omega);have y:=aC ((e-f)+1) (by omega);refine ⟨(f-1),o,((e-f)+1),⟨i,t,G,by unfold EB;omega⟩,by omega,by grind,by grind,by omega,?_⟩;exact fP [.z m,.i e,.i u,.i f,.z o,.i (e-f),.z q,.i j,.i (f-1),.i ((e-f)+1)] [] 0 [.cm .leq (.i 2) (.l 0) false,.ar .sub (.i 1) (.i 3) (.i 5),.cm .lss (.i 7) (.l 0) true,.ar .sub (.i 3) (.l 1) (.i 8),.ar .add (.i 5) (.l 1) (.i 9)] [⟨73,[eE 0 1],aA 2⟩,⟨74,[eE 0 1],aA 3⟩,⟨116,[.b false,.n (.m 0)],aL 4⟩,⟨31,[gz 3],aL 6⟩,⟨44,[eE 4 5,.d (.z 6) (.l (-2))],aA 7⟩] [eE 0 1] (.t3 (aA 8) (eE 4 9) (gz 0)) (by kernel_rfl) (.k F (.k p (.k g (.k x (.k y .nil))))) (.k D (.k E (.k B (.k J (.k I .nil)))))
 ·have g:=decide_eq_false A
  refine ⟨f,o,(e-f),H,by omega,by grind,by grind,by omega,?_⟩;exact fP [.z m,.i e,.i u,.i f,.z o,.i (e-f),.z q,.i j] [] 0 [.cm .leq (.i 2) (.l 0) false,.ar .sub (.i 1) (.i 3) (.i 5),.cm .lss (.i 7) (.l 0) false] [⟨73,[eE 0 1],aA 2⟩,⟨74,[eE 0 1],aA 3⟩,⟨116,[.b false,.n (.m 0)],aL 4⟩,⟨31,[gz 3],aL 6⟩,⟨44,[eE 4 5,.d (.z 6) (.l (-2))],aA 7⟩] [eE 0 1] (.t3 (aA 3) (eE 4 5) (gz 0)) (by kernel_rfl) (.k F (.k p (.k g .nil))) (.k D (.k E (.k B (.k J (.k I .nil)))))
end
section
open Go.RowKit Go.Ev
variable {e x m p:Int} {i K N j q:Nat} {L:List SD} {ps B:List BD} {pr:List (Nat×List Nat)} {f:Option FuncId} {ks k1 k2:List Kd} {al:List Alt} {b c:Bool}
def eb:BD:= .i (-65536) 65536
def ww:BD:= .i 0 4096
def m64:BD:= .i (-9223372036854775808) 9223372036854775807
def b1 (r:Nat->Bool->Kd) (a:List (Nat×BD)) (d:List (Nat×List Nat)) (n:Nat):List Alt:= [⟨[],a,d,r n true⟩,⟨[],[],[],r n false⟩]
def Ap (j:Nat):Kd:= .s (.z j) (.z (j+1))
def ajH:List BD->Cn
 | [.z a b c i,.i l h]=>cond (Nat.ble i 1000000) ⟨some 80,[.z a b c i,.i l h],[],[kz 0,ki 1],dK [zz 65536,eb,.i 0 3] (.t (kd 2) (ki 4))⟩ jO
 |_=>jO
def ajI:List BD->Cn
 | [.z a b c i,.i l h]=>cond (Nat.ble i 10000000) ⟨some 124,[.z a b c i,.i l h],[],[kd 0],b1 (fun _ b=> .b b) [(0,zz 65536),(1,eb)] [(3,[0,1])] 0⟩ jO
 |_=>jO
def avg:List BD->Cn:=fun _=>⟨some 44,[zz 65536,eb,zz 65536,eb],[],[kd 0,kd 2],[⟨[.i (-1) 0],[],[(1,[0,1,2,3])],ki 4⟩,⟨[],[],[],.i (.l 1)⟩]⟩
def avh:List BD->Cn:=fun _=>⟨some 44,[zz 65536,eb,zz 65536,eb],[],[kd 0,kd 2],[⟨[.i (-1) 1],[],[],ki 4⟩]⟩
def avi:List BD->Cn:=fun _=>⟨some 74,[zz 65536,eb],[],[kd 0],[⟨[.i (-65536) 131072],[],[(5,[0,1,2])],ki 2⟩]⟩
def avj:List BD->Cn:=fun _=>⟨some 74,[zz 65536,eb],[(4,[0,1]),(3,[0,1])],[kd 0],[⟨[.i (-8192) 2048],[(0,zz 10240),(1,.i (-8192) 2048)],[(5,[0,1,2])],ki 2⟩]⟩
def avk:List BD->Cn:=fun _=>⟨some 75,[zz 65536,eb,zz 65536,eb],[],[kd 0,kd 2],dK [zz 200000,zz 200000,eb] (.t3 (kz 4) (kz 5) (ki 6))⟩
def Ox (s:Int) (b:Bool) (p q:BD):Alt:=⟨[],[(0,p),(2,q)],[],.t (.i (.l s)) (.b b)⟩
def zm:BD:= .z true false false 65536
def z0:BD:= .z false true false 65536
def zp:BD:= .z false false true 65536
def avl:List BD->Cn:=fun _=>⟨some 256,[zz 65536,eb,zz 65536,eb],[(1,[0,1,2,3])],[.v (.z 0) (.i 1) (.z 2) (.i 3)],[Ox (-1) true zm zm,Ox 0 true z0 z0,Ox 1 true zp zp,Ox 0 false zm z0,Ox 0 false zm zp,Ox 0 false z0 zp]⟩
def zn:BD:= .z true false true 65536
def avm:List BD->Cn:=fun _=>⟨some 256,[zz 65536,eb,zz 65536,eb],[],[.v (.z 0) (.i 1) (.z 2) (.i 3)],[⟨[.i (-1) 1],[(0,zn),(2,zn)],[],.t (ki 4) (.b true)⟩,⟨[],[],[],.t (.i (.l 0)) (.b true)⟩,⟨[],[],[],.t (.i (.l 0)) (.b false)⟩]⟩
def ajJ:List BD->Cn
 | [.z a b c i,.n true j]=>cond (Nat.ble i 10000000&&Nat.ble j 10000000) ⟨some 115,[.z a b c i,.n true j],[],[kz 0,kn 1],dK [.z a b c i,.n true j] (.r (.z 2) (.n 3))⟩ jO
 |_=>jO
def ajK:List BD->Cn
 | [.n p i]=>cond (Nat.ble i 20000000) ⟨some 107,[.n p i],[],[kn 0],[⟨[],[],[],kn 0⟩]⟩ jO
 |_=>jO
def avn:List BD->Cn:=fun _=>⟨some 237,[.i 16 90000],[],[ki 0],dK [zz 300100,zz 300100] (Ap 1)⟩
def avo:List BD->Cn:=fun _=>⟨some 238,[.i 0 90000],[],[ki 0],dK [zz 300000,zz 300000] (Ap 1)⟩
def avp:List BD->Cn:=fun _=>⟨some 309,[zz 65536,eb,.i 0 17000],[],[kd 0,ki 2],dK [zz 500000,zz 500000] (Ap 3)⟩
def avq:List BD->Cn:=fun _=>⟨some 332,[zz 65536,eb,.i 24 10300],[(7,[0,1])],[kd 0,ki 2],dK [zz 300000,zz 300000] (Ap 3)⟩
def avr:List BD->Cn:=fun _=>⟨some 299,[zp,eb,.i (-1000000) 1000000,.i 0 17000],[(6,[0,1])],[kd 0,ki 2,ki 3],dK [zz 500000,zz 500000] (Ap 4)⟩
def avs:List BD->Cn:=fun _=>⟨some 245,[zz 65536,eb,.i 0 8000],[],[kd 0,ki 2],[⟨[],[],[(8,[0,1])],.b false⟩,⟨[],[],[],.b true⟩]⟩
def avt:List BD->Cn:=fun _=>⟨some 297,[zp,eb],[],[kd 0],[⟨[.i (-200000) 200000,zp,eb],[],[(6,[3,4])],.t3 (ki 2) (kd 3) (.i (.l 0))⟩]⟩
def avu:List BD->Cn:=fun _=>⟨some 285,[],[],[.i (.l 1)],[⟨[zz 65536,eb],[],[(3,[0,1]),(4,[0,1])],kd 0⟩]⟩
def ajL:List BD->Cn
 | [.z a b c i,.n p j]=>cond (Nat.ble i 1000000&&Nat.ble j 1000000) ⟨some 225,[.z a b c i,.n p j],[],[.r (.z 0) (.n 1)],b1 (fun _ b=> .b b) [(0,zz 1024),(1,.n false 1024)] [] 0⟩ jO
 |_=>jO
def avv:List BD->Cn:=fun _=>⟨none,[zz 65536,eb,zz 65536],[(8,[0,1]),(8,[2,1]),(9,[0,2]),(3,[0,1])],[],[⟨[],[],[(7,[0,1])],.nil⟩]⟩
def avw:List BD->Cn:=fun _=>⟨none,[zz 65536,eb,zz 65536,eb],[(1,[0,1,2,3]),(8,[2,3])],[],[⟨[],[],[(8,[0,1])],.nil⟩]⟩
def avx:List BD->Cn:=fun _=>⟨none,[.i 1 1,.n false 1024],[(10,[0,1])],[],[⟨[],[(1,.n true 1024)],[],.nil⟩]⟩
def avy:List BD->Cn:=fun _=>⟨none,[z0,eb],[],[],[⟨[],[],[(4,[0,1])],.nil⟩]⟩
def avz:List BD->Cn:=fun _=>⟨none,[zz 65536,.i (-8192) 65536,.i (-65536) 2048],[(5,[0,1,2])],[],[⟨[],[],[(4,[0,1])],.nil⟩]⟩
def dv (g:Bz 65536 x) (a: -65536<=e) (d:e<=65536):DV x e:=⟨_,aq _,g,a,d⟩
def De (h:DV x e):Bz 65536 x/\ -65536<=e/\e<=65536:=by
 obtain ⟨k,d,g,a⟩:=h;exact ⟨C3 g d,a⟩
def acJ (h:Zb N x):Bz N x:=by
 obtain ⟨k,a,d⟩:=h;exact C3 d a
def sR:bo:=mk ajH fun l=>by
 unfold ajH;split
 ·refine hc fun o L a _=> ?_
  obtain ⟨x,L,rfl,C,s,a⟩:=m5 a;obtain ⟨e,L,rfl,y,A,a⟩:=qq a;obtain rfl:L= []:=a;obtain ⟨t,d,D,u⟩:=RO (e:=e) s (bq o);obtain ⟨g,h,k⟩:=De d.1;exact ⟨_,jc _,[.z t.1,.i t.2.1,.i t.2.2],pS sQ g (oU h k (oU d.2.1 d.2.2 gH)),jN,iG,jt u⟩
 ·exact rT
def avA:bo:=mk ajI fun l=>by
 unfold ajI;split
 ·refine hc fun u L d _=> ?_
  obtain ⟨x,L,rfl,C,y,d⟩:=m5 d;obtain ⟨e,L,rfl,z,A,d⟩:=qq d;obtain rfl:L= []:=d;have g:=ahA (e:=e) y (bq u);cases a:En x e with
  |false=>rw [a] at g;exact ⟨_,aw _ (jc _),[],gH,jN,iG,jt g⟩
  |true=>
   rw [a] at g;obtain ⟨k,o,s⟩:=De (ahW a);refine ⟨_,aE,[],gH,C5 ⟨sQ,k⟩ (C5 ⟨o,s⟩ jN),yK fun t=> ?_,jt g⟩;have h:x=0:=t;unfold En at a;rw [if_pos h] at a;exact of_decide_eq_true a
 ·exact rT
def tz (h:dU (zz 65536::eb::B) L): ∃x e M,L= .z x:: .i e::M/\DV x e/\dU B M:=by
 obtain ⟨x,L,rfl,l,k,a⟩:=m5 h;obtain ⟨e,L,rfl,d,g,a⟩:=qq a;exact ⟨x,e,L,rfl,dv k d g,a⟩
def ajM (m e n f:Int): -1<=tR m e n f/\tR m e n f<=1:=by
 have a: -1<=m.sign/\m.sign<=1:=by
  grind
 unfold tR;split
 ·omega
 ·split
  ·omega
  ·split
   ·omega
   ·exact ai6 _ _
def acK:bo:=mk avg fun _ L a _=>by
 obtain ⟨m,e,L,rfl,k,a⟩:=tz a;obtain ⟨n,f,L,rfl,l,a⟩:=tz a;obtain rfl:L= []:=a;obtain ⟨c,rfl,d⟩:=NH k l;have:=ajM m e n f;by_cases h:tR m e n f<=0
 ·exact ⟨_,aE,[.i (tR m e n f)],oU this.1 h gH,jN,yK h,jt d⟩
 ·have g:tR m e n f=1:=by omega
  rw [g] at d;exact ⟨_,aw _ (jc _),[],gH,jN,iG,jt d⟩
def avB:bo:=mk avh fun _ L a _=>by
 obtain ⟨m,e,L,rfl,d,a⟩:=tz a;obtain ⟨n,f,L,rfl,g,a⟩:=tz a;obtain rfl:L= []:=a;obtain ⟨c,rfl,h⟩:=NH d g;have:=ajM m e n f;exact ⟨_,jc _,[.i (tR m e n f)],oU this.1 this.2 gH,jN,iG,jt h⟩
def avC:bo:=mk avk fun _ L a _=>by
 obtain ⟨m,e,L,rfl,o,a⟩:=tz a;obtain ⟨n,f,L,rfl,s,a⟩:=tz a;obtain rfl:L= []:=a;obtain ⟨E,F,G⟩:=De o;obtain ⟨H,I,J⟩:=De s;have d: ∀ {C:Nat},C=131072-> ∃x y,Bz 200000 x/\Bz 200000 y/\bJ Tryz.prog bw 75 [iR m e,iR n f] (Ef (dN x) (dN y) (bj (.int .i64 (min e f)))):=fun {C} M=>by
  obtain ⟨k,P,A,t⟩:=o;obtain ⟨j,O,D,u⟩:=s;obtain ⟨x,y,g,h,_,_,l⟩:=ahC (C:=C) (by omega) (by omega) A D t u;exact ⟨x,y,C3 g,C3 h,l⟩
 obtain ⟨x,y,g,h,l⟩:=d rfl;exact ⟨_,jc _,[.z x,.z y,.i (min e f)],pS sQ g (pS sQ h (oU (by omega) (by omega) gH)),jN,iG,jt l⟩
def avD (h:DV m e): -65536<=ko m e/\ko m e<=131072:=by
 obtain ⟨k,l,a,d,g⟩:=h;have:=Nf a;unfold ko;omega
def ajN:bo:=mk avi fun _ L a _=>by
 obtain ⟨m,e,L,rfl,d,a⟩:=tz a;obtain rfl:L= []:=a;obtain ⟨t,g,h⟩:=abQ d;have:=avD d;exact ⟨_,jc _,[.i t],oU (by omega) (by omega) gH,jN,yK g,jt h⟩
def bzz (k:Nat):Bz k 0:=aO (by decide)
def avE (h:eN m.natAbs<=K:=by omega):Bz K m:=az (Et _) (aG (by decide) h)
def avF (h:0<K:=by decide):Bz K 1:=Nat.one_lt_two_pow (by omega)
def ajO :Bz K 0:=Nat.two_pow_pos K
def avG (d:m≠0-> -8192<=e/\ko m e<=2048) (a:m=0->e=0):(-8192<=ko m e/\ko m e<=2048)/\Bz 10240 m/\ -8192<=e/\e<=2048:=by
 by_cases h:m=0
 ·have:=a h
  subst h;refine ⟨by unfold ko;rw [if_pos rfl];omega,bzz _,by omega,by omega⟩
 ·have g:=d h
  have k:=X4 (e:=e) h;have l:1<=eN m.natAbs:=by
   rcases cC (eN m.natAbs) with q|q
   ·have:=Et m.natAbs;rw [q] at this;omega
   ·exact q
  exact ⟨by omega,avE,by omega,by omega⟩
def acL:bo:=mk avj fun _ L a d=>by
 obtain ⟨m,e,L,rfl,g,a⟩:=tz a;obtain rfl:L= []:=a;obtain ⟨t,h,k⟩:=abQ g;have s:RP 4 [m,e]:=d _ aE;have u:RP 3 [m,e]:=d _ (aw _ aE);obtain ⟨y,l,o⟩:=avG s u;exact ⟨_,jc _,[.i t],oU (by omega) (by omega) gH,C5 ⟨sQ,l⟩ (C5 o jN),yK h,jt k⟩
def avH {n f:Int} (h:tR m e n f<=0):m.sign<=n.sign:=by
 unfold tR at h;omega
def avI:bo:=mk avl fun _ L u D=>by
 obtain ⟨m,e,L,rfl,A,u⟩:=tz u;obtain ⟨n,f,L,rfl,C,u⟩:=tz u;obtain rfl:L= []:=u;have G:m.sign<=n.sign:=avH (D _ aE:tR m e n f<=0);obtain ⟨s,o,k⟩:=ahY A C;have b1:=(De A).1;have l:=(De C).1;have sm: ∀ {x:Int},x<0->Sg true false false x:=fun h=>⟨fun _=>rfl,fun t=>by omega,fun t=>by omega⟩
 have s0: ∀ {x:Int},x=0->Sg false true false x:=fun h=>⟨fun t=>by omega,fun _=>rfl,fun t=>by omega⟩
 have y: ∀ {x:Int},0<x->Sg false false true x:=fun h=>⟨fun t=>by omega,fun t=>by omega,fun _=>rfl⟩
 have g: ∀ {p q:BD},p.ok (.z m)->q.ok (.z n)-> ∀x∈ [(0,p),(2,q)],x.2.ok (aU [SD.z m,.i e,.z n,.i f] x.1):=fun E F=>C5 E (C5 F jN)
 rcases dp m 0 with q|q|q<;>rcases dp n 0 with r|r|r
 ·have a:=cF q;have d:=cF r
  rw [o,a,d] at k;exact ⟨_,aE,[],gH,g ⟨sm q,b1⟩ ⟨sm r,l⟩,iG,jt k⟩
 ·have a:=cF q;have d:n.sign=0:=by rw [r];rfl
  rw [o,a,d] at k;exact ⟨_,aw _ (aw _ (aw _ aE)),[],gH,g ⟨sm q,b1⟩ ⟨s0 r,l⟩,iG,jt k⟩
 ·have a:=cF q;have d:=cO r
  rw [o,a,d] at k;exact ⟨_,aw _ (aw _ (aw _ (aw _ aE))),[],gH,g ⟨sm q,b1⟩ ⟨y r,l⟩,iG,jt k⟩
 ·exfalso;have a:m.sign=0:=by rw [q];rfl
  have d:=cF r;omega
 ·have a:m.sign=0:=by rw [q];rfl
  have d:n.sign=0:=by rw [r];rfl
  rw [o,a,d] at k;exact ⟨_,aw _ aE,[],gH,g ⟨s0 q,b1⟩ ⟨s0 r,l⟩,iG,jt k⟩
 ·have a:m.sign=0:=by rw [q];rfl
  have d:=cO r;rw [o,a,d] at k;exact ⟨_,aw _ (aw _ (aw _ (aw _ (aw _ aE)))),[],gH,g ⟨s0 q,b1⟩ ⟨y r,l⟩,iG,jt k⟩
 ·exfalso;have a:=cO q;have d:=cF r;omega
 ·exfalso;have a:=cO q;have d:n.sign=0:=by rw [r];rfl
  omega
 ·have a:=cO q;have d:=cO r
  rw [o,a,d] at k;exact ⟨_,aw _ (aw _ aE),[],gH,g ⟨y q,b1⟩ ⟨y r,l⟩,iG,jt k⟩
def avJ:bo:=mk avm fun _ L d _=>by
 obtain ⟨m,e,L,rfl,k,d⟩:=tz d;obtain ⟨n,f,L,rfl,l,d⟩:=tz d;obtain rfl:L= []:=d;obtain ⟨s,y,a⟩:=ahY k l;rw [y] at a;by_cases g:m.sign=n.sign
 ·rw [decide_eq_true g,if_neg (fun q=>q g)] at a
  by_cases h:m.sign=0
  ·rw [h] at a
   exact ⟨_,aw _ aE,[],gH,jN,iG,jt a⟩
  ·have u: ∀ {x:Int},x.sign≠0->Sg true false true x:=fun z=>⟨fun _=>rfl,fun t=>absurd (by rw [t];rfl) z,fun _=>rfl⟩
   have o: -1<=m.sign/\m.sign<=1:=by
    rcases dp m 0 with q|q|q
    ·rw [cF q];omega
    ·rw [q,Int.sign_zero];omega
    ·rw [cO q];omega
   exact ⟨_,aE,[.i m.sign],oU o.1 o.2 gH,C5 ⟨u h,(De k).1⟩ (C5 ⟨u (by rw [<-g];exact h),(De l).1⟩ jN),iG,jt a⟩
 ·rw [decide_eq_false g,if_pos g] at a
  exact ⟨_,aw _ (aw _ aE),[],gH,jN,iG,jt a⟩
def wH:bo:=mk ajJ fun l=>by
 unfold ajJ;split
 ·refine hc fun F L g _=> ?_
  obtain ⟨x,L,rfl,u,P,g⟩:=m5 g;obtain ⟨y,L,rfl,G,Q,g⟩:=sP g;obtain rfl:L= []:=g;obtain ⟨z,d,I,J,M,C,D,E⟩:=arD P Q (C6 F).1 (C6 F).2 (G rfl);refine ⟨_,jc _,[.z z,.n d],pS ?_ I (xK (fun _=>M) J gH),jN,iG,jt E⟩;have H:0<Nat.gcd x.natAbs y:=iK _ (G rfl);have A:Nat.gcd x.natAbs y∣x.natAbs:=Nat.gcd_dvd_left _ _;have k:x≠0->0<x.natAbs/Nat.gcd x.natAbs y:=fun h=>Nat.div_pos (Nat.le_of_dvd (by omega) A) H
  have a:z=jm (decide (x<0)) (x.natAbs/Nat.gcd x.natAbs y):=C;revert a k;generalize x.natAbs/Nat.gcd x.natAbs y=w;intro k a;unfold jm at a;by_cases s:x<0
  ·have:=k (by omega)
   rw [decide_eq_true s] at a;have D:z= -((w:Nat):Int):=a;exact ⟨fun _=>u.1 s,fun t=>by omega,fun t=>by omega⟩
  ·rw [decide_eq_false s] at a
   have D:z=((w:Nat):Int):=a;refine ⟨fun t=>by omega,fun t=>u.2.1 ?_,fun t=>u.2.2 ?_⟩
   ·by_cases o:x=0
    ·exact o
    ·have:=k o;omega
   ·by_cases o:x=0
    ·exfalso
     have E:Nat.gcd x.natAbs y∣x.natAbs:=A;subst o;have O:abC 0 y=0:=by unfold abC jm;simp
     rw [O] at C;omega
    ·omega
 ·exact rT
def S5:bo:=mk ajK fun l=>by
 unfold ajK;split
 ·refine hc fun d L a _=> ?_
  obtain ⟨x,L,rfl,h,g,a⟩:=sP a;obtain rfl:L= []:=a;exact ⟨_,jc _,[],gH,jN,iG,jt (ahz g (bq d))⟩
 ·exact rT
def S6 {c:Cn} {a b:Int} {f:FuncId} {r:Kd} (l:c.al=dK [zz N,zz N] r) (o:c.f=some f) (d:Zb N a) (k:Zb N b) (h:bJ Tryz.prog bw f (c.ks.map (Kd.rel L)) (r.rel (L++ [.z a,.z b]))):
 ∃x∈c.al,∃M,dU x.nb M/\(∀y∈x.rf,y.2.ok (aU L y.1))/\(∀y∈x.rr,nH (L++M) y)/\ ∀f,c.f=some f->bJ Tryz.prog bw f (c.ks.map (Kd.rel L)) (x.r.rel (L++M)):=by
 rw [l];exact ⟨_,jc _,[.z a,.z b],pS sQ (acJ d) (pS sQ (acJ k) gH),jN,iG,fun g s=>by simp_all⟩
def avK:bo:=mk avn fun _ L a _=>by
 obtain ⟨s,L,rfl,d,g,a⟩:=qq a;obtain rfl:L= []:=a;obtain ⟨x,y,h,k,_,l⟩:=XF (s:=s) ⟨d,g⟩;exact S6 rfl rfl h k l
def Ffe:bo:=mk avo fun _ L a _=>by
 obtain ⟨s,L,rfl,d,g,a⟩:=qq a;obtain rfl:L= []:=a;obtain ⟨x,y,h,k,l⟩:=f_e (s:=s) ⟨d,g⟩;exact S6 rfl rfl h k l
def avL:bo:=mk avp fun _ L a _=>by
 obtain ⟨m,e,L,rfl,h,a⟩:=tz a;obtain ⟨s,L,rfl,d,g,a⟩:=qq a;obtain rfl:L= []:=a;obtain ⟨x,y,k,l,o⟩:=auP (s:=s) h ⟨d,g⟩;exact S6 rfl rfl k l o
def avM:bo:=mk avq fun _ L a k=>by
 obtain ⟨m,e,L,rfl,h,a⟩:=tz a;obtain ⟨s,L,rfl,d,g,a⟩:=qq a;obtain rfl:L= []:=a;obtain ⟨x,y,l,o,t⟩:=au8 (s:=s) h (k _ aE:RP 7 [m,e]) ⟨d,g⟩;exact S6 rfl rfl l o t
def ajP (h:dU (zp::eb::B) L): ∃x e M,L= .z x:: .i e::M/\DV x e/\0<x/\dU B M:=by
 obtain ⟨x,L,rfl,d,l,a⟩:=m5 h;obtain ⟨e,L,rfl,g,k,a⟩:=qq a;refine ⟨x,e,L,rfl,dv l g k,?_,a⟩;rcases dp x 0 with q|q|q
 ·cases d.1 q
 ·cases d.2.1 q
 omega
def avN:bo:=mk avr fun _ L a t=>by
 obtain ⟨m,e,L,rfl,h,u,a⟩:=ajP a;obtain ⟨k,L,rfl,d,g,a⟩:=qq a;obtain ⟨s,L,rfl,l,o,a⟩:=qq a;obtain rfl:L= []:=a;have r:RP 6 [m,e]:=t _ aE;obtain ⟨x,y,z,A,C⟩:=auQ (s:=s) (k:=k) h u r.1 r.2 ⟨d,g⟩ ⟨l,o⟩;exact S6 rfl rfl z A C
def ajQ:bo:=mk avs fun _ L a _=>by
 obtain ⟨m,e,L,rfl,h,a⟩:=tz a;obtain ⟨n,L,rfl,g,k,a⟩:=qq a;obtain rfl:L= []:=a;obtain ⟨b,l,d⟩:=avd (n:=n) h ⟨g,k⟩;cases b
 ·exact ⟨_,aE,[],gH,jN,yK (l rfl),jt d⟩
 ·exact ⟨_,aw _ (jc _),[],gH,jN,iG,jt d⟩
def avO:bo:=mk avt fun _ L d _=>by
 obtain ⟨m,e,L,rfl,h,u,d⟩:=ajP d;obtain rfl:L= []:=d;obtain ⟨k,a,b,y,E,A,C,g,D⟩:=ave h u;obtain ⟨l,o,s⟩:=De y;exact ⟨_,jc _,[.i k,.z a,.i b],oU g.1 g.2 (pS ⟨fun t=>by omega,fun t=>by omega,fun _=>rfl⟩ l (oU o s gH)),jN,yK ⟨A,C⟩,jt D⟩
def ajR (o:Bz i p) (s:Bn j q) (hi:i<=10000000:=by decide) (y:j<=10000000:=by decide):bJ Tryz.prog bw 275 [sI p q] (bj (.int .i64 (max ((eN p.natAbs:Nat):Int) ((eN q:Nat):Int)))):=by
 obtain ⟨b1,t,h,d⟩:=F7 o.abs;obtain ⟨a,u,l,g⟩:=F7 s;rw [<-h,<-l];exact fP [.z p,.i (b1:Nat),.n q,.i (a:Nat),.i (max (b1:Nat) (a:Nat))] [] 0 [.mx true (.i 1) (.i 3) (.i 4)] [⟨127,[.n (.m 0)],.i (.i 1)⟩,⟨127,[.n (.n 2)],.i (.i 3)⟩] [.r (.z 0) (.n 2)] (.i (.i 4)) (by kernel_rfl) (.k rfl .nil) (.k d (.k g .nil))
def avP (o:Bz i p) (s:Bn j q) (hi:i<=10000000) (g:j<=10000000): ∃b:Bool,(b=true->Zb 1024 p/\Nb 1024 q)/\bJ Tryz.prog bw 225 [sI p q] (bj (.bool b)):=by
 have c1:=ajR o s hi g;obtain ⟨d,a⟩:=pQ (decide ((max ((eN p.natAbs:Nat):Int) ((eN q:Nat):Int))<=1024));refine ⟨d,fun h=> ?_,?_⟩
 ·rw [h] at a
  have t:=of_decide_eq_true a;exact ⟨⟨eN p.natAbs,by omega,Et _⟩,⟨eN q,by omega,Et _⟩⟩
 exact fP [.z p,.n q,.i (max ((eN p.natAbs:Nat):Int) ((eN q:Nat):Int))] [] 0 [.cm .leq (.i 2) (.l 1024) d] [⟨275,[.r (.z 0) (.n 1)],.i (.i 2)⟩] [.r (.z 0) (.n 1)] (.b d) (by cases d<;>kernel_rfl) (by cases d<;>exact (.k a .nil)) (by cases d<;>(exact (.k c1 .nil)))
def avQ:bo:=mk ajL fun l=>by
 unfold ajL;split
 ·refine hc fun h L a _=> ?_
  obtain ⟨x,L,rfl,C,o,a⟩:=m5 a;obtain ⟨y,L,rfl,D,s,a⟩:=sP a;obtain rfl:L= []:=a;have d:=C6 h;obtain ⟨b,t,g⟩:=avP o s (aK d.1 (by decide)) (aK d.2 (by decide));cases b
  ·exact ⟨_,aw _ (jc _),[],gH,jN,iG,jt g⟩
  ·obtain ⟨u,k,z,A⟩:=t rfl
   exact ⟨_,aE,[],gH,C5 ⟨sQ,acJ u⟩ (C5 ⟨Oa,Lo A z⟩ jN),iG,jt g⟩
 ·exact rT
def X6 {a:List (Nat×List Nat)} (h: ∀L,dU ps L->(∀x∈pr,nH L x)-> ∀x∈a,nH L x):Holds ⟨none,ps,pr,[],[⟨[],[],a,.nil⟩]⟩:=fun L g k=>
 ⟨_,jc _,[],gH,jN,by simp_all,fun f d=>by cases d⟩
def avR:bo:=mk avv fun _=>X6 fun L a g=>by
 obtain ⟨m,e,L,rfl,h,a⟩:=tz a;obtain ⟨x,L,rfl,_,_,a⟩:=m5 a;obtain rfl:L= []:=a;have o:RP 8 [m,e]:=g _ aE;have s:RP 8 [x,e]:=g _ (aw _ aE);have k:RP 9 [m,x]:=g _ (aw _ (aw _ aE));have t:RP 3 [m,e]:=g _ (aw _ (aw _ (aw _ aE)));refine yK (ajG t (by decide) fun l=> ?_);rcases dp m 0 with d|d|d
 ·have:=s (by have:x= -m:=k;omega)
  rw [show x= -m from k,ajF] at this;exact this
 ·exact absurd d l
 ·exact o d
def avS:bo:=mk avw fun _=>X6 fun L a d=>by
 obtain ⟨m,e,L,rfl,o,a⟩:=tz a;obtain ⟨n,f,L,rfl,s,a⟩:=tz a;obtain rfl:L= []:=a;have k:tR m e n f<=0:=d _ aE;have l:0<n->ko n f<=13:=d _ (aw _ aE);refine yK (show RP 8 [m,e] from fun h=> ?_);obtain ⟨g,t⟩:=X3 k h;have:=l g;omega
def avT:bo:=mk avu fun _ L o _=>by
 obtain rfl:L= []:=o;obtain ⟨z,g,h,c1⟩:=F9 (n:=1);obtain ⟨t,y,s,u⟩:=RO (e:=0) g (by decide);have a:t=(1,0,0):=by
  rw [s,h];show CO 1 0=_;unfold CO;rw [if_neg (by decide),if_neg (by decide),show qA (Int.natAbs 1)=0 from Zk (t:=0) (m:=0)];decide
 have c:bJ Tryz.prog bw 285 [bj (.int .i64 1)] (iR t.1 t.2.1):=fP [.z z,.z t.1,.i t.2.1,.i t.2.2] [] 0 [] [⟨31,[.i (.l 1)],.z (.z 0)⟩,⟨80,[.z (.z 0),.i (.l 0)],.t (.d (.z 1) (.i 2)) (.i (.i 3))⟩] [.i (.l 1)] (.d (.z 1) (.i 2)) (by kernel_rfl) .nil (.k c1 (.k u .nil));subst a;refine ⟨_,jc _,[.z 1,.i 0],pS sQ (avF) (oU (by decide) (by decide) gH),jN,aiL (show RP 3 [1,0] from fun _=>rfl) (yK (show RP 4 [1,0] from fun _=>⟨by decide,?_⟩)),jt c⟩;decide
def Aq:Kd->Kd
 | .z (.s _ j)=> .z (.z j)
 | .d (.s _ j) e=> .d (.z j) e
 | .r (.s _ j) q=> .r (.z j) q
 |k=>k
def ajS (L:List SD) (k:Kd):(Aq k).rel L=k.rel L:=by
 cases k<;>first|rfl|(rename_i a;cases a<;>rfl)|(rename_i a _;cases a<;>rfl)
def ajT {K:List SD} (h: ∀j,(aU L j).zv=(aU K j).zv/\(aU L j).nv=(aU K j).nv/\(aU L j).iv=(aU K j).iv/\(aU L j).ar=(aU K j).ar) (k:Kd):k.rel L=k.rel K:=by
 have o: ∀a:KZ,a.val L=a.val K:=fun a=>by cases a<;>first|rfl|exact (h _).1
 have l: ∀a:KN,a.val L=a.val K:=fun a=>by cases a<;>first|rfl|exact (h _).2.1
 have g: ∀a:KI,a.val L=a.val K:=fun a=>by
  cases a<;>first|rfl|exact (h _).2.2.1|skip
  rename_i j;show ((mB (aU L j).nv:Nat):Int)=((mB (aU K j).nv:Nat):Int);simp_all
 have d: ∀j,(aU L j).ar=(aU K j).ar:=fun j=>(h j).2.2.2
 induction k<;>simp only [Kd.rel,o,l,g,d, *]
def Oy:List Alt->Bool
 | []=>true
 |a::l=>(a.rf.all fun x=>Nat.blt 0 x.1)&&Oy l
def ajU: ∀ {l:List Alt},Oy l=true-> ∀a∈l,∀x∈a.rf,0<x.1
 |b::l,h,a,o,x,d=>by
  obtain ⟨g,k⟩:=aY (show ((b.rf.all fun x=>Nat.blt 0 x.1)&&Oy l)=true from h);rcases bu.1 o with rfl|q
  ·exact bq (ef.1 g x d)
  ·exact ajU k a q x d
def acM {g:Bool} (h:Holds ⟨f,.y g b c i::ps,pr,k1,al⟩) (e:k1.map Aq=ks.map Aq) (H:Oy al=true) {M:List SD} (d:decide (x<0)=g) (E:Sg true b c x) (Q:Bz i x) (I:dU ps M) (J: ∀y∈pr,nH (.z x::M) y):
 ∃a∈al,∃N,dU a.nb N/\(∀y∈a.rf,y.2.ok (aU (.z x::M) y.1))/\(∀y∈a.rr,nH ((.z x::M)++N) y)/\ ∀s,f=some s->bJ Tryz.prog bw s (ks.map (Kd.rel (.z x::M))) (a.r.rel ((.z x::M)++N)):=by
 have sm: ∀(N:List SD) j,(aU (SD.zs x g d::N) j).zv=(aU (SD.z x::N) j).zv/\(aU (SD.zs x g d::N) j).nv=(aU (SD.z x::N) j).nv/\(aU (SD.zs x g d::N) j).iv=(aU (SD.z x::N) j).iv/\(aU (SD.zs x g d::N) j).ar=(aU (SD.z x::N) j).ar:=fun N j=>by cases j<;>exact ⟨rfl,rfl,rfl,rfl⟩
 have F: ∀(N:List SD) (y:Nat×List Nat),nH (SD.zs x g d::N) y↔nH (SD.z x::N) y:=fun N y=>by
  have: ∀j,(aU (SD.zs x g d::N) j).val=(aU (SD.z x::N) j).val:=fun j=>by cases j<;>rfl
  unfold nH;simp_all
 obtain ⟨a,D,N,R,S,T,U⟩:=h (.zs x g d::M) ⟨_,_,rfl,⟨rfl,⟨fun q=>by grind,E.2.1,E.2.2⟩,Q⟩,I⟩ fun y o=>(F M y).2 (J y o)
 refine ⟨a,D,N,R,fun y o=> ?_,fun y o=>(F (M++N) y).1 (T y o),fun s O=> ?_⟩
 ·have A:=ajU H a D y o
  have C:=S y o;obtain ⟨n,P⟩: ∃n,y.1=n+1:=⟨y.1-1,by omega⟩;rw [P] at C⊢;exact C
 ·have A:=U s O
  have G:k1.map (Kd.rel (.zs x g d::M))=ks.map (Kd.rel (.z x::M)):=by
   have u: ∀l:List Kd,l.map (Kd.rel (.zs x g d::M))=(l.map Aq).map (Kd.rel (.z x::M)):=fun l=>by
    rw [lM];exact dy fun k _=>by show _=(Aq k).rel _;rw [ajS];exact ajT (sm M) k
   have v: ∀l:List Kd,l.map (Kd.rel (.z x::M))=(l.map Aq).map (Kd.rel (.z x::M)):=fun l=>by
    rw [lM];exact dy fun k _=>by show _=(Aq k).rel _;rw [ajS]
   grind
  have t:bJ Tryz.prog bw s (k1.map (Kd.rel (.zs x g d::M))) (a.r.rel (.zs x g d::(M++N))):=A;rw [G,ajT (sm (M++N)) a.r] at t;grind
def LP (A B:bo) (u:A.c []=⟨f,.y true b c i::ps,pr,k1,al⟩) (C:B.c []=⟨f,.y false b c i::ps,pr,k2,al⟩) (h:(A.ok []&&B.ok [])=true) (e:k1.map Aq=ks.map Aq/\k2.map Aq=ks.map Aq) (a:Oy al=true):bo:=
 mk (fun _=>⟨f,.z true b c i::ps,pr,ks,al⟩) fun _ L D l=>by
  have d:=A.h [] (aY h).1;have g:=B.h [] (aY h).2;rw [u] at d;rw [C] at g;obtain ⟨x,M,rfl,s,t,k⟩:=m5 D;by_cases o:x<0
  ·exact acM d e.1 a (decide_eq_true o) s t k l
  ·exact acM g e.2 a (decide_eq_false o) s t k l
def avU (B:bo) (k:B.c []=⟨f,.y false b c i::ps,pr,k2,al⟩) (h:B.ok []=true) (e:k2.map Aq=ks.map Aq) (g:Oy al=true):bo:=
 mk (fun _=>⟨f,.z false b c i::ps,pr,ks,al⟩) fun _ L l s=>by
  have d:=B.h [] h;rw [k] at d;obtain ⟨x,M,rfl,a,t,o⟩:=m5 l;exact acM d e g (decide_eq_false fun q=>by have:=a.1 q;cases this) ⟨fun _=>rfl,a.2.1,a.2.2⟩ t o s
def BJ:bo:=mk avx fun _ L a h=>by
 obtain ⟨s,L,rfl,l,o,a⟩:=qq a;obtain ⟨d,L,rfl,_,g,a⟩:=sP a;obtain rfl:L= []:=a;have r:s=1->0<((d:Nat):Int):=h _ aE;have:=r (by omega);exact ⟨_,jc _,[],gH,C5 ⟨fun _=>by omega,g⟩ jN,iG,fun f k=>by cases k⟩
def ajV:bo:=mk avy fun _=>X6 fun L a _=>by
 obtain ⟨x,L,rfl,g,o,a⟩:=m5 a;obtain ⟨e,L,rfl,k,l,a⟩:=qq a;refine yK fun h=> ?_
 have d:x≠0:=h;rcases dp x 0 with q|q|q
 ·cases g.1 q
 ·exact absurd q d
 ·cases g.2.2 q
def avV:bo:=mk avz fun _=>X6 fun L a h=>by
 obtain ⟨x,L,rfl,u,y,a⟩:=m5 a;obtain ⟨e,L,rfl,d,o,a⟩:=qq a;obtain ⟨t,L,rfl,s,g,a⟩:=qq a;obtain rfl:L= []:=a;have k:RP 5 [x,e,t]:=h _ aE;have l:t=ko x e:=k;exact yK (show RP 4 [x,e] from fun _=>⟨d,by rw [<-l];exact g⟩)
end
end Go.Proofs.YtnmpjdgobafdkaaGreatDoor
