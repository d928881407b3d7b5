/- refineFuel_proved. -/
import Derived.Test.YtnmpjdgobafdkaaGreatDoorPmaz
set_option maxRecDepth 100000
set_option maxHeartbeats 16000000
set_option linter.all false
noncomputable section
namespace Go.Proofs.YtnmpjdgobafdkaaGreatDoor
section
open Go.RowKit Go.Ev
def au5 {m e s r d j f l:Int} (z:0<=r) (y:0<=e+s/\d=m*2^(e+s).toNat/\j=m*2^(e+s).toNat\/e+s<0/\d=m/2^(-(e+s)).toNat/\j= -(-m/2^(-(e+s)).toNat))
 (i:0<=e+(s+r)/\f=m*2^(e+(s+r)).toNat/\l=m*2^(e+(s+r)).toNat\/e+(s+r)<0/\f=m/2^(-(e+(s+r))).toNat/\l= -(-m/2^(-(e+(s+r))).toNat)):d*2^r.toNat<=f/\f<=d*2^r.toNat+2^r.toNat:=by
 have a: ∀k:Nat,(0:Int)<2^k:=fun k=>eC (by decide)
 rcases y with ⟨o,rfl,-⟩|⟨o,rfl,-⟩
 ·rcases i with ⟨g,rfl,-⟩|⟨g,-,-⟩
  ·have b:m*2^(e+(s+r)).toNat=m*2^(e+s).toNat*2^r.toNat:=by rw [kh,<-pP];congr 2;omega
   grind
  omega
 ·have b1:=jw m (2^(-(e+s)).toNat)
  have p:=gK m (pE (a (-(e+s)).toNat));have q:=fR m (a (-(e+s)).toNat);have c1:m/2^(-(e+s)).toNat*2^(-(e+s)).toNat<=m:=by grind
  have h:m<(m/2^(-(e+s)).toNat+1)*2^(-(e+s)).toNat:=by grind
  generalize m/2^(-(e+s)).toNat=x at*;clear b1 p q;rcases i with ⟨g,rfl,-⟩|⟨g,rfl,-⟩
  ·have b:(2:Int)^r.toNat=2^(-(e+s)).toNat*2^(e+(s+r)).toNat:=by rw [<-pP];congr 1;omega
   have t:=bN c1 (cX (a (e+(s+r)).toNat));have u:=bN (cX h) (cX (a (e+(s+r)).toNat));rw [kh,<-b] at t u;grind
  ·have b:(2:Int)^(-(e+s)).toNat=2^r.toNat*2^(-(e+(s+r))).toNat:=by rw [<-pP];congr 1;omega
   rw [b,<-kh] at c1 h;constructor
   ·exact (fL (a _)).2 c1
   ·have:=gU (a _) h
    grind
def au6 {D b e R W a l2 L q:Int} (d:0<R) (E:W=4294967296*R) (B:D<=b) (C:b<=D+1) (f:q*(2*(a+l2))<=2*(D+b)+(a+l2)) (g:2*(D+b)+(a+l2)<q*(2*(a+l2))+2*(a+l2))
 (F:D*R<=e) (s2:e<=D*R+R) (a1:690*4294967296<=1000*a) (a2:a<=l2) (z:1000*l2<=695*4294967296) (b1:690*W<=1000*L) (A:1000*L<=695*W) (o:q.natAbs<=11900):(e-L*(q-1)).natAbs<=(63*W).natAbs:=by
 obtain ⟨Y,m⟩:=pT (a+l2);rw [<-m] at f g;have u:1380*4294967296<=1000*Y:=by omega
 have x:1000*Y<=1390*4294967296:=by omega
 have l:q*(2*Y)=2*(q*Y):=by grind
 rw [l] at f g;have p:=bN (show 4*D-2*(q*Y)<=Y by omega) (cX d);have h:=bN (show-Y-2<=4*D-2*(q*Y) by omega) (cX d);have s:=bN u (cX d);have t:=bN x (cX d);have i:(4*D-2*(q*Y))*R=4*(D*R)-2*(q*Y*R):=by grind
 have j:(-Y-2)*R= -(Y*R)-2*R:=by grind
 have k:1000*Y*R=1000*(Y*R):=kh _ _ _;rw [i] at p h;rw [j] at h;rw [k] at s t;have y:(Y*R-2*L).natAbs*100<=W.natAbs:=by omega
 have G:(q*(Y*R-2*L)).natAbs*100<=11900*W.natAbs:=by
  rw [dP,bF];exact bH o y
 grind
def au7 {m e s x y:Int} (h:0<=e+s/\x=m*2^(e+s).toNat/\y=m*2^(e+s).toNat\/e+s<0/\x=m/2^(-(e+s)).toNat/\y= -(-m/2^(-(e+s)).toNat)):x<=y/\y<=x+1:=by
 rcases h with ⟨a,rfl,rfl⟩|⟨a,rfl,rfl⟩
 ·omega
 ·exact acD m (-(e+s)).toNat
def au8 {m e s:Int} (h:DV m e) (hd:((eN m.natAbs:Nat):Int)+e<=13) (hs:24<=s/\s<=10300): ∃x y,Zb 300000 x/\Zb 300000 y/\bJ Tryz.prog bw 332 [iR m e,bj (.int .i64 s)] (cD x y):=by
 obtain ⟨x1,y2,⟨k3,h4,h5⟩,⟨k6,h7,h8⟩,e9,wm⟩:=NT (s:=32) h;have q11:=XM (N:=13) e9 hd;obtain ⟨x12,y13,⟨k14,Ai,wE⟩,⟨k17,wF,S⟩,M,E⟩:=acC (s:=32);have D:=q11;have g:=M;rw [show (13+(32:Int)).toNat=45 from rfl] at D;rw [show (32:Int).toNat=32 from rfl] at g;have v1:((2^32:Nat):Int)=4294967296:=by decide
 have v2:(2:Nat)^45=35184372088832:=by decide
 rw [v1] at g;rw [v2] at D;obtain ⟨a,IE,Bw,Oj⟩:=ajn (Q:=11899) h5 h8 wE S;have hq:a.natAbs<=11900:=IE;have w26:=aC (a-1) (by omega);have w27:=aC (s+(max (a-1) 0)) (by omega);have w28:=aC ((s+(max (a-1) 0))+24) (by omega);have w29:=aC (((s+(max (a-1) 0))+24)+16) (by omega);obtain ⟨n,hn⟩: ∃n:Int,n=((s+(max (a-1) 0))+24):=⟨_,rfl⟩;obtain ⟨j,y31,⟨k32,yR,Jh⟩,⟨k35,On,LH⟩,XP,LI⟩:=NT (s:=(((s+(max (a-1) 0))+24)+16)) h;obtain ⟨Ot,XQ,⟨k42,h43,XU⟩,⟨k45,h46,T⟩,O,F⟩:=acC (s:=(((s+(max (a-1) 0))+24)+16));obtain ⟨x50,y51,SJ,U,P,G⟩:=IA (n:=(a-1)) XU T;obtain ⟨o,t,X,Y,f,H⟩:=Iz Jh LH SJ U;obtain ⟨p,u,h64,h65,e66,I⟩:=uH (n:=16) X Y;have p3:=O;have hx:=au7 XP;have b:=au5 (s:=32) (r:=((s+(max (a-1) 0))+24)-16) (by omega) e9 (show _ from (by rw [show (32:Int)+(((s+(max (a-1) 0))+24)-16)=(((s+(max (a-1) 0))+24)+16) by omega];omega));obtain ⟨W,hW⟩: ∃W:Nat,W=2^((((s+(max (a-1) 0))+24)+16)).toNat:=⟨_,rfl⟩;obtain ⟨R,hR⟩: ∃R:Nat,R=2^(((s+(max (a-1) 0))+24)-16).toNat:=⟨_,rfl⟩;have hWR:W=4294967296*R:=by rw [hW,hR,show ((((s+(max (a-1) 0))+24)+16)).toNat=32+(((s+(max (a-1) 0))+24)-16).toNat by omega,bC]
 have hRc:(2:Int)^(((s+(max (a-1) 0))+24)-16).toNat=(R:Int):=by simp_all
 have hR0:0<R:=by grind
 rw [hRc] at b;rw [<-hW] at p3;have d: ∀L:Int,690*(W:Int)<=1000*L->1000*L<=695*(W:Int)->(j-L*(a-1)).natAbs<=(63*(W:Int)).natAbs:=fun L B C=>
  au6 (R:=(R:Int)) (W:=(W:Int)) (by omega) (by omega) D.2.2.1 D.2.2.2 Bw.1 Bw.2 b.1 b.2 g.1 g.2.1 g.2.2.1 B C hq
 have aFu:=d Ot p3.1 (by omega);have au9:=d XQ (by omega) p3.2.2.1;clear d;have hlk:=P;have uo:o.natAbs<=64*W/\t.natAbs<=64*W:=by
  rw [f.1,f.2];rcases hlk with ⟨-,B,C⟩|⟨-,B,C⟩<;>rw [B,C]<;>omega
 have hWt:W=2^(((s+(max (a-1) 0))+24)).toNat*2^16:=by rw [hW,<-bC];congr 1;omega
 have b1:p.natAbs<=64*2^(((s+(max (a-1) 0))+24)).toNat:=by grind
 have b2:u.natAbs<=64*2^(((s+(max (a-1) 0))+24)).toNat:=by grind
 obtain ⟨x68,y69,⟨k70,h71,Z⟩,⟨k73,h74,h75⟩,XX⟩:=au3 (s:=((s+(max (a-1) 0))+24)) (by omega) b1 b2;have w77:=aC (((s+(max (a-1) 0))+24)-s) (by omega);have w78:=aC ((((s+(max (a-1) 0))+24)-s)-(a-1)) (by omega);obtain ⟨q,A,h81,h82,e83,J⟩:=uH (n:=((((s+(max (a-1) 0))+24)-s)-(a-1))) Z h75;refine ⟨q,A,⟨_,by omega,h81⟩,⟨_,by omega,h82⟩,?_⟩;exact fP [.z m,.i e,.z x1,.z y2,.z x12,.z y13,.i a,.i (a-1),.i (max (a-1) 0),.i s,.i (s+(max (a-1) 0)),.i ((s+(max (a-1) 0))+24),.i (((s+(max (a-1) 0))+24)+16),.z j,.z y31,.z Ot,.z XQ,.z x50,.z y51,.z o,.z t,.z p,.z u,.z x68,.z y69,.i (((s+(max (a-1) 0))+24)-s),.i ((((s+(max (a-1) 0))+24)-s)-(a-1)),.z q,.z A] [] 0 [.ar .sub (.i 6) (.l 1) (.i 7),.mx true (.i 7) (.l 0) (.i 8),.ar .add (.i 9) (.i 8) (.i 10),.ar .add (.i 10) (.l 24) (.i 11),.ar .add (.i 11) (.l 16) (.i 12),.ar .sub (.i 11) (.i 9) (.i 25),.ar .sub (.i 25) (.i 7) (.i 26)] [⟨334,[eE 0 1,gz 32],ah 2 3⟩,⟨338,[gz 32],ah 4 5⟩,⟨346,[ah 2 3,ah 4 5],aA 6⟩,⟨334,[eE 0 1,aA 12],ah 13 14⟩,⟨338,[aA 12],ah 15 16⟩,⟨289,[ah 15 16,aA 7],ah 17 18⟩,⟨290,[ah 13 14,ah 17 18],ah 19 20⟩,⟨326,[ah 19 20,gz 16],ah 21 22⟩,⟨347,[ah 21 22,aA 11],ah 23 24⟩,⟨326,[ah 23 24,aA 26],ah 27 28⟩] [eE 0 1,aA 9] (ah 27 28) (by kernel_rfl) (.k w26 (.k rfl (.k w27 (.k w28 (.k w29 (.k w77 (.k w78 .nil))))))) (.k wm (.k E (.k Oj (.k LI (.k F (.k G (.k H (.k I (.k XX (.k J .nil))))))))))
def ajD {s t:(Int×Int)×(Int×Int)×Int} (b:Bool) (h:VT s) (h':VT t):VT (cond b s t):=by grind
def ajE {c:Int} (h:0<=c:=by decide) (h':c<=11:=by decide):VT ((0,0),(0,0),c):=⟨DV.zero,DV.zero,h,h'⟩
def ava {m e n f:Int} (h:DV m e) (h':DV n f):VT ((m,e),(n,f),0):=⟨h,h',by simp_all,by simp_all⟩
def uL {x y ex:Int} (d:Zb 500000 x) (e:Zb 500000 y) (p:0<=ex/\ex<=10000:=by decide): ∃z b f a,Zb 600000 f/\Zb 600000 a/\bJ Tryz.prog bw 325 [cD x y] (dN z)/\bJ Tryz.prog bw 127 [fw z.natAbs] (bj (.int .i64 b))/\bJ Tryz.prog bw 326 [cD x y,bj (.int .i64 ex)] (cD f a):=by
 obtain ⟨i,a,d⟩:=d;obtain ⟨j,q,e⟩:=e;obtain ⟨z,o,_,k⟩:=aia d e;obtain ⟨b,_,_,g⟩:=F7 o.abs;obtain ⟨f,a,m,l,_,h⟩:=uH (n:=ex) d e;exact ⟨z,_,f,a,⟨_,by omega,m⟩,⟨_,by omega,l⟩,k,g,h⟩
end
end Go.Proofs.YtnmpjdgobafdkaaGreatDoor
