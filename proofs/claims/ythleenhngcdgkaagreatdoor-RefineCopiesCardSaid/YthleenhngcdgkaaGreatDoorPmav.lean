/- refineCopies_proved. -/
import Derived.Test.YthleenhngcdgkaaGreatDoorPmau
set_option maxRecDepth 100000
set_option maxHeartbeats 16000000
set_option linter.all false
noncomputable section
namespace Go.Proofs.YthleenhngcdgkaaGreatDoor
section
open Go.RowKit Go.Ev
def Pv {z:Int} {K k:Nat} (h:z.natAbs<=K*2^k):(z/2^k).natAbs<=K/\(-(-z/2^k)).natAbs<=K:=by
 have e:(0:Int)<2^k:=eE (by decide);have hc:((2^k:Nat):Int)=2^k:=by rw [gw];rfl
 have d: ∀y:Int,y.natAbs<=K*2^k-> -(K:Int)<=y/2^k/\y/2^k<=(K:Int):=fun y f=>by
  have g:((y.natAbs:Nat):Int)<=(K:Int)*2^k:=by rw [<-hc,<-eA];exact Int.ofNat_le.2 f
  constructor
  ·rw [fH e,mf];omega
  ·refine jI (gQ e ?_)
   rw [Int.add_mul,Int.one_mul];omega
 have a:=d z h;have b:=d (-z) (by rwa [iM]);omega
def adj (z:Int) (k:Nat):z/2^k<= -(-z/2^k)/\ -(-z/2^k)<=z/2^k+1:=by
 have a:(0:Int)<2^k:=eE (by decide);have b:=jx z (2^k);have d:=gB z (px a);have f:=fN z a;have b1:=jx (-z) (2^k);have g:=gB (-z) (px a);have i:=fN (-z) a;generalize z/2^k=q at*;generalize-z/2^k=r at*;generalize z % 2^k=u at*;generalize-z % 2^k=v at*;generalize (2:Int)^k=P at*;have e:P*(q+r)= -(u+v):=by rw [Int.mul_add];omega
 have j:q+r<=0:=by
  refine jM.1 fun h=> ?_
  have:=Int.mul_pos a h;omega
 have l: -1<=q+r:=by
  refine jM.1 fun h=> ?_
  have:=fv (show q+r<= -2 by omega) (cR a);omega
 omega
def YC {m e s x y N:Int} (h:0<=e+s/\x=m*2^(e+s).toNat/\y=m*2^(e+s).toNat\/e+s<0/\x=m/2^(-(e+s)).toNat/\y= -(-m/2^(-(e+s)).toNat)) (i:((eW m.natAbs:Nat):Int)+e<=N) (g:0<=N+s:=by omega):
 x.natAbs<=2^(N+s).toNat/\y.natAbs<=2^(N+s).toNat/\x<=y/\y<=x+1:=by
 have d:=E6 m.natAbs;rcases h with ⟨f,rfl,rfl⟩|⟨f,rfl,rfl⟩
 ·have a:(m*2^(e+s).toNat).natAbs<=2^(N+s).toNat:=by
   rw [XT];refine aL (aN _ (aQ d)) ?_;rw [<-bC];exact aF (by decide) (by omega)
  exact ⟨a,a,gD _,by omega⟩
 ·have a:m.natAbs<=2^(N+s).toNat*2^(-(e+s)).toNat:=by
   rw [<-bC];exact aL (aQ d) (aF (by decide) (by omega))
  have:=Pv a;have b:=adj m (-(e+s)).toNat;exact ⟨this.1,this.2,b.1,b.2⟩
def avz {a q:Int} {D Q:Nat} (b:a.natAbs<=D) (d:q.natAbs<=Q):(a*q).natAbs<=D*Q:=by
 rw [dK];exact bJ b d
def avA {d e b a q r:Int} {T f:Nat} (l:d<=e) (m:e<=d+1) (o:a<=2*(T:Int)) (p:b<=a) (k:((a-b)*q).natAbs<=f) (s:f+1<=T)
 (i:q*(2*(b+a))<=2*(d+e)+(b+a)) (j:2*(d+e)+(b+a)<q*(2*(b+a))+2*(b+a)) (t:r=d-a*q\/r=d-b*q):r.natAbs<=2*T:=by
 have g:q*(2*(b+a))=2*(b*q)+2*(a*q):=by rw [Int.mul_left_comm,Int.mul_add,Int.mul_add,Int.mul_comm q b,Int.mul_comm q a]
 have h:(a-b)*q=a*q-b*q:=Int.sub_mul _ _ _;rw [g] at i j;rw [h] at k;omega
def avB {t:Nat} (h:70<=t:=by omega):17179869185*(31*(t+5))+1<=2^t/\31*(t+5)<=2^t:=by
 obtain ⟨k,rfl⟩: ∃k,t=70+k:=⟨t-70,by omega⟩;clear h
 induction k with
 |zero=>exact ⟨by decide,by decide⟩
 |succ k a=>rw [show 70+(k+1)=(70+k)+1 by omega,bL];omega
def avC {m e s:Int} (h:DV m e) (ht:((eW m.natAbs:Nat):Int)+e<=33) (hs:24<=s/\s<=18000:=by omega): ∃n x y,Zb 400000 x/\Zb 400000 y/\x.natAbs<=2*2^s.toNat/\n.natAbs<=17179869185/\bH Tryz.prog bw 372 [i9 m e,bj (.int .i64 s)] (pF (bj (.int .i64 n)) (cG x y)):=by
 have w1:=aB (s+48) (by omega);obtain ⟨T,u⟩:=pU (2^(s+48).toNat);have j:=avB (t:=(s+48).toNat);rw [<-u] at j;obtain ⟨C,aGx⟩:=j;obtain ⟨P,y3,⟨k4,h5,h6⟩,⟨k7,h8,h9⟩,OX,Jp⟩:=OZ (s:=(s+48)) h;have B:=YC (N:=33) OX ht;rw [show (33+(s+48)).toNat=(s+48).toNat+33 by omega,bC,<-u] at B;have TC:=aB ((s+48)+1) (by omega);obtain ⟨um,uo,⟨k16,si,xv⟩,⟨k19,Ce,A0⟩,zo,vR⟩:=Yw (s:=((s+48)+1));obtain ⟨d,f,W,U,Y,L4⟩:=uX (n:=2) xv A0;have hp:=zo;rw [show (s+48+1).toNat=(s+48).toNat+1 by omega,bL,<-u] at hp;have o:=Y.1;have Z:=Y.2;rw [show (2:Int).toNat=2 from rfl,show (2:Int)^2=4 from rfl] at o Z;have k1:(T:Int)<=d:=by omega
 have k2:f<=2*(T:Int):=by omega
 have k3:d<=f:=by omega
 have k4:(f-d).natAbs<=31*((s+48).toNat+5):=by omega
 clear hp o Z;obtain ⟨a,Cf,X,G9⟩:=akf (Q:=17179869184) h6 h9 W U;obtain ⟨R,S,Pr,MD,TJ,ME⟩:=Jn (n:=a) W U;obtain ⟨A,YF,G,H,g,D⟩:=Jm h6 h9 Pr MD;have O:=aB ((s+48)-s) (by omega);obtain ⟨b,q,I,J,F,E⟩:=uX (n:=((s+48)-s)) G H;have hr:A=P-f*a\/A=P-d*a:=by
  rcases TJ with h|h
  ·exact .inl (by rw [g.1,h.2.2])
  ·exact .inr (by rw [g.1,h.2.2])
 have p:a.natAbs<=17179869185:=Cf;have M:31*((s+48).toNat+5)*17179869185+1<=T:=by rw [bG];exact C
 have k5:=avA B.2.2.1 B.2.2.2 k2 k3 (avz k4 p) M X.1 X.2 hr;have k6:b.natAbs<=2*2^s.toNat:=by
  rw [F.1,show (s+48-s).toNat=48 by omega];refine (Pv ?_).1;rw [bD,<-bC,show s.toNat+48=(s+48).toNat by omega,<-u];exact k5
 refine ⟨a,b,q,⟨_,by omega,I⟩,⟨_,by omega,J⟩,k6,p,?_⟩;exact fR [.i s,.i (s+48),.z m,.i e,.z P,.z y3,.i ((s+48)+1),.z um,.z uo,.z d,.z f,.i a,.z R,.z S,.z A,.z YF,.i ((s+48)-s),.z b,.z q] [] 0 [.ar .add (.i 0) (.l 48) (.i 1),.ar .add (.i 1) (.l 1) (.i 6),.ar .sub (.i 1) (.i 0) (.i 16)] [⟨366,[eO 2 3,aA 1],ah 4 5⟩,⟨268,[aA 6],ah 7 8⟩,⟨358,[ah 7 8,gN 2],ah 9 10⟩,⟨382,[ah 4 5,ah 9 10],aA 11⟩,⟨318,[ah 9 10,aA 11],ah 12 13⟩,⟨319,[ah 4 5,ah 12 13],ah 14 15⟩,⟨358,[ah 14 15,aA 16],ah 17 18⟩] [eO 2 3,aA 0] (.t (aA 11) (ah 17 18)) (by kernel_rfl) (.k w1 (.k TC (.k O .nil))) (.k Jp (.k vR (.k L4 (.k G9 (.k ME (.k D (.k E .nil)))))))
def JW {i j k:Nat} {a b c s:Int} (l:Bz i a) (m:Bz j b) (hc:Bz k c) (q:0<=s/\s<=17000) (hi:i<=450000:=by omega) (o:j<=450000:=by omega) (p:k<=450000:=by omega): ∃x y u v,Zb 500000 u/\Zb 500000 v/\bH Tryz.prog bw 321 [cG a b,dU c] (cG x y)/\
 bH Tryz.prog bw 358 [cG x y,bj (.int .i64 ((s+24)-s))] (cG u v):=by
 obtain ⟨x,y,e,f,_,c1⟩:=OV l m hc;obtain ⟨u,v,g,h,_,d⟩:=uX (n:=((s+24)-s)) e f;exact ⟨x,y,u,v,⟨_,by omega,g⟩,⟨_,by omega,h⟩,c1,d⟩
def akh {m e o s:Int} (h:DV m e) (ht:((eW m.natAbs:Nat):Int)+e<=33) (E:0<=s/\s<=17000) (ho:0<=o/\o<=1): ∃x y,Zb 500000 x/\Zb 500000 y/\bH Tryz.prog bw 333 [i9 m e,bj (.int .i64 o),bj (.int .i64 s)] (cG x y):=by
 have w1:=aB (s+24) (by omega);obtain ⟨n2,x3,y4,⟨k5,h6,h7⟩,⟨k8,h9,ff⟩,kG,Jo,sX⟩:=avC (s:=(s+24)) h ht;obtain ⟨z,F,_,cz⟩:=ai3 h7 ff;have YG:=aB ((s+24)-s) (by omega);obtain ⟨ρ,N⟩: ∃ρ,n2.tmod 4=ρ:=⟨_,rfl⟩;have aGy: -4<ρ:=by rw [<-N];exact oX _ (by decide)
 have aGz:ρ<4:=by rw [<-N];exact oT _ (by decide)
 have J:=aB (ρ+4) (by omega);have M:=aB ((ρ+4)+o) (by omega);obtain ⟨j,D⟩:=pS (((ρ+4)+o).tmod 4);have hJ:j=0\/j=1\/j=2\/j=3:=by rw [eH (by omega)] at D;omega
 by_cases oC:x3<0
 ·have Q:=decide_eq_true oC
  obtain ⟨I,xp,W,U⟩:=nR (b:=false) h7.abs;obtain ⟨X,Y,S,T,⟨k23,Cl,O⟩,⟨k26,Fe,P⟩,⟨k29,DW,G⟩,⟨k32,zG,H⟩,R⟩:=akg (a:=I) (s:=(s+24)) (by omega) (by rw [W,wX];exact kG);obtain ⟨a,b,hA,hB,_,S5⟩:=B8 O P;obtain ⟨c,d,hc,hd,_,Z⟩:=B8 hA hB;obtain ⟨f,g,hf,hg,_,cf⟩:=B8 G H;have K:=fun (k:Int) (p:Nat) (x y u v:Int) hk D A q=>fR (f:=333) [.i s,.i (s+24),.zs x3 true Q,.z m,.i e,.i n2,.z y4,.z I,.z X,.z Y,.z S,.z T,.z a,.z b,.i ρ,.i (ρ+4),.i o,.i ((ρ+4)+o),.z c,.z d,.z f,.z g,.z z,.z x,.z y,.i ((s+24)-s),.z u,.z v] [] 0 [.ar .add (.i 0) (.l 24) (.i 1),.ar .rem (.i 5) (.l 4) (.i 14),.ar .add (.i 14) (.l 4) (.i 15),.ar .add (.i 15) (.i 16) (.i 17),.ar .rem (.i 17) (.l 4) (.l k),.ar .sub (.i 1) (.i 0) (.i 25)] [⟨372,[eO 3 4,aA 1],.t (aA 5) (.s (.s true 2) (.z 6))⟩,⟨141,[.b false,.n (.m 2)],aK 7⟩,⟨373,[aK 7,aA 1],.t (ah 8 9) (ah 10 11)⟩,⟨360,[ah 8 9],ah 12 13⟩,⟨360,[ah 12 13],ah 18 19⟩,⟨360,[ah 10 11],ah 20 21⟩,⟨357,[.s (.s true 2) (.z 6)],aK 22⟩,⟨321,[.s (.z p) (.z (p+1)),aK 22],ah 23 24⟩,⟨358,[ah 23 24,aA 25],ah 26 27⟩] [eO 3 4,aA 16,aA 0] (ah 26 27) hk (.k w1 (.k ⟨(by decide:(4:Int)≠0),N⟩ (.k J (.k M (.k ⟨(by decide:(4:Int)≠0),D⟩ (.k YG .nil)))))) (.k sX (.k U (.k R (.k S5 (.k Z (.k cf (.k cz (.k A (.k q .nil)))))))))
  rcases hJ with rfl|rfl|rfl|rfl
  ·obtain ⟨x,y,u,v,B,C,A,q⟩:=JW hA hB F E
   exact ⟨u,v,B,C,K _ 12 x y u v (by kernel_rfl) D A q⟩
  ·obtain ⟨x,y,u,v,B,C,A,q⟩:=JW G H F E
   exact ⟨u,v,B,C,K _ 10 x y u v (by kernel_rfl) D A q⟩
  ·obtain ⟨x,y,u,v,B,C,A,q⟩:=JW hc hd F E
   exact ⟨u,v,B,C,K _ 18 x y u v (by kernel_rfl) D A q⟩
  ·obtain ⟨x,y,u,v,B,C,A,q⟩:=JW hf hg F E
   exact ⟨u,v,B,C,K _ 20 x y u v (by kernel_rfl) D A q⟩
 ·have Q:=decide_eq_false oC
  obtain ⟨I,xp,W,U⟩:=nR (b:=false) h7.abs;obtain ⟨X,Y,S,T,⟨k23,Cl,O⟩,⟨k26,Fe,P⟩,⟨k29,DW,G⟩,⟨k32,zG,H⟩,R⟩:=akg (a:=I) (s:=(s+24)) (by omega) (by rw [W,wX];exact kG);obtain ⟨c,d,hc,hd,_,Z⟩:=B8 O P;obtain ⟨f,g,hf,hg,_,cf⟩:=B8 G H;have K:=fun (k:Int) (p:Nat) (x y u v:Int) hk D A q=>fR (f:=333) [.i s,.i (s+24),.zs x3 false Q,.z m,.i e,.i n2,.z y4,.z I,.z X,.z Y,.z S,.z T,.i ρ,.i (ρ+4),.i o,.i ((ρ+4)+o),.z c,.z d,.z f,.z g,.z z,.z x,.z y,.i ((s+24)-s),.z u,.z v] [] 0 [.ar .add (.i 0) (.l 24) (.i 1),.ar .rem (.i 5) (.l 4) (.i 12),.ar .add (.i 12) (.l 4) (.i 13),.ar .add (.i 13) (.i 14) (.i 15),.ar .rem (.i 15) (.l 4) (.l k),.ar .sub (.i 1) (.i 0) (.i 23)] [⟨372,[eO 3 4,aA 1],.t (aA 5) (.s (.s false 2) (.z 6))⟩,⟨141,[.b false,.n (.m 2)],aK 7⟩,⟨373,[aK 7,aA 1],.t (ah 8 9) (ah 10 11)⟩,⟨360,[ah 8 9],ah 16 17⟩,⟨360,[ah 10 11],ah 18 19⟩,⟨357,[.s (.s false 2) (.z 6)],aK 20⟩,⟨321,[.s (.z p) (.z (p+1)),aK 20],ah 21 22⟩,⟨358,[ah 21 22,aA 23],ah 24 25⟩] [eO 3 4,aA 14,aA 0] (ah 24 25) hk (.k w1 (.k ⟨(by decide:(4:Int)≠0),N⟩ (.k J (.k M (.k ⟨(by decide:(4:Int)≠0),D⟩ (.k YG .nil)))))) (.k sX (.k U (.k R (.k Z (.k cf (.k cz (.k A (.k q .nil))))))))
  rcases hJ with rfl|rfl|rfl|rfl
  ·obtain ⟨x,y,u,v,B,C,A,q⟩:=JW O P F E
   exact ⟨u,v,B,C,K _ 8 x y u v (by kernel_rfl) D A q⟩
  ·obtain ⟨x,y,u,v,B,C,A,q⟩:=JW G H F E
   exact ⟨u,v,B,C,K _ 10 x y u v (by kernel_rfl) D A q⟩
  ·obtain ⟨x,y,u,v,B,C,A,q⟩:=JW hc hd F E
   exact ⟨u,v,B,C,K _ 16 x y u v (by kernel_rfl) D A q⟩
  ·obtain ⟨x,y,u,v,B,C,A,q⟩:=JW hf hg F E
   exact ⟨u,v,B,C,K _ 18 x y u v (by kernel_rfl) D A q⟩
def aki {m e f:Int} (h:DV m e) (H:((eW m.natAbs:Nat):Int)+e<=33) (hf:0<=f/\f<=17000:=by omega): ∃z,Zb 400000 z/\bH Tryz.prog bw 371 [i9 m e,bj (.int .i64 f)] (dU z):=by
 have M:=aB (f+64) (by omega);obtain ⟨O,P,⟨k4,W,G⟩,⟨k7,X,Y⟩,C,y⟩:=OZ (s:=(f+64)) h;have U:=YC (N:=33) C H;have D:=aB (f+1) (by omega);obtain ⟨B,q,E,d⟩:=AM (s:=((f+1)).toNat) (c:=20000) G (by omega:((f+1):Int)=((((f+1)).toNat:Nat):Int));obtain ⟨j,o,⟨I,Q,t⟩,⟨J,S,ym⟩,A,x⟩:=Yw (s:=(f+64));have hp:=A.1;have Z:0<2^(f+64).toNat:=aM (n:=(f+64).toNat) (show 0<2 by decide);obtain ⟨a,p,u,R,T,F,g⟩:=OA q t;refine ⟨a,⟨_,by omega,u⟩,?_⟩;exact fR [.i f,.i (f+64),.z m,.i e,.z O,.z P,.i (f+1),.z B,.z j,.z o,.z a,.z p] [] 0 [.ar .add (.i 0) (.l 64) (.i 1),.ar .add (.i 0) (.l 1) (.i 6)] [⟨366,[eO 2 3,aA 1],ah 4 5⟩,⟨136,[aK 4,aA 6],aK 7⟩,⟨268,[aA 1],ah 8 9⟩,⟨154,[aK 7,aK 8],.t3 (aK 10) (aK 11) (.b true)⟩] [eO 2 3,aA 0] (aK 10) (by kernel_rfl) (.k M (.k D .nil)) (.k y (.k d (.k x (.k g .nil))))
end
section
open Go.RowKit Go.Ev
variable {s m e a b x y:Int} {P i j k l:Nat}
def TN :wJ a b<=0↔a<=b:=by
 unfold wJ
 all_goals grind
def avE (h:0<=e+s/\x=m*2^(e+s).toNat/\y=m*2^(e+s).toNat\/e+s<0/\x=m/2^(-(e+s)).toNat/\y= -(-m/2^(-(e+s)).toNat)) (g:0<=m):0<=x/\x<=y/\y<=x+1:=by
 have f: ∀k:Nat,(0:Int)<2^k:=fun k=>eE (by decide)
 rcases h with ⟨o,rfl,rfl⟩|⟨o,rfl,rfl⟩
 ·exact ⟨iU g (cR (f _)),gD _,by omega⟩
 ·have d:=adj m (-(e+s)).toNat
  exact ⟨jD g (cR (f _)),d.1,d.2⟩
def avF {n:Nat} (h:n≠0:=by omega):2^(eW n-1)<=n:=by
 unfold eW;rw [if_neg h,dS];exact Nat.log2_self_le h
def avG (h:0<=e+s/\x=m*2^(e+s).toNat/\y=m*2^(e+s).toNat\/e+s<0/\x=m/2^(-(e+s)).toNat/\y= -(-m/2^(-(e+s)).toNat)) (q:0<m) (p:0<=((eW m.natAbs:Nat):Int)+e) (t:1<=s:=by omega):((2^(s-1).toNat:Nat):Int)<=x:=by
 have o:=avF (n:=m.natAbs);have hc: ∀k:Nat,((2^k:Nat):Int)=2^k:=fun k=>by simp_all
 have d:((2^(eW m.natAbs-1):Nat):Int)<=m:=by omega
 have g:1<=eW m.natAbs:=by
  refine Nat.not_lt.1 fun h=> ?_
  have:=E6 m.natAbs;simp_all
 rcases h with ⟨f,rfl,-⟩|⟨f,rfl,-⟩
 ·refine pz ?_ (bO d (cR (eE (by decide))))
  rw [<-hc,<-eA,<-bC];exact Int.ofNat_le.2 (aF (by decide) (by omega))
 ·rw [fH (eE (by decide)),<-hc,<-eA,<-bC]
  exact pz (Int.ofNat_le.2 (aF (by decide) (by omega))) d
def akj {w:Nat} (h:P<=w:=by omega) (d:0<w:=by omega):P*P/w<=P:=nH (aN _ h)
def akk {D W:Nat} (h:8*D<=3*W) (d:0<W:=by omega):D*P/W*8<=3*P:=by
 have f:=dM (D*P) W;refine bU (c:=W) ?_ d
 calc D*P/W*8*W=D*P/W*W*8:=by grind
  _<=D*P*8:=aN _ f
  _=8*D*P:=by grind
  _<=3*W*P:=aN _ h
  _=3*P*W:=pC 3 W P
def avH (h:DV m e) (hs:0<=s/\s<=17000): ∃x y,Zb 500000 x/\Zb 500000 y/\bH Tryz.prog bw 338 [i9 m e,bj (.int .i64 s)] (cG x y):=by
 obtain ⟨k,O,hm,he⟩:=h;have w2:=aB (s+24) (by omega);have w9:=aB ((s+24)-s) (by omega);obtain ⟨z3,h4,e5,c6⟩:=nR (b:=false) hm.abs;obtain ⟨G,Q,⟨k9,ff,kG⟩,⟨k12,qz,oC⟩,Dx,sW⟩:=OZ (s:=(s+24)) ⟨k,O,h4,he⟩;obtain ⟨D,xv,Fm,DM⟩:=S2 (n:=(s+24)) (c:=30000);have ET:0<=z3:=by rw [e5];exact eV _
 have hx:=avE Dx ET;obtain ⟨P,F⟩: ∃P:Nat,P=2^(s+24).toNat:=⟨_,rfl⟩;have hP0:0<P:=by rw [F];exact aM (by decide)
 have ho:D=(P:Int):=by rw [Fm,F,gw];rfl
 obtain ⟨E,zo,vR⟩:=I8 (x:=G) (y:=D);by_cases Cl:E<=0
 ·have YI:=decide_eq_true Cl
  have g1:G<=D:=TN.1 (by rw [<-zo];exact Cl);obtain ⟨N,LX,Fc⟩:=I8 (x:=Q) (y:=D);by_cases zq:0<N
  ·have M:=decide_eq_true zq
   obtain ⟨z29,DW,Mw,Hj⟩:=GP (n:=1);obtain ⟨Z,JX,e35,c36⟩:=yf xv DW;obtain ⟨A,B,⟨k39,h40,I⟩,⟨k42,h43,J⟩,W⟩:=adh (s:=(s+24)) (a:=G) (b:=Z) (by omega) (by rw [<-F];omega) (by rw [<-F,e35,Mw];omega);obtain ⟨R,S,U,T,_,X⟩:=B8 I J;have K:=fun (b:Bool) Y (p:Nat) (o q:Int) O t=>fR (f:=338) [.zs m b Y,.i s,.i (s+24),.z z3,.i e,.z G,.z Q,.z D,.i E,.i N,.z z29,.z Z,.z A,.z B,.z R,.z S,.i ((s+24)-s),.z o,.z q] [] 0 [.ar .add (.i 1) (.l 24) (.i 2),.cm .leq (.i 8) (.l 0) true,.cm .gtr (.i 9) (.l 0) true,.ar .sub (.i 2) (.i 1) (.i 16)] [⟨141,[.b false,.n (.m 0)],aK 3⟩,⟨366,[eO 3 4,aA 2],ah 5 6⟩,⟨365,[aA 2],ah 7 7⟩,⟨82,[aK 5,aK 7],aA 8⟩,⟨82,[aK 6,aK 7],aA 9⟩,⟨37,[gN 1],aK 10⟩,⟨89,[aK 7,aK 10],aK 11⟩,⟨374,[ah 5 11,aA 2],ah 12 13⟩,⟨360,[ah 12 13],ah 14 15⟩,⟨358,[.s (.z p) (.z (p+1)),aA 16],ah 17 18⟩] [.d (.s b 0) (.i 4),aA 1] (ah 17 18) O (.k w2 (.k YI (.k M (.k w9 .nil)))) (.k c6 (.k sW (.k DM (.k vR (.k Fc (.k Hj (.k c36 (.k W (.k X (.k t .nil))))))))))
   by_cases H:m<0
   ·obtain ⟨o,q,u,C,_,t⟩:=uX (n:=((s+24)-s)) U T
    exact ⟨o,q,⟨_,by omega,u⟩,⟨_,by omega,C⟩,K true (decide_eq_true H) 14 o q (by kernel_rfl) t⟩
   ·obtain ⟨o,q,u,C,_,t⟩:=uX (n:=((s+24)-s)) I J
    exact ⟨o,q,⟨_,by omega,u⟩,⟨_,by omega,C⟩,K false (decide_eq_false H) 12 o q (by kernel_rfl) t⟩
  ·have M:=decide_eq_false zq
   have g2:Q<=D:=TN.1 (by rw [<-LX];omega);obtain ⟨A,B,⟨k31,h32,I⟩,⟨k34,OY,J⟩,W⟩:=adh (s:=(s+24)) (a:=G) (b:=Q) (by omega) (by rw [<-F];omega) (by rw [<-F];omega);obtain ⟨R,S,U,T,_,X⟩:=B8 I J;have K:=fun (b:Bool) Y (p:Nat) (o q:Int) O t=>fR (f:=338) [.zs m b Y,.i s,.i (s+24),.z z3,.i e,.z G,.z Q,.z D,.i E,.i N,.z A,.z B,.z R,.z S,.i ((s+24)-s),.z o,.z q] [] 0 [.ar .add (.i 1) (.l 24) (.i 2),.cm .leq (.i 8) (.l 0) true,.cm .gtr (.i 9) (.l 0) false,.ar .sub (.i 2) (.i 1) (.i 14)] [⟨141,[.b false,.n (.m 0)],aK 3⟩,⟨366,[eO 3 4,aA 2],ah 5 6⟩,⟨365,[aA 2],ah 7 7⟩,⟨82,[aK 5,aK 7],aA 8⟩,⟨82,[aK 6,aK 7],aA 9⟩,⟨374,[ah 5 6,aA 2],ah 10 11⟩,⟨360,[ah 10 11],ah 12 13⟩,⟨358,[.s (.z p) (.z (p+1)),aA 14],ah 15 16⟩] [.d (.s b 0) (.i 4),aA 1] (ah 15 16) O (.k w2 (.k YI (.k M (.k w9 .nil)))) (.k c6 (.k sW (.k DM (.k vR (.k Fc (.k W (.k X (.k t .nil))))))))
   by_cases H:m<0
   ·obtain ⟨o,q,u,C,_,t⟩:=uX (n:=((s+24)-s)) U T
    exact ⟨o,q,⟨_,by omega,u⟩,⟨_,by omega,C⟩,K true (decide_eq_true H) 12 o q (by kernel_rfl) t⟩
   ·obtain ⟨o,q,u,C,_,t⟩:=uX (n:=((s+24)-s)) I J
    exact ⟨o,q,⟨_,by omega,u⟩,⟨_,by omega,C⟩,K false (decide_eq_false H) 10 o q (by kernel_rfl) t⟩
 ·have YI:=decide_eq_false Cl
  have g1: ¬G<=D:=fun h=>Cl (by rw [zo];exact TN.2 h)
  have w25:=aB ((s+24)+2) (by omega);obtain ⟨Pp,Pq,⟨k28,A2,DW⟩,⟨k31,h32,zG⟩,e34,MH⟩:=Yw (s:=((s+24)+2));obtain ⟨x36,y37,h38,h39,e40,S5⟩:=uX (n:=3) DW zG;obtain ⟨TV,TW,YJ,h45,⟨q1,q2⟩,c47⟩:=acE (g:=30000) (n:=(s+24)) xv xv kG oC;rw [<-F,show D.natAbs=P by omega] at q1 q2;have q3:=akj (P:=P) (w:=Q.natAbs);have q4:=akj (P:=P) (w:=G.natAbs);obtain ⟨x48,y49,⟨k50,h51,TF⟩,⟨k53,h54,h55⟩,c56⟩:=adh (s:=(s+24)) (a:=TV) (b:=TW) (by omega) (by rw [<-F];omega) (by rw [<-F];omega);obtain ⟨A,B,I,J,e61,W⟩:=Jm h38 h39 TF h55;obtain ⟨R,S,U,T,_,X⟩:=B8 I J;have K:=fun (b:Bool) Y (p:Nat) (o q:Int) O t=>fR (f:=338) [.zs m b Y,.i s,.i (s+24),.z z3,.i e,.z G,.z Q,.z D,.i E,.i ((s+24)+2),.z Pp,.z Pq,.z x36,.z y37,.z TV,.z TW,.z x48,.z y49,.z A,.z B,.z R,.z S,.i ((s+24)-s),.z o,.z q] [] 0 [.ar .add (.i 1) (.l 24) (.i 2),.cm .leq (.i 8) (.l 0) false,.ar .add (.i 2) (.l 2) (.i 9),.ar .sub (.i 2) (.i 1) (.i 22)] [⟨141,[.b false,.n (.m 0)],aK 3⟩,⟨366,[eO 3 4,aA 2],ah 5 6⟩,⟨365,[aA 2],ah 7 7⟩,⟨82,[aK 5,aK 7],aA 8⟩,⟨268,[aA 9],ah 10 11⟩,⟨358,[ah 10 11,gN 3],ah 12 13⟩,⟨368,[ah 7 7,ah 5 6,aA 2],ah 14 15⟩,⟨374,[ah 14 15,aA 2],ah 16 17⟩,⟨319,[ah 12 13,ah 16 17],ah 18 19⟩,⟨360,[ah 18 19],ah 20 21⟩,⟨358,[.s (.z p) (.z (p+1)),aA 22],ah 23 24⟩] [.d (.s b 0) (.i 4),aA 1] (ah 23 24) O (.k w2 (.k YI (.k w25 (.k w9 .nil)))) (.k c6 (.k sW (.k DM (.k vR (.k MH (.k S5 (.k c47 (.k c56 (.k W (.k X (.k t .nil)))))))))))
  by_cases H:m<0
  ·obtain ⟨o,q,u,C,_,t⟩:=uX (n:=((s+24)-s)) U T
   exact ⟨o,q,⟨_,by omega,u⟩,⟨_,by omega,C⟩,K true (decide_eq_true H) 20 o q (by kernel_rfl) t⟩
  ·obtain ⟨o,q,u,C,_,t⟩:=uX (n:=((s+24)-s)) I J
   exact ⟨o,q,⟨_,by omega,u⟩,⟨_,by omega,C⟩,K false (decide_eq_false H) 18 o q (by kernel_rfl) t⟩
def YK {n:Int} (F:Bz i a) (G:Bz j b) (N:Bz k x) (O:Bz l y) (d:P=2^n.toNat) (E:100<=P:=by omega) (M:5<=n/\n<=30000:=by omega) (A:8*a.natAbs<=3*y.natAbs:=by omega) (B:8*b.natAbs<=3*x.natAbs:=by omega) (Q:x≠0:=by omega) (f:y≠0:=by omega) (hi:i<=3000000:=by omega) (H:j<=3000000:=by omega) (I:k<=3000000:=by omega) (J:l<=3000000:=by omega):
 ∃p q r t u v,Zb 300001 u/\Zb 300001 v/\bH Tryz.prog bw 368 [cG a b,cG x y,bj (.int .i64 n)] (cG p q)/\bH Tryz.prog bw 367 [cG p q,bj (.int .i64 n)] (cG r t)/\bH Tryz.prog bw 369 [cG r t,bj (.int .i64 1)] (cG u v):=by
 obtain ⟨p,q,_,_,⟨R,S⟩,c1⟩:=acE (g:=30000) (n:=n) F G N O Q f (by omega) (by omega) hi H I J;rw [<-d] at R S;have Y:=akk (P:=P) A;have Z:=akk (P:=P) B;obtain ⟨r,t,⟨T,W,b1⟩,⟨U,X,h⟩,o⟩:=auJ (u:=p) (v:=q) M (by rw [<-d];omega) (by rw [<-d];omega);obtain ⟨u,v,C,D,_,z⟩:=XQ (n:=1) (c:=1) b1 h;exact ⟨p,q,r,t,u,v,⟨_,by omega,C⟩,⟨_,by omega,D⟩,c1,o,z⟩
def YL {c d:Int} (q:Bz i a) (t:Bz j b) (hc:Bz k c) (z:Bz l d) (D:0<=s/\s<=17000) (hi:i<=450000:=by omega) (A:j<=450000:=by omega) (B:k<=450000:=by omega) (C:l<=450000:=by omega): ∃x y u v,Zb 500000 u/\Zb 500000 v/\bH Tryz.prog bw 359 [cG a b,cG c d] (cG x y)/\
 bH Tryz.prog bw 358 [cG x y,bj (.int .i64 ((s+32)-s))] (cG u v):=by
 obtain ⟨x,y,g,h,_,c1⟩:=Fa q t hc z;obtain ⟨u,v,o,p,_,f⟩:=uX (n:=((s+32)-s)) g h;exact ⟨x,y,u,v,⟨_,by omega,o⟩,⟨_,by omega,p⟩,c1,f⟩
def avI {k:Int} (h:DV m e) (hm:0<m) (oI:0<=((eW m.natAbs:Nat):Int)+e) (bP:((eW m.natAbs:Nat):Int)+e<=1) (hk: -1000000<=k/\k<=1000000) (hs:0<=s/\s<=17000): ∃x y,Zb 500000 x/\Zb 500000 y/\bH Tryz.prog bw 328 [i9 m e,bj (.int .i64 k),bj (.int .i64 s)] (cG x y):=by
 have w1:=aB (s+32) (by omega);have w89:=aB ((s+32)-s) (by omega);have z0:Bz 1 0:=by unfold Bz;decide
 obtain ⟨S,h3,e4,c5⟩:=S2 (n:=(s+32)) (c:=30000);obtain ⟨x6,y7,⟨k8,h9,ff⟩,⟨k11,Jo,qz⟩,Ca,Cb⟩:=OZ (s:=(s+32)) h;have Y:=YC (N:=1) Ca bP;have xl:=avG Ca hm oI;obtain ⟨P,H⟩: ∃P:Nat,P=2^(s+32).toNat:=⟨_,rfl⟩;have JU:2^(1+(s+32)).toNat=2*P:=by rw [H,show (1+(s+32)).toNat=(s+32).toNat+1 by omega,bL,bG]
 have TY:P=2*2^(s+32-1).toNat:=by rw [H,show (s+32).toNat=(s+32-1).toNat+1 by omega,bL,bG]
 have hP3:3000*((s+32).toNat+2)<=P:=by rw [H];exact Yv
 have ho:S=(P:Int):=by rw [e4,H,gw];rfl
 rw [JU] at Y;obtain ⟨x1,x2,x3,x4⟩:=Y;obtain ⟨DU,Fq,X,Ce,⟨d1,d2⟩,T⟩:=Jm ff qz h3 h3;obtain ⟨sx,sy,hS,hT,⟨a1,a2⟩,cs⟩:=Fa ff qz h3 h3;obtain ⟨l1,l2,⟨k69,h70,h71⟩,⟨k72,h73,h74⟩,e75,YM⟩:=adi (s:=(s+32));obtain ⟨t1,t2,YN,YO,e81,U⟩:=Jn (n:=k) h71 h74;clear e75 e81;obtain ⟨J,Cd,Po⟩:=I8 (x:=y7) (y:=S);by_cases JV:J<=0
 ·have I:=decide_eq_true JV
  have A:y7<=S:=TN.1 (by rw [<-Cd];exact JV);obtain ⟨a,c,hA,hC,⟨d3,d4⟩,Hj⟩:=B8 X Ce;have K:=fun (b:Bool) hz (z:KZ) (p q r t u v u1 Z A G d g:Int) hk C B F W D E=>fR (f:=328) [.i s,.i (s+32),.z S,.z m,.i e,.z x6,.z y7,.z DU,.z Fq,.i J,.zs a b hz,.z c,.z sx,.z sy,.z p,.z q,.z r,.z t,.z u,.z v,.z u1,.z Z,.z l1,.z l2,.i k,.z t1,.z t2,.z A,.z G,.i ((s+32)-s),.z d,.z g] [] 0 [.ar .add (.i 0) (.l 32) (.i 1),.cm .leq (.i 9) (.l 0) true,.ar .sub (.i 1) (.i 0) (.i 29)] [⟨365,[aA 1],ah 2 2⟩,⟨366,[eO 3 4,aA 1],ah 5 6⟩,⟨319,[ah 5 6,ah 2 2],ah 7 8⟩,⟨82,[aK 6,aK 2],aA 9⟩,⟨360,[ah 7 8],.s (.s b 10) (.z 11)⟩,⟨359,[ah 5 6,ah 2 2],ah 12 13⟩,⟨368,[.s z (.z 11),ah 12 13,aA 1],ah 14 15⟩,⟨367,[ah 14 15,aA 1],ah 16 17⟩,⟨369,[ah 16 17,gN 1],ah 18 19⟩,⟨360,[ah 18 19],ah 20 21⟩,⟨370,[aA 1],ah 22 23⟩,⟨318,[ah 22 23,aA 24],ah 25 26⟩,⟨359,[ah 20 21,ah 25 26],ah 27 28⟩,⟨358,[ah 27 28,aA 29],ah 30 31⟩] [eO 3 4,aA 24,aA 0] (ah 30 31) hk (.k w1 (.k I (.k w89 .nil))) (.k c5 (.k Cb (.k T (.k Po (.k Hj (.k cs (.k C (.k B (.k F (.k W (.k YM (.k U (.k D (.k E .nil))))))))))))))
  by_cases zG:a<0
  ·obtain ⟨p,q,r,t,u,v,⟨_,iu,M⟩,⟨_,iv,O⟩,C,B,F⟩:=YK z0 hC hS hT H
   obtain ⟨u1,Z,Bs,nu,_,W⟩:=B8 M O;obtain ⟨A,G,d,g,R,Q,D,E⟩:=YL Bs nu YN YO hs;exact ⟨d,g,R,Q,K true (decide_eq_true zG) .o p q r t u v u1 Z A G d g (by kernel_rfl) C B F W D E⟩
  ·obtain ⟨p,q,r,t,u,v,⟨_,iu,M⟩,⟨_,iv,O⟩,C,B,F⟩:=YK hA hC hS hT H
   obtain ⟨u1,Z,Bs,nu,_,W⟩:=B8 M O;obtain ⟨A,G,d,g,R,Q,D,E⟩:=YL Bs nu YN YO hs;exact ⟨d,g,R,Q,K false (decide_eq_false zG) (.s false 10) p q r t u v u1 Z A G d g (by kernel_rfl) C B F W D E⟩
 ·have I:=decide_eq_false JV
  have A: ¬y7<=S:=fun h=>JV (by rw [Cd];exact TN.2 h)
  have K:=fun (b:Bool) hz (z:KZ) (p q r t u v A G d g:Int) hk C B F D E=>fR (f:=328) [.i s,.i (s+32),.z S,.z m,.i e,.z x6,.z y7,.zs DU b hz,.z Fq,.i J,.z sx,.z sy,.z p,.z q,.z r,.z t,.z u,.z v,.z l1,.z l2,.i k,.z t1,.z t2,.z A,.z G,.i ((s+32)-s),.z d,.z g] [] 0 [.ar .add (.i 0) (.l 32) (.i 1),.cm .leq (.i 9) (.l 0) false,.ar .sub (.i 1) (.i 0) (.i 25)] [⟨365,[aA 1],ah 2 2⟩,⟨366,[eO 3 4,aA 1],ah 5 6⟩,⟨319,[ah 5 6,ah 2 2],.s (.s b 7) (.z 8)⟩,⟨82,[aK 6,aK 2],aA 9⟩,⟨359,[ah 5 6,ah 2 2],ah 10 11⟩,⟨368,[.s z (.z 8),ah 10 11,aA 1],ah 12 13⟩,⟨367,[ah 12 13,aA 1],ah 14 15⟩,⟨369,[ah 14 15,gN 1],ah 16 17⟩,⟨370,[aA 1],ah 18 19⟩,⟨318,[ah 18 19,aA 20],ah 21 22⟩,⟨359,[ah 16 17,ah 21 22],ah 23 24⟩,⟨358,[ah 23 24,aA 25],ah 26 27⟩] [eO 3 4,aA 20,aA 0] (ah 26 27) hk (.k w1 (.k I (.k w89 .nil))) (.k c5 (.k Cb (.k T (.k Po (.k cs (.k C (.k B (.k F (.k YM (.k U (.k D (.k E .nil))))))))))))
  by_cases zG:DU<0
  ·obtain ⟨p,q,r,t,u,v,⟨_,iu,M⟩,⟨_,iv,O⟩,C,B,F⟩:=YK z0 Ce hS hT H
   obtain ⟨A,G,d,g,R,Q,D,E⟩:=YL M O YN YO hs;exact ⟨d,g,R,Q,K true (decide_eq_true zG) .o p q r t u v A G d g (by kernel_rfl) C B F D E⟩
  ·obtain ⟨p,q,r,t,u,v,⟨_,iu,M⟩,⟨_,iv,O⟩,C,B,F⟩:=YK X Ce hS hT H
   obtain ⟨A,G,d,g,R,Q,D,E⟩:=YL M O YN YO hs;exact ⟨d,g,R,Q,K false (decide_eq_false zG) (.s false 7) p q r t u v A G d g (by kernel_rfl) C B F D E⟩
end
section
open Go.RowKit Go.Ev
def akl (n:Nat): ∀c:Nat,(n+c+1)*n^c<=(n+1)^(c+1)
 |0=>by simp_all
 |c+1=>by
  have a:=akl n c
  calc (n+(c+1)+1)*n^(c+1)=(n+(c+1)+1)*n*n^c:=by grind
   _<=(n+c+1)*(n+1)*n^c:=by
    grind
   _=(n+c+1)*n^c*(n+1):=pC _ _ _
   _<=(n+1)^(c+1)*(n+1):=aN _ a
   _=(n+1)^(c+1+1):=(bL ..).symm
def akm (N:Nat): ∀m:Nat,m<=N->(N+1-m)*(N+1)^m<=N^m*(N+1)
 |0,_=>by simp_all
 |m+1,h=>by
  have b:=akm N m (by omega);obtain ⟨d,g⟩: ∃d,N=m+1+d:=⟨N-(m+1),by omega⟩;have e:N+1-(m+1)=d+1:=by omega
  have f:N+1-m=d+2:=by omega
  rw [e];rw [f] at b;have a:(d+1)*(N+1)<=N*(d+2):=by
   grind
  calc (d+1)*(N+1)^(m+1)=(d+1)*(N+1)*(N+1)^m:=by grind
   _<=N*(d+2)*(N+1)^m:=aN _ a
   _=N*((d+2)*(N+1)^m):=bD _ _ _
   _<=N*(N^m*(N+1)):=aR _ b
   _=N^(m+1)*(N+1):=by grind
def avJ (k:Nat):(2*k+1)^(2*k)<=4*(2*k)^(2*k):=by
 have h:=akm (2*k) k (by omega);have a:(2*k+1)^k<=2*(2*k)^k:=by
  refine bU (c:=2*k+1) ?_ (by omega);have b:(2*k+1)*(2*k+1)^k<=2*((2*k+1-k)*(2*k+1)^k):=by
   rw [<-bD];exact aN _ (by omega)
  grind
 have e: ∀x:Nat,x^(2*k)=x^k*x^k:=fun x=>by rw [<-bC];congr 1;omega
 rw [e,e]
 calc (2*k+1)^k*(2*k+1)^k<=2*(2*k)^k*(2*(2*k)^k):=bJ a a
  _=4*((2*k)^k*(2*k)^k):=by grind
def avK {n c:Nat} (e: ∃k,n=2*k) (b:0<n):(n+c+1)^n<=4^(c+1)*n^n:=by
 obtain ⟨k,rfl⟩:=e;have a:=fX (akl (2*k) c) (2*k);have d:=fX (avJ k) (c+1);rw [Nat.mul_pow,<-fE] at a;rw [Nat.mul_pow,<-fE,<-fE] at d;refine bU (c:=(2*k)^(c*(2*k))) ?_ (aM b);refine aL a ?_;rw [<-fE,bG (c+1) (2*k),bD (4^(c+1)),<-bC];grind
def avL {n c e:Nat} (i: ∃k,n=2*k) (b:0<n) (l:e<=n):(n+c+1)^e<=4^(c+1)*n^e:=by
 have h:=avK (c:=c) i b;obtain ⟨d,j⟩: ∃d,n=e+d:=⟨n-e,by omega⟩;have a: ∀x:Nat,x^n=x^e*x^d:=fun x=>by grind
 rw [a,a n] at h;have f:n^d<=(n+c+1)^d:=fX (by omega) d;have g:0<n^d:=aM b;refine bU (c:=n^d) ?_ g
 calc (n+c+1)^e*n^d<=(n+c+1)^e*(n+c+1)^d:=aR _ f
  _<=4^(c+1)*(n^e*n^d):=h
  _=4^(c+1)*n^e*n^d:=(bD ..).symm
def akn {S S' P n a e:Nat} (k:4<=P) (m:n<=a) (j:0<n) (h:(S+2)*n^e<=P*a^e) (l:S'<=S*S/P+1):(S'+2)*n^(2*e)<=P*a^(2*e):=by
 have q:0<n^e:=aM j;have g:P*n^e<=P*a^e:=aR _ (fX m e);have d: ∀x:Nat,x^(2*e)=x^e*x^e:=fun x=>by rw [<-bC];congr 1;omega
 rw [d,d];generalize n^e=b at*;have o:S'*P<=S*S+P:=by
  have p:=dM (S*S) P
  calc S'*P<=(S*S/P+1)*P:=aN _ l
   _=S*S/P*P+P:=by grind
   _<=S*S+P:=by omega
 have i:P*(P*(a^e*a^e))=P*a^e*(P*a^e):=by grind
 refine Nat.le_of_mul_le_mul_left (c:=P) ?_ (by omega);rw [i];generalize P*a^e=al at*;have f:4*b<=al:=aL (aN _ k) g;obtain ⟨r,s⟩: ∃r,al=(S+2)*b+r:=⟨al-(S+2)*b,by omega⟩
 calc P*((S'+2)*(b*b))=(S'*P+2*P)*(b*b):=by grind
  _<=(S*S+3*P)*(b*b):=aN _ (by omega)
  _=S*S*(b*b)+3*(P*b)*b:=by grind
  _<=S*S*(b*b)+3*al*b:=Nat.add_le_add_left (aN _ (aR _ g)) _
  _<=al*al:=by
   have t:al*al=al*(S*b)+2*(al*b)+al*r:=by
    grind
   have u:al*(S*b)=S*b*(S*b)+2*b*(S*b)+r*(S*b):=by
    grind
   have y:S*S*(b*b)=S*b*(S*b):=by grind
   have z:al*b=S*b*b+2*b*b+r*b:=by
    grind
   have A:4*b*b<=al*b:=aN _ f;have B:2*b*(S*b)=2*(S*b*b):=by grind
   have C:4*(r*b)<=al*r:=by rw [bG al,Nat.mul_left_comm];exact aR _ f
   grind
end
section
open Go.RowKit Go.Ev
variable {s u v a b n:Int} {h i P B g K m y U:Nat}
noncomputable def mh:Func:=Tryz.f383
def JZ:List Ev.Way:= [.r,.r,.l,.k]
def J0:List Ev.Way:= [.r,.r,.r,.r,.r,.r,.r,.l,.r,.k]
def J1:List Ev.Way:= [.r,.r,.r,.r,.r,.r,.r,.r,.l,.r,.k]
def ako:ni JZ (nW mh)=some (.loop (kH JZ mh)):=by kernel_rfl
def akp:ni J0 (nW mh)=some (.loop (kH J0 mh)):=by kernel_rfl
def akq:ni J1 (nW mh)=some (.loop (kH J1 mh)):=by kernel_rfl
def J2 (u v s:Int) (h:Nat):Fr:=⟨[⟨2,313,4,cG u v⟩,⟨4,313,4,ZS⟩],[(1,bj (.int .i64 s)),(5,bj (.int .i64 ((h:Nat):Int)))]⟩
def J3 (u v s t:Int) (h:Nat) (x:mC):Fr:=⟨[⟨2,313,4,cG u v⟩,⟨4,313,4,ZS⟩,⟨7,313,4,cG x.a x.b⟩,⟨8,313,4,cG x.c x.d⟩],[(1,bj (.int .i64 s)),(5,bj (.int .i64 ((h:Nat):Int))),(6,bj (.int .i64 t)),(9,bj (.int .u32 ((x.i:Nat):Int)))]⟩
def J4 (u v s t:Int) (h:Nat) (x:mC):Fr:=⟨[⟨2,313,4,cG u v⟩,⟨4,313,4,ZS⟩,⟨7,313,4,cG x.a x.b⟩,⟨8,313,4,cG x.c x.d⟩],[(1,bj (.int .i64 s)),(5,bj (.int .i64 ((h:Nat):Int))),(6,bj (.int .i64 t)),(50,bj (.int .i64 ((h:Nat):Int))),(51,bj (.int .i64 ((x.i:Nat):Int)))]⟩
def avM :Cg mh.ntmps JZ (nW mh) (.loop (kH JZ mh)) ⟨[],AX [cG u v,bj (.int .i64 s)] 0⟩ (J2 u v s 4):=by
 exact L6 [.z u,.z v,.i s] [] 0 [] [] ⟨[],[(0,ah 0 1),(1,aA 2)]⟩ ⟨[⟨2,313,4,ah 0 1⟩,⟨4,313,4,.lit zS⟩],[(1,aA 2),(5,gN 4)]⟩ ako (fun d=>by kernel_rfl) .nil .nil
def avN (D:48<=s/\s<=23000): ∀h:Nat,(4<=h/\h<=160)->
 (∃y:Nat,(4<=y/\y<=160)/\200-y<200-h/\(∀o:Nat,(s<=((o*o:Nat):Int)/\4<=o/\o<=160)->(s<=((o*o:Nat):Int)/\4<=o/\o<=160))/\qB mh.ntmps (kH JZ mh) (J2 u v s h) .normal (J2 u v s y))\/
 (∃o:Nat,(s<=((o*o:Nat):Int)/\4<=o/\o<=160)/\Out.exit 0≠ .normal/\qB mh.ntmps (kH JZ mh) (J2 u v s h) (.exit 0) (J2 u v s o)):=by
 rintro h ⟨A,e⟩;have x:h*h<=160*160:=bJ e e;have q:IntKind.i64.wrap (((h:Nat):Int)*((h:Nat):Int))=((h*h:Nat):Int):=by rw [<-eA];exact aB _ (by omega)
 by_cases j:(((h*h):Nat):Int)<s
 ·have f:=decide_eq_true j
  have C:IntKind.i64.wrap (((h:Nat):Int)+1)=(((h+1):Nat):Int):=by rw [aB _ (by omega)];omega
  have t:h<159:=by
   refine Nat.not_le.1 fun p=> ?_
   have:=bJ p p;omega
  exact .inl ⟨h+1,⟨by omega,by omega⟩,by omega,fun _ h=>h,tJ [.i ((h:Nat):Int),.i (((h*h):Nat):Int),.i s,.i (((h+1):Nat):Int),.z u,.z v] [] 0 [.ar .mul (.i 0) (.i 0) (.i 1),.cm .lss (.i 1) (.i 2) true,.ar .add (.i 0) (.l 1) (.i 3)] [] ⟨[⟨2,313,4,ah 4 5⟩,⟨4,313,4,.lit zS⟩],[(1,aA 2),(5,aA 0)]⟩ ⟨[⟨2,313,4,ah 4 5⟩,⟨4,313,4,.lit zS⟩],[(1,aA 2),(5,aA 3)]⟩ (fun d=>by kernel_rfl) (.k q (.k f (.k C .nil))) .nil⟩
 ·have f:=decide_eq_false j
  exact .inr ⟨h,⟨by omega,A,e⟩,by simp,tJ [.i ((h:Nat):Int),.i (((h*h):Nat):Int),.i s,.z u,.z v] [] 0 [.ar .mul (.i 0) (.i 0) (.i 1),.cm .lss (.i 1) (.i 2) false] [] ⟨[⟨2,313,4,ah 3 4⟩,⟨4,313,4,.lit zS⟩],[(1,aA 2),(5,aA 0)]⟩ ⟨[⟨2,313,4,ah 3 4⟩,⟨4,313,4,.lit zS⟩],[(1,aA 2),(5,aA 0)]⟩ (fun d=>by kernel_rfl) (.k q (.k f .nil)) .nil⟩
def avO {j:Nat} (N:Bz i a) (O:Bz j b) (hi:i<=500000) (hj:j<=500000) (hs:48<=s/\s<=23000) (hh:h<=160) (hg:g=(s+((h:Nat):Int)+24).toNat) (J:a.natAbs<=64*2^s.toNat) (M:b.natAbs<=64*2^s.toNat):
 ∃u v p,u.natAbs<=64*2^(s.toNat+24)/\v.natAbs<=64*2^(s.toNat+24)/\p=2^(s+((h:Nat):Int)+24).toNat/\Bz (i+200) u/\Bz (j+200) v/\S8 mh.ntmps JZ (.exit 0) J0 (nW mh) (.loop (kH J0 mh)) (J2 a b s h) (J3 u v s (s+((h:Nat):Int)+24) h ⟨p,p,p,p,1,true⟩):=by
 have W:=aB (s+((h:Nat):Int)) (by omega);have X:=aB ((s+((h:Nat):Int))+24) (by omega);have Y:=aB (((s+((h:Nat):Int))+24)-s) (by omega);obtain ⟨Z,y5,H,I,t,F⟩:=XQ (n:=(((s+((h:Nat):Int))+24)-s)) (c:=200) N O;obtain ⟨e,f,D,T,o,C⟩:=uX (n:=((h:Nat):Int)) H I;obtain ⟨A,si,S,R⟩:=S2 (n:=((s+((h:Nat):Int))+24)) (c:=g);have G:(((s+((h:Nat):Int))+24)-s).toNat=h+24:=by omega
 have x: ∀q:Int,q.natAbs<=64*2^s.toNat->(q*2^(((s+((h:Nat):Int))+24)-s).toNat).natAbs<=64*2^(s.toNat+24)*2^h:=fun q Q=>by
  rw [XT,G,bC 2 h 24,bC 2 s.toNat 24];have:=aN (2^h*2^24) Q
  calc q.natAbs*(2^h*2^24)<=64*2^s.toNat*(2^h*2^24):=this
   _=64*(2^s.toNat*2^24)*2^h:=by rw [bG (2^h),<-bD,bD 64]
 have b1:e.natAbs<=64*2^(s.toNat+24):=by rw [o.1,t.1];exact (Pv (x a J)).1
 have E:f.natAbs<=64*2^(s.toNat+24):=by rw [o.2,t.2];exact (Pv (x b M)).2
 exact ⟨e,f,A,b1,E,S,D,T,ai8 [.i s,.i ((h:Nat):Int),.i (s+((h:Nat):Int)),.i ((s+((h:Nat):Int))+24),.i (((s+((h:Nat):Int))+24)-s),.z a,.z b,.z Z,.z y5,.z e,.z f,.z A] [] 0 [.ar .add (.i 0) (.i 1) (.i 2),.ar .add (.i 2) (.l 24) (.i 3),.ar .sub (.i 3) (.i 0) (.i 4)] [⟨369,[ah 5 6,aA 4],ah 7 8⟩,⟨358,[ah 7 8,aA 1],ah 9 10⟩,⟨365,[aA 3],ah 11 11⟩] ⟨[⟨2,313,4,ah 5 6⟩,⟨4,313,4,.lit zS⟩],[(1,aA 0),(5,aA 1)]⟩ ⟨[⟨2,313,4,ah 9 10⟩,⟨4,313,4,.lit zS⟩,⟨7,313,4,ah 11 11⟩,⟨8,313,4,ah 11 11⟩],[(1,aA 0),(5,aA 1),(6,aA 3),(9,.i (.k .u32 1))]⟩ (by kernel_rfl) ako akp (fun d=>by kernel_rfl) (.k W (.k X (.k Y .nil))) (.k F (.k C (.k R .nil)))⟩
def akr {n:Nat} (e:2*b.natAbs<=2^n):(a*b).natAbs/2^n<=a.natAbs/2:=by
 have d:0<2^n:=aM (n:=n) (show 0<2 by decide);rw [dK,cK (by decide)];have f:=dM (a.natAbs*b.natAbs) (2^n);have j:a.natAbs*(2*b.natAbs)<=a.natAbs*2^n:=aR _ e;refine bU (c:=2^n) ?_ d;grind
def aks {n:Nat} (d:a.natAbs<=2^n:=by omega):(a*b).natAbs/2^n<=b.natAbs:=by
 have:=ac4 (a:=b) (b:=a) (n:=n) (C:=1);grind
def adm (P U K:Nat) (x:mC):Prop:=1<=x.i/\ ∃g,x.b.natAbs<2^g/\8<=x.b.natAbs/\max x.i 2+g<=K/\
 ((x.i=1/\x.a.natAbs<=P/\x.b.natAbs<=P/\x.c.natAbs<=P/\x.d.natAbs<=P)\/(2<=x.i/\x.c.natAbs+x.a.natAbs<=P+2*U+4*x.i/\x.d.natAbs+x.b.natAbs<=P+2*U+4*x.i))
def YP (P U K:Nat) (o:mC):Prop:=o.c.natAbs<=P+2*U+4*K+4/\o.d.natAbs<=P+2*U+4*K+4
def avP {b:Nat} (hi:1<=i) (f:b<2^g) (e:8<=b) (p:max i 2+g<=K) (q:m<=b/2+1) (t:y<=m/i+1): ∃d,y<2^d/\max (i+1) 2+d<=K:=by
 obtain ⟨H,o,j,k,l⟩:=ac7 f e;by_cases h:i=1
 ·grind
 ·have:=Hf (x:=m) (show 2<=i by omega)
  grind
def akt {a c s:Nat} (hi:1<=i) (h:(i=1/\a<=P/\c<=P)\/(2<=i/\c+a<=P+2*U+4*i)) (j:m<=a/2+1) (o:a<=P->m<=U+1) (l:y<=m/i+1) (k:s<=c+y):s+y<=P+2*U+4*(i+1):=by
 rcases h with ⟨d,e,f⟩|⟨d,e⟩
 ·grind
 ·have:=Hf (x:=m) d
  omega
def avQ {ku kv:Nat} (hu:Bz ku u) (hv:Bz kv v) (hku:ku<=600000) (hkv:kv<=600000) (hn:0<=n/\n<=100000) (hP:P=2^n.toNat) (M:2*u.natAbs<=2^n.toNat) (jQ:2*v.natAbs<=2^n.toNat) (N:u.natAbs<=U) (O:v.natAbs<=U) (hU:2*U<=P) (hK:K<=100000) (hKP:4*K+8<=P) (hB:P<=2^B) (tL:2^(B+2)=4*2^B) (hBk:B<=100000:=by omega): ∀x,adm P U K x->
 (∃y,adm P U K y/\(fun z:mC=>K-z.i) y<(fun z:mC=>K-z.i) x/\(∀o:mC,YP P U K o->YP P U K o)/\qB mh.ntmps (kH J0 mh) (J3 u v s n h x) .normal (J3 u v s n h y))\/
 (∃o:mC,YP P U K o/\Out.exit 2≠ .normal/\qB mh.ntmps (kH J0 mh) (J3 u v s n h x) (.exit 2) (J3 u v s n h o)):=by
 rintro ⟨a,t,c,d,i,m⟩ ⟨F,g,hg,h8,hk,e⟩;simp only at F hg h8 hk e;have ha:Bz (B+2) a:=by unfold Bz;omega
 have hb:Bz (B+2) t:=by unfold Bz;omega
 have hc:Bz (B+2) c:=by unfold Bz;omega
 have hd:Bz (B+2) d:=by unfold Bz;omega
 obtain ⟨C,I,h3,h4,E,Z⟩:=Fb (n:=n) ha hb hu hv;obtain ⟨f,j,G,J,pJ,qe⟩:=S3 (d:=i) h3 h4;obtain ⟨p,q,AZ,xp,TK,Y⟩:=Fa hc hd G J;have Q:C.natAbs<=a.natAbs/2+1:=by rw [E.1];exact aL (Ty _ _) (dI (akr M))
 have A:I.natAbs<=t.natAbs/2+1:=by rw [E.2];exact aL (Pg _ _) (dI (akr jQ))
 have R:a.natAbs<=P->C.natAbs<=U+1:=fun h=>by rw [E.1];exact aL (Ty _ _) (dI (aL (aks) N))
 have S:t.natAbs<=P->I.natAbs<=U+1:=fun h=>by rw [E.2];exact aL (Pg _ _) (dI (aL (aks) O))
 have T:f.natAbs<=C.natAbs/i+1:=by grind
 have D:=pJ.2.2.1;have W:p.natAbs<=c.natAbs+f.natAbs:=by omega
 have X:q.natAbs<=d.natAbs+j.natAbs:=by grind
 have q1:=akt (U:=U) F (e.imp (fun h=>⟨h.1,h.2.1,h.2.2.2.1⟩) (fun h=>⟨h.1,h.2.1⟩)) Q R T W;have q2:=akt (U:=U) F (e.imp (fun h=>⟨h.1,h.2.2.1,h.2.2.2.2⟩) (fun h=>⟨h.1,h.2.2⟩)) A S D X;obtain ⟨g2,k1,k2⟩:=avP F hg h8 hk A D;have H:=S1 (a:=f) J;by_cases G:j.natAbs<8
 ·rw [decide_eq_true G] at H
  obtain ⟨l,A0,zo,vR⟩:=yf xp J;have zz3:l.natAbs<=q.natAbs+j.natAbs:=by grind
  exact .inr ⟨⟨f,j,p,l,i,m⟩,⟨by grind,by grind⟩,by simp,tJ [.z a,.z t,.z u,.z v,.i n,.z C,.z I,.u i,.z f,.z j,.z c,.z d,.z p,.z q,.z l,.i s,.i ((h:Nat):Int)] [] 0 [] [⟨384,[ah 0 1,ah 2 3,aA 4],ah 5 6⟩,⟨386,[ah 5 6,.i (.u 7)],ah 8 9⟩,⟨359,[ah 10 11,ah 8 9],ah 12 13⟩,⟨385,[ah 8 9],.b true⟩,⟨89,[aK 13,aK 9],aK 14⟩] ⟨[⟨2,313,4,ah 2 3⟩,⟨4,313,4,.lit zS⟩,⟨7,313,4,ah 0 1⟩,⟨8,313,4,ah 10 11⟩],[(1,aA 15),(5,aA 16),(6,aA 4),(9,.i (.u 7))]⟩ ⟨[⟨2,313,4,ah 2 3⟩,⟨4,313,4,.lit zS⟩,⟨7,313,4,ah 8 9⟩,⟨8,313,4,ah 12 14⟩],[(1,aA 15),(5,aA 16),(6,aA 4),(9,.i (.u 7))]⟩ (fun d=>by kernel_rfl) .nil (.k Z (.k qe (.k Y (.k H (.k vR .nil)))))⟩
 ·rw [decide_eq_false G] at H
  have w1:IntKind.u32.wrap (((i:Nat):Int)+1)=(((i+1):Nat):Int):=by rw [cW _ (by omega)];omega
  exact .inl ⟨⟨f,j,p,q,i+1,m⟩,⟨by simp_all,g2,k1,by simp_all,k2,.inr ⟨by simp_all,q1,q2⟩⟩,by grind,fun o h=>h,tJ [.z a,.z t,.z u,.z v,.i n,.z C,.z I,.u i,.z f,.z j,.z c,.z d,.z p,.z q,.u (i+1),.i s,.i ((h:Nat):Int)] [] 0 [.ar .add (.u 7) (.k .u32 1) (.u 14)] [⟨384,[ah 0 1,ah 2 3,aA 4],ah 5 6⟩,⟨386,[ah 5 6,.i (.u 7)],ah 8 9⟩,⟨359,[ah 10 11,ah 8 9],ah 12 13⟩,⟨385,[ah 8 9],.b false⟩] ⟨[⟨2,313,4,ah 2 3⟩,⟨4,313,4,.lit zS⟩,⟨7,313,4,ah 0 1⟩,⟨8,313,4,ah 10 11⟩],[(1,aA 15),(5,aA 16),(6,aA 4),(9,.i (.u 7))]⟩ ⟨[⟨2,313,4,ah 2 3⟩,⟨4,313,4,.lit zS⟩,⟨7,313,4,ah 8 9⟩,⟨8,313,4,ah 12 13⟩],[(1,aA 15),(5,aA 16),(6,aA 4),(9,.i (.u 14))]⟩ (fun d=>by kernel_rfl) (.k w1 .nil) (.k Z (.k qe (.k Y (.k H .nil))))⟩
def avR {c d:Int} {m:Bool} :S8 mh.ntmps J0 (.exit 2) J1 (nW mh) (.loop (kH J1 mh)) (J3 u v s n h ⟨a,b,c,d,i,m⟩) (J4 u v s n h ⟨a,b,c,d,0,m⟩):=by
 exact ai8 [.z u,.z v,.z a,.z b,.z c,.z d,.i s,.i ((h:Nat):Int),.i n,.u i] [] 0 [] [] ⟨[⟨2,313,4,ah 0 1⟩,⟨4,313,4,.lit zS⟩,⟨7,313,4,ah 2 3⟩,⟨8,313,4,ah 4 5⟩],[(1,aA 6),(5,aA 7),(6,aA 8),(9,.i (.u 9))]⟩ ⟨[⟨2,313,4,ah 0 1⟩,⟨4,313,4,.lit zS⟩,⟨7,313,4,ah 2 3⟩,⟨8,313,4,ah 4 5⟩],[(1,aA 6),(5,aA 7),(6,aA 8),(50,aA 7),(51,gN 0)]⟩ (by kernel_rfl) akp akq (fun d=>by kernel_rfl) .nil .nil
def adn (P h:Nat) (x:mC):Prop:=x.i<=h/\(x.c.natAbs+2)*(2^h)^2^x.i<=P*(2^h+129+1)^2^x.i/\(x.d.natAbs+2)*(2^h)^2^x.i<=P*(2^h+129+1)^2^x.i
def aku {s:Nat} (t:P<=2^B) (A:1<=h) (hi:i<=h) (z:(s+2)*(2^h)^2^i<=P*(2^h+129+1)^2^i):s<2^(B+260):=by
 have x: ∃k,2^h=2*k:=⟨2^(h-1),by rw [<-Nat.pow_succ'];congr 1;omega⟩;have d:0<2^h:=aM (by decide);have l:=avL (c:=129) (e:=2^i) x d (aF (by decide) hi);have o:0<(2^h)^2^i:=aM d;generalize (2^h+129+1)^2^i=C at*;generalize (2^h)^2^i=j at*;have p:(s+2)*j<=2^B*4^(129+1)*j:=by
  refine aL z ?_;rw [bD];exact bJ t l
 have f:=bU p o;have q: ∀k:Nat,2^(B+2*k)=2^B*4^k:=fun k=>by rw [bC,fE]
 rw [<-q] at f;exact ax (gG (ji s)) f
def avS (hn:0<=n/\n<=100000) (T:P=2^n.toNat) (D:4<=P) (F:P<=2^B) (S:B<=100000:=by omega) (G:1<=h:=by omega) (X:h<=1000:=by omega): ∀x,adn P h x->
 (∃y,adn P h y/\(fun z:mC=>h-z.i) y<(fun z:mC=>h-z.i) x/\(∀o:mC,(Zb 200000 o.c/\Zb 200000 o.d)->(Zb 200000 o.c/\Zb 200000 o.d))/\qB mh.ntmps (kH J1 mh) (J4 u v s n h x) .normal (J4 u v s n h y))\/
 (∃o:mC,(Zb 200000 o.c/\Zb 200000 o.d)/\Out.exit 4≠ .normal/\qB mh.ntmps (kH J1 mh) (J4 u v s n h x) (.exit 4) (J4 u v s n h o)):=by
 rintro ⟨a,t,c,d,i,m⟩ ⟨j,e,q⟩;simp only at j e q;have hc:Bz (B+260) c:=aku F G j e;have f:Bz (B+260) d:=aku F G j q;by_cases E:((i:Nat):Int)<((h:Nat):Int)
 ·have p:=decide_eq_true E
  obtain ⟨A,C,Y,Z,R,N⟩:=Fb (n:=n) hc f hc f;have O:A.natAbs<=c.natAbs*c.natAbs/P+1:=by grind
  have Q:C.natAbs<=d.natAbs*d.natAbs/P+1:=by rw [R.2,T,<-dK];exact Pg _ _
  have M:2^(i+1)=2*2^i:=by omega
  have H:0<2^h:=aM (by decide);have I:=akn D (show 2^h<=2^h+129+1 by omega) H e O;have J:=akn D (show 2^h<=2^h+129+1 by omega) H q Q;rw [<-M] at I J;have W:IntKind.i64.wrap (((i:Nat):Int)+1)=(((i+1):Nat):Int):=by rw [aB _ (by omega)];omega
  exact .inl ⟨⟨a,t,A,C,i+1,m⟩,⟨by grind,I,J⟩,by grind,fun o h=>h,tJ [.i ((i:Nat):Int),.i ((h:Nat):Int),.z c,.z d,.i n,.z A,.z C,.i (((i+1):Nat):Int),.z u,.z v,.z a,.z t,.i s] [] 0 [.cm .lss (.i 0) (.i 1) true,.ar .add (.i 0) (.l 1) (.i 7)] [⟨384,[ah 2 3,ah 2 3,aA 4],ah 5 6⟩] ⟨[⟨2,313,4,ah 8 9⟩,⟨4,313,4,.lit zS⟩,⟨7,313,4,ah 10 11⟩,⟨8,313,4,ah 2 3⟩],[(1,aA 12),(5,aA 1),(6,aA 4),(50,aA 1),(51,aA 0)]⟩ ⟨[⟨2,313,4,ah 8 9⟩,⟨4,313,4,.lit zS⟩,⟨7,313,4,ah 10 11⟩,⟨8,313,4,ah 5 6⟩],[(1,aA 12),(5,aA 1),(6,aA 4),(50,aA 1),(51,aA 7)]⟩ (fun d=>by kernel_rfl) (.k p (.k W .nil)) (.k N .nil)⟩
 ·have p:=decide_eq_false E
  exact .inr ⟨⟨a,t,c,d,i,m⟩,⟨⟨_,by omega,hc⟩,⟨_,by omega,f⟩⟩,by simp,tJ [.i ((i:Nat):Int),.i ((h:Nat):Int),.z u,.z v,.z a,.z t,.z c,.z d,.i s,.i n] [] 0 [.cm .lss (.i 0) (.i 1) false] [] ⟨[⟨2,313,4,ah 2 3⟩,⟨4,313,4,.lit zS⟩,⟨7,313,4,ah 4 5⟩,⟨8,313,4,ah 6 7⟩],[(1,aA 8),(5,aA 1),(6,aA 9),(50,aA 1),(51,aA 0)]⟩ ⟨[⟨2,313,4,ah 2 3⟩,⟨4,313,4,.lit zS⟩,⟨7,313,4,ah 4 5⟩,⟨8,313,4,ah 6 7⟩],[(1,aA 8),(5,aA 1),(6,aA 9),(50,aA 1),(51,aA 0)]⟩ (fun d=>by kernel_rfl) (.k p .nil) .nil⟩
def avT (H:0<=s/\s<=n) (G:n<=100000) (o:mC) (D:Zb 200000 o.c/\Zb 200000 o.d): ∃x y,Zb 200000 x/\Zb 200000 y/\yn mh.ntmps J1 (.exit 4) (nW mh) mh (J4 u v s n h o) (cG x y):=by
 obtain ⟨a,t,c,d,i,m⟩:=o;obtain ⟨⟨I,A,hc⟩,⟨kd,C,e⟩⟩:=D;simp only at hc e;have E:=aB (n-s) (by omega);obtain ⟨f,j,p,q,F,l⟩:=uX (n:=(n-s)) hc e;exact ⟨f,j,⟨_,by omega,p⟩,⟨_,by omega,q⟩,G' [.i n,.i s,.i (n-s),.z c,.z d,.z f,.z j,.z u,.z v,.z a,.z t,.i ((h:Nat):Int),.i ((i:Nat):Int)] [] 0 [.ar .sub (.i 0) (.i 1) (.i 2)] [⟨358,[ah 3 4,aA 2],ah 5 6⟩] ⟨[⟨2,313,4,ah 7 8⟩,⟨4,313,4,.lit zS⟩,⟨7,313,4,ah 9 10⟩,⟨8,313,4,ah 3 4⟩],[(1,aA 1),(5,aA 11),(6,aA 0),(50,aA 11),(51,aA 12)]⟩ (ah 5 6) akq (fun d=>by kernel_rfl) (.k E .nil) (.k l .nil)⟩
def avU {f:FuncId} {d:Func} {Rs:List (World->Value->Prop)} {R:World->Value->Prop} {c b1 k l:Code} {E F G:List Ev.Way} {A C D:Out} {o p q t x z:Fr} (hf:Tryz.prog.funcs[f]? =some d) (hb:d.body=some c) (j:Rs.length<=d.ntmps)
 (hp:Cg d.ntmps E c (.loop b1) ⟨[],AX Rs 0⟩ o) (l1:qB d.ntmps (.loop b1) o A p) (Q:S8 d.ntmps E A F c (.loop k) p q) (l2:qB d.ntmps (.loop k) q C t) (T:S8 d.ntmps F C G c (.loop l) t x) (l3:qB d.ntmps (.loop l) x D z) (he:yn d.ntmps G D c d z R):bH Tryz.prog bw f Rs R:=
 acu hf hb j fun S base e a w h=>hp S base e a w _ h fun H w1 W=>l1 S base e H w1 _ W fun I w2 X=>Q S base e I w2 _ X fun J w3 Y=>l2 S base e J w3 _ Y fun M w4 Z=>T S base e M w4 _ Z fun N w5 h5=>l3 S base e N w5 _ h5 fun O w6 h6=>he S base e O w6 h6
def avV (M:48<=s/\s<=23000) (H:a.natAbs<=64*2^s.toNat) (I:b.natAbs<=64*2^s.toNat): ∃x y,Zb 200000 x/\Zb 200000 y/\bH Tryz.prog bw 383 [cG a b,bj (.int .i64 s)] (cG x y):=by
 have k: ∀z:Int,z.natAbs<=64*2^s.toNat->Bz (s.toNat+7) z:=fun z k=>by
  have h1:2^(s.toNat+7)=128*2^s.toNat:=by rw [bC,bG]
  have t:0<2^s.toNat:=aM (n:=s.toNat) (show 0<2 by decide);unfold Bz;omega
 obtain ⟨h,⟨hsh,hh4,hh⟩,S⟩:=Jt (nt:=mh.ntmps) (c:=kH JZ mh) (out:= .exit 0) (J2 a b s) (fun h=>200-h) (fun h=>4<=h/\h<=160) (J2 a b s) (fun _ o=>s<=((o*o:Nat):Int)/\4<=o/\o<=160) (avN M) 4 ⟨by decide,by decide⟩;have h7:7<=h:=by
  refine Nat.not_lt.1 fun h9=> ?_
  have:=bJ (show h<=6 by omega) (show h<=6 by omega);omega
 obtain ⟨g,j⟩: ∃g:Nat,g=(s+((h:Nat):Int)+24).toNat:=⟨_,rfl⟩;obtain ⟨u,v,p,N,O,J,W,T,G⟩:=avO (k a H) (k b I) (by omega) (by omega) M hh j H I;obtain ⟨n,hn⟩: ∃n:Int,n=s+((h:Nat):Int)+24:=⟨_,rfl⟩;rw [<-hn] at J G j;obtain ⟨P,e⟩: ∃P:Nat,P=2^n.toNat:=⟨_,rfl⟩;obtain ⟨U,C⟩: ∃U:Nat,U=64*2^(s.toNat+24):=⟨_,rfl⟩;rw [<-C] at N O;have f:P=2^(s.toNat+24)*2^h:=by rw [e,<-bC];congr 1;omega
 have q:128<=2^h:=aL (show 128<=2^7 by decide) (aF (by decide) h7);have D:2*U<=P:=by
  rw [f,C];have:=aR (2^(s.toNat+24)) q;omega
 have l:=Yv (s:=n.toNat);rw [<-e] at l;have Z:=Yv (s:=s.toNat+24);have F:p.natAbs=P:=by rw [J,e,mQ];rfl
 obtain ⟨K,hK⟩: ∃K:Nat,K=g+3:=⟨_,rfl⟩;have A:P<2^(g+1):=by rw [e,<-j,bL];have:=aM (n:=g) (show 0<2 by decide);omega
 obtain ⟨o,E,tq⟩:=Jt (nt:=mh.ntmps) (c:=kH J0 mh) (out:= .exit 2) (J3 u v s n h) (fun z=>K-z.i) (adm P U K) (J3 u v s n h) (fun _=>YP P U K) (avQ (B:=g) W T (by omega) (by omega) (by omega) e (by rw [<-e];omega) (by rw [<-e];omega) N O D (by omega) (by omega) (by rw [e,j];exact ak _) (by rw [bC,bG])) ⟨p,p,p,p,1,true⟩
  ⟨ak _,g+1,by show p.natAbs<_;rw [F];exact A,by show 8<=p.natAbs;omega,by show max 1 2+(g+1)<=K;omega,.inl ⟨rfl,by show p.natAbs<=P;omega,by show p.natAbs<=P;omega,by show p.natAbs<=P;omega,by show p.natAbs<=P;omega⟩⟩
 obtain ⟨Y,b2,c2,d2,i2,m2⟩:=o;obtain ⟨Q,R⟩:=E;simp only at Q R;have t: ∀z:Nat,z<=P+2*U+4*K+4->(z+2)*(2^h)^2^0<=P*(2^h+129+1)^2^0:=fun z k=>by
  rw [kS,mi,mi];have e1:U*2^h=64*P:=by rw [C,f,bD]
  have e2:(4*K+6)*2^h<=P:=by rw [f];exact aN _ (by omega)
  have e3:(z+2)*2^h<=(P+2*U+(4*K+6))*2^h:=aN _ (by omega);have e4:(P+2*U+(4*K+6))*2^h=P*2^h+2*(U*2^h)+(4*K+6)*2^h:=by rw [dE,dE,bD 2]
  have e5:P*(2^h+129+1)=P*2^h+130*P:=by rw [ft,fA,bG P (129+1)]
  omega
 obtain ⟨o,E,X⟩:=Jt (nt:=mh.ntmps) (c:=kH J1 mh) (out:= .exit 4) (J4 u v s n h) (fun z=>h-z.i) (adn P h) (J4 u v s n h) (fun _ o=>Zb 200000 o.c/\Zb 200000 o.d) (avS (B:=g) (by omega) e (by omega) (by rw [e,j];exact ak _)) ⟨Y,b2,c2,d2,0,m2⟩
  ⟨bZ _,t _ Q,t _ R⟩
 obtain ⟨x,y,hx,hy,hf⟩:=avT (u:=u) (v:=v) (s:=s) (n:=n) (h:=h) (by omega) (by omega) o E;exact ⟨x,y,hx,hy,avU Tryz.func383 (by kernel_rfl) (by rw [show Tryz.f383.ntmps=_ from Tryz.ntmps383];simp) avM S G tq avR X hf⟩
end
section
open Go.RowKit Go.Ev
def avX {m e s r d j f l:Int} (z:0<=r) (y:0<=e+s/\d=m*2^(e+s).toNat/\j=m*2^(e+s).toNat\/e+s<0/\d=m/2^(-(e+s)).toNat/\j= -(-m/2^(-(e+s)).toNat))
 (i:0<=e+(s+r)/\f=m*2^(e+(s+r)).toNat/\l=m*2^(e+(s+r)).toNat\/e+(s+r)<0/\f=m/2^(-(e+(s+r))).toNat/\l= -(-m/2^(-(e+(s+r))).toNat)):d*2^r.toNat<=f/\f<=d*2^r.toNat+2^r.toNat:=by
 have a: ∀k:Nat,(0:Int)<2^k:=fun k=>eE (by decide)
 rcases y with ⟨o,rfl,-⟩|⟨o,rfl,-⟩
 ·rcases i with ⟨g,rfl,-⟩|⟨g,-,-⟩
  ·have b:m*2^(e+(s+r)).toNat=m*2^(e+s).toNat*2^r.toNat:=by rw [kg,<-pO];congr 2;omega
   grind
  omega
 ·have b1:=jx m (2^(-(e+s)).toNat)
  have p:=gB m (px (a (-(e+s)).toNat));have q:=fN m (a (-(e+s)).toNat);have c1:m/2^(-(e+s)).toNat*2^(-(e+s)).toNat<=m:=by grind
  have h:m<(m/2^(-(e+s)).toNat+1)*2^(-(e+s)).toNat:=by grind
  generalize m/2^(-(e+s)).toNat=x at*;clear b1 p q;rcases i with ⟨g,rfl,-⟩|⟨g,rfl,-⟩
  ·have b:(2:Int)^r.toNat=2^(-(e+s)).toNat*2^(e+(s+r)).toNat:=by rw [<-pO];congr 1;omega
   have t:=bO c1 (cR (a (e+(s+r)).toNat));have u:=bO (cR h) (cR (a (e+(s+r)).toNat));rw [kg,<-b] at t u;grind
  ·have b:(2:Int)^(-(e+s)).toNat=2^r.toNat*2^(-(e+(s+r))).toNat:=by rw [<-pO];congr 1;omega
   rw [b,<-kg] at c1 h;constructor
   ·exact (fH (a _)).2 c1
   ·have:=gQ (a _) h
    grind
def avY {D b e R W a l2 L q:Int} (d:0<R) (E:W=4294967296*R) (B:D<=b) (C:b<=D+1) (f:q*(2*(a+l2))<=2*(D+b)+(a+l2)) (g:2*(D+b)+(a+l2)<q*(2*(a+l2))+2*(a+l2))
 (F:D*R<=e) (s2:e<=D*R+R) (a1:690*4294967296<=1000*a) (a2:a<=l2) (z:1000*l2<=695*4294967296) (b1:690*W<=1000*L) (A:1000*L<=695*W) (o:q.natAbs<=11900):(e-L*(q-1)).natAbs<=(63*W).natAbs:=by
 obtain ⟨Y,m⟩:=pU (a+l2);rw [<-m] at f g;have u:1380*4294967296<=1000*Y:=by omega
 have x:1000*Y<=1390*4294967296:=by omega
 have l:q*(2*Y)=2*(q*Y):=by grind
 rw [l] at f g;have p:=bO (show 4*D-2*(q*Y)<=Y by omega) (cR d);have h:=bO (show-Y-2<=4*D-2*(q*Y) by omega) (cR d);have s:=bO u (cR d);have t:=bO x (cR d);have i:(4*D-2*(q*Y))*R=4*(D*R)-2*(q*Y*R):=by grind
 have j:(-Y-2)*R= -(Y*R)-2*R:=by grind
 have k:1000*Y*R=1000*(Y*R):=kg _ _ _;rw [i] at p h;rw [j] at h;rw [k] at s t;have y:(Y*R-2*L).natAbs*100<=W.natAbs:=by omega
 have G:(q*(Y*R-2*L)).natAbs*100<=11900*W.natAbs:=by
  rw [dK,bD];exact bJ o y
 grind
def avZ {m e s x y:Int} (h:0<=e+s/\x=m*2^(e+s).toNat/\y=m*2^(e+s).toNat\/e+s<0/\x=m/2^(-(e+s)).toNat/\y= -(-m/2^(-(e+s)).toNat)):x<=y/\y<=x+1:=by
 rcases h with ⟨a,rfl,rfl⟩|⟨a,rfl,rfl⟩
 ·omega
 ·exact adj m (-(e+s)).toNat
def av1 {m e s:Int} (h:DV m e) (hd:((eW m.natAbs:Nat):Int)+e<=13) (hs:24<=s/\s<=10300): ∃x y,Zb 300000 x/\Zb 300000 y/\bH Tryz.prog bw 364 [i9 m e,bj (.int .i64 s)] (cG x y):=by
 obtain ⟨x1,y2,⟨k3,h4,h5⟩,⟨k6,h7,h8⟩,e9,xf⟩:=OZ (s:=32) h;have q11:=YC (N:=13) e9 hd;obtain ⟨x12,y13,⟨k14,AZ,xp⟩,⟨k17,xv,U⟩,P,G⟩:=adi (s:=32);have F:=q11;have o:=P;rw [show (13+(32:Int)).toNat=45 from rfl] at F;rw [show (32:Int).toNat=32 from rfl] at o;have v1:((2^32:Nat):Int)=4294967296:=by decide
 have v2:(2:Nat)^45=35184372088832:=by decide
 rw [v1] at o;rw [v2] at F;obtain ⟨a,Jq,Cd,Po⟩:=akf (Q:=11899) h5 h8 xp U;have hq:a.natAbs<=11900:=Jq;have w26:=aB (a-1) (by omega);have w27:=aB (s+(max (a-1) 0)) (by omega);have w28:=aB ((s+(max (a-1) 0))+24) (by omega);have w29:=aB (((s+(max (a-1) 0))+24)+16) (by omega);obtain ⟨n,hn⟩: ∃n:Int,n=((s+(max (a-1) 0))+24):=⟨_,rfl⟩;obtain ⟨p,y31,⟨k32,zG,JX⟩,⟨k35,Pr,MD⟩,TJ,ME⟩:=OZ (s:=(((s+(max (a-1) 0))+24)+16)) h;obtain ⟨Px,YF,⟨k42,h43,YJ⟩,⟨k45,h46,X⟩,S,H⟩:=adi (s:=(((s+(max (a-1) 0))+24)+16));obtain ⟨x50,y51,TF,Y,T,I⟩:=Jn (n:=(a-1)) YJ X;obtain ⟨q,A,Z,h59,f,J⟩:=Jm JX MD TF Y;obtain ⟨t,B,h64,h65,g,M⟩:=uX (n:=16) Z h59;have p3:=S;have hx:=avZ TJ;have b:=avX (s:=32) (r:=((s+(max (a-1) 0))+24)-16) (by omega) e9 (show _ from (by rw [show (32:Int)+(((s+(max (a-1) 0))+24)-16)=(((s+(max (a-1) 0))+24)+16) by omega];exact TJ));obtain ⟨W,hW⟩: ∃W:Nat,W=2^((((s+(max (a-1) 0))+24)+16)).toNat:=⟨_,rfl⟩;obtain ⟨R,hR⟩: ∃R:Nat,R=2^(((s+(max (a-1) 0))+24)-16).toNat:=⟨_,rfl⟩;have hWR:W=4294967296*R:=by rw [hW,hR,show ((((s+(max (a-1) 0))+24)+16)).toNat=32+(((s+(max (a-1) 0))+24)-16).toNat by omega,bC]
 have hRc:(2:Int)^(((s+(max (a-1) 0))+24)-16).toNat=(R:Int):=by rw [hR,gw];rfl
 have hR0:0<R:=by rw [hR];exact aM (by decide)
 rw [hRc] at b;rw [<-hW] at p3;have d: ∀L:Int,690*(W:Int)<=1000*L->1000*L<=695*(W:Int)->(p-L*(a-1)).natAbs<=(63*(W:Int)).natAbs:=fun L D E=>
  avY (R:=(R:Int)) (W:=(W:Int)) (by omega) (by omega) F.2.2.1 F.2.2.2 Cd.1 Cd.2 b.1 b.2 o.1 o.2.1 o.2.2.1 D E hq
 have aGC:=d Px p3.1 (by omega);have av2:=d YF (by omega) p3.2.2.1;clear d;have hlk:=T;have tq:q.natAbs<=64*W/\A.natAbs<=64*W:=by
  rw [f.1,f.2];rcases hlk with ⟨-,D,E⟩|⟨-,D,E⟩<;>rw [D,E]<;>omega
 have j:W=2^(((s+(max (a-1) 0))+24)).toNat*2^16:=by rw [hW,<-bC];congr 1;omega
 have b1:t.natAbs<=64*2^(((s+(max (a-1) 0))+24)).toNat:=by rw [g.1];exact (Pv (K:=64*2^(((s+(max (a-1) 0))+24)).toNat) (k:=16) (by rw [bD,<-j];exact tq.1)).1
 have b2:B.natAbs<=64*2^(((s+(max (a-1) 0))+24)).toNat:=by rw [g.2];exact (Pv (K:=64*2^(((s+(max (a-1) 0))+24)).toNat) (k:=16) (by rw [bD,<-j];exact tq.2)).2
 obtain ⟨x68,y69,⟨k70,h71,h72⟩,⟨k73,h74,h75⟩,YM⟩:=avV (s:=((s+(max (a-1) 0))+24)) (by omega) b1 b2;have w77:=aB (((s+(max (a-1) 0))+24)-s) (by omega);have w78:=aB ((((s+(max (a-1) 0))+24)-s)-(a-1)) (by omega);obtain ⟨u,C,h81,h82,e83,O⟩:=uX (n:=((((s+(max (a-1) 0))+24)-s)-(a-1))) h72 h75;refine ⟨u,C,⟨_,by omega,h81⟩,⟨_,by omega,h82⟩,?_⟩;exact fR [.z m,.i e,.z x1,.z y2,.z x12,.z y13,.i a,.i (a-1),.i (max (a-1) 0),.i s,.i (s+(max (a-1) 0)),.i ((s+(max (a-1) 0))+24),.i (((s+(max (a-1) 0))+24)+16),.z p,.z y31,.z Px,.z YF,.z x50,.z y51,.z q,.z A,.z t,.z B,.z x68,.z y69,.i (((s+(max (a-1) 0))+24)-s),.i ((((s+(max (a-1) 0))+24)-s)-(a-1)),.z u,.z C] [] 0 [.ar .sub (.i 6) (.l 1) (.i 7),.mx true (.i 7) (.l 0) (.i 8),.ar .add (.i 9) (.i 8) (.i 10),.ar .add (.i 10) (.l 24) (.i 11),.ar .add (.i 11) (.l 16) (.i 12),.ar .sub (.i 11) (.i 9) (.i 25),.ar .sub (.i 25) (.i 7) (.i 26)] [⟨366,[eO 0 1,gN 32],ah 2 3⟩,⟨370,[gN 32],ah 4 5⟩,⟨382,[ah 2 3,ah 4 5],aA 6⟩,⟨366,[eO 0 1,aA 12],ah 13 14⟩,⟨370,[aA 12],ah 15 16⟩,⟨318,[ah 15 16,aA 7],ah 17 18⟩,⟨319,[ah 13 14,ah 17 18],ah 19 20⟩,⟨358,[ah 19 20,gN 16],ah 21 22⟩,⟨383,[ah 21 22,aA 11],ah 23 24⟩,⟨358,[ah 23 24,aA 26],ah 27 28⟩] [eO 0 1,aA 9] (ah 27 28) (by kernel_rfl) (.k w26 (.k rfl (.k w27 (.k w28 (.k w29 (.k w77 (.k w78 .nil))))))) (.k xf (.k G (.k Po (.k ME (.k H (.k I (.k J (.k M (.k YM (.k O .nil))))))))))
def akv {s t:(Int×Int)×(Int×Int)×Int} (b:Bool) (h:VT s) (h':VT t):VT (cond b s t):=by grind
def akw {c:Int} (h:0<=c:=by decide) (h':c<=11:=by decide):VT ((0,0),(0,0),c):=⟨DV.zero,DV.zero,h,h'⟩
def av3 {m e n f:Int} (h:DV m e) (h':DV n f):VT ((m,e),(n,f),0):=⟨h,h',by simp_all,by simp_all⟩
def vd {x y ex:Int} (d:Zb 500000 x) (e:Zb 500000 y) (p:0<=ex/\ex<=10000:=by decide): ∃z b f a,Zb 600000 f/\Zb 600000 a/\bH Tryz.prog bw 357 [cG x y] (dU z)/\bH Tryz.prog bw 135 [fD z.natAbs] (bj (.int .i64 b))/\bH Tryz.prog bw 358 [cG x y,bj (.int .i64 ex)] (cG f a):=by
 obtain ⟨i,a,d⟩:=d;obtain ⟨j,q,e⟩:=e;obtain ⟨z,o,_,k⟩:=ai3 d e;obtain ⟨b,_,_,g⟩:=GN o.abs;obtain ⟨f,a,m,l,_,h⟩:=uX (n:=ex) d e;exact ⟨z,_,f,a,⟨_,by omega,m⟩,⟨_,by omega,l⟩,k,g,h⟩
end
section
open Go.RowKit Go.Ev
variable {m e n:Int} {k:Nat}
def YS {f:Int} (h:ug m e n f<=0) (a:0<m:=by omega):0<n/\kO m e<=kO n f:=by
 have b:m.sign=1:=cL a;unfold ug at h;grind
def YT (h:m≠0:=by omega):kO m e=((eW m.natAbs:Nat):Int)+e:=by unfold kO;omega
def akx :kO (-m) e=kO m e:=by unfold kO;rw [iM];simp
def av4 (f:0<=n) (g:n<2^k):kO (Dn n 0).1 (Dn n 0).2.1<=(k:Int):=by
 unfold Dn;rw [if_neg (by omega)];by_cases a:n=0
 ·rw [if_pos a];show kO 0 0<=_;unfold kO;omega
 ·rw [if_neg a,decide_eq_false (by omega)]
  split
  ·show kO (jB false (n.natAbs/2^qI n.natAbs)) (0+(qI n.natAbs:Nat))<=_
   have b:n.natAbs<2^k:=by
    grind
   obtain ⟨h,i⟩:=aiu (n:=n.natAbs) (by omega) b;have d:n.natAbs/2^qI n.natAbs<2^(k-qI n.natAbs):=by
    refine nD ?_;rw [<-bC];grind
   have j:=Om (k:=k-qI n.natAbs) d;rw [YT (by show ((_:Nat):Int)≠0;omega)];show ((eW (Int.natAbs ((n.natAbs/2^qI n.natAbs:Nat):Int)):Nat):Int)+_<=_;grind
  ·show kO 0 0<=_;unfold kO;omega
structure T0 (m e n f:Int):Prop where
 z1:m=0->e=0
 z2:n=0->f=0
 le:ug m e n f<=0
 g1:m≠0-> -8192<=e/\kO m e<=2048
 g2:n≠0-> -8192<=f/\kO n f<=2048
 v1:DV m e
 v2:DV n f
def aky {k:Int} (b:m=0->e=0) (d:0<=k) (h:m≠0->kO m e<=k):((eW m.natAbs:Nat):Int)+e<=k:=by
 by_cases a:m=0
 ·have:=b a;subst a;rw [this];show ((eW 0:Nat):Int)+0<=k;rw [an5];omega
 ·rw [<-YT a];omega
def av5 (o:0<=n:=by omega) (p:n<2^k:=by omega) (f:n<=100000:=by omega): ∃a b,DV a b/\kO a b<=(k:Int)/\bH Tryz.prog bw 314 [bj (.int .i64 n)] (i9 a b):=by
 obtain ⟨s,f,j,g⟩:=OT (n:=n);obtain ⟨d,q,l,h⟩:=SX (e:=0) f;refine ⟨d.1,d.2.1,q.1,?_,?_⟩
 ·rw [l,j];exact av4 o p
 exact fR [.i n,.z s,.z d.1,.i d.2.1,.i d.2.2] [] 0 [] [⟨37,[aA 0],aK 1⟩,⟨86,[aK 1,gN 0],.t (eO 2 3) (aA 4)⟩] [aA 0] (eO 2 3) (by kernel_rfl) .nil (.k g (.k h .nil))
def av6 (h:DV m e) (y:0<=n/\n<=8000): ∃b:Bool,(b=false->0<m->kO m e<=13)/\bH Tryz.prog bw 276 [i9 m e,bj (.int .i64 n)] (bj (.bool b)):=by
 obtain ⟨g,j,t,q,o⟩:=av5 (n:=n) (k:=13);obtain ⟨f,s,p⟩:=OP h t;obtain ⟨a,d⟩:=pS (decide (0<f));refine ⟨a,fun x u=> ?_,?_⟩
 ·have hc: ¬0<f:=by simp_all
  rw [s] at hc;exact pz (YS (by omega) u).2 q
 exact fR [.i n,.z g,.i j,.z m,.i e,.i f] [] 0 [.cm .gtr (.i 5) (.l 0) a] [⟨314,[aA 0],eO 1 2⟩,⟨46,[eO 3 4,eO 1 2],aA 5⟩] [eO 3 4,aA 0] (.b a) (by cases a<;>kernel_rfl) (by cases a<;>exact (.k d .nil)) (by cases a<;>(exact (.k o (.k p .nil))))
def av7 (h:DV m e) (U:0<m): ∃k a b,DV a b/\0<a/\0<=((eW a.natAbs:Nat):Int)+b/\((eW a.natAbs:Nat):Int)+b<=1/\(-200000<=k/\k<=200000)/\bH Tryz.prog bw 326 [i9 m e] (EV (bj (.int .i64 k)) (i9 a b) (bj (.int .i64 0))):=by
 obtain ⟨i,t,C,P⟩:=id h;obtain ⟨u,S,D⟩:=atp (e:=e) h;have F:decide (u<=0)=false:=decide_eq_false (by simp_all);obtain ⟨f,O,E⟩:=acv h;have W:f=((eW m.natAbs:Nat):Int)+e:=by rw [O,YT]
 have X:eW m.natAbs<=65536:=aL (Om C) t;unfold EB at P;have N:1<=eW m.natAbs:=Nat.not_lt.1 fun h=>by have:=E6 m.natAbs;rw [show eW m.natAbs=0 by omega,kS] at this;omega
 obtain ⟨o,G,M,B⟩:=nR (b:=false) C.abs;have p:=aB (e-f) (by omega);have T:o=m:=by rw [M];show ((m.natAbs:Nat):Int)=m;omega
 have H:DV o (e-f):=⟨i,t,G,by unfold EB;omega⟩;obtain ⟨q,Q,R,J⟩:=GP (n:=3);have s:DV q (-2):=⟨63,by decide,Q,by unfold EB;decide⟩;obtain ⟨j,Y,I⟩:=OP H s;by_cases A:j<0
 ·have g:=decide_eq_true A
  have x:=aB (f-1) (by omega);have y:=aB ((e-f)+1) (by omega);refine ⟨(f-1),o,((e-f)+1),⟨i,t,G,by unfold EB;omega⟩,by omega,by grind,by grind,by omega,?_⟩;exact fR [.z m,.i e,.i u,.i f,.z o,.i (e-f),.z q,.i j,.i (f-1),.i ((e-f)+1)] [] 0 [.cm .leq (.i 2) (.l 0) false,.ar .sub (.i 1) (.i 3) (.i 5),.cm .lss (.i 7) (.l 0) true,.ar .sub (.i 3) (.l 1) (.i 8),.ar .add (.i 5) (.l 1) (.i 9)] [⟨79,[eO 0 1],aA 2⟩,⟨80,[eO 0 1],aA 3⟩,⟨141,[.b false,.n (.m 0)],aK 4⟩,⟨37,[gN 3],aK 6⟩,⟨46,[eO 4 5,.d (.z 6) (.l (-2))],aA 7⟩] [eO 0 1] (.t3 (aA 8) (eO 4 9) (gN 0)) (by kernel_rfl) (.k F (.k p (.k g (.k x (.k y .nil))))) (.k D (.k E (.k B (.k J (.k I .nil)))))
 ·have g:=decide_eq_false A
  refine ⟨f,o,(e-f),H,by omega,by grind,by grind,by omega,?_⟩;exact fR [.z m,.i e,.i u,.i f,.z o,.i (e-f),.z q,.i j] [] 0 [.cm .leq (.i 2) (.l 0) false,.ar .sub (.i 1) (.i 3) (.i 5),.cm .lss (.i 7) (.l 0) false] [⟨79,[eO 0 1],aA 2⟩,⟨80,[eO 0 1],aA 3⟩,⟨141,[.b false,.n (.m 0)],aK 4⟩,⟨37,[gN 3],aK 6⟩,⟨46,[eO 4 5,.d (.z 6) (.l (-2))],aA 7⟩] [eO 0 1] (.t3 (aA 3) (eO 4 5) (gN 0)) (by kernel_rfl) (.k F (.k p (.k g .nil))) (.k D (.k E (.k B (.k J (.k I .nil)))))
end
end Go.Proofs.YthleenhngcdgkaaGreatDoor
