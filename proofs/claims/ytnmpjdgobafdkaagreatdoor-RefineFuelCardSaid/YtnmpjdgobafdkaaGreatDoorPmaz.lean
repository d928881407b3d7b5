/- refineFuel_proved. -/
import Derived.Test.YtnmpjdgobafdkaaGreatDoorPmay
set_option maxRecDepth 100000
set_option maxHeartbeats 16000000
set_option linter.all false
noncomputable section
namespace Go.Proofs.YtnmpjdgobafdkaaGreatDoor
section
open Go.RowKit Go.Ev
def XL {z:Int} {K k:Nat} (h:z.natAbs<=K*2^k):(z/2^k).natAbs<=K/\(-(-z/2^k)).natAbs<=K:=by
 have e:(0:Int)<2^k:=eC (by decide);have hc:((2^k:Nat):Int)=2^k:=by rw [iw];rfl
 have d: ∀y:Int,y.natAbs<=K*2^k-> -(K:Int)<=y/2^k/\y/2^k<=(K:Int):=fun y f=>by
  have g:((y.natAbs:Nat):Int)<=(K:Int)*2^k:=by rw [<-hc,<-eB];exact Int.ofNat_le.2 f
  constructor
  ·rw [fL e,mL];omega
  ·refine jS (gU e ?_)
   rw [Int.add_mul,Int.one_mul];omega
 have a:=d z h;have b:=d (-z) (by rwa [iL]);omega
def acD (z:Int) (k:Nat):z/2^k<= -(-z/2^k)/\ -(-z/2^k)<=z/2^k+1:=by
 have a:(0:Int)<2^k:=eC (by decide);have b:=jw z (2^k);have d:=gK z (pE a);have f:=fR z a;have b1:=jw (-z) (2^k);have g:=gK (-z) (pE a);have i:=fR (-z) a;generalize z/2^k=q at*;generalize-z/2^k=r at*;generalize z % 2^k=u at*;generalize-z % 2^k=v at*;generalize (2:Int)^k=P at*;have e:P*(q+r)= -(u+v):=by rw [Int.mul_add];omega
 have j:q+r<=0:=by
  refine jT.1 fun h=> ?_
  have:=Int.mul_pos a h;omega
 have l: -1<=q+r:=by
  refine jT.1 fun h=> ?_
  have:=fE (show q+r<= -2 by omega) (cX a);omega
 omega
def XM {m e s x y N:Int} (h:0<=e+s/\x=m*2^(e+s).toNat/\y=m*2^(e+s).toNat\/e+s<0/\x=m/2^(-(e+s)).toNat/\y= -(-m/2^(-(e+s)).toNat)) (i:((eN m.natAbs:Nat):Int)+e<=N) (g:0<=N+s:=by omega):
 x.natAbs<=2^(N+s).toNat/\y.natAbs<=2^(N+s).toNat/\x<=y/\y<=x+1:=by
 have d:=Et m.natAbs;rcases h with ⟨f,rfl,rfl⟩|⟨f,rfl,rfl⟩
 ·have a:(m*2^(e+s).toNat).natAbs<=2^(N+s).toNat:=by
   rw [WX];refine aK (aN _ (aQ d)) ?_;rw [<-bC];exact aG (by decide) (by omega)
  exact ⟨a,a,gM _,by omega⟩
 ·have a:m.natAbs<=2^(N+s).toNat*2^(-(e+s)).toNat:=by
   rw [<-bC];exact aK (aQ d) (aG (by decide) (by omega))
  have:=XL a;have b:=acD m (-(e+s)).toNat;exact ⟨this.1,this.2,b.1,b.2⟩
def auH {a q:Int} {D Q:Nat} (b:a.natAbs<=D) (d:q.natAbs<=Q):(a*q).natAbs<=D*Q:=by
 rw [dP];exact bH b d
def auI {d e b a q r:Int} {T f:Nat} (l:d<=e) (m:e<=d+1) (o:a<=2*(T:Int)) (p:b<=a) (k:((a-b)*q).natAbs<=f) (s:f+1<=T)
 (i:q*(2*(b+a))<=2*(d+e)+(b+a)) (j:2*(d+e)+(b+a)<q*(2*(b+a))+2*(b+a)) (t:r=d-a*q\/r=d-b*q):r.natAbs<=2*T:=by
 have g:q*(2*(b+a))=2*(b*q)+2*(a*q):=by rw [Int.mul_left_comm,Int.mul_add,Int.mul_add,Int.mul_comm q b,Int.mul_comm q a]
 have h:(a-b)*q=a*q-b*q:=Int.sub_mul _ _ _;rw [g] at i j;rw [h] at k;omega
def auJ {t:Nat} (h:70<=t:=by omega):17179869185*(31*(t+5))+1<=2^t/\31*(t+5)<=2^t:=by
 obtain ⟨k,rfl⟩: ∃k,t=70+k:=⟨t-70,by omega⟩;clear h
 induction k with
 |zero=>exact ⟨by decide,by decide⟩
 |succ k a=>rw [show 70+(k+1)=(70+k)+1 by omega,bI];omega
def auK {m e s:Int} (h:DV m e) (ht:((eN m.natAbs:Nat):Int)+e<=33) (hs:24<=s/\s<=18000:=by omega): ∃n x y,Zb 400000 x/\Zb 400000 y/\x.natAbs<=2*2^s.toNat/\n.natAbs<=17179869185/\bJ Tryz.prog bw 340 [iR m e,bj (.int .i64 s)] (o9 (bj (.int .i64 n)) (cD x y)):=by
 have w1:=aC (s+48) (by omega);obtain ⟨T,u⟩:=pT (2^(s+48).toNat);have j:=auJ (t:=(s+48).toNat);rw [<-u] at j;obtain ⟨C,aFp⟩:=j;obtain ⟨P,y3,⟨k4,h5,h6⟩,⟨k7,h8,h9⟩,NR,IC⟩:=NT (s:=(s+48)) h;have B:=XM (N:=33) NR ht;rw [show (33+(s+48)).toNat=(s+48).toNat+33 by omega,bC,<-u] at B;have SG:=aC ((s+48)+1) (by omega);obtain ⟨tV,tW,⟨k16,rQ,wF⟩,⟨k19,Bx,Aj⟩,yE,vm⟩:=XF (s:=((s+48)+1));obtain ⟨d,f,X,U,Y,K9⟩:=uH (n:=2) wF Aj;have hp:=yE;rw [show (s+48+1).toNat=(s+48).toNat+1 by omega,bI,<-u] at hp;have o:=Y.1;have Z:=Y.2;rw [show (2:Int).toNat=2 from rfl,show (2:Int)^2=4 from rfl] at o Z;have k1:(T:Int)<=d:=by omega
 have k2:f<=2*(T:Int):=by omega
 have k3:d<=f:=by omega
 have k4:(f-d).natAbs<=31*((s+48).toNat+5):=by omega
 clear hp o Z;obtain ⟨a,BA,W,Gq⟩:=ajn (Q:=17179869184) h6 h9 X U;obtain ⟨R,S,On,LH,XP,LI⟩:=IA (n:=a) X U;obtain ⟨A,XQ,G,H,g,D⟩:=Iz h6 h9 On LH;have O:=aC ((s+48)-s) (by omega);obtain ⟨b,q,I,J,F,E⟩:=uH (n:=((s+48)-s)) G H;have hr:A=P-f*a\/A=P-d*a:=by
  rcases XP with h|h
  ·exact .inl (by rw [g.1,h.2.2])
  ·exact .inr (by rw [g.1,h.2.2])
 have p:a.natAbs<=17179869185:=BA;have M:31*((s+48).toNat+5)*17179869185+1<=T:=by rw [bE];exact C
 have k5:=auI B.2.2.1 B.2.2.2 k2 k3 (auH k4 p) M W.1 W.2 hr;have k6:b.natAbs<=2*2^s.toNat:=by
  rw [F.1,show (s+48-s).toNat=48 by omega];refine (XL ?_).1;rw [bF,<-bC,show s.toNat+48=(s+48).toNat by omega,<-u];exact k5
 refine ⟨a,b,q,⟨_,by omega,I⟩,⟨_,by omega,J⟩,k6,p,?_⟩;exact fP [.i s,.i (s+48),.z m,.i e,.z P,.z y3,.i ((s+48)+1),.z tV,.z tW,.z d,.z f,.i a,.z R,.z S,.z A,.z XQ,.i ((s+48)-s),.z b,.z q] [] 0 [.ar .add (.i 0) (.l 48) (.i 1),.ar .add (.i 1) (.l 1) (.i 6),.ar .sub (.i 1) (.i 0) (.i 16)] [⟨334,[eE 2 3,aA 1],ah 4 5⟩,⟨237,[aA 6],ah 7 8⟩,⟨326,[ah 7 8,gz 2],ah 9 10⟩,⟨346,[ah 4 5,ah 9 10],aA 11⟩,⟨289,[ah 9 10,aA 11],ah 12 13⟩,⟨290,[ah 4 5,ah 12 13],ah 14 15⟩,⟨326,[ah 14 15,aA 16],ah 17 18⟩] [eE 2 3,aA 0] (.t (aA 11) (ah 17 18)) (by kernel_rfl) (.k w1 (.k SG (.k O .nil))) (.k IC (.k vm (.k K9 (.k Gq (.k LI (.k D (.k E .nil)))))))
def Jg {i j k:Nat} {a b c s:Int} (l:Bz i a) (m:Bz j b) (hc:Bz k c) (q:0<=s/\s<=17000) (hi:i<=450000:=by omega) (o:j<=450000:=by omega) (p:k<=450000:=by omega): ∃x y u v,Zb 500000 u/\Zb 500000 v/\bJ Tryz.prog bw 292 [cD a b,dN c] (cD x y)/\
 bJ Tryz.prog bw 326 [cD x y,bj (.int .i64 ((s+24)-s))] (cD u v):=by
 obtain ⟨x,y,e,f,_,c1⟩:=NP l m hc;obtain ⟨u,v,g,h,_,d⟩:=uH (n:=((s+24)-s)) e f;exact ⟨x,y,u,v,⟨_,by omega,g⟩,⟨_,by omega,h⟩,c1,d⟩
def ajp {m e o s:Int} (h:DV m e) (ht:((eN m.natAbs:Nat):Int)+e<=33) (E:0<=s/\s<=17000) (ho:0<=o/\o<=1): ∃x y,Zb 500000 x/\Zb 500000 y/\bJ Tryz.prog bw 304 [iR m e,bj (.int .i64 o),bj (.int .i64 s)] (cD x y):=by
 have w1:=aC (s+24) (by omega);obtain ⟨n2,x3,y4,⟨k5,h6,h7⟩,⟨k8,h9,eT⟩,j9,IB,sL⟩:=auK (s:=(s+24)) h ht;obtain ⟨z,F,_,cz⟩:=aia h7 eT;have XR:=aC ((s+24)-s) (by omega);obtain ⟨ρ,N⟩: ∃ρ,n2.tmod 4=ρ:=⟨_,rfl⟩;have aFq: -4<ρ:=by rw [<-N];exact pk _ (by decide)
 have aFr:ρ<4:=by rw [<-N];exact oY _ (by decide)
 have J:=aC (ρ+4) (by omega);have M:=aC ((ρ+4)+o) (by omega);obtain ⟨j,D⟩:=pQ (((ρ+4)+o).tmod 4);have hJ:j=0\/j=1\/j=2\/j=3:=by rw [eL (by omega)] at D;omega
 by_cases nU:x3<0
 ·have Q:=decide_eq_true nU
  obtain ⟨I,wE,W,U⟩:=nu (b:=false) h7.abs;obtain ⟨X,Y,S,T,⟨k23,BI,O⟩,⟨k26,EE,P⟩,⟨k29,Db,G⟩,⟨k32,yR,H⟩,R⟩:=ajo (a:=I) (s:=(s+24)) (by omega) (by rw [W,vX];exact j9);obtain ⟨a,b,hA,hB,_,RV⟩:=Br O P;obtain ⟨c,d,hc,hd,_,Z⟩:=Br hA hB;obtain ⟨f,g,hf,hg,_,cf⟩:=Br G H;have K:=fun (k:Int) (p:Nat) (x y u v:Int) hk D A q=>fP (f:=304) [.i s,.i (s+24),.zs x3 true Q,.z m,.i e,.i n2,.z y4,.z I,.z X,.z Y,.z S,.z T,.z a,.z b,.i ρ,.i (ρ+4),.i o,.i ((ρ+4)+o),.z c,.z d,.z f,.z g,.z z,.z x,.z y,.i ((s+24)-s),.z u,.z v] [] 0 [.ar .add (.i 0) (.l 24) (.i 1),.ar .rem (.i 5) (.l 4) (.i 14),.ar .add (.i 14) (.l 4) (.i 15),.ar .add (.i 15) (.i 16) (.i 17),.ar .rem (.i 17) (.l 4) (.l k),.ar .sub (.i 1) (.i 0) (.i 25)] [⟨340,[eE 3 4,aA 1],.t (aA 5) (.s (.s true 2) (.z 6))⟩,⟨116,[.b false,.n (.m 2)],aL 7⟩,⟨341,[aL 7,aA 1],.t (ah 8 9) (ah 10 11)⟩,⟨328,[ah 8 9],ah 12 13⟩,⟨328,[ah 12 13],ah 18 19⟩,⟨328,[ah 10 11],ah 20 21⟩,⟨325,[.s (.s true 2) (.z 6)],aL 22⟩,⟨292,[.s (.z p) (.z (p+1)),aL 22],ah 23 24⟩,⟨326,[ah 23 24,aA 25],ah 26 27⟩] [eE 3 4,aA 16,aA 0] (ah 26 27) hk (.k w1 (.k ⟨(by decide:(4:Int)≠0),N⟩ (.k J (.k M (.k ⟨(by decide:(4:Int)≠0),D⟩ (.k XR .nil)))))) (.k sL (.k U (.k R (.k RV (.k Z (.k cf (.k cz (.k A (.k q .nil)))))))))
  rcases hJ with rfl|rfl|rfl|rfl
  ·obtain ⟨x,y,u,v,B,C,A,q⟩:=Jg hA hB F E
   exact ⟨u,v,B,C,K _ 12 x y u v (by kernel_rfl) D A q⟩
  ·obtain ⟨x,y,u,v,B,C,A,q⟩:=Jg G H F E
   exact ⟨u,v,B,C,K _ 10 x y u v (by kernel_rfl) D A q⟩
  ·obtain ⟨x,y,u,v,B,C,A,q⟩:=Jg hc hd F E
   exact ⟨u,v,B,C,K _ 18 x y u v (by kernel_rfl) D A q⟩
  ·obtain ⟨x,y,u,v,B,C,A,q⟩:=Jg hf hg F E
   exact ⟨u,v,B,C,K _ 20 x y u v (by kernel_rfl) D A q⟩
 ·have Q:=decide_eq_false nU
  obtain ⟨I,wE,W,U⟩:=nu (b:=false) h7.abs;obtain ⟨X,Y,S,T,⟨k23,BI,O⟩,⟨k26,EE,P⟩,⟨k29,Db,G⟩,⟨k32,yR,H⟩,R⟩:=ajo (a:=I) (s:=(s+24)) (by omega) (by rw [W,vX];exact j9);obtain ⟨c,d,hc,hd,_,Z⟩:=Br O P;obtain ⟨f,g,hf,hg,_,cf⟩:=Br G H;have K:=fun (k:Int) (p:Nat) (x y u v:Int) hk D A q=>fP (f:=304) [.i s,.i (s+24),.zs x3 false Q,.z m,.i e,.i n2,.z y4,.z I,.z X,.z Y,.z S,.z T,.i ρ,.i (ρ+4),.i o,.i ((ρ+4)+o),.z c,.z d,.z f,.z g,.z z,.z x,.z y,.i ((s+24)-s),.z u,.z v] [] 0 [.ar .add (.i 0) (.l 24) (.i 1),.ar .rem (.i 5) (.l 4) (.i 12),.ar .add (.i 12) (.l 4) (.i 13),.ar .add (.i 13) (.i 14) (.i 15),.ar .rem (.i 15) (.l 4) (.l k),.ar .sub (.i 1) (.i 0) (.i 23)] [⟨340,[eE 3 4,aA 1],.t (aA 5) (.s (.s false 2) (.z 6))⟩,⟨116,[.b false,.n (.m 2)],aL 7⟩,⟨341,[aL 7,aA 1],.t (ah 8 9) (ah 10 11)⟩,⟨328,[ah 8 9],ah 16 17⟩,⟨328,[ah 10 11],ah 18 19⟩,⟨325,[.s (.s false 2) (.z 6)],aL 20⟩,⟨292,[.s (.z p) (.z (p+1)),aL 20],ah 21 22⟩,⟨326,[ah 21 22,aA 23],ah 24 25⟩] [eE 3 4,aA 14,aA 0] (ah 24 25) hk (.k w1 (.k ⟨(by decide:(4:Int)≠0),N⟩ (.k J (.k M (.k ⟨(by decide:(4:Int)≠0),D⟩ (.k XR .nil)))))) (.k sL (.k U (.k R (.k Z (.k cf (.k cz (.k A (.k q .nil))))))))
  rcases hJ with rfl|rfl|rfl|rfl
  ·obtain ⟨x,y,u,v,B,C,A,q⟩:=Jg O P F E
   exact ⟨u,v,B,C,K _ 8 x y u v (by kernel_rfl) D A q⟩
  ·obtain ⟨x,y,u,v,B,C,A,q⟩:=Jg G H F E
   exact ⟨u,v,B,C,K _ 10 x y u v (by kernel_rfl) D A q⟩
  ·obtain ⟨x,y,u,v,B,C,A,q⟩:=Jg hc hd F E
   exact ⟨u,v,B,C,K _ 16 x y u v (by kernel_rfl) D A q⟩
  ·obtain ⟨x,y,u,v,B,C,A,q⟩:=Jg hf hg F E
   exact ⟨u,v,B,C,K _ 18 x y u v (by kernel_rfl) D A q⟩
def ajq {m e f:Int} (h:DV m e) (H:((eN m.natAbs:Nat):Int)+e<=33) (hf:0<=f/\f<=17000:=by omega): ∃z,Zb 400000 z/\bJ Tryz.prog bw 339 [iR m e,bj (.int .i64 f)] (dN z):=by
 have M:=aC (f+64) (by omega);obtain ⟨O,P,⟨k4,W,G⟩,⟨k7,X,Y⟩,C,y⟩:=NT (s:=(f+64)) h;have U:=XM (N:=33) C H;have D:=aC (f+1) (by omega);obtain ⟨B,q,E,d⟩:=zW (s:=((f+1)).toNat) (c:=20000) G (by omega:((f+1):Int)=((((f+1)).toNat:Nat):Int));obtain ⟨j,o,⟨I,Q,t⟩,⟨J,S,xH⟩,A,x⟩:=XF (s:=(f+64));have hp:=A.1;have Z:0<2^(f+64).toNat:=aO (n:=(f+64).toNat) (show 0<2 by decide);obtain ⟨a,p,u,R,T,F,g⟩:=Ns q t;refine ⟨a,⟨_,by omega,u⟩,?_⟩;exact fP [.i f,.i (f+64),.z m,.i e,.z O,.z P,.i (f+1),.z B,.z j,.z o,.z a,.z p] [] 0 [.ar .add (.i 0) (.l 64) (.i 1),.ar .add (.i 0) (.l 1) (.i 6)] [⟨334,[eE 2 3,aA 1],ah 4 5⟩,⟨128,[aL 4,aA 6],aL 7⟩,⟨237,[aA 1],ah 8 9⟩,⟨145,[aL 7,aL 8],.t3 (aL 10) (aL 11) (.b true)⟩] [eE 2 3,aA 0] (aL 10) (by kernel_rfl) (.k M (.k D .nil)) (.k y (.k d (.k x (.k g .nil))))
end
section
open Go.RowKit Go.Ev
variable {s m e a b x y:Int} {P i j k l:Nat}
def SQ :vL a b<=0↔a<=b:=by
 unfold vL
 all_goals grind
def auM (h:0<=e+s/\x=m*2^(e+s).toNat/\y=m*2^(e+s).toNat\/e+s<0/\x=m/2^(-(e+s)).toNat/\y= -(-m/2^(-(e+s)).toNat)) (g:0<=m):0<=x/\x<=y/\y<=x+1:=by
 have f: ∀k:Nat,(0:Int)<2^k:=fun k=>eC (by decide)
 rcases h with ⟨o,rfl,rfl⟩|⟨o,rfl,rfl⟩
 ·exact ⟨iW g (cX (f _)),gM _,by omega⟩
 ·have d:=acD m (-(e+s)).toNat
  exact ⟨jC g (cX (f _)),d.1,d.2⟩
def auN {n:Nat} (h:n≠0:=by omega):2^(eN n-1)<=n:=by
 unfold eN;rw [if_neg h,dX];exact Nat.log2_self_le h
def auO (h:0<=e+s/\x=m*2^(e+s).toNat/\y=m*2^(e+s).toNat\/e+s<0/\x=m/2^(-(e+s)).toNat/\y= -(-m/2^(-(e+s)).toNat)) (q:0<m) (p:0<=((eN m.natAbs:Nat):Int)+e) (t:1<=s:=by omega):((2^(s-1).toNat:Nat):Int)<=x:=by
 have o:=auN (n:=m.natAbs);have hc: ∀k:Nat,((2^k:Nat):Int)=2^k:=fun k=>by simp_all
 have d:((2^(eN m.natAbs-1):Nat):Int)<=m:=by omega
 have g:1<=eN m.natAbs:=by
  refine Nat.not_lt.1 fun h=> ?_
  have:=Et m.natAbs;simp_all
 rcases h with ⟨f,rfl,-⟩|⟨f,rfl,-⟩
 ·refine pF ?_ (bN d (cX (eC (by decide))))
  rw [<-hc,<-eB,<-bC];exact Int.ofNat_le.2 (aG (by decide) (by omega))
 ·rw [fL (eC (by decide)),<-hc,<-eB,<-bC]
  exact pF (Int.ofNat_le.2 (aG (by decide) (by omega))) d
def ajr {w:Nat} (h:P<=w:=by omega) (d:0<w:=by omega):P*P/w<=P:=nV (aN _ h)
def ajs {D W:Nat} (h:8*D<=3*W) (d:0<W:=by omega):D*P/W*8<=3*P:=by
 have f:=dT (D*P) W;refine bS (c:=W) ?_ d
 calc D*P/W*8*W=D*P/W*W*8:=by grind
  _<=D*P*8:=aN _ f
  _=8*D*P:=by grind
  _<=3*W*P:=aN _ h
  _=3*P*W:=pK 3 W P
def auP (h:DV m e) (hs:0<=s/\s<=17000): ∃x y,Zb 500000 x/\Zb 500000 y/\bJ Tryz.prog bw 309 [iR m e,bj (.int .i64 s)] (cD x y):=by
 obtain ⟨k,O,hm,he⟩:=h;have w2:=aC (s+24) (by omega);have w9:=aC ((s+24)-s) (by omega);obtain ⟨z3,h4,e5,c6⟩:=nu (b:=false) hm.abs;obtain ⟨G,Q,⟨k9,eT,j9⟩,⟨k12,lP,nU⟩,CW,sK⟩:=NT (s:=(s+24)) ⟨k,O,h4,he⟩;obtain ⟨D,wF,EN,C9⟩:=RT (n:=(s+24)) (c:=30000);have VJ:0<=z3:=by rw [e5];exact fe _
 have hx:=auM CW VJ;obtain ⟨P,F⟩: ∃P:Nat,P=2^(s+24).toNat:=⟨_,rfl⟩;have hP0:0<P:=by rw [F];exact aO (by decide)
 have ho:D=(P:Int):=by rw [EN,F,iw];rfl
 obtain ⟨E,yE,vm⟩:=Ih (x:=G) (y:=D);by_cases BI:E<=0
 ·have XT:=decide_eq_true BI
  have g1:G<=D:=SQ.1 (by rw [<-yE];exact BI);obtain ⟨N,K4,ED⟩:=Ih (x:=Q) (y:=D);by_cases yF:0<N
  ·have M:=decide_eq_true yF
   obtain ⟨z29,Db,Lz,GD⟩:=F9 (n:=1);obtain ⟨Z,Jh,e35,c36⟩:=xD wF Db;obtain ⟨A,B,⟨k39,h40,I⟩,⟨k42,h43,J⟩,W⟩:=acB (s:=(s+24)) (a:=G) (b:=Z) (by omega) (by rw [<-F];omega) (by rw [<-F,e35,Lz];omega);obtain ⟨R,S,U,T,_,X⟩:=Br I J;have K:=fun (b:Bool) Y (p:Nat) (o q:Int) O t=>fP (f:=309) [.zs m b Y,.i s,.i (s+24),.z z3,.i e,.z G,.z Q,.z D,.i E,.i N,.z z29,.z Z,.z A,.z B,.z R,.z S,.i ((s+24)-s),.z o,.z q] [] 0 [.ar .add (.i 1) (.l 24) (.i 2),.cm .leq (.i 8) (.l 0) true,.cm .gtr (.i 9) (.l 0) true,.ar .sub (.i 2) (.i 1) (.i 16)] [⟨116,[.b false,.n (.m 0)],aL 3⟩,⟨334,[eE 3 4,aA 2],ah 5 6⟩,⟨333,[aA 2],ah 7 7⟩,⟨76,[aL 5,aL 7],aA 8⟩,⟨76,[aL 6,aL 7],aA 9⟩,⟨31,[gz 1],aL 10⟩,⟨83,[aL 7,aL 10],aL 11⟩,⟨342,[ah 5 11,aA 2],ah 12 13⟩,⟨328,[ah 12 13],ah 14 15⟩,⟨326,[.s (.z p) (.z (p+1)),aA 16],ah 17 18⟩] [.d (.s b 0) (.i 4),aA 1] (ah 17 18) O (.k w2 (.k XT (.k M (.k w9 .nil)))) (.k c6 (.k sK (.k C9 (.k vm (.k ED (.k GD (.k c36 (.k W (.k X (.k t .nil))))))))))
   by_cases H:m<0
   ·obtain ⟨o,q,u,C,_,t⟩:=uH (n:=((s+24)-s)) U T
    exact ⟨o,q,⟨_,by omega,u⟩,⟨_,by omega,C⟩,K true (decide_eq_true H) 14 o q (by kernel_rfl) t⟩
   ·obtain ⟨o,q,u,C,_,t⟩:=uH (n:=((s+24)-s)) I J
    exact ⟨o,q,⟨_,by omega,u⟩,⟨_,by omega,C⟩,K false (decide_eq_false H) 12 o q (by kernel_rfl) t⟩
  ·have M:=decide_eq_false yF
   have g2:Q<=D:=SQ.1 (by rw [<-K4];omega);obtain ⟨A,B,⟨k31,h32,I⟩,⟨k34,NS,J⟩,W⟩:=acB (s:=(s+24)) (a:=G) (b:=Q) (by omega) (by rw [<-F];omega) (by rw [<-F];omega);obtain ⟨R,S,U,T,_,X⟩:=Br I J;have K:=fun (b:Bool) Y (p:Nat) (o q:Int) O t=>fP (f:=309) [.zs m b Y,.i s,.i (s+24),.z z3,.i e,.z G,.z Q,.z D,.i E,.i N,.z A,.z B,.z R,.z S,.i ((s+24)-s),.z o,.z q] [] 0 [.ar .add (.i 1) (.l 24) (.i 2),.cm .leq (.i 8) (.l 0) true,.cm .gtr (.i 9) (.l 0) false,.ar .sub (.i 2) (.i 1) (.i 14)] [⟨116,[.b false,.n (.m 0)],aL 3⟩,⟨334,[eE 3 4,aA 2],ah 5 6⟩,⟨333,[aA 2],ah 7 7⟩,⟨76,[aL 5,aL 7],aA 8⟩,⟨76,[aL 6,aL 7],aA 9⟩,⟨342,[ah 5 6,aA 2],ah 10 11⟩,⟨328,[ah 10 11],ah 12 13⟩,⟨326,[.s (.z p) (.z (p+1)),aA 14],ah 15 16⟩] [.d (.s b 0) (.i 4),aA 1] (ah 15 16) O (.k w2 (.k XT (.k M (.k w9 .nil)))) (.k c6 (.k sK (.k C9 (.k vm (.k ED (.k W (.k X (.k t .nil))))))))
   by_cases H:m<0
   ·obtain ⟨o,q,u,C,_,t⟩:=uH (n:=((s+24)-s)) U T
    exact ⟨o,q,⟨_,by omega,u⟩,⟨_,by omega,C⟩,K true (decide_eq_true H) 12 o q (by kernel_rfl) t⟩
   ·obtain ⟨o,q,u,C,_,t⟩:=uH (n:=((s+24)-s)) I J
    exact ⟨o,q,⟨_,by omega,u⟩,⟨_,by omega,C⟩,K false (decide_eq_false H) 10 o q (by kernel_rfl) t⟩
 ·have XT:=decide_eq_false BI
  have g1: ¬G<=D:=fun h=>BI (by rw [yE];exact SQ.2 h)
  have w25:=aC ((s+24)+2) (by omega);obtain ⟨Ol,Om,⟨k28,Ak,Db⟩,⟨k31,h32,yR⟩,e34,LL⟩:=XF (s:=((s+24)+2));obtain ⟨x36,y37,h38,h39,e40,RV⟩:=uH (n:=3) Db yR;obtain ⟨SY,SZ,XU,h45,⟨q1,q2⟩,c47⟩:=abZ (g:=30000) (n:=(s+24)) wF wF j9 nU;rw [<-F,show D.natAbs=P by omega] at q1 q2;have q3:=ajr (P:=P) (w:=Q.natAbs);have q4:=ajr (P:=P) (w:=G.natAbs);obtain ⟨x48,y49,⟨k50,h51,SJ⟩,⟨k53,h54,h55⟩,c56⟩:=acB (s:=(s+24)) (a:=SY) (b:=SZ) (by omega) (by rw [<-F];omega) (by rw [<-F];omega);obtain ⟨A,B,I,J,e61,W⟩:=Iz h38 h39 SJ h55;obtain ⟨R,S,U,T,_,X⟩:=Br I J;have K:=fun (b:Bool) Y (p:Nat) (o q:Int) O t=>fP (f:=309) [.zs m b Y,.i s,.i (s+24),.z z3,.i e,.z G,.z Q,.z D,.i E,.i ((s+24)+2),.z Ol,.z Om,.z x36,.z y37,.z SY,.z SZ,.z x48,.z y49,.z A,.z B,.z R,.z S,.i ((s+24)-s),.z o,.z q] [] 0 [.ar .add (.i 1) (.l 24) (.i 2),.cm .leq (.i 8) (.l 0) false,.ar .add (.i 2) (.l 2) (.i 9),.ar .sub (.i 2) (.i 1) (.i 22)] [⟨116,[.b false,.n (.m 0)],aL 3⟩,⟨334,[eE 3 4,aA 2],ah 5 6⟩,⟨333,[aA 2],ah 7 7⟩,⟨76,[aL 5,aL 7],aA 8⟩,⟨237,[aA 9],ah 10 11⟩,⟨326,[ah 10 11,gz 3],ah 12 13⟩,⟨336,[ah 7 7,ah 5 6,aA 2],ah 14 15⟩,⟨342,[ah 14 15,aA 2],ah 16 17⟩,⟨290,[ah 12 13,ah 16 17],ah 18 19⟩,⟨328,[ah 18 19],ah 20 21⟩,⟨326,[.s (.z p) (.z (p+1)),aA 22],ah 23 24⟩] [.d (.s b 0) (.i 4),aA 1] (ah 23 24) O (.k w2 (.k XT (.k w25 (.k w9 .nil)))) (.k c6 (.k sK (.k C9 (.k vm (.k LL (.k RV (.k c47 (.k c56 (.k W (.k X (.k t .nil)))))))))))
  by_cases H:m<0
  ·obtain ⟨o,q,u,C,_,t⟩:=uH (n:=((s+24)-s)) U T
   exact ⟨o,q,⟨_,by omega,u⟩,⟨_,by omega,C⟩,K true (decide_eq_true H) 20 o q (by kernel_rfl) t⟩
  ·obtain ⟨o,q,u,C,_,t⟩:=uH (n:=((s+24)-s)) I J
   exact ⟨o,q,⟨_,by omega,u⟩,⟨_,by omega,C⟩,K false (decide_eq_false H) 18 o q (by kernel_rfl) t⟩
def XV {n:Int} (E:Bz i a) (F:Bz j b) (M:Bz k x) (N:Bz l y) (d:P=2^n.toNat) (D:100<=P:=by omega) (J:5<=n/\n<=30000:=by omega) (z:8*a.natAbs<=3*y.natAbs:=by omega) (A:8*b.natAbs<=3*x.natAbs:=by omega) (O:x≠0:=by omega) (S:y≠0:=by omega) (hi:i<=3000000:=by omega) (G:j<=3000000:=by omega) (H:k<=3000000:=by omega) (I:l<=3000000:=by omega):
 ∃p q r t u v,Zb 300001 u/\Zb 300001 v/\bJ Tryz.prog bw 336 [cD a b,cD x y,bj (.int .i64 n)] (cD p q)/\bJ Tryz.prog bw 335 [cD p q,bj (.int .i64 n)] (cD r t)/\bJ Tryz.prog bw 337 [cD r t,bj (.int .i64 1)] (cD u v):=by
 obtain ⟨p,q,_,_,⟨Q,R⟩,c1⟩:=abZ (g:=30000) (n:=n) E F M N O S (by omega) (by omega) hi G H I;rw [<-d] at Q R;have Y:=ajs (P:=P) z;have Z:=ajs (P:=P) A;obtain ⟨r,t,⟨T,W,b1⟩,⟨U,X,f⟩,h⟩:=atN (u:=p) (v:=q) J (by rw [<-d];omega) (by rw [<-d];omega);obtain ⟨u,v,B,C,_,o⟩:=WV (n:=1) (c:=1) b1 f;exact ⟨p,q,r,t,u,v,⟨_,by omega,B⟩,⟨_,by omega,C⟩,c1,h,o⟩
def XW {c d:Int} (q:Bz i a) (t:Bz j b) (hc:Bz k c) (z:Bz l d) (D:0<=s/\s<=17000) (hi:i<=450000:=by omega) (A:j<=450000:=by omega) (B:k<=450000:=by omega) (C:l<=450000:=by omega): ∃x y u v,Zb 500000 u/\Zb 500000 v/\bJ Tryz.prog bw 327 [cD a b,cD c d] (cD x y)/\
 bJ Tryz.prog bw 326 [cD x y,bj (.int .i64 ((s+32)-s))] (cD u v):=by
 obtain ⟨x,y,g,h,_,c1⟩:=Ez q t hc z;obtain ⟨u,v,o,p,_,f⟩:=uH (n:=((s+32)-s)) g h;exact ⟨x,y,u,v,⟨_,by omega,o⟩,⟨_,by omega,p⟩,c1,f⟩
def auQ {k:Int} (h:DV m e) (hm:0<m) (vK:0<=((eN m.natAbs:Nat):Int)+e) (bW:((eN m.natAbs:Nat):Int)+e<=1) (hk: -1000000<=k/\k<=1000000) (hs:0<=s/\s<=17000): ∃x y,Zb 500000 x/\Zb 500000 y/\bJ Tryz.prog bw 299 [iR m e,bj (.int .i64 k),bj (.int .i64 s)] (cD x y):=by
 have w1:=aC (s+32) (by omega);have w89:=aC ((s+32)-s) (by omega);have z0:Bz 1 0:=by unfold Bz;decide
 obtain ⟨S,h3,e4,c5⟩:=RT (n:=(s+32)) (c:=30000);obtain ⟨x6,y7,⟨k8,h9,eT⟩,⟨k11,IB,lP⟩,Bt,Bu⟩:=NT (s:=(s+32)) h;have Y:=XM (N:=1) Bt bW;have xl:=auO Bt hm vK;obtain ⟨P,H⟩: ∃P:Nat,P=2^(s+32).toNat:=⟨_,rfl⟩;have Jd:2^(1+(s+32)).toNat=2*P:=by rw [H,show (1+(s+32)).toNat=(s+32).toNat+1 by omega,bI,bE]
 have S2:P=2*2^(s+32-1).toNat:=by rw [H,show (s+32).toNat=(s+32-1).toNat+1 by omega,bI,bE]
 have hP3:3000*((s+32).toNat+2)<=P:=by rw [H];exact XE
 have ho:S=(P:Int):=by rw [e4,H,iw];rfl
 rw [Jd] at Y;obtain ⟨x1,x2,x3,x4⟩:=Y;obtain ⟨Da,EP,X,Bx,⟨d1,d2⟩,T⟩:=Iz eT lP h3 h3;obtain ⟨sx,sy,hS,hT,⟨a1,a2⟩,cs⟩:=Ez eT lP h3 h3;obtain ⟨l1,l2,⟨k69,h70,h71⟩,⟨k72,h73,h74⟩,e75,XX⟩:=acC (s:=(s+32));obtain ⟨t1,t2,XY,XZ,e81,U⟩:=IA (n:=k) h71 h74;clear e75 e81;obtain ⟨J,Bw,Oj⟩:=Ih (x:=y7) (y:=S);by_cases Jf:J<=0
 ·have I:=decide_eq_true Jf
  have A:y7<=S:=SQ.1 (by rw [<-Bw];exact Jf);obtain ⟨a,c,hA,hC,⟨d3,d4⟩,GD⟩:=Br X Bx;have K:=fun (b:Bool) hz (z:KZ) (p q r t u v u1 Z A G d g:Int) hk C B F W D E=>fP (f:=299) [.i s,.i (s+32),.z S,.z m,.i e,.z x6,.z y7,.z Da,.z EP,.i J,.zs a b hz,.z c,.z sx,.z sy,.z p,.z q,.z r,.z t,.z u,.z v,.z u1,.z Z,.z l1,.z l2,.i k,.z t1,.z t2,.z A,.z G,.i ((s+32)-s),.z d,.z g] [] 0 [.ar .add (.i 0) (.l 32) (.i 1),.cm .leq (.i 9) (.l 0) true,.ar .sub (.i 1) (.i 0) (.i 29)] [⟨333,[aA 1],ah 2 2⟩,⟨334,[eE 3 4,aA 1],ah 5 6⟩,⟨290,[ah 5 6,ah 2 2],ah 7 8⟩,⟨76,[aL 6,aL 2],aA 9⟩,⟨328,[ah 7 8],.s (.s b 10) (.z 11)⟩,⟨327,[ah 5 6,ah 2 2],ah 12 13⟩,⟨336,[.s z (.z 11),ah 12 13,aA 1],ah 14 15⟩,⟨335,[ah 14 15,aA 1],ah 16 17⟩,⟨337,[ah 16 17,gz 1],ah 18 19⟩,⟨328,[ah 18 19],ah 20 21⟩,⟨338,[aA 1],ah 22 23⟩,⟨289,[ah 22 23,aA 24],ah 25 26⟩,⟨327,[ah 20 21,ah 25 26],ah 27 28⟩,⟨326,[ah 27 28,aA 29],ah 30 31⟩] [eE 3 4,aA 24,aA 0] (ah 30 31) hk (.k w1 (.k I (.k w89 .nil))) (.k c5 (.k Bu (.k T (.k Oj (.k GD (.k cs (.k C (.k B (.k F (.k W (.k XX (.k U (.k D (.k E .nil))))))))))))))
  by_cases yR:a<0
  ·obtain ⟨p,q,r,t,u,v,⟨_,iu,M⟩,⟨_,iv,O⟩,C,B,F⟩:=XV z0 hC hS hT H
   obtain ⟨u1,Z,AH,mQ,_,W⟩:=Br M O;obtain ⟨A,G,d,g,R,Q,D,E⟩:=XW AH mQ XY XZ hs;exact ⟨d,g,R,Q,K true (decide_eq_true yR) .o p q r t u v u1 Z A G d g (by kernel_rfl) C B F W D E⟩
  ·obtain ⟨p,q,r,t,u,v,⟨_,iu,M⟩,⟨_,iv,O⟩,C,B,F⟩:=XV hA hC hS hT H
   obtain ⟨u1,Z,AH,mQ,_,W⟩:=Br M O;obtain ⟨A,G,d,g,R,Q,D,E⟩:=XW AH mQ XY XZ hs;exact ⟨d,g,R,Q,K false (decide_eq_false yR) (.s false 10) p q r t u v u1 Z A G d g (by kernel_rfl) C B F W D E⟩
 ·have I:=decide_eq_false Jf
  have A: ¬y7<=S:=fun h=>Jf (by rw [Bw];exact SQ.2 h)
  have K:=fun (b:Bool) hz (z:KZ) (p q r t u v A G d g:Int) hk C B F D E=>fP (f:=299) [.i s,.i (s+32),.z S,.z m,.i e,.z x6,.z y7,.zs Da b hz,.z EP,.i J,.z sx,.z sy,.z p,.z q,.z r,.z t,.z u,.z v,.z l1,.z l2,.i k,.z t1,.z t2,.z A,.z G,.i ((s+32)-s),.z d,.z g] [] 0 [.ar .add (.i 0) (.l 32) (.i 1),.cm .leq (.i 9) (.l 0) false,.ar .sub (.i 1) (.i 0) (.i 25)] [⟨333,[aA 1],ah 2 2⟩,⟨334,[eE 3 4,aA 1],ah 5 6⟩,⟨290,[ah 5 6,ah 2 2],.s (.s b 7) (.z 8)⟩,⟨76,[aL 6,aL 2],aA 9⟩,⟨327,[ah 5 6,ah 2 2],ah 10 11⟩,⟨336,[.s z (.z 8),ah 10 11,aA 1],ah 12 13⟩,⟨335,[ah 12 13,aA 1],ah 14 15⟩,⟨337,[ah 14 15,gz 1],ah 16 17⟩,⟨338,[aA 1],ah 18 19⟩,⟨289,[ah 18 19,aA 20],ah 21 22⟩,⟨327,[ah 16 17,ah 21 22],ah 23 24⟩,⟨326,[ah 23 24,aA 25],ah 26 27⟩] [eE 3 4,aA 20,aA 0] (ah 26 27) hk (.k w1 (.k I (.k w89 .nil))) (.k c5 (.k Bu (.k T (.k Oj (.k cs (.k C (.k B (.k F (.k XX (.k U (.k D (.k E .nil))))))))))))
  by_cases yR:Da<0
  ·obtain ⟨p,q,r,t,u,v,⟨_,iu,M⟩,⟨_,iv,O⟩,C,B,F⟩:=XV z0 Bx hS hT H
   obtain ⟨A,G,d,g,R,Q,D,E⟩:=XW M O XY XZ hs;exact ⟨d,g,R,Q,K true (decide_eq_true yR) .o p q r t u v A G d g (by kernel_rfl) C B F D E⟩
  ·obtain ⟨p,q,r,t,u,v,⟨_,iu,M⟩,⟨_,iv,O⟩,C,B,F⟩:=XV X Bx hS hT H
   obtain ⟨A,G,d,g,R,Q,D,E⟩:=XW M O XY XZ hs;exact ⟨d,g,R,Q,K false (decide_eq_false yR) (.s false 7) p q r t u v A G d g (by kernel_rfl) C B F D E⟩
end
section
open Go.RowKit Go.Ev
def ajt (n:Nat): ∀c:Nat,(n+c+1)*n^c<=(n+1)^(c+1)
 |0=>by simp_all
 |c+1=>by
  have a:=ajt n c
  calc (n+(c+1)+1)*n^(c+1)=(n+(c+1)+1)*n*n^c:=by grind
   _<=(n+c+1)*(n+1)*n^c:=by
    grind
   _=(n+c+1)*n^c*(n+1):=pK _ _ _
   _<=(n+1)^(c+1)*(n+1):=aN _ a
   _=(n+1)^(c+1+1):=(bI ..).symm
def aju (N:Nat): ∀m:Nat,m<=N->(N+1-m)*(N+1)^m<=N^m*(N+1)
 |0,_=>by simp_all
 |m+1,h=>by
  have b:=aju N m (by omega);obtain ⟨d,g⟩: ∃d,N=m+1+d:=⟨N-(m+1),by omega⟩;have e:N+1-(m+1)=d+1:=by omega
  have f:N+1-m=d+2:=by omega
  rw [e];rw [f] at b;have a:(d+1)*(N+1)<=N*(d+2):=by
   grind
  calc (d+1)*(N+1)^(m+1)=(d+1)*(N+1)*(N+1)^m:=by grind
   _<=N*(d+2)*(N+1)^m:=aN _ a
   _=N*((d+2)*(N+1)^m):=bF _ _ _
   _<=N*(N^m*(N+1)):=aR _ b
   _=N^(m+1)*(N+1):=by grind
def auR (k:Nat):(2*k+1)^(2*k)<=4*(2*k)^(2*k):=by
 have h:=aju (2*k) k (by omega);have a:(2*k+1)^k<=2*(2*k)^k:=by
  refine bS (c:=2*k+1) ?_ (by omega);have b:(2*k+1)*(2*k+1)^k<=2*((2*k+1-k)*(2*k+1)^k):=by
   rw [<-bF];exact aN _ (by omega)
  grind
 have e: ∀x:Nat,x^(2*k)=x^k*x^k:=fun x=>by rw [<-bC];congr 1;omega
 rw [e,e]
 calc (2*k+1)^k*(2*k+1)^k<=2*(2*k)^k*(2*(2*k)^k):=bH a a
  _=4*((2*k)^k*(2*k)^k):=by grind
def auS {n c:Nat} (e: ∃k,n=2*k) (b:0<n):(n+c+1)^n<=4^(c+1)*n^n:=by
 obtain ⟨k,rfl⟩:=e;have a:=gB (ajt (2*k) c) (2*k);have d:=gB (auR k) (c+1);rw [Nat.mul_pow,<-fJ] at a;rw [Nat.mul_pow,<-fJ,<-fJ] at d;refine bS (c:=(2*k)^(c*(2*k))) ?_ (aO b);refine aK a ?_;rw [<-fJ,bE (c+1) (2*k),bF (4^(c+1)),<-bC];grind
def auT {n c e:Nat} (i: ∃k,n=2*k) (b:0<n) (l:e<=n):(n+c+1)^e<=4^(c+1)*n^e:=by
 have h:=auS (c:=c) i b;obtain ⟨d,j⟩: ∃d,n=e+d:=⟨n-e,by omega⟩;have a: ∀x:Nat,x^n=x^e*x^d:=fun x=>by grind
 rw [a,a n] at h;have f:n^d<=(n+c+1)^d:=gB (by omega) d;have g:0<n^d:=aO b;refine bS (c:=n^d) ?_ g
 calc (n+c+1)^e*n^d<=(n+c+1)^e*(n+c+1)^d:=aR _ f
  _<=4^(c+1)*(n^e*n^d):=h
  _=4^(c+1)*n^e*n^d:=(bF ..).symm
def ajv {S S' P n a e:Nat} (k:4<=P) (o:n<=a) (j:0<n) (h:(S+2)*n^e<=P*a^e) (l:S'<=S*S/P+1):(S'+2)*n^(2*e)<=P*a^(2*e):=by
 have q:0<n^e:=aO j;have g:P*n^e<=P*a^e:=aR _ (gB o e);have d: ∀x:Nat,x^(2*e)=x^e*x^e:=fun x=>by rw [<-bC];congr 1;omega
 rw [d,d];generalize n^e=b at*;have m:S'*P<=S*S+P:=by
  have p:=dT (S*S) P
  calc S'*P<=(S*S/P+1)*P:=aN _ l
   _=S*S/P*P+P:=by grind
   _<=S*S+P:=by omega
 have i:P*(P*(a^e*a^e))=P*a^e*(P*a^e):=by grind
 refine Nat.le_of_mul_le_mul_left (c:=P) ?_ (by omega);rw [i];generalize P*a^e=al at*;have f:4*b<=al:=aK (aN _ k) g;obtain ⟨r,s⟩: ∃r,al=(S+2)*b+r:=⟨al-(S+2)*b,by omega⟩
 calc P*((S'+2)*(b*b))=(S'*P+2*P)*(b*b):=by grind
  _<=(S*S+3*P)*(b*b):=aN _ (by omega)
  _=S*S*(b*b)+3*(P*b)*b:=by grind
  _<=S*S*(b*b)+3*al*b:=Nat.add_le_add_left (aN _ (aR _ g)) _
  _<=al*al:=by
   have t:al*al=al*(S*b)+2*(al*b)+al*r:=by
    grind
   have u:al*(S*b)=S*b*(S*b)+2*b*(S*b)+r*(S*b):=by
    grind
   have y:S*S*(b*b)=S*b*(S*b):=by grind
   have z:al*b=S*b*b+2*b*b+r*b:=by
    grind
   have A:4*b*b<=al*b:=aN _ f;have B:2*b*(S*b)=2*(S*b*b):=by grind
   have C:4*(r*b)<=al*r:=by rw [bE al,Nat.mul_left_comm];exact aR _ f
   grind
end
section
open Go.RowKit Go.Ev
variable {s u v a b n:Int} {h i P B g K m y U:Nat}
def lG:Func:=Tryz.f347
def Ji:List Ev.Way:= [.r,.r,.l,.k]
def Jj:List Ev.Way:= [.r,.r,.r,.r,.r,.r,.r,.l,.r,.k]
def Jk:List Ev.Way:= [.r,.r,.r,.r,.r,.r,.r,.r,.l,.r,.k]
def ajw:mJ Ji (nD lG)=some (.loop (ka Ji lG)):=by kernel_rfl
def ajx:mJ Jj (nD lG)=some (.loop (ka Jj lG)):=by kernel_rfl
def ajy:mJ Jk (nD lG)=some (.loop (ka Jk lG)):=by kernel_rfl
def Jl (u v s:Int) (h:Nat):Fr:=⟨[⟨2,285,4,cD u v⟩,⟨4,285,4,ZS⟩],[(1,bj (.int .i64 s)),(5,bj (.int .i64 ((h:Nat):Int)))]⟩
def Jm (u v s t:Int) (h:Nat) (x:lS):Fr:=⟨[⟨2,285,4,cD u v⟩,⟨4,285,4,ZS⟩,⟨7,285,4,cD x.a x.b⟩,⟨8,285,4,cD x.c x.d⟩],[(1,bj (.int .i64 s)),(5,bj (.int .i64 ((h:Nat):Int))),(6,bj (.int .i64 t)),(9,bj (.int .u32 ((x.i:Nat):Int)))]⟩
def Jn (u v s t:Int) (h:Nat) (x:lS):Fr:=⟨[⟨2,285,4,cD u v⟩,⟨4,285,4,ZS⟩,⟨7,285,4,cD x.a x.b⟩,⟨8,285,4,cD x.c x.d⟩],[(1,bj (.int .i64 s)),(5,bj (.int .i64 ((h:Nat):Int))),(6,bj (.int .i64 t)),(50,bj (.int .i64 ((h:Nat):Int))),(51,bj (.int .i64 ((x.i:Nat):Int)))]⟩
def auU :BB lG.ntmps Ji (nD lG) (.loop (ka Ji lG)) ⟨[],Af [cD u v,bj (.int .i64 s)] 0⟩ (Jl u v s 4):=by
 exact La [.z u,.z v,.i s] [] 0 [] [] ⟨[],[(0,ah 0 1),(1,aA 2)]⟩ ⟨[⟨2,285,4,ah 0 1⟩,⟨4,285,4,.lit zS⟩],[(1,aA 2),(5,gz 4)]⟩ ajw (fun d=>by kernel_rfl) .nil .nil
def auV (D:48<=s/\s<=23000): ∀h:Nat,(4<=h/\h<=160)->
 (∃y:Nat,(4<=y/\y<=160)/\200-y<200-h/\(∀o:Nat,(s<=((o*o:Nat):Int)/\4<=o/\o<=160)->(s<=((o*o:Nat):Int)/\4<=o/\o<=160))/\qp lG.ntmps (ka Ji lG) (Jl u v s h) .normal (Jl u v s y))\/
 (∃o:Nat,(s<=((o*o:Nat):Int)/\4<=o/\o<=160)/\Out.exit 0≠ .normal/\qp lG.ntmps (ka Ji lG) (Jl u v s h) (.exit 0) (Jl u v s o)):=by
 rintro h ⟨A,f⟩;have x:h*h<=160*160:=bH f f;have q:IntKind.i64.wrap (((h:Nat):Int)*((h:Nat):Int))=((h*h:Nat):Int):=by rw [<-eB];exact aC _ (by omega)
 by_cases j:(((h*h):Nat):Int)<s
 ·have e:=decide_eq_true j
  have C:IntKind.i64.wrap (((h:Nat):Int)+1)=(((h+1):Nat):Int):=by rw [aC _ (by omega)];omega
  have t:h<159:=by
   refine Nat.not_le.1 fun p=> ?_
   have:=bH p p;omega
  exact .inl ⟨h+1,⟨by omega,by omega⟩,by omega,fun _ h=>h,tr [.i ((h:Nat):Int),.i (((h*h):Nat):Int),.i s,.i (((h+1):Nat):Int),.z u,.z v] [] 0 [.ar .mul (.i 0) (.i 0) (.i 1),.cm .lss (.i 1) (.i 2) true,.ar .add (.i 0) (.l 1) (.i 3)] [] ⟨[⟨2,285,4,ah 4 5⟩,⟨4,285,4,.lit zS⟩],[(1,aA 2),(5,aA 0)]⟩ ⟨[⟨2,285,4,ah 4 5⟩,⟨4,285,4,.lit zS⟩],[(1,aA 2),(5,aA 3)]⟩ (fun d=>by kernel_rfl) (.k q (.k e (.k C .nil))) .nil⟩
 ·have e:=decide_eq_false j
  exact .inr ⟨h,⟨by omega,A,f⟩,by simp,tr [.i ((h:Nat):Int),.i (((h*h):Nat):Int),.i s,.z u,.z v] [] 0 [.ar .mul (.i 0) (.i 0) (.i 1),.cm .lss (.i 1) (.i 2) false] [] ⟨[⟨2,285,4,ah 3 4⟩,⟨4,285,4,.lit zS⟩],[(1,aA 2),(5,aA 0)]⟩ ⟨[⟨2,285,4,ah 3 4⟩,⟨4,285,4,.lit zS⟩],[(1,aA 2),(5,aA 0)]⟩ (fun d=>by kernel_rfl) (.k q (.k e .nil)) .nil⟩
def auW {j:Nat} (N:Bz i a) (O:Bz j b) (hi:i<=500000) (hj:j<=500000) (hs:48<=s/\s<=23000) (hh:h<=160) (hg:g=(s+((h:Nat):Int)+24).toNat) (J:a.natAbs<=64*2^s.toNat) (M:b.natAbs<=64*2^s.toNat):
 ∃u v p,u.natAbs<=64*2^(s.toNat+24)/\v.natAbs<=64*2^(s.toNat+24)/\p=2^(s+((h:Nat):Int)+24).toNat/\Bz (i+200) u/\Bz (j+200) v/\RZ lG.ntmps Ji (.exit 0) Jj (nD lG) (.loop (ka Jj lG)) (Jl a b s h) (Jm u v s (s+((h:Nat):Int)+24) h ⟨p,p,p,p,1,true⟩):=by
 have W:=aC (s+((h:Nat):Int)) (by omega);have X:=aC ((s+((h:Nat):Int))+24) (by omega);have Y:=aC (((s+((h:Nat):Int))+24)-s) (by omega);obtain ⟨Z,y5,H,I,t,F⟩:=WV (n:=(((s+((h:Nat):Int))+24)-s)) (c:=200) N O;obtain ⟨e,f,D,R,o,C⟩:=uH (n:=((h:Nat):Int)) H I;obtain ⟨A,rQ,T,S⟩:=RT (n:=((s+((h:Nat):Int))+24)) (c:=g);have G:(((s+((h:Nat):Int))+24)-s).toNat=h+24:=by omega
 have x: ∀q:Int,q.natAbs<=64*2^s.toNat->(q*2^(((s+((h:Nat):Int))+24)-s).toNat).natAbs<=64*2^(s.toNat+24)*2^h:=fun q Q=>by
  rw [WX,G,bC 2 h 24,bC 2 s.toNat 24];have:=aN (2^h*2^24) Q;grind
 have b1:e.natAbs<=64*2^(s.toNat+24):=by rw [o.1,t.1];exact (XL (x a J)).1
 have E:f.natAbs<=64*2^(s.toNat+24):=by rw [o.2,t.2];exact (XL (x b M)).2
 exact ⟨e,f,A,b1,E,T,D,R,aif [.i s,.i ((h:Nat):Int),.i (s+((h:Nat):Int)),.i ((s+((h:Nat):Int))+24),.i (((s+((h:Nat):Int))+24)-s),.z a,.z b,.z Z,.z y5,.z e,.z f,.z A] [] 0 [.ar .add (.i 0) (.i 1) (.i 2),.ar .add (.i 2) (.l 24) (.i 3),.ar .sub (.i 3) (.i 0) (.i 4)] [⟨337,[ah 5 6,aA 4],ah 7 8⟩,⟨326,[ah 7 8,aA 1],ah 9 10⟩,⟨333,[aA 3],ah 11 11⟩] ⟨[⟨2,285,4,ah 5 6⟩,⟨4,285,4,.lit zS⟩],[(1,aA 0),(5,aA 1)]⟩ ⟨[⟨2,285,4,ah 9 10⟩,⟨4,285,4,.lit zS⟩,⟨7,285,4,ah 11 11⟩,⟨8,285,4,ah 11 11⟩],[(1,aA 0),(5,aA 1),(6,aA 3),(9,.i (.k .u32 1))]⟩ (by kernel_rfl) ajw ajx (fun d=>by kernel_rfl) (.k W (.k X (.k Y .nil))) (.k F (.k C (.k S .nil)))⟩
def ajz {n:Nat} (e:2*b.natAbs<=2^n):(a*b).natAbs/2^n<=a.natAbs/2:=by
 have d:0<2^n:=aO (n:=n) (show 0<2 by decide);rw [dP,cK (by decide)];have f:=dT (a.natAbs*b.natAbs) (2^n);have j:a.natAbs*(2*b.natAbs)<=a.natAbs*2^n:=aR _ e;refine bS (c:=2^n) ?_ d;grind
def ajA {n:Nat} (d:a.natAbs<=2^n:=by omega):(a*b).natAbs/2^n<=b.natAbs:=by
 have:=acr (a:=b) (b:=a) (n:=n) (C:=1);grind
def acG (P U K:Nat) (x:lS):Prop:=1<=x.i/\ ∃g,x.b.natAbs<2^g/\8<=x.b.natAbs/\max x.i 2+g<=K/\
 ((x.i=1/\x.a.natAbs<=P/\x.b.natAbs<=P/\x.c.natAbs<=P/\x.d.natAbs<=P)\/(2<=x.i/\x.c.natAbs+x.a.natAbs<=P+2*U+4*x.i/\x.d.natAbs+x.b.natAbs<=P+2*U+4*x.i))
def X0 (P U K:Nat) (o:lS):Prop:=o.c.natAbs<=P+2*U+4*K+4/\o.d.natAbs<=P+2*U+4*K+4
def auX {b:Nat} (hi:1<=i) (f:b<2^g) (e:8<=b) (p:max i 2+g<=K) (q:m<=b/2+1) (t:y<=m/i+1): ∃d,y<2^d/\max (i+1) 2+d<=K:=by
 obtain ⟨H,o,j,k,l⟩:=acu f e;by_cases h:i=1
 ·grind
 ·have:=Gy (x:=m) (show 2<=i by omega)
  grind
def ajB {a c s:Nat} (hi:1<=i) (h:(i=1/\a<=P/\c<=P)\/(2<=i/\c+a<=P+2*U+4*i)) (j:m<=a/2+1) (o:a<=P->m<=U+1) (l:y<=m/i+1) (k:s<=c+y):s+y<=P+2*U+4*(i+1):=by
 rcases h with ⟨d,e,f⟩|⟨d,e⟩
 ·grind
 ·have:=Gy (x:=m) d
  omega
def auY {ku kv:Nat} (hu:Bz ku u) (hv:Bz kv v) (hku:ku<=600000) (hkv:kv<=600000) (hn:0<=n/\n<=100000) (hP:P=2^n.toNat) (M:2*u.natAbs<=2^n.toNat) (jF:2*v.natAbs<=2^n.toNat) (N:u.natAbs<=U) (O:v.natAbs<=U) (hU:2*U<=P) (hK:K<=100000) (hKP:4*K+8<=P) (hB:P<=2^B) (tw:2^(B+2)=4*2^B) (hBk:B<=100000:=by omega): ∀x,acG P U K x->
 (∃y,acG P U K y/\(fun z:lS=>K-z.i) y<(fun z:lS=>K-z.i) x/\(∀o:lS,X0 P U K o->X0 P U K o)/\qp lG.ntmps (ka Jj lG) (Jm u v s n h x) .normal (Jm u v s n h y))\/
 (∃o:lS,X0 P U K o/\Out.exit 2≠ .normal/\qp lG.ntmps (ka Jj lG) (Jm u v s n h x) (.exit 2) (Jm u v s n h o)):=by
 rintro ⟨a,t,c,d,i,m⟩ ⟨E,g,hg,h8,hk,e⟩;simp only at E hg h8 hk e;have ha:Bz (B+2) a:=by unfold Bz;omega
 have hb:Bz (B+2) t:=by unfold Bz;omega
 have hc:Bz (B+2) c:=by unfold Bz;omega
 have hd:Bz (B+2) d:=by unfold Bz;omega
 obtain ⟨A,H,h3,h4,D,Z⟩:=EA (n:=n) ha hb hu hv;obtain ⟨f,j,F,J,pn,pO⟩:=RU (d:=i) h3 h4;obtain ⟨l,p,Ai,wE,SM,Y⟩:=Ez hc hd F J;have Q:A.natAbs<=a.natAbs/2+1:=by rw [D.1];exact aK (SB _ _) (dH (ajz M))
 have q:H.natAbs<=t.natAbs/2+1:=by rw [D.2];exact aK (Od _ _) (dH (ajz jF))
 have R:a.natAbs<=P->A.natAbs<=U+1:=fun h=>by rw [D.1];exact aK (SB _ _) (dH (aK (ajA) N))
 have S:t.natAbs<=P->H.natAbs<=U+1:=fun h=>by rw [D.2];exact aK (Od _ _) (dH (aK (ajA) O))
 have T:f.natAbs<=A.natAbs/i+1:=by grind
 have C:=pn.2.2.1;have W:l.natAbs<=c.natAbs+f.natAbs:=by omega
 have X:p.natAbs<=d.natAbs+j.natAbs:=by grind
 have q1:=ajB (U:=U) E (e.imp (fun h=>⟨h.1,h.2.1,h.2.2.2.1⟩) (fun h=>⟨h.1,h.2.1⟩)) Q R T W;have q2:=ajB (U:=U) E (e.imp (fun h=>⟨h.1,h.2.2.1,h.2.2.2.2⟩) (fun h=>⟨h.1,h.2.2⟩)) q S C X;obtain ⟨g2,k1,k2⟩:=auX E hg h8 hk q C;have G:=RS (a:=f) J;by_cases F:j.natAbs<8
 ·rw [decide_eq_true F] at G
  obtain ⟨I,Aj,yE,vm⟩:=xD wE J;have zz3:I.natAbs<=p.natAbs+j.natAbs:=by grind
  exact .inr ⟨⟨f,j,l,I,i,m⟩,⟨by grind,by grind⟩,by simp,tr [.z a,.z t,.z u,.z v,.i n,.z A,.z H,.u i,.z f,.z j,.z c,.z d,.z l,.z p,.z I,.i s,.i ((h:Nat):Int)] [] 0 [] [⟨348,[ah 0 1,ah 2 3,aA 4],ah 5 6⟩,⟨350,[ah 5 6,.i (.u 7)],ah 8 9⟩,⟨327,[ah 10 11,ah 8 9],ah 12 13⟩,⟨349,[ah 8 9],.b true⟩,⟨83,[aL 13,aL 9],aL 14⟩] ⟨[⟨2,285,4,ah 2 3⟩,⟨4,285,4,.lit zS⟩,⟨7,285,4,ah 0 1⟩,⟨8,285,4,ah 10 11⟩],[(1,aA 15),(5,aA 16),(6,aA 4),(9,.i (.u 7))]⟩ ⟨[⟨2,285,4,ah 2 3⟩,⟨4,285,4,.lit zS⟩,⟨7,285,4,ah 8 9⟩,⟨8,285,4,ah 12 14⟩],[(1,aA 15),(5,aA 16),(6,aA 4),(9,.i (.u 7))]⟩ (fun d=>by kernel_rfl) .nil (.k Z (.k pO (.k Y (.k G (.k vm .nil)))))⟩
 ·rw [decide_eq_false F] at G
  have w1:IntKind.u32.wrap (((i:Nat):Int)+1)=(((i+1):Nat):Int):=by rw [di _ (by omega)];omega
  exact .inl ⟨⟨f,j,l,p,i+1,m⟩,⟨by simp_all,g2,k1,by simp_all,k2,.inr ⟨by simp_all,q1,q2⟩⟩,by grind,fun o h=>h,tr [.z a,.z t,.z u,.z v,.i n,.z A,.z H,.u i,.z f,.z j,.z c,.z d,.z l,.z p,.u (i+1),.i s,.i ((h:Nat):Int)] [] 0 [.ar .add (.u 7) (.k .u32 1) (.u 14)] [⟨348,[ah 0 1,ah 2 3,aA 4],ah 5 6⟩,⟨350,[ah 5 6,.i (.u 7)],ah 8 9⟩,⟨327,[ah 10 11,ah 8 9],ah 12 13⟩,⟨349,[ah 8 9],.b false⟩] ⟨[⟨2,285,4,ah 2 3⟩,⟨4,285,4,.lit zS⟩,⟨7,285,4,ah 0 1⟩,⟨8,285,4,ah 10 11⟩],[(1,aA 15),(5,aA 16),(6,aA 4),(9,.i (.u 7))]⟩ ⟨[⟨2,285,4,ah 2 3⟩,⟨4,285,4,.lit zS⟩,⟨7,285,4,ah 8 9⟩,⟨8,285,4,ah 12 13⟩],[(1,aA 15),(5,aA 16),(6,aA 4),(9,.i (.u 14))]⟩ (fun d=>by kernel_rfl) (.k w1 .nil) (.k Z (.k pO (.k Y (.k G .nil))))⟩
def auZ {c d:Int} {m:Bool} :RZ lG.ntmps Jj (.exit 2) Jk (nD lG) (.loop (ka Jk lG)) (Jm u v s n h ⟨a,b,c,d,i,m⟩) (Jn u v s n h ⟨a,b,c,d,0,m⟩):=by
 exact aif [.z u,.z v,.z a,.z b,.z c,.z d,.i s,.i ((h:Nat):Int),.i n,.u i] [] 0 [] [] ⟨[⟨2,285,4,ah 0 1⟩,⟨4,285,4,.lit zS⟩,⟨7,285,4,ah 2 3⟩,⟨8,285,4,ah 4 5⟩],[(1,aA 6),(5,aA 7),(6,aA 8),(9,.i (.u 9))]⟩ ⟨[⟨2,285,4,ah 0 1⟩,⟨4,285,4,.lit zS⟩,⟨7,285,4,ah 2 3⟩,⟨8,285,4,ah 4 5⟩],[(1,aA 6),(5,aA 7),(6,aA 8),(50,aA 7),(51,gz 0)]⟩ (by kernel_rfl) ajx ajy (fun d=>by kernel_rfl) .nil .nil
def acH (P h:Nat) (x:lS):Prop:=x.i<=h/\(x.c.natAbs+2)*(2^h)^2^x.i<=P*(2^h+129+1)^2^x.i/\(x.d.natAbs+2)*(2^h)^2^x.i<=P*(2^h+129+1)^2^x.i
def ajC {s:Nat} (t:P<=2^B) (A:1<=h) (hi:i<=h) (z:(s+2)*(2^h)^2^i<=P*(2^h+129+1)^2^i):s<2^(B+260):=by
 have x: ∃k,2^h=2*k:=⟨2^(h-1),by rw [<-Nat.pow_succ'];congr 1;omega⟩;have d:0<2^h:=aO (by decide);have l:=auT (c:=129) (e:=2^i) x d (aG (by decide) hi);have o:0<(2^h)^2^i:=aO d;generalize (2^h+129+1)^2^i=C at*;generalize (2^h)^2^i=j at*;have p:(s+2)*j<=2^B*4^(129+1)*j:=by
  refine aK z ?_;rw [bF];exact bH t l
 have f:=bS p o;have q: ∀k:Nat,2^(B+2*k)=2^B*4^k:=fun k=>by rw [bC,fJ]
 rw [<-q] at f;exact az (gO (jl s)) f
def au0 (hn:0<=n/\n<=100000) (T:P=2^n.toNat) (D:4<=P) (F:P<=2^B) (S:B<=100000:=by omega) (G:1<=h:=by omega) (X:h<=1000:=by omega): ∀x,acH P h x->
 (∃y,acH P h y/\(fun z:lS=>h-z.i) y<(fun z:lS=>h-z.i) x/\(∀o:lS,(Zb 200000 o.c/\Zb 200000 o.d)->(Zb 200000 o.c/\Zb 200000 o.d))/\qp lG.ntmps (ka Jk lG) (Jn u v s n h x) .normal (Jn u v s n h y))\/
 (∃o:lS,(Zb 200000 o.c/\Zb 200000 o.d)/\Out.exit 4≠ .normal/\qp lG.ntmps (ka Jk lG) (Jn u v s n h x) (.exit 4) (Jn u v s n h o)):=by
 rintro ⟨a,t,c,d,i,m⟩ ⟨j,e,q⟩;simp only at j e q;have hc:Bz (B+260) c:=ajC F G j e;have f:Bz (B+260) d:=ajC F G j q;by_cases E:((i:Nat):Int)<((h:Nat):Int)
 ·have p:=decide_eq_true E
  obtain ⟨A,C,Y,Z,R,N⟩:=EA (n:=n) hc f hc f;have O:A.natAbs<=c.natAbs*c.natAbs/P+1:=by grind
  have Q:C.natAbs<=d.natAbs*d.natAbs/P+1:=by rw [R.2,T,<-dP];exact Od _ _
  have M:2^(i+1)=2*2^i:=by omega
  have J:0<2^h:=aO (by decide);have H:=ajv D (show 2^h<=2^h+129+1 by omega) J e O;have I:=ajv D (show 2^h<=2^h+129+1 by omega) J q Q;rw [<-M] at H I;have W:IntKind.i64.wrap (((i:Nat):Int)+1)=(((i+1):Nat):Int):=by rw [aC _ (by omega)];omega
  exact .inl ⟨⟨a,t,A,C,i+1,m⟩,⟨by grind,H,I⟩,by grind,fun o h=>h,tr [.i ((i:Nat):Int),.i ((h:Nat):Int),.z c,.z d,.i n,.z A,.z C,.i (((i+1):Nat):Int),.z u,.z v,.z a,.z t,.i s] [] 0 [.cm .lss (.i 0) (.i 1) true,.ar .add (.i 0) (.l 1) (.i 7)] [⟨348,[ah 2 3,ah 2 3,aA 4],ah 5 6⟩] ⟨[⟨2,285,4,ah 8 9⟩,⟨4,285,4,.lit zS⟩,⟨7,285,4,ah 10 11⟩,⟨8,285,4,ah 2 3⟩],[(1,aA 12),(5,aA 1),(6,aA 4),(50,aA 1),(51,aA 0)]⟩ ⟨[⟨2,285,4,ah 8 9⟩,⟨4,285,4,.lit zS⟩,⟨7,285,4,ah 10 11⟩,⟨8,285,4,ah 5 6⟩],[(1,aA 12),(5,aA 1),(6,aA 4),(50,aA 1),(51,aA 7)]⟩ (fun d=>by kernel_rfl) (.k p (.k W .nil)) (.k N .nil)⟩
 ·have p:=decide_eq_false E
  exact .inr ⟨⟨a,t,c,d,i,m⟩,⟨⟨_,by omega,hc⟩,⟨_,by omega,f⟩⟩,by simp,tr [.i ((i:Nat):Int),.i ((h:Nat):Int),.z u,.z v,.z a,.z t,.z c,.z d,.i s,.i n] [] 0 [.cm .lss (.i 0) (.i 1) false] [] ⟨[⟨2,285,4,ah 2 3⟩,⟨4,285,4,.lit zS⟩,⟨7,285,4,ah 4 5⟩,⟨8,285,4,ah 6 7⟩],[(1,aA 8),(5,aA 1),(6,aA 9),(50,aA 1),(51,aA 0)]⟩ ⟨[⟨2,285,4,ah 2 3⟩,⟨4,285,4,.lit zS⟩,⟨7,285,4,ah 4 5⟩,⟨8,285,4,ah 6 7⟩],[(1,aA 8),(5,aA 1),(6,aA 9),(50,aA 1),(51,aA 0)]⟩ (fun d=>by kernel_rfl) (.k p .nil) .nil⟩
def au1 (H:0<=s/\s<=n) (G:n<=100000) (o:lS) (D:Zb 200000 o.c/\Zb 200000 o.d): ∃x y,Zb 200000 x/\Zb 200000 y/\xI lG.ntmps Jk (.exit 4) (nD lG) lG (Jn u v s n h o) (cD x y):=by
 obtain ⟨a,t,c,d,i,m⟩:=o;obtain ⟨⟨I,A,hc⟩,⟨kd,C,e⟩⟩:=D;simp only at hc e;have E:=aC (n-s) (by omega);obtain ⟨f,j,p,q,F,l⟩:=uH (n:=(n-s)) hc e;exact ⟨f,j,⟨_,by omega,p⟩,⟨_,by omega,q⟩,Gr [.i n,.i s,.i (n-s),.z c,.z d,.z f,.z j,.z u,.z v,.z a,.z t,.i ((h:Nat):Int),.i ((i:Nat):Int)] [] 0 [.ar .sub (.i 0) (.i 1) (.i 2)] [⟨326,[ah 3 4,aA 2],ah 5 6⟩] ⟨[⟨2,285,4,ah 7 8⟩,⟨4,285,4,.lit zS⟩,⟨7,285,4,ah 9 10⟩,⟨8,285,4,ah 3 4⟩],[(1,aA 1),(5,aA 11),(6,aA 0),(50,aA 11),(51,aA 12)]⟩ (ah 5 6) ajy (fun d=>by kernel_rfl) (.k E .nil) (.k l .nil)⟩
def au2 {f:FuncId} {d:Func} {Rs:List (World->Value->Prop)} {R:World->Value->Prop} {c b1 k l:Code} {E F G:List Ev.Way} {A C D:Out} {o p q t x z:Fr} (hf:Tryz.prog.funcs[f]? =some d) (hb:d.body=some c) (j:Rs.length<=d.ntmps)
 (hp:BB d.ntmps E c (.loop b1) ⟨[],Af Rs 0⟩ o) (l1:qp d.ntmps (.loop b1) o A p) (Q:RZ d.ntmps E A F c (.loop k) p q) (l2:qp d.ntmps (.loop k) q C t) (T:RZ d.ntmps F C G c (.loop l) t x) (l3:qp d.ntmps (.loop l) x D z) (he:xI d.ntmps G D c d z R):bJ Tryz.prog bw f Rs R:=
 abP hf hb j fun S base e a w h=>hp S base e a w _ h fun H w1 W=>l1 S base e H w1 _ W fun I w2 X=>Q S base e I w2 _ X fun J w3 Y=>l2 S base e J w3 _ Y fun M w4 Z=>T S base e M w4 _ Z fun N w5 h5=>l3 S base e N w5 _ h5 fun O w6 h6=>he S base e O w6 h6
def au3 (M:48<=s/\s<=23000) (H:a.natAbs<=64*2^s.toNat) (I:b.natAbs<=64*2^s.toNat): ∃x y,Zb 200000 x/\Zb 200000 y/\bJ Tryz.prog bw 347 [cD a b,bj (.int .i64 s)] (cD x y):=by
 have k: ∀z:Int,z.natAbs<=64*2^s.toNat->Bz (s.toNat+7) z:=fun z k=>by
  have h1:2^(s.toNat+7)=128*2^s.toNat:=by rw [bC,bE]
  have t:0<2^s.toNat:=aO (n:=s.toNat) (show 0<2 by decide);unfold Bz;omega
 obtain ⟨h,⟨hsh,hh4,hh⟩,S⟩:=II (nt:=lG.ntmps) (c:=ka Ji lG) (out:= .exit 0) (Jl a b s) (fun h=>200-h) (fun h=>4<=h/\h<=160) (Jl a b s) (fun _ o=>s<=((o*o:Nat):Int)/\4<=o/\o<=160) (auV M) 4 ⟨by decide,by decide⟩;have h7:7<=h:=by
  refine Nat.not_lt.1 fun h9=> ?_
  have:=bH (show h<=6 by omega) (show h<=6 by omega);omega
 obtain ⟨g,j⟩: ∃g:Nat,g=(s+((h:Nat):Int)+24).toNat:=⟨_,rfl⟩;obtain ⟨u,v,p,N,O,J,W,T,G⟩:=auW (k a H) (k b I) (by omega) (by omega) M hh j H I;obtain ⟨n,hn⟩: ∃n:Int,n=s+((h:Nat):Int)+24:=⟨_,rfl⟩;rw [<-hn] at J G j;obtain ⟨P,e⟩: ∃P:Nat,P=2^n.toNat:=⟨_,rfl⟩;obtain ⟨U,C⟩: ∃U:Nat,U=64*2^(s.toNat+24):=⟨_,rfl⟩;rw [<-C] at N O;have f:P=2^(s.toNat+24)*2^h:=by rw [e,<-bC];congr 1;omega
 have q:128<=2^h:=aK (show 128<=2^7 by decide) (aG (by decide) h7);have D:2*U<=P:=by
  rw [f,C];have:=aR (2^(s.toNat+24)) q;omega
 have l:=XE (s:=n.toNat);rw [<-e] at l;have Z:=XE (s:=s.toNat+24);have F:p.natAbs=P:=by rw [J,e,ni];rfl
 obtain ⟨K,hK⟩: ∃K:Nat,K=g+3:=⟨_,rfl⟩;have A:P<2^(g+1):=by rw [e,<-j,bI];have:=aO (n:=g) (show 0<2 by decide);omega
 obtain ⟨o,E,uo⟩:=II (nt:=lG.ntmps) (c:=ka Jj lG) (out:= .exit 2) (Jm u v s n h) (fun z=>K-z.i) (acG P U K) (Jm u v s n h) (fun _=>X0 P U K) (auY (B:=g) W T (by omega) (by omega) (by omega) e (by rw [<-e];omega) (by rw [<-e];omega) N O D (by omega) (by omega) (by rw [e,j];exact aq _) (by rw [bC,bE])) ⟨p,p,p,p,1,true⟩
  ⟨aq _,g+1,by show p.natAbs<_;rw [F];exact A,by show 8<=p.natAbs;omega,by show max 1 2+(g+1)<=K;omega,.inl ⟨rfl,by show p.natAbs<=P;omega,by show p.natAbs<=P;omega,by show p.natAbs<=P;omega,by show p.natAbs<=P;omega⟩⟩
 obtain ⟨Y,b2,c2,d2,i2,m2⟩:=o;obtain ⟨R,Q⟩:=E;simp only at R Q;have t: ∀z:Nat,z<=P+2*U+4*K+4->(z+2)*(2^h)^2^0<=P*(2^h+129+1)^2^0:=fun z k=>by
  rw [lR,mO,mO];have e1:U*2^h=64*P:=by rw [C,f,bF]
  have e2:(4*K+6)*2^h<=P:=by rw [f];exact aN _ (by omega)
  have e3:(z+2)*2^h<=(P+2*U+(4*K+6))*2^h:=aN _ (by omega);have e4:(P+2*U+(4*K+6))*2^h=P*2^h+2*(U*2^h)+(4*K+6)*2^h:=by rw [dF,dF,bF 2]
  have e5:P*(2^h+129+1)=P*2^h+130*P:=by rw [eK,fI,bE P (129+1)]
  omega
 obtain ⟨o,E,X⟩:=II (nt:=lG.ntmps) (c:=ka Jk lG) (out:= .exit 4) (Jn u v s n h) (fun z=>h-z.i) (acH P h) (Jn u v s n h) (fun _ o=>Zb 200000 o.c/\Zb 200000 o.d) (au0 (B:=g) (by omega) e (by omega) (by rw [e,j];exact aq _)) ⟨Y,b2,c2,d2,0,m2⟩
  ⟨b6 _,t _ R,t _ Q⟩
 obtain ⟨x,y,hx,hy,hf⟩:=au1 (u:=u) (v:=v) (s:=s) (n:=n) (h:=h) (by omega) (by omega) o E;exact ⟨x,y,hx,hy,au2 Tryz.func347 (by kernel_rfl) (by rw [show Tryz.f347.ntmps=_ from Tryz.ntmps347];simp) auU S G uo auZ X hf⟩
end
end Go.Proofs.YtnmpjdgobafdkaaGreatDoor
