/- refineFuel_proved. -/
import Derived.Test.YtnmpjdgobafdkaaGreatDoorPmax
set_option maxRecDepth 100000
set_option maxHeartbeats 16000000
set_option linter.all false
noncomputable section
namespace Go.Proofs.YtnmpjdgobafdkaaGreatDoor
section
open Go.Proofs.Tryz Go.RowKit Go.Ev
variable {K i n g:Nat} {u v s a b q r:Int}
structure I2 where
 p:Nat
 s:Nat
 i:Nat
def eP:List Ev.Way:= [.r,.r,.r,.r,.l,.k]
def eF:Func:=f238
def ajg:mJ eP (nD eF)=some (.loop (ka eP eF)):=by kernel_rfl
def eI (x:I2):Fr:=⟨[⟨2,285,4,ZS⟩],[(3,fw x.p),(4,fw x.s),(5,bj (.int .u32 ((x.i:Nat):Int)))]⟩
def eOk (K:Nat) (x:I2):Prop:=1<=x.i/\ ∃g,x.p<2^g/\max x.i 2+g<=K/\Bn (K+x.i) x.s
def eG (K:Nat) (o:I2):Prop:=o.i<=K/\Nb (2*K) o.s
def atF {p:Nat} (j:p<2^g) (d:p≠0) (hi:2<=i):p/i<2^(g-1)/\1<=g:=by
 have h:1<=g:=by
  grind
 have e:2^g=2*2^(g-1):=by
  conv=>lhs;rw [show g=(g-1)+1 by omega,bI,bE]
 have f:=Gy (x:=p) hi;omega
def atG (T:K<=100000:=by omega): ∀x,eOk K x->
 (∃y,eOk K y/\(fun z:I2=>K-z.i) y<(fun z:I2=>K-z.i) x/\(∀o:I2,eG K o->eG K o)/\qp eF.ntmps (ka eP eF) (eI x) .normal (eI y))\/
 (∃o:I2,eG K o/\Out.exit 0≠ .normal/\qp eF.ntmps (ka eP eF) (eI x) (.exit 0) (eI o)):=by
 rintro ⟨p,s,i⟩ ⟨F,g,e,G,m⟩;simp only at F e G m;have e:Bn g p:=e;by_cases j:p=0
 ·have B:decide (0<(mB (p):Int))=false:=(Ig (p)).trans (by rw [j];rfl)
  refine .inr ⟨⟨p,s,i⟩,⟨by grind,⟨_,by omega,m⟩⟩,by simp,?_⟩;exact tr [.n p,.n s,.u i] [] 0 [.cm .gtr (.len 0) (.l 0) false] [] ⟨[⟨2,285,4,.lit zS⟩],[(3,cU 0),(4,cU 1),(5,.i (.u 2))]⟩ ⟨[⟨2,285,4,.lit zS⟩],[(3,cU 0),(4,cU 1),(5,.i (.u 2))]⟩ (fun d=>by kernel_rfl) (.k B .nil) .nil
 ·have B:decide (0<(mB (p):Int))=true:=(Ig (p)).trans (decide_eq_true j)
  obtain ⟨A,O,E,Q,R,S,C⟩:=F8 (d:=i) e;obtain ⟨t,D,X,N⟩:=Q7 m E;have P:IntKind.u32.wrap (((i:Nat):Int)+1)=(((i+1):Nat):Int):=by rw [di _ (by omega)];omega
  have H:Bn (K+(i+1)) t:=D.mono (by omega);have I: ∃f,A<2^f/\max (i+1) 2+f<=K:=by
   by_cases Y:i=1
   ·grind
   ·obtain ⟨U,W⟩:=atF e j (show 2<=i by omega)
    grind
  obtain ⟨f,J,M⟩:=I;refine .inl ⟨⟨A,t,i+1⟩,⟨by simp_all,f,J,M,H⟩,by grind,fun _ h=>h,?_⟩;exact tr [.n p,.u i,.n A,.u O,.n s,.n t,.u (i+1)] [] 0 [.cm .gtr (.len 0) (.l 0) true,.ar .add (.u 1) (.k .u32 1) (.u 6)] [⟨108,[cU 0,.i (.u 1)],.t3 (cU 2) (.i (.u 3)) (.b true)⟩,⟨134,[cU 4,cU 2],cU 5⟩] ⟨[⟨2,285,4,.lit zS⟩],[(3,cU 0),(4,cU 4),(5,.i (.u 1))]⟩ ⟨[⟨2,285,4,.lit zS⟩],[(3,cU 2),(4,cU 5),(5,.i (.u 6))]⟩ (fun d=>by kernel_rfl) (.k B (.k P .nil)) (.k C (.k N .nil))
def atH {c:Nat} (x:0<=s/\s<=(c:Int):=by omega) (hc:c<=1000000:=by omega):BB eF.ntmps eP (nD eF) (.loop (ka eP eF)) ⟨[],Af [bj (.int .i64 s)] 0⟩ (eI ⟨2^s.toNat,2^s.toNat,1⟩):=by
 obtain ⟨m,l,o,f⟩:=KJ (n:=1);obtain ⟨e,t,p,h⟩:=Q6 (s:=(s).toNat) (c:=c) l (by omega:(s:Int)=(((s).toNat:Nat):Int));have j:e=2^s.toNat:=by simp_all
 rw [<-j];exact La [.n m,.i s,.n e] [] 0 [] [⟨60,[.i (.k .u64 1)],cU 0⟩,⟨144,[cU 0,aA 1],cU 2⟩] ⟨[],[(0,aA 1)]⟩ ⟨[⟨2,285,4,.lit zS⟩],[(3,cU 2),(4,cU 2),(5,.i (.k .u32 1))]⟩ ajg (fun d=>by kernel_rfl) .nil (.k f (.k h .nil))
def atI (R:K<=100000) (o:I2) (h:eG K o): ∃x y,Zb 300000 x/\Zb 300000 y/\xI eF.ntmps eP (.exit 0) (nD eF) eF (eI o) (cD x y):=by
 obtain ⟨p,s,i⟩:=o;obtain ⟨C,k,S,m⟩:=h;simp only at C m;obtain ⟨t,j,P,A⟩:=nu (b:=false) m;have B:=NM (x:=t);have H:IntKind.u32.wrap (((i:Nat):Int)+2)=(((i+2):Nat):Int):=by rw [di _ (by omega)];omega
 have I:IntKind.i64.wrap (((i+2):Nat):Int)=(((i+2):Nat):Int):=aC _ (by omega);have J:=aC (3*((i+2:Nat):Int)) (by omega);obtain ⟨N,D,Q,M⟩:=NL (n:=(3*((i+2:Nat):Int)));obtain ⟨e,f,E,F,O,G⟩:=NP j j D;exact ⟨e,f,⟨_,by omega,E⟩,⟨_,by omega,F⟩,Gr [.n s,.z t,.u i,.u (i+2),.i ((i+2:Nat):Int),.i (3*((i+2:Nat):Int)),.z N,.z e,.z f,.n p] [] 0 [.ar .add (.u 2) (.k .u32 2) (.u 3),.cv (.u 3) (.i 4),.ar .mul (.l 3) (.i 4) (.i 5)] [⟨116,[.b false,cU 0],aL 1⟩,⟨291,[aL 1],ah 1 1⟩,⟨31,[aA 5],aL 6⟩,⟨292,[ah 1 1,aL 6],ah 7 8⟩] ⟨[⟨2,285,4,.lit zS⟩],[(3,cU 9),(4,cU 0),(5,.i (.u 2))]⟩ (ah 7 8) ajg (fun d=>by kernel_rfl) (.k H (.k I (.k J .nil))) (.k A (.k B (.k M (.k G .nil))))⟩
def f_e (l:0<=s/\s<=90000): ∃x y,Zb 300000 x/\Zb 300000 y/\bJ prog bw 238 [bj (.int .i64 s)] (cD x y):=by
 obtain ⟨c,hc⟩: ∃c:Nat,c=s.toNat+3:=⟨_,rfl⟩;have d:2^s.toNat<2^(s.toNat+1):=g5 (by decide) (by omega);obtain ⟨o,h,f⟩:=II (nt:=eF.ntmps) (c:=ka eP eF) (out:= .exit 0) eI (fun z=>c-z.i) (eOk c) eI (fun _=>eG c) (atG) ⟨2^s.toNat,2^s.toNat,1⟩
  ⟨aq _,s.toNat+1,d,by show max 1 2+(s.toNat+1)<=c;omega,atx d⟩
 obtain ⟨x,y,j,k,e⟩:=atI (by omega) o h;exact ⟨x,y,j,k,R0 func238 (by kernel_rfl) (by rw [show f238.ntmps=_ from ntmps238];simp) (atH (c:=c)) f e⟩
def atJ (e:4*b.natAbs<=2^n):(a*b).natAbs/2^n<=a.natAbs/4:=by
 have d:0<2^n:=aO (n:=n) (show 0<2 by decide);rw [dP,cK (by decide)];have f:=dT (a.natAbs*b.natAbs) (2^n);have h:a.natAbs*(4*b.natAbs)<=a.natAbs*2^n:=aR _ e;refine bS (c:=2^n) ?_ d;grind
def acz (d:4*b.natAbs<=2^n):(-(-(a*b)/2^n)).natAbs<=a.natAbs/4+1:=by
 have:=Od (a*b) n;have:=atJ (a:=a) d;omega
def acA {v y:Nat} (f:v<2^g) (e:8<=v) (m:i+2*g<=K) (o:y<=v/4+1): ∃d,y<2^d/\i+2+2*d<=K/\d<=g:=by
 obtain ⟨H,l,h,j,k⟩:=acu f e;grind
def I5:List Ev.Way:= [.r,.r,.r,.l,.r,.k]
def yP:Func:=f335
def ajh:mJ I5 (nD yP)=some (.loop (ka I5 yP)):=by kernel_rfl
def Og (b K:Nat) (x:lS):Prop:= ∃g,x.b.natAbs<2^g/\x.a.natAbs<=2^b+x.i/\x.i+2*g<=K/\Bz (K+x.i) x.c/\Bz (K+x.i) x.d
def EM (o:lS):Prop:=Zb 100000 o.b/\Zb 200000 o.c/\Zb 200000 o.d
def I6 (u v q r n:Int) (x:lS):Fr:=⟨[⟨2,285,4,cD u v⟩,⟨4,285,4,ZS⟩,⟨5,285,4,cD q r⟩,⟨6,285,4,cD x.a x.b⟩,⟨7,285,4,cD x.c x.d⟩],[(1,bj (.int .i64 n)),(8,bj (.int .u32 ((x.i:Nat):Int)))]⟩
def SF {x b:Nat} (h:x<=2^b+i) (d:b+20<=K) (f:i<=100000:=by omega):x<2^K:=by
 have e:2^(b+20)<=2^K:=aG (by decide) d;grind
def atK {b M N:Nat} {n:Int} (hq:Bz M q) (hr:Bz N r) (Xw:M<=1000000) (Xx:N<=1000000) (hn:0<=n/\n<=1048576) (vH:q.natAbs<=1*2^n.toNat) (R:4*r.natAbs<=2^n.toNat) (D:b+20<=K:=by omega) (Y:K<=90000:=by omega): ∀x,(Og b K x/\3<=x.i)->
 (∃y,(Og b K y/\3<=y.i)/\(fun z:lS=>K-z.i) y<(fun z:lS=>K-z.i) x/\(∀o:lS,EM o->EM o)/\qp yP.ntmps (ka I5 yP) (I6 u v q r n x) .normal (I6 u v q r n y))\/
 (∃o:lS,EM o/\Out.exit 0≠ .normal/\qp yP.ntmps (ka I5 yP) (I6 u v q r n x) (.exit 0) (I6 u v q r n o)):=by
 rintro ⟨a,t,c,d,i,m⟩ ⟨⟨g,l,H,I,hc,j⟩,Z⟩;simp only at l H I hc j Z;have om:Bz K a:=SF H D;have J:Bz g t:=l;have c1:=RS (a:=a) J;by_cases G:t.natAbs<8
 ·rw [decide_eq_true G] at c1
  refine .inr ⟨⟨a,t,c,d,i,m⟩,⟨⟨g,by omega,l⟩,⟨_,by omega,hc⟩,⟨_,by omega,j⟩⟩,by simp,?_⟩;exact tr [.z a,.z t,.z u,.z v,.z q,.z r,.z c,.z d,.i n,.u i] [] 0 [] [⟨349,[ah 0 1],.b true⟩] ⟨[⟨2,285,4,ah 2 3⟩,⟨4,285,4,.lit zS⟩,⟨5,285,4,ah 4 5⟩,⟨6,285,4,ah 0 1⟩,⟨7,285,4,ah 6 7⟩],[(1,aA 8),(8,.i (.u 9))]⟩ ⟨[⟨2,285,4,ah 2 3⟩,⟨4,285,4,.lit zS⟩,⟨5,285,4,ah 4 5⟩,⟨6,285,4,ah 0 1⟩,⟨7,285,4,ah 6 7⟩],[(1,aA 8),(8,.i (.u 9))]⟩ (fun d=>by kernel_rfl) .nil (.k c1 .nil)
 ·rw [decide_eq_false G] at c1
  obtain ⟨p,f,F,X,E,S⟩:=EA (n:=n) om J hq hr;obtain ⟨Q,C,U,j9,O,sL⟩:=RU (d:=i) F X;obtain ⟨A,B,wE,rQ,P,lQ⟩:=Ez hc j U j9;have w2:IntKind.u32.wrap (((i:Nat):Int)+2)=(((i+2):Nat):Int):=by rw [di _ (by omega)];omega
  have T:f.natAbs<=t.natAbs/4+1:=by rw [E.2];exact acz R
  have e2:p.natAbs<=a.natAbs*1+1:=by rw [E.1];exact Oe vH
  obtain ⟨e,k1,k2,k3⟩:=acA l (by omega) I T;have k4:p.natAbs<2^K:=SF (i:=i+1) (by omega) D;have k5:Bz (K+i) Q:=by rw [O.1];exact bh (bT _ _) (az k4 (aG (by decide) (by omega)))
  have k6:Bz (K+i) C:=by
   have h1:=O.2.2.1;have h2:f.natAbs/i<=f.natAbs:=bT _ _;have W:2^(e+1)<=2^(K+i):=aG (by decide) (by omega);have F:2^(e+1)=2*2^e:=by omega
   exact az (show C.natAbs<2^(e+1) by omega) W
  have k7:Bz (K+(i+2)) A:=by rw [P.1];exact (hc.add k5).mono (by omega)
  have k8:Bz (K+(i+2)) B:=by rw [P.2];exact (j.add k6).mono (by omega)
  refine .inl ⟨⟨p,f,A,B,i+2,m⟩,⟨⟨e,k1,by grind,k2,k7,k8⟩,by grind⟩,by grind,fun o h=>h,?_⟩;exact tr [.z a,.z t,.z q,.z r,.i n,.z p,.z f,.u i,.z Q,.z C,.z c,.z d,.z A,.z B,.u (i+2),.z u,.z v] [] 0 [.ar .add (.u 7) (.k .u32 2) (.u 14)] [⟨349,[ah 0 1],.b false⟩,⟨348,[ah 0 1,ah 2 3,aA 4],ah 5 6⟩,⟨350,[ah 5 6,.i (.u 7)],ah 8 9⟩,⟨327,[ah 10 11,ah 8 9],ah 12 13⟩] ⟨[⟨2,285,4,ah 15 16⟩,⟨4,285,4,.lit zS⟩,⟨5,285,4,ah 2 3⟩,⟨6,285,4,ah 0 1⟩,⟨7,285,4,ah 10 11⟩],[(1,aA 4),(8,.i (.u 7))]⟩ ⟨[⟨2,285,4,ah 15 16⟩,⟨4,285,4,.lit zS⟩,⟨5,285,4,ah 2 3⟩,⟨6,285,4,ah 5 6⟩,⟨7,285,4,ah 12 13⟩],[(1,aA 4),(8,.i (.u 14))]⟩ (fun d=>by kernel_rfl) (.k w2 .nil) (.k c1 (.k S (.k sL (.k lQ .nil))))
def atL {j:Nat} {n:Int} (f:Bz i u) (h:Bz j v) (hi:i<=400000:=by omega) (x:j<=400000:=by omega) (y:0<=n/\n<=1048576:=by omega): ∃q r,q=u*u/2^n.toNat/\r= -(-(v*v)/2^n.toNat)/\Bz (i+i) q/\Bz (j+j) r/\BB yP.ntmps I5 (nD yP) (.loop (ka I5 yP)) ⟨[],Af [cD u v,bj (.int .i64 n)] 0⟩ (I6 u v q r n ⟨u,v,u,v,3,true⟩):=by
 obtain ⟨l,m,p,t,e,o⟩:=EA (n:=n) f h f h;exact ⟨l,m,e.1,e.2,p,t,La [.z u,.z v,.i n,.z l,.z m] [] 0 [] [⟨348,[ah 0 1,ah 0 1,aA 2],ah 3 4⟩] ⟨[],[(0,ah 0 1),(1,aA 2)]⟩ ⟨[⟨2,285,4,ah 0 1⟩,⟨4,285,4,.lit zS⟩,⟨5,285,4,ah 3 4⟩,⟨6,285,4,ah 0 1⟩,⟨7,285,4,ah 0 1⟩],[(1,aA 2),(8,.i (.k .u32 3))]⟩ ajh (fun d=>by kernel_rfl) .nil (.k o .nil)⟩
def atM {n:Int} (o:lS) (h:EM o): ∃x y,Zb 300000 x/\Zb 300000 y/\xI yP.ntmps I5 (.exit 0) (nD yP) yP (I6 u v q r n o) (cD x y):=by
 obtain ⟨a,t,c,d,i,m⟩:=o;obtain ⟨⟨F,C,f⟩,⟨E,A,hc⟩,⟨kd,B,e⟩⟩:=h;simp only at f hc e;obtain ⟨j,p,D,l⟩:=xD e f;exact ⟨c,j,⟨_,by omega,hc⟩,⟨_,by omega,p⟩,Gr [.z d,.z t,.z j,.z u,.z v,.z q,.z r,.z a,.z c,.i n,.u i] [] 0 [] [⟨83,[aL 0,aL 1],aL 2⟩] ⟨[⟨2,285,4,ah 3 4⟩,⟨4,285,4,.lit zS⟩,⟨5,285,4,ah 5 6⟩,⟨6,285,4,ah 7 1⟩,⟨7,285,4,ah 8 0⟩],[(1,aA 9),(8,.i (.u 10))]⟩ (ah 8 2) ajh (fun d=>by kernel_rfl) .nil (.k l .nil)⟩
def aji (h:5*v.natAbs<=2*2^n:=by omega) (e:5<=n:=by omega):4*(-(-(v*v)/2^n)).natAbs<=2^n:=by
 have j:=Od (v*v) n;have d:0<2^n:=aO (n:=n) (show 0<2 by decide);have f:2^5<=2^n:=aG (by decide) e;have k:(v*v).natAbs/2^n<=4*2^n/25:=by
  rw [dP,cK (by decide)];have l:=dT (v.natAbs*v.natAbs) (2^n);have m:5*v.natAbs*(5*v.natAbs)<=2*2^n*(2*2^n):=bH h h;refine bS (c:=2^n) ?_ d;grind
 omega
def ajj (h:u.natAbs<=2^n-1:=by omega) (j:5<=n:=by omega):(u*u/2^n).natAbs<=1*2^n:=by
 have f:0<2^n:=aO (n:=n) (show 0<2 by decide);have d:=SB (u*u) n;have e:(u*u).natAbs/2^n<=2^n-1:=by
  rw [dP];refine aK (eh (bH h (show u.natAbs<=2^n by omega))) ?_;simp_all
 omega
def atN {n:Int} (I:5<=n/\n<=30000) (h:u.natAbs<=2^n.toNat-1) (j:5*v.natAbs<=2*2^n.toNat): ∃x y,Zb 300000 x/\Zb 300000 y/\bJ prog bw 335 [cD u v,bj (.int .i64 n)] (cD x y):=by
 obtain ⟨b,e⟩: ∃b:Nat,b=n.toNat:=⟨_,rfl⟩;obtain ⟨K,G⟩:=pT (2*b+30);have H:0<2^b:=aO (by decide);rw [<-e] at h j;have f:Bz b u:=by unfold Bz;omega
 have d:Bz b v:=by unfold Bz;omega
 obtain ⟨q,r,eq,l,B,C,m⟩:=atL (n:=n) f d;have k:4*r.natAbs<=2^n.toNat:=by rw [l];exact aji (by rw [<-e];exact j)
 have F:q.natAbs<=1*2^n.toNat:=by rw [eq];exact ajj (by rw [<-e];exact h)
 obtain ⟨o,A,t⟩:=II (nt:=yP.ntmps) (c:=ka I5 yP) (out:= .exit 0) (I6 u v q r n) (fun z=>K-z.i) (fun x=>Og b K x/\3<=x.i) (I6 u v q r n) (fun _=>EM) (atK (b:=b) B C (by omega) (by omega) (by omega) F k) ⟨u,v,u,v,3,true⟩
  ⟨⟨b,d,by show u.natAbs<=2^b+3;omega,by show 3+2*b<=K;omega,f.mono (by omega),d.mono (by omega)⟩,aq _⟩
 obtain ⟨x,y,D,E,p⟩:=atM (u:=u) (v:=v) (q:=q) (r:=r) (n:=n) o A;exact ⟨x,y,D,E,R0 func335 (by kernel_rfl) (by rw [show f335.ntmps=_ from ntmps335];simp) m t p⟩
end
section
open Go.Proofs.Tryz Go.RowKit Go.Ev
variable {s a b p n u v q r:Int} {i j g:Nat}
def ajk {a P w:Nat} (e:2*P<=w) (d:0<P):a*P/w<=a/2:=by
 rw [cK (by decide)];have f:=dT (a*P) w;refine bS (c:=P) ?_ d;have h:a*P/w*(2*P)<=a*P/w*w:=aR _ e;grind
def ajl (a:Int):0<=a*a:=by
 rcases lW 0 a with h|h
 ·exact iW h h
 ·exact Int.mul_nonneg_of_nonpos_of_nonpos h h
def atO {z:Int} {n:Nat} (h:0<=z):0<= -(-z/2^n):=by
 have d:(0:Int)<2^n:=eC (by decide);have: -z/2^n<=0:=by
  refine jS (gU d ?_);omega
 omega
def I9 (k:Bz i a) (l:Bz j b) (h:Bz (63+g) p) (ep:p=2^n.toNat) (hn:0<=n/\n<=(g:Int):=by omega) (hg:g<=100000:=by omega) (hi:i<=100000:=by omega) (hj:j<=100000:=by omega): ∃m o u1 u2 t x y z d M,
 bJ prog bw 348 [cD a b,cD a b,bj (.int .i64 n)] (cD m o)/\bJ prog bw 327 [cD p p,cD m o] (cD u1 u2)/\bJ prog bw 352 [cD u1 u2,bj (.int .i64 n)] (cD t x)/\bJ prog bw 327 [cD p p,cD t x] (cD y z)/\bJ prog bw 336 [cD a b,cD y z,bj (.int .i64 n)] (cD d M)/\d.natAbs<=a.natAbs/2+1/\M.natAbs<=b.natAbs/2+1:=by
 obtain ⟨d,A,Z,h4,F,X⟩:=EA (n:=n) k l k l;obtain ⟨N,O,h9,Y,H,pO⟩:=Ez h h Z h4;obtain ⟨D,E,P,wE,I,J,lQ⟩:=asL (g:=g) (n:=n) h9 Y;obtain ⟨e,f,Q,R,B,T⟩:=Ez h h P wE;have G:0<2^n.toNat:=aO (n:=n.toNat) (show 0<2 by decide);have pN:p.natAbs=2^n.toNat:=by simp_all
 have pp:p=((2^n.toNat:Nat):Int):=by simp_all
 have m:0<=d:=by rw [F.1];exact jC (ajl a) (cX (eC (by decide)))
 have o:0<=A:=by rw [F.2];exact atO (ajl b)
 have u1:N=p+d:=H.1;have u2:O=p+A:=H.2;have t:=I.2 (2^n.toNat) (aN _ (by omega));have x:=J.2 (2^n.toNat) (aN _ (by omega));have v3:=I.1;have v4:=J.1;have y:e=p+D:=B.1;have z:f=p+E:=B.2;obtain ⟨U,W,yF,Ak,C,S⟩:=abZ (g:=g) (n:=n) k l Q R;exact ⟨d,A,N,O,D,E,e,f,U,W,X,pO,lQ,T,S,aK C.1 (dH (ajk (by omega) G)),aK C.2 (dH (ajk (by omega) G))⟩
def Jb:List Ev.Way:= [.r,.r,.r,.r,.r,.r,.r,.l,.r,.k]
def yQ:Func:=f342
def ajm:mJ Jb (nD yQ)=some (.loop (ka Jb yQ)):=by kernel_rfl
def Jc (u v p q r s n:Int) (x:lS):Fr:=⟨[⟨2,285,4,cD u v⟩,⟨4,285,4,ZS⟩,⟨6,285,4,cD p p⟩,⟨7,285,4,cD q r⟩,⟨8,285,4,cD x.a x.b⟩,⟨9,285,4,cD x.c x.d⟩],[(1,bj (.int .i64 s)),(5,bj (.int .i64 n)),(10,bj (.int .u32 ((x.i:Nat):Int)))]⟩
def atP {b K kq kr:Nat} (hq:Bz kq q) (hr:Bz kr r) (Xw:kq<=1000000) (Xx:kr<=1000000) (hn:0<=n/\n<=1048576) (vH:q.natAbs<=1*2^n.toNat) (I7:4*r.natAbs<=2^n.toNat) (N:b+20<=K:=by omega) (hK2:K<=90000:=by omega): ∀x,(Og b K x/\3<=x.i)->
 (∃y,(Og b K y/\3<=y.i)/\(fun z:lS=>K-z.i) y<(fun z:lS=>K-z.i) x/\(∀o:lS,EM o->EM o)/\qp yQ.ntmps (ka Jb yQ) (Jc u v p q r s n x) .normal (Jc u v p q r s n y))\/
 (∃o:lS,EM o/\Out.exit 2≠ .normal/\qp yQ.ntmps (ka Jb yQ) (Jc u v p q r s n x) (.exit 2) (Jc u v p q r s n o)):=by
 rintro ⟨a,t,c,d,i,m⟩ ⟨⟨g,F,ha,R,hc,C⟩,hi⟩;simp only at F ha R hc C hi;have om:Bz K a:=SF ha N;have jU:Bz g t:=F;have c1:=RS (a:=a) jU;by_cases h8:t.natAbs<8
 ·rw [decide_eq_true h8] at c1
  refine .inr ⟨⟨a,t,c,d,i,m⟩,⟨⟨g,by omega,F⟩,⟨_,by omega,hc⟩,⟨_,by omega,C⟩⟩,by simp,?_⟩;exact tr [.z a,.z t,.z u,.z v,.z p,.z q,.z r,.z c,.z d,.i s,.i n,.u i] [] 0 [] [⟨349,[ah 0 1],.b true⟩] ⟨[⟨2,285,4,ah 2 3⟩,⟨4,285,4,.lit zS⟩,⟨6,285,4,ah 4 4⟩,⟨7,285,4,ah 5 6⟩,⟨8,285,4,ah 0 1⟩,⟨9,285,4,ah 7 8⟩],[(1,aA 9),(5,aA 10),(10,.i (.u 11))]⟩ ⟨[⟨2,285,4,ah 2 3⟩,⟨4,285,4,.lit zS⟩,⟨6,285,4,ah 4 4⟩,⟨7,285,4,ah 5 6⟩,⟨8,285,4,ah 0 1⟩,⟨9,285,4,ah 7 8⟩],[(1,aA 9),(5,aA 10),(10,.i (.u 11))]⟩ (fun d=>by kernel_rfl) .nil (.k c1 .nil)
 ·rw [decide_eq_false h8] at c1
  obtain ⟨l,f,Q,h5,G,c7⟩:=EA (n:=n) om jU hq hr;obtain ⟨I,D,eT,j9,H,sL⟩:=RU (d:=i) Q h5;have w8:((i:Nat):Int).tmod 4=((i % 4:Nat):Int):=by rfl
  by_cases nU:(((i % 4):Nat):Int)=3
  ·have J:=decide_eq_true nU
   obtain ⟨A,B,rQ,wF,E,M⟩:=Iz hc C eT j9;have w2:IntKind.u32.wrap (((i:Nat):Int)+2)=(((i+2):Nat):Int):=by rw [di _ (by omega)];omega
   have O:f.natAbs<=t.natAbs/4+1:=by rw [G.2];exact acz I7
   have e2:l.natAbs<=a.natAbs*1+1:=by rw [G.1];exact Oe vH
   obtain ⟨e,S,T,k3⟩:=acA F (by omega) R O;have U:l.natAbs<2^K:=SF (i:=i+1) (by omega) N;have W:Bz (K+i) I:=by rw [H.1];exact bh (bT _ _) (az U (aG (by decide) (by omega)))
   have X:Bz (K+i) D:=by
    have h1:=H.2.2.1;have h2:f.natAbs/i<=f.natAbs:=bT _ _;have P:2^(e+1)<=2^(K+i):=aG (by decide) (by omega);have Q:2^(e+1)=2*2^e:=by omega
    exact az (show D.natAbs<2^(e+1) by omega) P
   have Y:Bz (K+(i+2)) A:=by rw [E.1];exact (hc.sub X).mono (by omega)
   have Z:Bz (K+(i+2)) B:=by rw [E.2];exact (C.sub W).mono (by omega)
   refine .inl ⟨⟨l,f,A,B,i+2,m⟩,⟨⟨e,S,by grind,T,Y,Z⟩,by grind⟩,by grind,fun o h=>h,?_⟩;exact tr [.z a,.z t,.z q,.z r,.i n,.z l,.z f,.u i,.z I,.z D,.u (i % 4),.z c,.z d,.z A,.z B,.u (i+2),.z u,.z v,.z p,.i s] [] 0 [.ar .rem (.u 7) (.k .u32 4) (.u 10),.cm .eql (.u 10) (.k .u32 3) true,.ar .add (.u 7) (.k .u32 2) (.u 15)] [⟨349,[ah 0 1],.b false⟩,⟨348,[ah 0 1,ah 2 3,aA 4],ah 5 6⟩,⟨350,[ah 5 6,.i (.u 7)],ah 8 9⟩,⟨290,[ah 11 12,ah 8 9],ah 13 14⟩] ⟨[⟨2,285,4,ah 16 17⟩,⟨4,285,4,.lit zS⟩,⟨6,285,4,ah 18 18⟩,⟨7,285,4,ah 2 3⟩,⟨8,285,4,ah 0 1⟩,⟨9,285,4,ah 11 12⟩],[(1,aA 19),(5,aA 4),(10,.i (.u 7))]⟩ ⟨[⟨2,285,4,ah 16 17⟩,⟨4,285,4,.lit zS⟩,⟨6,285,4,ah 18 18⟩,⟨7,285,4,ah 2 3⟩,⟨8,285,4,ah 5 6⟩,⟨9,285,4,ah 13 14⟩],[(1,aA 19),(5,aA 4),(10,.i (.u 15))]⟩ (fun d=>by kernel_rfl) (.k ⟨(by decide:(4:Int)≠0),w8⟩ (.k J (.k w2 .nil))) (.k c1 (.k c7 (.k sL (.k M .nil))))
  ·have J:=decide_eq_false nU
   obtain ⟨A,B,rQ,wF,E,M⟩:=Ez hc C eT j9;have w2:IntKind.u32.wrap (((i:Nat):Int)+2)=(((i+2):Nat):Int):=by rw [di _ (by omega)];omega
   have O:f.natAbs<=t.natAbs/4+1:=by rw [G.2];exact acz I7
   have e2:l.natAbs<=a.natAbs*1+1:=by rw [G.1];exact Oe vH
   obtain ⟨e,S,T,k3⟩:=acA F (by omega) R O;have U:l.natAbs<2^K:=SF (i:=i+1) (by omega) N;have W:Bz (K+i) I:=by rw [H.1];exact bh (bT _ _) (az U (aG (by decide) (by omega)))
   have X:Bz (K+i) D:=by
    have h1:=H.2.2.1;have h2:f.natAbs/i<=f.natAbs:=bT _ _;have P:2^(e+1)<=2^(K+i):=aG (by decide) (by omega);have Q:2^(e+1)=2*2^e:=by omega
    exact az (show D.natAbs<2^(e+1) by omega) P
   have Y:Bz (K+(i+2)) A:=by rw [E.1];exact (hc.add W).mono (by omega)
   have Z:Bz (K+(i+2)) B:=by rw [E.2];exact (C.add X).mono (by omega)
   refine .inl ⟨⟨l,f,A,B,i+2,m⟩,⟨⟨e,S,by grind,T,Y,Z⟩,by grind⟩,by grind,fun o h=>h,?_⟩;exact tr [.z a,.z t,.z q,.z r,.i n,.z l,.z f,.u i,.z I,.z D,.u (i % 4),.z c,.z d,.z A,.z B,.u (i+2),.z u,.z v,.z p,.i s] [] 0 [.ar .rem (.u 7) (.k .u32 4) (.u 10),.cm .eql (.u 10) (.k .u32 3) false,.ar .add (.u 7) (.k .u32 2) (.u 15)] [⟨349,[ah 0 1],.b false⟩,⟨348,[ah 0 1,ah 2 3,aA 4],ah 5 6⟩,⟨350,[ah 5 6,.i (.u 7)],ah 8 9⟩,⟨327,[ah 11 12,ah 8 9],ah 13 14⟩] ⟨[⟨2,285,4,ah 16 17⟩,⟨4,285,4,.lit zS⟩,⟨6,285,4,ah 18 18⟩,⟨7,285,4,ah 2 3⟩,⟨8,285,4,ah 0 1⟩,⟨9,285,4,ah 11 12⟩],[(1,aA 19),(5,aA 4),(10,.i (.u 7))]⟩ ⟨[⟨2,285,4,ah 16 17⟩,⟨4,285,4,.lit zS⟩,⟨6,285,4,ah 18 18⟩,⟨7,285,4,ah 2 3⟩,⟨8,285,4,ah 5 6⟩,⟨9,285,4,ah 13 14⟩],[(1,aA 19),(5,aA 4),(10,.i (.u 15))]⟩ (fun d=>by kernel_rfl) (.k ⟨(by decide:(4:Int)≠0),w8⟩ (.k J (.k w2 .nil))) (.k c1 (.k c7 (.k sL (.k M .nil))))
def atQ (ha:Bz i a) (hb:Bz j b) (hi:i<=100000) (hj:j<=100000) (hs:0<=s/\s<=30000) (Np:g=(s+8+16).toNat) (hA:a.natAbs<=2*2^s.toNat) (hB0:b.natAbs<=2*2^s.toNat): ∃u v p q r,u.natAbs<=2^(s+8+16).toNat/64+10/\v.natAbs<=2^(s+8+16).toNat/64+10/\q=u*u/2^(s+8+16).toNat/\r= -(-(v*v)/2^(s+8+16).toNat)/\Bz (g+2+(g+2)) q/\Bz (g+2+(g+2)) r/\Bz (g+2) u/\Bz (g+2) v/\Bz (63+g) p/\
 BB yQ.ntmps Jb (nD yQ) (.loop (ka Jb yQ)) ⟨[],Af [cD a b,bj (.int .i64 s)] 0⟩ (Jc u v p q r s (s+8+16) ⟨u,v,u,v,3,true⟩):=by
 have w1:=aC (s+8) (by omega);have w2:=aC ((s+8)+16) (by omega);have w3:=aC (((s+8)+16)-s) (by omega);obtain ⟨x4,y5,h6,h7,e8,c9⟩:=WV (n:=(((s+8)+16)-s)) (c:=24) ha hb;obtain ⟨Bs,h,o,sL⟩:=RT (n:=((s+8)+16)) (c:=g);have BI:(s+8+16-s).toNat=24:=by omega
 obtain ⟨P,hP⟩:=pT (2^(s+8+16).toNat);have Jd:P=16777216*2^s.toNat:=by rw [hP,show (s+8+16).toNat=s.toNat+24 by omega,bC,bE]
 have l0:x4.natAbs<=2*P+2:=by grind
 have r0:y5.natAbs<=2*P+2:=by grind
 have e: ∀z:Int,z.natAbs<=2*P+2->Bz (g+2) z:=fun z hz=>by
  have h1:2^(g+2)=4*P:=by grind
  have h0:0<2^s.toNat:=aO (n:=s.toNat) (show 0<2 by decide);unfold Bz;omega
 clear Jd hA hB0;obtain ⟨pr0,qr0,ur0,vr0,XA,xr0,yr0,zr0,t,E,Z,atT,atU,atV,atW,m,f⟩:=I9 (g:=g) (n:=s+8+16) (e x4 (by omega)) (e y5 (by omega)) h o;have l1:t.natAbs<=2*P/2+2:=by omega
 have r1:E.natAbs<=2*P/2+2:=by omega
 clear l0 r0 m f;obtain ⟨pr1,qr1,ur1,vr1,XB,xr1,yr1,zr1,x,F,atX,atY,atZ,Q,R,m,f⟩:=I9 (g:=g) (n:=s+8+16) (e t (by omega)) (e E (by omega)) h o;have l2:x.natAbs<=2*P/4+2:=by omega
 have r2:F.natAbs<=2*P/4+2:=by omega
 clear l1 r1 m f;obtain ⟨pr2,qr2,ur2,vr2,Je,xr2,yr2,zr2,y,G,S,T,U,W,X,m,f⟩:=I9 (g:=g) (n:=s+8+16) (e x (by omega)) (e F (by omega)) h o;have l3:y.natAbs<=2*P/8+2:=by omega
 have r3:G.natAbs<=2*P/8+2:=by omega
 clear l2 r2 m f;obtain ⟨pr3,qr3,ur3,vr3,wr3,xr3,yr3,zr3,A,H,Y,aua,aub,auc,aud,m,f⟩:=I9 (g:=g) (n:=s+8+16) (e y (by omega)) (e G (by omega)) h o;have l4:A.natAbs<=2*P/16+2:=by omega
 have r4:H.natAbs<=2*P/16+2:=by omega
 clear l3 r3 m f;obtain ⟨pr4,qr4,ur4,vr4,wr4,xr4,yr4,zr4,B,I,aue,auf,aug,auh,aui,m,f⟩:=I9 (g:=g) (n:=s+8+16) (e A (by omega)) (e H (by omega)) h o;have l5:B.natAbs<=2*P/32+2:=by omega
 have r5:I.natAbs<=2*P/32+2:=by omega
 clear l4 r4 m f;obtain ⟨pr5,qr5,ur5,vr5,wr5,xr5,yr5,zr5,C,J,auj,auk,aul,aum,aun,m,f⟩:=I9 (g:=g) (n:=s+8+16) (e B (by omega)) (e I (by omega)) h o;have l6:C.natAbs<=2*P/64+2:=by omega
 have r6:J.natAbs<=2*P/64+2:=by omega
 clear l5 r5 m f;obtain ⟨pr6,qr6,ur6,vr6,wr6,xr6,yr6,zr6,D,M,auo,aup,auq,aur,aus,m,f⟩:=I9 (g:=g) (n:=s+8+16) (e C (by omega)) (e J (by omega)) h o;have l7:D.natAbs<=2*P/128+2:=by omega
 have r7:M.natAbs<=2*P/128+2:=by omega
 clear l6 r6 m f;obtain ⟨pr7,qr7,ur7,vr7,wr7,xr7,yr7,zr7,N,O,aut,auu,auv,auw,auy,m,f⟩:=I9 (g:=g) (n:=s+8+16) (e D (by omega)) (e M (by omega)) h o;have l8:N.natAbs<=2*P/256+2:=by omega
 have r8:O.natAbs<=2*P/256+2:=by omega
 clear l7 r7 m f;have pC:=e N (by omega);have xV:=e O (by omega);obtain ⟨tV,tW,wE,rQ,qo,lQ⟩:=EA (n:=((s+8)+16)) pC xV pC xV;refine ⟨N,O,Bs,tV,tW,by omega,by omega,qo.1,qo.2,wE,rQ,pC,xV,h,?_⟩;exact La (.i s:: .i (s+8):: .i ((s+8)+16):: .i (((s+8)+16)-s):: .z a:: .z b:: .z x4:: .z y5:: .z Bs:: .z pr0:: .z qr0:: .z ur0:: .z vr0:: .z XA:: .z xr0:: .z yr0:: .z zr0:: .z t:: .z E:: .z pr1:: .z qr1:: .z ur1:: .z vr1:: .z XB:: .z xr1:: .z yr1:: .z zr1:: .z x:: .z F:: .z pr2:: .z qr2:: .z ur2:: .z vr2:: .z Je:: .z xr2:: .z yr2:: .z zr2:: .z y:: .z G:: .z pr3:: .z qr3:: .z ur3:: .z vr3:: .z wr3:: .z xr3:: .z yr3:: .z zr3:: .z A:: .z H:: .z pr4:: .z qr4:: .z ur4:: .z vr4:: .z wr4:: .z xr4:: .z yr4:: .z zr4:: .z B:: .z I:: .z pr5:: .z qr5:: .z ur5:: .z vr5:: .z wr5:: .z xr5:: .z yr5:: .z zr5:: .z C:: .z J:: .z pr6:: .z qr6:: .z ur6:: .z vr6:: .z wr6:: .z xr6:: .z yr6:: .z zr6:: .z D:: .z M:: .z pr7:: .z qr7:: .z ur7:: .z vr7:: .z wr7:: .z xr7:: .z yr7:: .z zr7:: .z N:: .z O:: .z tV:: .z tW:: []) [] 0 [.ar .add (.i 0) (.l 8) (.i 1),.ar .add (.i 1) (.l 16) (.i 2),.ar .sub (.i 2) (.i 0) (.i 3)] [⟨337,[ah 4 5,aA 3],ah 6 7⟩,⟨333,[aA 2],ah 8 8⟩,⟨348,[ah 6 7,ah 6 7,aA 2],ah 9 10⟩,⟨327,[ah 8 8,ah 9 10],ah 11 12⟩,⟨352,[ah 11 12,aA 2],ah 13 14⟩,⟨327,[ah 8 8,ah 13 14],ah 15 16⟩,⟨336,[ah 6 7,ah 15 16,aA 2],ah 17 18⟩,⟨348,[ah 17 18,ah 17 18,aA 2],ah 19 20⟩,⟨327,[ah 8 8,ah 19 20],ah 21 22⟩,⟨352,[ah 21 22,aA 2],ah 23 24⟩,⟨327,[ah 8 8,ah 23 24],ah 25 26⟩,⟨336,[ah 17 18,ah 25 26,aA 2],ah 27 28⟩,⟨348,[ah 27 28,ah 27 28,aA 2],ah 29 30⟩,⟨327,[ah 8 8,ah 29 30],ah 31 32⟩,⟨352,[ah 31 32,aA 2],ah 33 34⟩,⟨327,[ah 8 8,ah 33 34],ah 35 36⟩,⟨336,[ah 27 28,ah 35 36,aA 2],ah 37 38⟩,⟨348,[ah 37 38,ah 37 38,aA 2],ah 39 40⟩,⟨327,[ah 8 8,ah 39 40],ah 41 42⟩,⟨352,[ah 41 42,aA 2],ah 43 44⟩,⟨327,[ah 8 8,ah 43 44],ah 45 46⟩,⟨336,[ah 37 38,ah 45 46,aA 2],ah 47 48⟩,⟨348,[ah 47 48,ah 47 48,aA 2],ah 49 50⟩,⟨327,[ah 8 8,ah 49 50],ah 51 52⟩,⟨352,[ah 51 52,aA 2],ah 53 54⟩,⟨327,[ah 8 8,ah 53 54],ah 55 56⟩,⟨336,[ah 47 48,ah 55 56,aA 2],ah 57 58⟩,⟨348,[ah 57 58,ah 57 58,aA 2],ah 59 60⟩,⟨327,[ah 8 8,ah 59 60],ah 61 62⟩,⟨352,[ah 61 62,aA 2],ah 63 64⟩,⟨327,[ah 8 8,ah 63 64],ah 65 66⟩,⟨336,[ah 57 58,ah 65 66,aA 2],ah 67 68⟩,⟨348,[ah 67 68,ah 67 68,aA 2],ah 69 70⟩,⟨327,[ah 8 8,ah 69 70],ah 71 72⟩,⟨352,[ah 71 72,aA 2],ah 73 74⟩,⟨327,[ah 8 8,ah 73 74],ah 75 76⟩,⟨336,[ah 67 68,ah 75 76,aA 2],ah 77 78⟩,⟨348,[ah 77 78,ah 77 78,aA 2],ah 79 80⟩,⟨327,[ah 8 8,ah 79 80],ah 81 82⟩,⟨352,[ah 81 82,aA 2],ah 83 84⟩,⟨327,[ah 8 8,ah 83 84],ah 85 86⟩,⟨336,[ah 77 78,ah 85 86,aA 2],ah 87 88⟩,⟨348,[ah 87 88,ah 87 88,aA 2],ah 89 90⟩] ⟨[],[(0,ah 4 5),(1,aA 0)]⟩ ⟨[⟨2,285,4,ah 87 88⟩,⟨4,285,4,.lit zS⟩,⟨6,285,4,ah 8 8⟩,⟨7,285,4,ah 89 90⟩,⟨8,285,4,ah 87 88⟩,⟨9,285,4,ah 87 88⟩],[(1,aA 0),(5,aA 2),(10,.i (.k .u32 3))]⟩ ajm (fun d=>by kernel_rfl) (.k w1 (.k w2 (.k w3 .nil))) (.k c9 (.k sL (.k Z (.k atT (.k atU (.k atV (.k atW (.k atX (.k atY (.k atZ (.k Q (.k R (.k S (.k T (.k U (.k W (.k X (.k Y (.k aua (.k aub (.k auc (.k aud (.k aue (.k auf (.k aug (.k auh (.k aui (.k auj (.k auk (.k aul (.k aum (.k aun (.k auo (.k aup (.k auq (.k aur (.k aus (.k aut (.k auu (.k auv (.k auw (.k auy (.k lQ .nil)))))))))))))))))))))))))))))))))))))))))))
def auz (X:0<=s/\s<=n) (W:n<=100000) (o:lS) (h:EM o): ∃x y,Zb 300000 x/\Zb 300000 y/\xI yQ.ntmps Jb (.exit 2) (nD yQ) yQ (Jc u v p q r s n o) (cD x y):=by
 obtain ⟨a,t,c,d,i,m⟩:=o;obtain ⟨⟨Z,T,f⟩,⟨Y,H,hc⟩,⟨kd,I,e⟩⟩:=h;simp only at f hc e;obtain ⟨P,R,E,F,U,C⟩:=NP hc e f;obtain ⟨Q,S,G,D,pn,M⟩:=WV (n:=8) (c:=8) E F;have B:=aC (n-s) (by omega);obtain ⟨l,A,O,N,qo,J⟩:=uH (n:=(n-s)) G D;exact ⟨l,A,⟨_,by omega,O⟩,⟨_,by omega,N⟩,Gr [.z c,.z d,.z t,.z P,.z R,.z Q,.z S,.i n,.i s,.i (n-s),.z l,.z A,.z u,.z v,.z p,.z q,.z r,.z a,.u i] [] 0 [.ar .sub (.i 7) (.i 8) (.i 9)] [⟨292,[ah 0 1,aL 2],ah 3 4⟩,⟨337,[ah 3 4,gz 8],ah 5 6⟩,⟨326,[ah 5 6,aA 9],ah 10 11⟩] ⟨[⟨2,285,4,ah 12 13⟩,⟨4,285,4,.lit zS⟩,⟨6,285,4,ah 14 14⟩,⟨7,285,4,ah 15 16⟩,⟨8,285,4,ah 17 2⟩,⟨9,285,4,ah 0 1⟩],[(1,aA 8),(5,aA 7),(10,.i (.u 18))]⟩ (ah 10 11) ajm (fun d=>by kernel_rfl) (.k B .nil) (.k C (.k M (.k J .nil)))⟩
def acB (I:0<=s/\s<=30000) (m:a.natAbs<=2*2^s.toNat) (t:b.natAbs<=2*2^s.toNat): ∃x y,Zb 300000 x/\Zb 300000 y/\bJ prog bw 342 [cD a b,bj (.int .i64 s)] (cD x y):=by
 have e: ∀z:Int,z.natAbs<=2*2^s.toNat->Bz (s.toNat+2) z:=fun z e=>by
  have R:2^(s.toNat+2)=4*2^s.toNat:=by rw [bC,bE]
  have Q:0<2^s.toNat:=aO (n:=s.toNat) (show 0<2 by decide);unfold Bz;omega
 obtain ⟨g,A⟩: ∃g:Nat,g=(s+8+16).toNat:=⟨_,rfl⟩;obtain ⟨u,v,p,q,r,J,M,eq,k,G,H,h,f,U,l⟩:=atQ (e a m) (e b t) (by omega) (by omega) I A m t;obtain ⟨n,E⟩: ∃n:Int,n=s+8+16:=⟨_,rfl⟩;rw [<-E] at J M eq k l A;obtain ⟨K,S⟩:=pT (2*(g+2)+30);have T:2^24<=2^n.toNat:=aG (by decide) (by omega);have B:4*r.natAbs<=2^n.toNat:=by rw [k];exact aji
 have P:q.natAbs<=1*2^n.toNat:=by rw [eq];exact ajj
 have d:u.natAbs<=2^(g+2)+3:=aK (aQ h) (Nat.le_add_right _ _);obtain ⟨o,F,D⟩:=II (nt:=yQ.ntmps) (c:=ka Jb yQ) (out:= .exit 2) (Jc u v p q r s n) (fun z=>K-z.i) (fun x=>Og (g+2) K x/\3<=x.i) (Jc u v p q r s n) (fun _=>EM) (atP (b:=g+2) G H (by omega) (by omega) (by omega) P B) ⟨u,v,u,v,3,true⟩
  ⟨⟨g+2,f,d,by show 3+2*(g+2)<=K;omega,h.mono (by omega),f.mono (by omega)⟩,aq _⟩
 obtain ⟨x,y,N,O,C⟩:=auz (u:=u) (v:=v) (p:=p) (q:=q) (r:=r) (s:=s) (n:=n) (by omega) (by omega) o F;exact ⟨x,y,N,O,R0 func342 (by kernel_rfl) (by rw [show f342.ntmps=_ from ntmps342];simp) l D C⟩
end
section
open Go.Proofs.Tryz Go.RowKit Go.Ev
section
variable {w:World}
def auB {v:Value} {l:List Nat} (h:g7 w v l) (q:cP l=l.length) (A:l.length<=2):Calls prog 358 #[v] w (Quiet (.tuple #[.int .u64 (val l:Nat),.bool true]) w):=by
 have g:=ae (xU h);rw [q] at g;have j:=ae h.2;obtain ⟨a,c,x,rfl,p,hc,B,b⟩:=h.form;have i:=ae b;have k:=ae p;unfold maxLen at B;clear h b p q
 match l,g,j,i,k,A with
 | [],g,j,i,k,_=>
  go_enter func358,ntmps358;go_wp2_with fail;refine g.out.mono ?_;rintro e y ⟨rfl,rfl⟩;go_wp2_with fail;go_ret2;exact ⟨rfl,aH _ _⟩
 | [d],g,j,i,k,_=>
  obtain rfl:=k.out (by simp);have m:=i.out 0 (by simp);rw [Zm] at m;have bd:d<4294967296:=mH j.out 0;have o:([d]:List Nat).getD 0 0=d:=rfl;rw [o] at m;clear o;go_enter func358,ntmps358;go_wp2_with fail;refine g.out.mono ?_;rintro e y ⟨rfl,rfl⟩;go_wp2_with fail;go_ret2;exact ⟨rfl,aH _ _⟩
 | [d,f],g,j,i,k,_=>
  obtain rfl:=k.out (by simp);have m:=i.out 0 (by simp);have s:=i.out 1 (by simp);rw [Zm] at m;have bd:d<4294967296:=mH j.out 0;have E:f<4294967296:=mH j.out 1;have o:([d,f]:List Nat).getD 0 0=d:=rfl;have u:([d,f]:List Nat).getD 1 0=f:=rfl;rw [o] at m;rw [u] at s;simp [Addr.add] at s;clear o u;obtain ⟨t,C⟩:=pQ (f*4294967296+d);have D:bits .or .u64 ((f:Int)*4294967296) (d:Int)=(t:Int):=by
   have:=bits_join .u64 64 (by decide) wraps_u64 32 ((f:Int)*4294967296) (d:Int) (by omega) (by omega) (by omega) (by omega) (by omega) (by omega);rw [this];omega
  have z:=ae (show val [d,f]=t by simp only [val];omega);clear C;go_enter func358,ntmps358;go_wp2_with fail;refine g.out.mono ?_;rintro e y ⟨rfl,rfl⟩;go_wp2_with fail;go_region;go_wp2_with fail;go_ret2;exact ⟨by rw [z.out];rfl,(aH w.heap.size w).drew⟩
end
def auC {k n:Nat} (a:Bn k n) (f:k<=62):bJ prog bw 358 [fw n] (o9 (bj (.int .u64 (n:Int))) (bj (.bool true))):=
 Ei fun w x h _=>by
  obtain ⟨l,b,d,e,m⟩:=abl h (a.sm (by omega));have q:n<18446744073709551616:=az a (aK (aG (by decide) f) (by decide));have g:l.length<=2:=by
   refine dG fun i=> ?_
   have o:=J0 (l:=l);have p:4294967296^2<=4294967296^(cP l-1):=aG (by decide) (by omega);omega
  have:=auB b d g;rw [e] at this;exact this.mono fun j s h=>⟨_,h.1,fun t _=>⟨_,_,rfl,rfl,rfl⟩,h.2⟩
def auD {k:Nat} {z:Int} (f:Bz k z) (e:k<=62:=by decide):bJ prog bw 355 [dN z] (o9 (bj (.int .i64 z)) (bj (.bool true))):=by
 have b:=auC f.abs e;have h:z.natAbs<4611686018427387904:=az f (aK (aG (by decide) e) (by decide));by_cases d:z<0
 ·have c0:=decide_eq_true d
  have c1:decide (((z.natAbs:Nat):Int)<=9223372036854775808)=true:=decide_eq_true (by omega);have g:IntKind.u64.wrap (-((z.natAbs:Nat):Int))=18446744073709551616+z:=by
   show (-((z.natAbs:Nat):Int)) % 18446744073709551616=_;omega
  have a:IntKind.i64.wrap (18446744073709551616+z)=z:=by rw [IntKind.wrap_i64];omega
  exact jK [iS z,dE (dB .u64 ((z.natAbs:Nat):Int)),dE (dB .u64 (18446744073709551616+z)),dE (dB .i64 z)] mix (F:= [⟨.bin .leq,s0 1,.int .u64 9223372036854775808,.bool true⟩,⟨.neg,s0 1,s0 1,s0 2⟩,⟨.conv .i64,s0 2,s0 2,s0 3⟩]) (T:= [⟨358,[sA 0],.fh [s0 1,.bool true]⟩]) (pats:= [mW true 0]) (res:= .fh [s0 3,.bool true]) (by kernel_rfl)
   (eS (Eh (dm rfl) (fun _=>rfl) c1) (eS (VK rfl (dm rfl) (dm rfl) g) (eS (VL rfl (dm rfl) (dm rfl) a) jI))) (cZ (db b (bL (eA rfl) cY) (QY (iB rfl) oO)) rfl jJ) rfl (fD (nT c0 rfl) jB) (Ee (tc rfl) jH)
 ·have c0:=decide_eq_false d
  have c1:decide (((z.natAbs:Nat):Int)<9223372036854775808)=true:=decide_eq_true (by omega);have a:IntKind.i64.wrap ((z.natAbs:Nat):Int)=z:=by rw [IntKind.wrap_i64];omega
  exact jK [iS z,dE (dB .u64 ((z.natAbs:Nat):Int)),dE (dB .i64 z)] mix (F:= [⟨.bin .lss,s0 1,.int .u64 9223372036854775808,.bool true⟩,⟨.conv .i64,s0 1,s0 1,s0 2⟩]) (T:= [⟨358,[sA 0],.fh [s0 1,.bool true]⟩]) (pats:= [mW false 0]) (res:= .fh [s0 2,.bool true]) (by kernel_rfl)
   (eS (Bd (dm rfl) (fun _=>rfl) c1) (eS (VL rfl (dm rfl) (dm rfl) a) jI)) (cZ (db b (bL (eA rfl) cY) (QY (iB rfl) oO)) rfl jJ) rfl (fD (nT c0 rfl) jB) (Ee (tc rfl) jH)
end
section
open Go.RowKit Go.Ev
variable {s x y a:Int} {Q:Nat}
def XE {s:Nat} (h:16<=s:=by omega):3000*(s+2)<=2^s:=by
 obtain ⟨k,rfl⟩: ∃k,s=16+k:=⟨s-16,by omega⟩;clear h
 induction k with
 |zero=>decide
 |succ k b=>grind
def auE {s:Nat} (h:32<=s:=by omega):1000000*(s+2)<=2^s:=by
 obtain ⟨k,rfl⟩: ∃k,s=32+k:=⟨s-32,by omega⟩;clear h
 induction k with
 |zero=>decide
 |succ k b=>grind
def XF (hs:16<=s/\s<=90000:=by omega): ∃x y,Zb 300100 x/\Zb 300100 y/\(2*((2^s.toNat:Nat):Int)<=x/\x<=y/\y<=4*((2^s.toNat:Nat):Int)/\y-x<=120*(s+2))/\bJ Tryz.prog bw 237 [bj (.int .i64 s)] (cD x y):=by
 obtain ⟨W,X,⟨k5,h7,J⟩,⟨k6,h8,M⟩,I,U⟩:=SC (n:=5) (s:=s) (b:=true);obtain ⟨B,C,R,S,m,T⟩:=IA (n:=16) J M;obtain ⟨p,t,⟨N,Z,f⟩,⟨O,Y,l⟩,A,o⟩:=SC (n:=239) (s:=s) (b:=true);obtain ⟨G,H,j,q,D,u⟩:=IA (n:=4) f l;obtain ⟨g,h,E,F,e,d⟩:=Iz R S j q;have hb:=XE (s:=s.toNat);generalize 2^s.toNat=P at*;have f1:=I;have f2:=m;have f3:=A;have f4:=D;have f5:=e;refine ⟨g,h,⟨_,by omega,E⟩,⟨_,by omega,F⟩,⟨by omega,by omega,by omega,by omega⟩,?_⟩;exact fP [.i s,.z W,.z X,.z B,.z C,.z p,.z t,.z G,.z H,.z g,.z h] [] 0 [] [⟨288,[.i (.k .u32 5),aA 0,.b true],ah 1 2⟩,⟨289,[ah 1 2,gz 16],ah 3 4⟩,⟨288,[.i (.k .u32 239),aA 0,.b true],ah 5 6⟩,⟨289,[ah 5 6,gz 4],ah 7 8⟩,⟨290,[ah 3 4,ah 7 8],ah 9 10⟩] [aA 0] (ah 9 10) (by kernel_rfl) .nil (.k U (.k T (.k o (.k u (.k d .nil)))))
def acC (hs:32<=s/\s<=90000:=by omega): ∃x y,Zb 300100 x/\Zb 300100 y/\(690*((2^s.toNat:Nat):Int)<=1000*x/\x<=y/\1000*y<=695*((2^s.toNat:Nat):Int)/\y-x<=168*(s+2))/\bJ Tryz.prog bw 338 [bj (.int .i64 s)] (cD x y):=by
 obtain ⟨h,m,⟨k5,h7,h3⟩,⟨k6,h8,h4⟩,e9,wm⟩:=SC (n:=26) (s:=s) (b:=false);obtain ⟨N,O,lP,nU,W,sK⟩:=IA (n:=18) h3 h4;obtain ⟨d,e,⟨k21,IE,F⟩,⟨k22,BI,U⟩,K7,X⟩:=SC (n:=4801) (s:=s) (b:=false);obtain ⟨R,S,T,Y,Lz,Z⟩:=IA (n:=2) F U;obtain ⟨XI,XJ,NS,On,B,q⟩:=Iz lP nU T Y;obtain ⟨f,g,⟨k43,h45,G⟩,⟨k44,h46,H⟩,C,t⟩:=SC (n:=8749) (s:=s) (b:=false);obtain ⟨j,o,I,SJ,D,u⟩:=IA (n:=8) G H;obtain ⟨l,p,J,M,E,A⟩:=Ez NS On I SJ;have hb:=auE (s:=s.toNat);generalize 2^s.toNat=P at*;have e9a:(38340:Int)*(P:Nat)<=1000000*h/\1000000*m<=38580*((P:Nat):Int)/\h<=m/\m-h<=6*(s+2):=by grind
 have aFk:(200:Int)*(P:Nat)<=1000000*d/\1000000*e<=215*((P:Nat):Int)/\d<=e/\e-d<=6*(s+2):=by grind
 have aFl:(110:Int)*(P:Nat)<=1000000*f/\1000000*g<=118*((P:Nat):Int)/\f<=g/\g-f<=6*(s+2):=by omega
 have aFm:N=h*18/\O=m*18:=by simp_all
 have aFn:R=d*2/\S=e*2:=by simp_all
 have aFo:j=f*8/\o=g*8:=by simp_all
 clear e9 K7 C W Lz D;have f5:=B;have f8:=E;refine ⟨l,p,⟨_,by omega,J⟩,⟨_,by omega,M⟩,⟨by omega,by omega,by omega,by omega⟩,?_⟩;exact fP [.i s,.z h,.z m,.z N,.z O,.z d,.z e,.z R,.z S,.z XI,.z XJ,.z f,.z g,.z j,.z o,.z l,.z p] [] 0 [] [⟨288,[.i (.k .u32 26),aA 0,.b false],ah 1 2⟩,⟨289,[ah 1 2,gz 18],ah 3 4⟩,⟨288,[.i (.k .u32 4801),aA 0,.b false],ah 5 6⟩,⟨289,[ah 5 6,gz 2],ah 7 8⟩,⟨290,[ah 3 4,ah 7 8],ah 9 10⟩,⟨288,[.i (.k .u32 8749),aA 0,.b false],ah 11 12⟩,⟨289,[ah 11 12,gz 8],ah 13 14⟩,⟨327,[ah 9 10,ah 13 14],ah 15 16⟩] [aA 0] (ah 15 16) (by kernel_rfl) .nil (.k wm (.k sK (.k X (.k Z (.k q (.k t (.k u (.k A .nil))))))))
def auF (j:0<y:=by omega):ND x y*y<=x/\x<ND x y*y+y:=by
 have i:((y.natAbs:Nat):Int)=y:=by omega
 have g:=du x.natAbs y.natAbs;have h:=dj x.natAbs (show y.natAbs>0 by omega);have f:((x.natAbs/y.natAbs:Nat):Int)*y+((x.natAbs % y.natAbs:Nat):Int)=((x.natAbs:Nat):Int):=by
  grind
 have e:decide (y<0)=false:=decide_eq_false (by omega);unfold ND Gh;rw [e];generalize x.natAbs/y.natAbs=k at*;generalize x.natAbs % y.natAbs=m at*;by_cases b:x<0
 ·rw [decide_eq_true b]
  show jm true (if true=true/\m≠0 then k+1 else k)*y<=x/\x<jm true (if true=true/\m≠0 then k+1 else k)*y+y;by_cases d:m=0
  ·rw [if_neg (by simp [d])]
   show-(k:Int)*y<=x/\x< -(k:Int)*y+y;grind
  ·rw [if_pos ⟨rfl,d⟩]
   show-((k+1:Nat):Int)*y<=x/\x< -((k+1:Nat):Int)*y+y;grind
 ·rw [decide_eq_false b]
  show jm false (if false=true/\m≠0 then k+1 else k)*y<=x/\x<jm false (if false=true/\m≠0 then k+1 else k)*y+y;rw [if_neg (by simp)];show (k:Int)*y<=x/\x<(k:Int)*y+y;omega
def auG (e:0<y) (h:x.natAbs<=Q*y.natAbs):(ND x y).natAbs<=Q+1:=by
 unfold ND;rw [vX];have b:=(abY (decide (x<0) !=decide (y<0)) x.natAbs y.natAbs).1;have d:x.natAbs/y.natAbs<=Q:=nV (by grind);omega
def ajn {i j k l:Nat} {b c d:Int} (J:Bz i a) (M:Bz j b) (hc:Bz k c) (N:Bz l d) (hi:i<=1000000:=by omega) (hj:j<=1000000:=by omega) (hk:k<=1000000:=by omega) (hl:l<=1000000:=by omega) (h0:0<c+d:=by omega) (H:(2*(a+b)+(c+d)).natAbs<=Q*(2*(c+d)).natAbs:=by omega) (I:Q<=1000000000000000000:=by omega): ∃n:Int,n.natAbs<=Q+1/\(n*(2*(c+d))<=2*(a+b)+(c+d)/\2*(a+b)+(c+d)<n*(2*(c+d))+2*(c+d))/\bJ Tryz.prog bw 346 [cD a b,cD c d] (bj (.int .i64 n)):=by
 obtain ⟨W,G,e3,B⟩:=xD J M;obtain ⟨X,m,e7,C⟩:=xD hc N;obtain ⟨Y,D,pn,S⟩:=zW (s:=1) (c:=1) G (by omega:(1:Int)=((1:Nat):Int));obtain ⟨h,R,CW,T⟩:=xD D m;obtain ⟨p,U,EN,q⟩:=zW (s:=1) (c:=1) m (by omega:(1:Int)=((1:Nat):Int));have E:h=2*(a+b)+(c+d):=by omega
 have F:p=2*(c+d):=by omega
 obtain ⟨e,g,IE,Z,A,K4,u⟩:=Ns R U;have eq:e=ND (2*(a+b)+(c+d)) (2*(c+d)):=by rw [A,E,F];rfl
 have o:=auG (x:=2*(a+b)+(c+d)) (y:=2*(c+d)) (by omega) H;have O:=auF (x:=2*(a+b)+(c+d)) (y:=2*(c+d));rw [<-eq] at o O;have P:Bz 60 e:=by unfold Bz;omega
 have f:=auD P;refine ⟨e,o,⟨by omega,by omega⟩,?_⟩;exact fP [.z a,.z b,.z W,.z c,.z d,.z X,.z Y,.z h,.z p,.z e,.z g,.i e] [] 0 [] [⟨83,[aL 0,aL 1],aL 2⟩,⟨83,[aL 3,aL 4],aL 5⟩,⟨128,[aL 2,gz 1],aL 6⟩,⟨83,[aL 6,aL 5],aL 7⟩,⟨128,[aL 5,gz 1],aL 8⟩,⟨145,[aL 7,aL 8],.t3 (aL 9) (aL 10) (.b true)⟩,⟨355,[aL 9],.t (aA 11) (.b true)⟩] [ah 0 1,ah 3 4] (aA 11) (by kernel_rfl) .nil (.k B (.k C (.k S (.k T (.k q (.k u (.k f .nil)))))))
def ajo (hs:4<=s/\s<=19000) (m:a.natAbs<=2*2^s.toNat): ∃x y u v,Zb 300000 x/\Zb 300000 y/\Zb 300000 u/\Zb 300000 v/\bJ Tryz.prog bw 341 [dN a,bj (.int .i64 s)] (o9 (cD x y) (cD u v)):=by
 obtain ⟨b,hb⟩: ∃b:Nat,b=s.toNat+2:=⟨_,rfl⟩;have d:Bz b a:=by
  have e:2^b=4*2^s.toNat:=by grind
  have Y:0<2^s.toNat:=aO (n:=s.toNat) (show 0<2 by decide);unfold Bz;omega
 have c1:=NM (x:=a);obtain ⟨A,D,j,l,h,M⟩:=EA (n:=s) d d d d;have Z:0<2^s.toNat:=aO (n:=s.toNat) (show 0<2 by decide);have o:A.natAbs<=16*2^s.toNat:=by rw [h.1];have:=Oe (a:=a) (C:=2) m;omega
 have p:D.natAbs<=16*2^s.toNat:=by rw [h.2];have:=acs (a:=a) (C:=2) m;omega
 obtain ⟨B,E,⟨X,U,R⟩,⟨N,lP,F⟩,S⟩:=aje (b:=b) (i:=1) (n:=s) d d (by omega) (by omega) (by decide) (by omega) o p ⟨_,by omega,j⟩ ⟨_,by omega,l⟩;obtain ⟨q,wF,I,G⟩:=RT (n:=s) (c:=s.toNat);have e:Bz b q:=by rw [I];unfold Bz;grind
 obtain ⟨f,g,⟨O,xH,H⟩,⟨P,W,T⟩,J⟩:=aje (b:=b) (i:=0) (n:=s) e e (by omega) (by omega) (by decide) (by omega) o p ⟨_,by omega,j⟩ ⟨_,by omega,l⟩;refine ⟨B,E,f,g,⟨_,by omega,R⟩,⟨_,by omega,F⟩,⟨_,by omega,H⟩,⟨_,by omega,T⟩,?_⟩;exact fP [.z a,.i s,.z A,.z D,.z B,.z E,.z q,.z f,.z g] [] 0 [] [⟨291,[aL 0],ah 0 0⟩,⟨348,[ah 0 0,ah 0 0,aA 1],ah 2 3⟩,⟨351,[ah 0 0,ah 2 3,.i (.k .u32 1),aA 1],ah 4 5⟩,⟨333,[aA 1],ah 6 6⟩,⟨351,[ah 6 6,ah 2 3,.i (.k .u32 0),aA 1],ah 7 8⟩] [aL 0,aA 1] (.t (ah 4 5) (ah 7 8)) (by kernel_rfl) .nil (.k c1 (.k M (.k S (.k G (.k J .nil)))))
end
end Go.Proofs.YtnmpjdgobafdkaaGreatDoor
