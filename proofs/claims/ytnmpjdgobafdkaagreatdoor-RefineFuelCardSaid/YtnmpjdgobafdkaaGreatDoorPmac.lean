/- refineFuel_proved. -/
import Derived.Test.YtnmpjdgobafdkaaGreatDoorPmab
import Derived.Lib.TrailingZeros
set_option maxRecDepth 100000
set_option maxHeartbeats 16000000
set_option linter.all false
noncomputable section
namespace Go.Proofs.YtnmpjdgobafdkaaGreatDoor
section
open Go.RowKit
def Ul (n j:Nat):el (List.replicate n 0) j=0:=by
 unfold el
 all_goals grind
def Um {f:Nat->Nat} (h: ∀j,f j=0): ∀n,bK f n=0
 |0=>rfl
 |n+1=>by rw [zg,Um h n,h n,jy]
def aeh {R S x:Nat} (a:0<R) (h:R*S=4294967296) (b:x<4294967296):(x*R) % 4294967296 % R=0/\x*R/4294967296<R:=by
 constructor
 ·rw [<-h,Nat.mod_mul_right_mod,Nat.mul_mod_left]
 ·rw [gP (by decide)]
  rw [bE];simp_all
def amH {R S x u:Nat} (e:0<R) (h:R*S=4294967296) (f:x<4294967296) (g:u<R):(x*R) % 4294967296+u<4294967296:=by
 have b:=(aeh e h f).1;obtain ⟨c,hc⟩:=Nat.dvd_of_mod_eq_zero b;have a:(x*R) % 4294967296<4294967296:=dj _ (by decide);rw [hc] at a⊢;rw [<-h] at a⊢;have d:c<S:=kE a
 calc R*c+u<R*c+R:=by omega
  _=R*(c+1):=by grind
  _<=R*S:=aR R d
def amI {R q k x u lo hi s t:Nat} (a:s+4294967296^(k+q)*u=4294967296^q*(R*t)) (b:lo+4294967296*hi=x*R):
 s+4294967296^(k+q)*(lo+u)+4294967296^(k+q+1)*hi=4294967296^q*(R*(t+4294967296^k*x)):=by
 grind
def amJ {l:List Nat} {n:Nat} :4294967296^(n/32)*(2^(n % 32)*bK (el l) (cP l))=val l*2^n:=by
 rw [<-wV,<-bF,<-PC,bE]
def amK {o:List Nat} {j d hi:Nat} (e:j+1<o.length):bK (el ((o.set j d).set (j+1) hi)) (j+1)=bK (el o) j+4294967296^j*d/\el ((o.set j d).set (j+1) hi) (j+1)=hi/\ ∀i,j+1<i->el ((o.set j d).set (j+1) hi) i=el o i:=by
 have a:j+1<(o.set j d).length:=by simp_all
 refine ⟨?_,by rw [ue hi a,if_pos rfl],fun i b=>by rw [ue hi a,if_neg (by omega),ue d (by omega),if_neg (by omega)]⟩;rw [<-wX];exact AG fun i b=>by rw [ue hi a,if_neg (by omega)]
def amL (x r:Nat):(x:Int)*2^r=((x*2^r:Nat):Int):=by
 simp_all
def aei {r:Nat} (a:r<32):2^r<=2147483648:=aG (by decide) (show r<=31 by omega)
section
variable {w:World}
def Zg {v:Value} {l:List Nat} (h:g7 w v l) (hn:l.length<=100000000) (n:Nat) (oC:n<=1048576):Calls Tryz.prog 144 #[v,.int .i64 (n:Int)] w (rj (val l*2^n) w):=by
 have HL:=ae h.2;have HP:=ae (Zd (w:=w) n oC);have HS:=ae (xU h);have hs:=uW l;obtain ⟨a,c,x,rfl,ha,hc,hm,f⟩:=h.form;have HC:=ae (fun R (G:Below w.heap.size w R) i (hi:i<l.length)=>(G.cell (ak w _ (f i hi))).trans (f i hi));have HA:=ae ha;unfold maxLen at hm;clear h f ha;obtain ⟨q,hq⟩:=pQ (n/32);obtain ⟨r,hr⟩:=pQ (n % 32);have vH:(n:Int).tdiv 32=(q:Int):=by rw [fV (by omega)];omega
 have jd:(n:Int).tmod 32=(r:Int):=by rw [eL (by omega)];omega
 have T:r<32:=by omega
 have Cb:(r:Int) % 18446744073709551616=(r:Int):=by omega
 have hqb:q<=32768:=by omega
 have HQ:=ae (af hq hr);obtain ⟨z,hz⟩:=pQ (cP l);have HZ:=ae hz;rw [hz] at HS hs;clear hq hr hz;have ff:(0:Int)<=(z:Int):=by omega
 have fH:(z:Int)<=(l.length:Int):=by omega
 go_enter Tryz.func144,Tryz.ntmps144;go_wp2_with fail;refine HP.out.mono ?_;rintro e R ⟨rfl,rfl⟩;go_wp2_with fail;refine HS.out.mono ?_;rintro e R ⟨rfl,rfl⟩;by_cases h0:z=0
 ·have C:=ae (show val l*2^n=0 by rw [wV,HZ.out,h0];simp [bK])
  subst h0;go_wp2_with fail;go_ret;exact ⟨_,rfl,by rw [C.out];exact JW _ _,aH _ _⟩
 ·have PE:((z:Int)==0)=false:=by simpa using h0
  have hzn: ¬(z:Int)=0:=by omega
  obtain rfl:=HA.out (by omega);obtain ⟨m,rq⟩:=pQ (z+q+1);have e0:(z:Int)+(q:Int)+1=(m:Int):=by omega
  have Uk:m<=200000000:=by omega
  have E:=ae rq;obtain ⟨i0,fq,PF,PG,PH⟩:=info_parts B9;clear rq;go_wp2_with (refine wpList_make_full w rfl (.tmp 29) (.tmp 29) 35 rfl w.heap.size 172 i0 _ 1 Tryz.underlying35 fq PF PG _ _ _ _ m rfl rfl rfl rfl (by rw [PH];omega) (by unfold maxLen;omega) (aq _) ?_;intro w1 ho H);have bW:Below w.heap.size w w1:=(aH _ _).grown H (aq _) (by intro k N;cases N);rw [Fa] at ho;have t:fW w1 w.heap.size (.slice (some ⟨w.heap.size,0,none⟩) m m) (List.replicate m 0):=⟨by rw [aZ];exact ho,Fb _⟩;have HO:=ae t;have dh:=ae bW;clear ho H bW t fq PF PG PH;go_wp2_with fail;obtain ⟨g,H⟩:=pQ w.heap.size;rw [H] at HO⊢;have U:=ae H;clear H
  go_loopg [33] z (fun gh iv wr=> ∃(k:Nat) (o:List Nat),gh+k=z/\iv= .int .i64 k/\o.length=m/\fW wr g (.slice (some ⟨g,0,none⟩) m m) o/\
   bK (el o) (k+q)+4294967296^(k+q)*el o (k+q)=4294967296^q*(2^r*bK (el l) k)/\el o (k+q)<2^r/\(∀j,k+q<j->el o j=0)/\Below w.heap.size w wr)
  case atStart=>exact ⟨0,_,rfl,rfl,aZ,HO.out,by rw [Um (Ul m),Ul];simp [bK],by rw [Ul];exact aO (by decide),fun j _=>Ul m j,dh.out⟩
  case round=>
   obtain ⟨k,o,N,rfl,I,t,D,hu,Zh,G⟩:=hrel;have HK:=ae N;have iT:=ae I;have C:=ae (af D (af hu Zh));have HB:=ae G;have JT:(k:Int)<=100000000:=by omega
   by_cases bB:k<z
   ·have F:=t.1
    rw [I] at F;have Y:=ae t;obtain ⟨j,hj⟩:=pQ (k+q);have ej:(k:Int)+(q:Int)=(j:Int):=by omega
    obtain ⟨B,DG⟩:=pQ (j+1);have ej1:(j:Int)+1=(B:Int):=by omega
    have kb:=F.frozenAt j;have aED:=F.frozenAt B;obtain ⟨u,S⟩:=pQ (el o j);have Fc:wr.cell? ⟨g,j,none⟩=some (.int .u32 (u:Int)):=by rw [<-S];exact qZ F (re (by have:=E.out;omega))
    obtain ⟨cu1,aEE⟩: ∃cu,wr.cell? ⟨g,B,none⟩=some cu:=⟨_,qZ F (re (by have:=E.out;omega))⟩;have q1:=HC.out _ G k (by omega);obtain ⟨J,P⟩:=pQ (l.getD k 0);rw [P] at q1;have bx:J<4294967296:=by rw [<-P];exact mH HL.out k
    have qz:=ae (show el l k=J from P);have Z:=ae S;have hjm:(j:Int)<(m:Int):=by have:=E.out;omega
    have aEF:(B:Int)<(m:Int):=by have:=E.out;omega
    have Mz:(0:Int)<=j:=by omega
    have amG:(0:Int)<=B:=by omega
    have My:(k:Int)<(z:Int):=by omega
    have jx:(0:Int)<=k:=by omega
    have p:=ae (af hj DG);have amF:(B:Int)<=200000000:=by omega
    have hne: ¬B=j:=by omega
    have aEG: ¬j=B:=by omega
    clear F P N I D G t hj DG S hu Zh;have b:=aeh (aO (n:=r) (by decide)) (PA T) bx;have nO:=amH (u:=u) (aO (n:=r) (by decide)) (PA T) bx (by rw [<-Z.out,<-p.out.1];exact C.out.2.1);have Zi:=aei T;obtain ⟨y,Q⟩:=pQ (J*2^r);rw [Q] at b nO;obtain ⟨lo,pC⟩:=pQ (y % 4294967296);obtain ⟨hi,xV⟩:=pQ (y/4294967296);rw [pC] at b nO;rw [xV] at b;have O:u<2^r:=by rw [<-Z.out,<-p.out.1];exact C.out.2.1
    have ewr:IntKind.u64.wrap ((J:Int)*2^r)=(y:Int):=by rw [amL,Q];exact wraps_u64 _ (by omega) (by omega)
    have elo:(y:Int) % 4294967296=(lo:Int):=by omega
    have ehi:(y:Int)/4294967296=(hi:Int):=by omega
    have aEH:(hi:Int) % 4294967296=(hi:Int):=by omega
    obtain ⟨d,hd⟩:=pQ (lo+u);have PD:bits .or .u32 (u:Int) (lo:Int)=(d:Int):=by
     rw [aee,bits_join .u32 32 (by decide) wraps_u32 r (lo:Int) (u:Int) (by omega) (by exact_mod_cast b.1) (by omega) (by omega) (by exact_mod_cast O) (by omega)];omega
    have HD:=ae (af (show d<4294967296 by omega) (show hi<4294967296 by omega));have HE:=ae (show lo+4294967296*hi=J*2^r by rw [Q];omega);have W:=ae b.2;have X:=ae hd;clear b nO Zi Q pC xV O hd;go_wp2_with fail
    go_roundg (z-(k+1))
    case measure=>have:=HK.out;omega
    case rel=>
     have MA:j+1<o.length:=by rw [iT.out];have:=E.out;have:=p.out;omega
     obtain ⟨r1,r2,r3⟩:=amK (o:=o) (d:=d) (hi:=hi) MA;have M:k+1+q=j+1:=by have:=p.out;omega
     rw [<-p.out.2];refine ⟨k+1,(o.set j d).set (j+1) hi,by have:=HK.out;omega,by go_num,by rw [bA,bA];exact iT.out,(Y.out.set HD.out.1).set HD.out.2,?_,by rw [M,r2];exact W.out,fun i m8=>by rw [r3 i (by omega)];exact C.out.2.2 i (by have:=p.out;omega),(HB.out.setCell (by rw [U.out];exact aq _) _).setCell (by rw [U.out];exact aq _) _⟩;rw [M,r1,r2,<-X.out];have D:=C.out.1;rw [p.out.1,Z.out] at D;have jF:=amI (k:=k) (q:=q) (lo:=lo) (hi:=hi) (x:=J) (u:=u) (s:=bK (el o) j) (by rw [p.out.1];exact D) HE.out;rw [p.out.1] at jF;rw [jF,zg,qz.out]
   ·obtain rfl:k=z:=by omega
    have A:val o=val l*2^n:=by
     rw [ld o,I,<-E.out,zg,D,<-HQ.out.1,<-HQ.out.2,<-HZ.out];exact amJ
    have nZ:=uW o;rw [I] at nZ;have PI:=ae (xU t.sl);have HT:=ae t.trim;have Fe:=ae A;obtain ⟨zz,G8⟩:=pQ (cP o);rw [G8] at PI HT nZ;have b1:(0:Int)<=zz:=by omega
    have b2:(zz:Int)<=(m:Int):=by omega
    clear A G8 t G D I N C iT HO dh bB hu Zh;go_wp2_with fail;refine PI.out.mono ?_;rintro e R ⟨rfl,rfl⟩;go_wp2_with fail;go_ret;exact ⟨_,rfl,Fe.out▸HT.out.base (by rw [U.out];exact aq _),HB.out⟩
end
end
section
open Go.RowKit
def wY (x y b:Nat):Nat:=if x<y+b then 1 else 0
def rZ (x y b:Nat):Nat:=(x+4294967296-y-b) % 4294967296
def Un {n:Nat} (h:n<4294967296):n.testBit 31=decide (2147483648<=n):=by
 grind
def AK {n:Nat} (h:n<4294967296):n<2^32:=h
def amM {x y b:Nat} (j:x<4294967296) (g:y<4294967296) (k:b<=1):
 (((4294967295^^^x)&&&y)|||((4294967295^^^(x^^^y))&&&rZ x y b))/2147483648=wY x y b:=by
 have e:rZ x y b<4294967296:=dj _ (by decide);obtain ⟨d,a⟩:=pQ (rZ x y b);rw [a] at e⊢;obtain ⟨o,f⟩:=pQ (((4294967295^^^x)&&&y)|||((4294967295^^^(x^^^y))&&&d));have h:o<4294967296:=by
  rw [<-f];exact Nat.or_lt_two_pow (n:=32) (iE _ (AK g)) (iE _ (AK e))
 have i:o.testBit 31=((!x.testBit 31&&y.testBit 31)||(!(x.testBit 31^^y.testBit 31)&&d.testBit 31)):=by
  rw [<-f,Nat.testBit_or,mc,mc,mf,mf,mf,show (4294967295:Nat).testBit 31=true by decide];simp_all
 rw [f];rw [Un h,Un j,Un g,Un e] at i;unfold wY;unfold rZ at a;grind
def Zj {a b:Nat} (e:a<4294967296) (f:b<4294967296):bits .xor .u32 (a:Int) (b:Int)=((a^^^b:Nat):Int):=by
 have d:a % 2^IntKind.u32.bits=a:=dY e;have g:b % 2^IntKind.u32.bits=b:=dY f;simp only [bits,BitVec.ofInt_natCast,kJ,BitVec.toNat_ofNat,d,g];have:=fN (n:=32) e f;rw [IntKind.wrap_u32];omega
def amN {x y b:Nat} (a:x<4294967296) (d:y<4294967296) (k:b<=1):
 bits .or .u32 (bits .and .u32 (bits .xor .u32 IntKind.u32.max (x:Int)) (y:Int)) (bits .and .u32 (bits .xor .u32 IntKind.u32.max (bits .xor .u32 (x:Int) (y:Int))) (rZ x y b:Int))/2147483648=(wY x y b:Int):=by
 have f:rZ x y b<4294967296:=dj _ (by decide);have e:x^^^y<4294967296:=fN (n:=32) a d;have i:4294967295^^^x<4294967296:=fN (n:=32) (by decide) a;have j:4294967295^^^(x^^^y)<4294967296:=fN (n:=32) (by decide) e;have g:(4294967295^^^x)&&&y<4294967296:=iE (n:=32) _ (AK d);have h:(4294967295^^^(x^^^y))&&&rZ x y b<4294967296:=iE (n:=32) _ (AK f);rw [show (IntKind.u32.max:Int)=((4294967295:Nat):Int) by rfl,Zj a d,Zj (by decide) a,Zj (by decide) e,
  (bits_nat .u32 32 (by decide) wraps_u32 _ _ (AK i) (AK d)).1,(bits_nat .u32 32 (by decide) wraps_u32 _ _ (AK j) (AK f)).1,(bits_nat .u32 32 (by decide) wraps_u32 _ _ (AK g) (AK h)).2,<-amM a d k]
 omega
section
variable {w:World}
def Uo (x y b:Nat) (d:x<4294967296) (e:y<4294967296) (a:b<=1):Calls Tryz.prog 177 #[.int .u32 (x:Int),.int .u32 (y:Int),.int .u32 (b:Int)] w (vF (.tuple #[.int .u32 (rZ x y b:Int),.int .u32 (wY x y b:Int)]) w):=by
 have g:((x:Int)-(y:Int)-(b:Int)) % 4294967296=(rZ x y b:Int):=by unfold rZ;omega
 have f:=amN d e a;go_enter Tryz.func177,Tryz.ntmps177;go_wp2_with fail;go_ret2;exact ze rfl
end
end
section
open Go.RowKit
def aej {x y b:Nat} (d:x<4294967296) (e:y<4294967296) (a:b<=1):rZ x y b+y+b=x+4294967296*wY x y b:=by
 unfold rZ wY;grind
def aek (x y b:Nat):wY x y b<=1:=by unfold wY;split<;>omega
def ael (x y b:Nat):rZ x y b<4294967296:=dj _ (by decide)
def aem {p s a t d y x b e:Nat} (h:s+t=a+p*b) (f:d+y+b=x+4294967296*e):s+p*d+(t+p*y)=a+p*x+p*4294967296*e:=by
 grind
def amO {l:List Nat} {k:Nat} (h:l.length<=k:=by omega):el l k=0:=by unfold el;rw [aD,bQ (by omega)];rfl
def amP {l m o:List Nat} {b:Nat} (g:j5 l) (k:j5 o) (i:val m<=val l) (s:o.length=cP l) (a:j5 m)
 (q:bK (el o) (cP l)+bK (el m) (cP l)=bK (el l) (cP l)+4294967296^cP l*b):val o=val l-val m:=by
 have p:cP m<=cP l:=dG fun h=>by have:=Mu g h;omega
 have d:bK (el m) (cP l)=val m:=by rw [wV m];exact JR p fun j f _=>Ug m j f
 have e:bK (el o) (cP l)=val o:=by rw [ld o,s]
 have t:bK (el o) (cP l)<4294967296^cP l:=qy (fun j=>xW k j) _;rw [<-wV,d] at q;rw [<-e];have:b=0:=by
  rcases cC b with h|h
  ·exact h
  ·have:4294967296^cP l<=4294967296^cP l*b:=gC _ h
   omega
 grind
def aen (a b:Nat) (w:World) (e:Ending) (w':World):Prop:=(a<b/\e= .returned (.tuple #[.slice none 0 0,.bool false])/\Below w.heap.size w w')\/(b<=a/\ ∃v,e= .returned (.tuple #[v,.bool true])/\mP w' w.heap.size v (a-b)/\Below w.heap.size w w')
section
variable {w:World}
def amQ {v u:Value} {l m:List Nat} (h:g7 w v l) (h':g7 w u m) (hn:l.length<=100000000) (pW:m.length<=100000000):Calls Tryz.prog 135 #[v,u] w (aen (val l) (val m) w):=by
 have D:=ae (af h h');have Up:=ae (Uh h h');have hs:=uW l;obtain ⟨a,c,x,rfl,ha,hc,hm,d⟩:=h.form;obtain ⟨a',c',x',rfl,F,vG,uX,tH⟩:=h'.form;have HC:=ae (fun j (f:Below w.heap.size w j) i (G:i<l.length)=>(f.cell (ak w _ (d i G))).trans (d i G));have DD:=ae (fun j (f:Below w.heap.size w j) i (G:i<m.length)=>(f.cell (ak w _ (tH i G))).trans (tH i G));have HA:=ae ha;have DE:=ae F;unfold maxLen at hm uX;clear h h' d ha tH F;go_enter Tryz.func135,Tryz.ntmps135;go_wp2_with fail;refine Up.out.mono ?_;rintro e q ⟨rfl,f⟩;have C:=ae f;clear f;by_cases J:val l<val m
 ·have uZ:=ae J
  rw [Mv J];clear J;go_wp2_with fail;go_ret2;exact .inl ⟨uZ.out,rfl,C.out⟩
 ·have vI:=ae (show val m<=val l by omega)
  obtain ⟨P,PJ,aEI⟩: ∃P:Int,tG (val l) (val m)=P/\0<=P:=⟨_,rfl,by unfold tG;rw [if_neg J];split<;>omega⟩;rw [PJ];have aEJ: ¬P<0:=by omega
  clear PJ J;obtain ⟨z,hz⟩:=pQ (cP l);have HZ:=ae hz;rw [hz] at hs;clear hz;have HS:=ae (xU (D.out.1.below C.out));have Fg:=ae (show Calls Tryz.prog 157 #[.slice a l.length c] q (vF (.int .i64 (z:Int)) q) by rw [<-HZ.out];exact HS.out);have ff:(0:Int)<=(z:Int):=by omega
  have fH:(z:Int)<=(l.length:Int):=by omega
  obtain ⟨i0,fq,PF,PG,PH⟩:=info_parts B9;go_wp2_with fail;refine Fg.out.mono ?_;rintro e j ⟨rfl,rfl⟩;go_wp2_with (refine wpList_make_full q rfl (.tmp 15) (.tmp 15) 35 rfl q.heap.size 172 i0 _ 1 Tryz.underlying35 fq PF PG _ _ _ _ z rfl rfl rfl rfl (by rw [PH];omega) (by unfold maxLen;omega) (aq _) ?_;intro w2 ho A);have bW:Below q.heap.size q w2:=(aH _ _).grown A (aq _) (by intro k H;cases H);rw [Fa] at ho;have p:fW w2 q.heap.size (.slice (some ⟨q.heap.size,0,none⟩) z z) (List.replicate z 0):=⟨by rw [aZ];exact ho,Fb _⟩;have HO:=ae p;have dh:=ae (C.out.trans (bW.mono C.out.size));clear ho A bW p fq PF PG PH;go_wp2_with fail;obtain ⟨g,A⟩:=pQ q.heap.size;have PK:w.heap.size<=g:=by rw [<-A];exact C.out.size
  rw [A] at HO⊢;have X:=ae PK;clear A PK
  go_loopg [7,19] z (fun gh bv iv wr=> ∃(k b:Nat) (o:List Nat),gh+k=z/\iv= .int .i64 k/\bv= .int .u32 b/\b<=1/\o.length=z/\fW wr g (.slice (some ⟨g,0,none⟩) z z) o/\
   bK (el o) k+bK (el m) k=bK (el l) k+4294967296^k*b/\Below w.heap.size w wr)
  case atStart=>exact ⟨0,0,_,rfl,rfl,rfl,by decide,aZ,HO.out,by simp [bK],dh.out⟩
  case round=>
   obtain ⟨k,b,o,H,rfl,rfl,U,B,p,S,f⟩:=hrel;have N:=ae H;have I:=ae B;have Z:=ae S;have T:=ae f;have JT:(k:Int)<=100000000:=by omega
   by_cases bB:k<z
   ·have R:=p.1
    rw [B] at R;have E:=ae p;have kb:=R.frozenAt k;obtain ⟨cu,Fc⟩: ∃cu,wr.cell? ⟨g,k,none⟩=some cu:=⟨_,qZ R (re)⟩;obtain rfl:=HA.out (by omega);have q1:=HC.out _ f k (by omega);obtain ⟨t,Q⟩:=pQ (l.getD k 0);rw [Q] at q1;have O:t<4294967296:=by rw [<-Q];exact mH D.out.1.2 k
    have qz:=ae (show el l k=t from Q);have My:(k:Int)<(z:Int):=by omega
    have aEK:(k:Int)<(l.length:Int):=by omega
    have jx:(0:Int)<=k:=by omega
    clear R Q H B S f p;by_cases hmk:k<m.length
    ·have amR:(k:Int)<(m.length:Int):=by omega
     obtain rfl:=DE.out (by omega);have q2:=DD.out _ T.out k hmk;obtain ⟨M,W⟩:=pQ (m.getD k 0);rw [W] at q2;have G6:M<4294967296:=by rw [<-W];exact mH D.out.2.2 k
     have uY:=ae (show el m k=M from W);have Y:=ae (fun j:World=>Uo (w:=j) t M b O G6 U);have y:=ae (af O (af G6 U));clear W;go_wp2_with fail;refine (Y.out _).mono ?_;rintro e j ⟨rfl,rfl⟩;go_wp2_with fail
     go_roundg (z-(k+1))
     case measure=>have:=N.out;omega
     case rel=>
      refine ⟨k+1,wY t M b,o.set k (rZ t M b),by have:=N.out;omega,by go_num,rfl,aek _ _ _,by rw [bA];exact I.out,E.out.set (ael _ _ _),?_,T.out.setCell X.out _⟩;rw [wX (by rw [I.out];omega),zg (el m),zg (el l),qz.out,uY.out,bI];exact aem Z.out (aej y.out.1 y.out.2.1 y.out.2.2)
    ·have amR: ¬(k:Int)<(m.length:Int):=by omega
     have uY:=ae (amO (l:=m) (k:=k));have Y:=ae (fun j:World=>Uo (w:=j) t 0 b O (by decide) U);have y:=ae (af O U);go_wp2_with fail;refine (Y.out _).mono ?_;rintro e j ⟨rfl,rfl⟩;go_wp2_with fail
     go_roundg (z-(k+1))
     case measure=>have:=N.out;omega
     case rel=>
      refine ⟨k+1,wY t 0 b,o.set k (rZ t 0 b),by have:=N.out;omega,by go_num,rfl,aek _ _ _,by rw [bA];exact I.out,E.out.set (ael _ _ _),?_,T.out.setCell X.out _⟩;rw [wX (by rw [I.out];omega),zg (el m),zg (el l),qz.out,uY.out,bI];exact aem Z.out (aej y.out.1 (by decide) y.out.2)
   ·obtain rfl:k=z:=by omega
    have s:val o=val l-val m:=amP D.out.1.2 p.2 vI.out (by rw [B,HZ.out]) D.out.2.2 (by rw [HZ.out];exact S);have nZ:=uW o;rw [B] at nZ;have PI:=ae (xU p.sl);have HT:=ae p.trim;have Fe:=ae s;obtain ⟨zz,G8⟩:=pQ (cP o);rw [G8] at PI HT nZ;have b1:(0:Int)<=zz:=by omega
    have b2:(zz:Int)<=(k:Int):=by omega
    clear s G8 p f S B H Z I HO dh bB;go_wp2_with fail;refine PI.out.mono ?_;rintro e j ⟨rfl,rfl⟩;go_wp2_with fail;go_ret2;exact .inr ⟨vI.out,_,rfl,Fe.out▸HT.out.base X.out,T.out⟩
end
end
section
open Go.RowKit
def amS {a b m k:Nat} (h:2^a*(2*m+1)=2^b*(2*k+1)):a=b:=by
 rcases gj a b with f|e|f
 ·obtain ⟨d,rfl⟩: ∃d,b=a+(d+1):=⟨b-a-1,by omega⟩
  rw [bC,bF] at h;have:=kG (aO (by decide)) h;grind
 ·exact e
 ·obtain ⟨d,rfl⟩: ∃d,a=b+(d+1):=⟨a-b-1,by omega⟩
  rw [bC,bF] at h;have:=kG (aO (by decide)) h;grind
open Classical in
def qA (n:Nat):Nat:=if h: ∃t m,n=2^t*(2*m+1) then Classical.choose h else 0
def Zk {n t m:Nat} (h:n=2^t*(2*m+1):=by decide):qA n=t:=by
 have a: ∃t m,n=2^t*(2*m+1):=⟨t,m,h⟩;unfold qA;rw [dif_pos a];obtain ⟨k,b⟩:=eY a;exact amS (b.symm.trans h)
def amT:qA 0=0:=by
 unfold qA
 all_goals grind
def amU: ∀n:Nat,n≠0-> ∃t m,n=2^t*(2*m+1):=fun n=>by
 induction n using Nat.strongRecOn with
 |_ n a=>
  intro b;rcases Nat.mod_two_eq_zero_or_one n with h|h
  ·obtain ⟨t,m,e⟩:=a (n/2) (by omega) (by omega)
   exact ⟨t+1,m,by rw [bI,bE (2^t) 2,bF,<-e];omega⟩
  ·exact ⟨0,n/2,by omega⟩
def amV {l:List Nat} {i c m:Nat} (hi:i<l.length) (o: ∀j,j<i->el l j=0) (k:el l i=2^c*(2*m+1)) (hc:c<32):qA (val l)=32*i+c:=by
 have a:val l=4294967296^i*val (l.drop i):=by
  have e:l.length=i+(l.length-i):=by omega
  rw [ld l,e,Uj,AG (g:=fun _=>0) (fun j h=>o j h),Um (fun _=>rfl),cV,ld (l.drop i),lj];congr 1;exact AG fun j _=>by unfold el;grind
 have b:val (l.drop i)=el l i+4294967296*val (l.drop (i+1)):=by
  rw [gp hi];show l[i]+_=_;unfold el;simp_all
 obtain ⟨d,f⟩: ∃d,32=c+(d+1):=⟨31-c,by omega⟩;have p:(4294967296:Nat)=2^c*(2^d*2):=by rw [<-bI,<-bC,<-f]
 refine Zk (m:=m+2^d*val (l.drop (i+1))) ?_;rw [a,b,k,bC,fJ,show (2:Nat)^32=4294967296 by decide,bF];grind
def bw (w:World):Prop:= ∀j,j<32->w.cell? ⟨0,j,none⟩=some (.int .u8 (Lib.deBruijn32tab.getD j 0:Nat))
def amW (a b:Nat) (d:a<4294967296) (e:b<4294967296:=by omega):bits .and .u32 (a:Int) (b:Int)=((a&&&b:Nat):Int):=(bits_nat .u32 32 (by decide) wraps_u32 a b (AK d) (AK e)).1
def amX (x a:Nat) (d:x<4294967296) (f:x≠0) (e:x&&&(4294967296-x)=a):
 bits BinOp.and IntKind.u32 (x:Int) (-(x:Int) % 4294967296)*125613361 % 4294967296/134217728=((a*125613361 % 4294967296/134217728:Nat):Int):=by
 have b: -(x:Int) % 4294967296=((4294967296-x:Nat):Int):=by omega
 rw [b,amW x _ d,e];omega
section
variable {w:World}
def amY (x:Nat) (j:x<4294967296) (h:x≠0) (u:bw w):Calls Tryz.prog 175 #[.int .u32 (x:Int)] w fun e y=>(∃c m:Nat,x=2^c*(2*m+1)/\c<32/\e= .returned (.int .i64 (c:Int)))/\w=y:=by
 obtain ⟨l,p⟩:=Lib.lowest_bit 32 x h j;have k:Lib.ctz 32 x<32:=p;obtain ⟨c,hc⟩:=pQ (Lib.ctz 32 x);have i: ∃m,x=2^c*(2*m+1):=by
  obtain ⟨m,t,_⟩:=Lib.ctzFrom_spec 32 x (gF h) j;refine ⟨m,?_⟩;rw [<-hc];unfold Lib.ctz;rw [if_neg h];exact t
 have s:=ae i;clear i;rw [hc] at l k;obtain ⟨o,a⟩:=Lib.deBruijn32_at c k;have g:=amX x _ j h l;obtain ⟨d,f⟩:=pQ (2^c*125613361 % 4294967296/134217728);rw [f] at o a g;have b:=u d o;rw [a] at b;have q:=ae k;have z:((x:Int)==0)=false:=by simpa using h
 have A:(0:Int)<=(d:Int):=by omega
 have B:(d:Int)<32:=by omega
 clear l p hc f a;go_enter Tryz.func175,Tryz.ntmps175;go_wp2_with (simp only [g]);go_ret;obtain ⟨m,i⟩:=s.out;exact ⟨⟨c,m,i,q.out,rfl⟩,rfl⟩
def amZ {v:Value} {l:List Nat} (h:g7 w v l) (R:l.length<=100000000) (y:bw w):Calls Tryz.prog 132 #[v] w (vF (.int .i64 (qA (val l):Nat)) w):=by
 have t:=ae (af h.2 y);obtain ⟨a,c,x,rfl,z,hc,J,b⟩:=h.form;have C:=ae b;have B:=ae z;unfold maxLen at J;clear h b z y;go_enter Tryz.func132,Tryz.ntmps132;go_wp2_with fail
 go_loop [7] (fun i=> ∃k:Nat,k<=l.length/\i= .int .i64 k/\ ∀j,j<k->el l j=0) (fun i=>l.length-(intOf i).toNat)
 case atStart=>exact ⟨0,by omega,rfl,fun j h=>by omega⟩
 case round=>
  obtain ⟨k,Q,rfl,A⟩:=hrel;have o:=ae A;clear A;by_cases p:k<l.length
  ·obtain rfl:=B.out (by omega)
   have M:=C.out k p;obtain ⟨d,f⟩:=pQ (l.getD k 0);rw [f] at M;have F:d<4294967296:=by rw [<-f];exact mH t.out.1 k
   have u:=ae (show el l k=d from f);have W:(k:Int)<(l.length:Int):=by omega
   have S:(0:Int)<=k:=by omega
   clear f;by_cases s:d=0
   ·subst s
    go_wp2_with fail
    go_round
    case rel=>exact ⟨k+1,by omega,by go_num,fun j q=>by
     by_cases e:j=k
     ·rw [e];exact u.out
     ·exact o.out j (by omega)⟩
    case measure=>simp [intOf];omega
   ·have N:((d:Int)==0)=false:=by simpa using s
    have D:=ae (amY (w:=w) d F s t.out.2);have E:=ae p;have O:(k:Int)<=100000000:=by omega
    go_wp2_with fail;refine D.out.mono ?_;rintro e U ⟨⟨G,T,q,H,rfl⟩,rfl⟩;have I:(G:Int)<32:=by omega
    have m:=ae (amV E.out o.out (by rw [u.out];exact q) H);clear q;go_wp2_with fail;go_ret;exact ze (by rw [m.out];congr 1)
  ·have m:=ae (show qA (val l)=0 by
    rw [ld l,AG (g:=fun _=>0) (fun j P=>o.out j (by omega)),Um (fun _=>rfl)];exact amT)
   obtain rfl:k=l.length:=by omega
   clear p;go_wp2_with fail;go_ret;exact ze (by rw [m.out];rfl)
end
end
end Go.Proofs.YtnmpjdgobafdkaaGreatDoor
