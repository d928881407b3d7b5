/- refineCopies_proved. -/
import Derived.Test.YthleenhngcdgkaaGreatDoorPmao
import Derived.Deep.RegionHeld3
set_option maxRecDepth 100000
set_option maxHeartbeats 16000000
set_option linter.all false
noncomputable section
namespace Go.Proofs.YthleenhngcdgkaaGreatDoor
section
open Go.RowKit
def SG (w wr:World) (g M m c0:Nat) (l:List Nat) (i c:Nat) (o:List Nat):Prop:=
 c<4294967296/\o.length=M/\gy wr g (.slice (some ⟨g,0,none⟩) M M) o/\bK (el o) i+4294967296^i*c=c0+m*bK (el l) i/\Below w.heap.size w wr
def SG.next {w wr w':World} {g M m c0:Nat} {l:List Nat} {i c x t d a:Nat} {o:List Nat} (h:SG w wr g M m c0 l i c o) (z:el l i=x) (hi:i<M) (f:a<4294967296) (y:t=c+x*m) (u:t=d+4294967296*a)
 (e:gy w' g (.slice (some ⟨g,0,none⟩) M M) (o.set i d)) (b:Below w.heap.size w w'):SG w w' g M m c0 l (i+1) a (o.set i d):=by
 obtain ⟨j,k,p,q,s⟩:=h;refine ⟨f,by simp_all,e,?_,b⟩;rw [xQ,bL];show _=c0+m*(bK (el l) i+4294967296^i*el l i);grind
section
variable {w:World}
def asu {v:Value} {l:List Nat} (h:jj w v l) (hn:l.length<=100000000) (m c0:Nat) (rH:m<4294967296) (I:c0<4294967296):Calls Tryz.prog 240 #[v,.int .u32 (m:Int),.int .u32 (c0:Int)] w (rE (val l*m+c0) w):=by
 have HL:=ae h.2;obtain ⟨a,c,x,rfl,ha,hc,hm,b⟩:=h.form;have Q:=ae (fun G (hb:Below w.heap.size w G) i (s:i<l.length)=>(hb.cell (aj w _ (b i s))).trans (b i s));have P:=ae ha;unfold maxLen at hm;clear h b ha;obtain ⟨n,F⟩:=pS l.length;have HN:=ae F;rw [F] at hn hc hm P Q;rw [F];obtain ⟨i0,X,Z,gd,Y⟩:=info_parts CO;obtain ⟨M,hM⟩:=pS (n+1);have eM:(n:Int)+1=(M:Int):=by omega
 have hMb:M<=100000001:=by omega
 have Oy:=ae hM;clear F hM;go_enter Tryz.func240,Tryz.ntmps240;go_wp2_with (refine wpList_make_full w rfl (.tmp 13) (.tmp 13) 35 rfl w.heap.size 193 i0 _ 1 Tryz.underlying35 X Z gd _ _ _ _ M rfl rfl (by first|rfl|omega) (by first|rfl|omega) (by rw [Y];omega) (by unfold maxLen;omega) (ak _) ?_;intro O J hg);have U:Below w.heap.size w O:=(aG _ _).grown hg (ak _) (by intro k hk;cases hk);rw [FO] at J;have hO:gy O w.heap.size (.slice (some ⟨w.heap.size,0,none⟩) M M) (List.replicate M 0):=⟨by rw [aV];exact J,FP _⟩;obtain ⟨g,B⟩:=pS w.heap.size;have Ah:=ae (show SG w O g M m c0 l 0 c0 (List.replicate M 0) from ⟨I,aV,B▸hO,by simp [bK],U⟩);have T:=ae B;rw [B];clear J hg U hO X Z gd Y B;go_wp2_with fail
 go_loopg [8,19] n (fun gh cv iv wr=> ∃(i j:Nat) (o:List Nat),gh+i=n/\iv= .int .i64 i/\cv= .int .u64 j/\SG w wr g M m c0 l i j o)
 case atStart=>exact ⟨0,c0,_,rfl,rfl,rfl,Ah.out⟩
 case round=>
  obtain ⟨i,j,o,s,rfl,rfl,f⟩:=hrel;have S:=ae s;have N:=ae f;have A:=f.2.2.1.1;rw [f.2.1] at A;have bc:j<4294967296:=f.1;have ahW:(i:Int)<=100000000:=by omega
  have aGn:(0:Int)<=i:=by omega
  have hiM:(i:Int)<(M:Int):=by omega
  have l9:=A.frozenAt i;obtain ⟨W,FW⟩: ∃W,wr.cell? ⟨g,i,none⟩=some W:=⟨_,rC A (rD (by rw [f.2.1];omega))⟩;by_cases bA:i<n
  ·obtain rfl:=P.out (by omega)
   have q1:=Q.out _ f.2.2.2.2 i bA;obtain ⟨u,C⟩:=pS (l.getD i 0);rw [C] at q1;have bx:u<4294967296:=by rw [<-C];exact nf HL.out i
   have qH:=ae (show el l i=u from C);have zX:(i:Int)<n:=by omega
   obtain ⟨z,D⟩:=pS (u*m);have QH:z<=18446744065119617025:=by rw [<-D];exact (show u*m<=4294967295*4294967295 from bJ (by omega) (by omega))
   obtain ⟨t,ht⟩:=pS (j+z);have ez:IntKind.u64.wrap ((u:Int)*(m:Int))=(z:Int):=by rw [WM,D];exact wraps_u64 _ (by omega) (by omega)
   have et:(j:Int)+(z:Int)=(t:Int):=by omega
   obtain ⟨d,hd⟩:=pS (t % 4294967296);obtain ⟨c1,Eo⟩:=pS (t/4294967296);have ed:(t:Int) % 4294967296=(d:Int):=by omega
   have ec:(t:Int)/4294967296=(c1:Int):=by omega
   have arH:(z:Int)<=18446744065119617025:=by omega
   have arI:(t:Int)<=18446744073709551615:=by omega
   have q:=ae (show c1<4294967296/\t=j+u*m/\t=d+4294967296*c1/\d<4294967296 by refine ⟨?_,?_,?_,?_⟩;omega;rw [D];exact ht.symm;omega;omega);clear C s f A D QH ht hd Eo;go_wp2_with fail
   go_roundg (n-(i+1))
   case measure=>have:=S.out;omega
   case rel=>
    have E:gy (wr.setCell ⟨g,i,none⟩ (.int .u32 (d:Int))) g (.slice (some ⟨g,0,none⟩) M M) (o.set i d):=N.out.2.2.1.set q.out.2.2.2;exact ⟨i+1,c1,_,by have:=S.out;omega,by go_num,rfl,N.out.next qH.out (by omega) q.out.1 q.out.2.1 q.out.2.2.1 E (N.out.2.2.2.2.setCell (by rw [T.out];exact ak _) _)⟩
  ·obtain rfl:i=n:=by omega
   have ecr:(j:Int) % 4294967296=(j:Int):=by omega
   have E:gy (wr.setCell ⟨g,i,none⟩ (.int .u32 (j:Int))) g (.slice (some ⟨g,0,none⟩) M M) (o.set i j):=f.2.2.1.set bc;have p:val (o.set i j)=val l*m+c0:=by
    rw [lM,bu,f.2.1,<-Oy.out,xQ (by rw [f.2.1];omega),f.2.2.2.1,lM l,HN.out,bG m];omega
   have q:=ae (xM E.sl (by rw [bu,f.2.1];omega));have HV:=ae p;have H:=ae (show Below w.heap.size w (wr.setCell ⟨g,i,none⟩ (.int .u32 (j:Int))) from f.2.2.2.2.setCell (by rw [T.out];exact ak _) _);clear s f A E p;go_wp2_with fail;refine q.out.mono ?_;rintro e G ⟨y,rfl,h5,h6⟩;have R:=ae (show nr G w.heap.size y (val l*m+c0)/\Below w.heap.size w G from ⟨HV.out▸h5.base H.out.size,H.out.trans (h6.mono H.out.size)⟩);clear h5 h6;go_wp2_with fail;go_ret;exact ⟨_,rfl,R.out.1,R.out.2⟩
def ail {u:Value} {a:Nat} (h:eD w u a) (e:Sm a) (m c0:Nat) (f:m<4294967296:=by omega) (b:c0<4294967296:=by decide):Calls Tryz.prog 240 #[u,.int .u32 (m:Int),.int .u32 (c0:Int)] w (rE (a*m+c0) w):=by
 obtain ⟨l,d,g,rfl,i⟩:=h.lim e;exact asu d (by omega) m c0 f b
end
end
section
open Go.RowKit
def zh (a k x:Nat):Nat:=(x*(k-1)+0+a/x^(k-1))/k
def zi (a k:Nat):Nat->Nat->Nat
 |0,x=>x
 |f+1,x=>if x<=zh a k x then x else zi a k f (zh a k x)
def aim (a k:Nat): ∀f x,zi a k f x<=x
 |0,_=>ak _
 |f+1,x=>by
  unfold zi;split
  ·omega
  ·rename_i h;exact aL (aim a k f _) (by omega)
def acd {a k x:Nat} (g:0<a) (f:0<k) (h:0<x):0<zh a k x:=by
 unfold zh;rw [Nat.div_pos_iff];refine ⟨f,?_⟩;rcases b6 1 k with e|e
 ·rcases b6 1 x with b|b
  ·have:2*(k-1)<=x*(k-1):=aN _ b
   grind
  ·have d:x=1:=by omega
   subst d;grind
 ·have:k=1:=by omega
  subst this;grind
def tC (a k:Nat):Nat:=2^((eW a+(k-1))/k)
def tD (a k:Nat):Nat:=zi a k (tC a k) (tC a k)
def asv {x E km a T:Nat} (b:x<=2^E) (e:km<=64) (s:E<=1000063) (k:E*km<=1000063) (l:a<2^T) (t:T<=1000000):Sm x/\Sm (x^km)/\Sm (x*km+0)/\ ∀q,q<=a->Sm q/\Sm (x*km+0+q):=by
 have d: ∀n:Nat,2^n<2^(n+1):=fun n=>gZ (by decide) (by omega)
 have f:Sm x:=Bu (bg b (d E));have g:x^km<=2^(E*km):=by rw [fE];exact fX b km
 have h:x*km<=2^(E+6):=by rw [bC];exact bJ b e
 have i:x*km+0<2^(E+6+1):=bg h (d _);refine ⟨f,Bu (bg g (d _)),Bu i,fun q m=>⟨Bu (bg m l),?_⟩⟩;have o:2^(E+6+1)<=2^(E+6+1+T):=aF (by decide) (by omega);have p:2^T<=2^(E+6+1+T):=aF (by decide) (by omega);have j:x*km+0+q<2^(E+6+1+T+1):=by
  omega
 exact Bu j
section
variable {w:World}
def asw {u:Value} {a k T:Nat} (h:eD w u a) (ha:0<a) (U:a<2^T) (hT:T<=1000000) (jG:0<k) (hk:k<=64):Calls Tryz.prog 380 #[u,.int .i64 (k:Int)] w (rE (tD a k) w):=by
 have A:=ae (Bu U (by omega:T<=32000000));have HA:=ae h;have SE:=ae (fun (w':World) (S:Below w.heap.size w w')=>Vo (h.below S) A.out);have Sx:=ae (fun w':World=>Nz (w:=w') 1 (by decide));have hkI:(k:Int)<=64:=by omega
 have Di:(1:Int)<=(k:Int):=by omega
 have s:=ae (af ha (af U (af jG (af hk hT))));obtain ⟨bl,W⟩:=pS (eW a);rw [W] at SE;have Sp:=ae W;have asx:bl<=1000000:=by
  obtain ⟨b,e1,e2,_⟩:=afl (n:=a);have:=(dB (a:=2) (by decide)).1 (bg e2 U);omega
 have aGo:(bl:Int)<=1000000:=by omega
 obtain ⟨E,R⟩:=pS ((bl+(k-1))/k);obtain ⟨km,Oz⟩:=pS (k-1);have ekm:(k:Int)-1=(km:Int):=by omega
 have aGp:(km:Int)<=63:=by omega
 have aGq:(0:Int)<=(km:Int):=by omega
 have t:=ae Oz;have hEI:((bl:Int)+(k:Int)-1).tdiv (k:Int)=(E:Int):=by
  rw [show (bl:Int)+(k:Int)-1=((bl+(k-1):Nat):Int) by omega,<-R];rfl
 have hEk:E*k<=bl+(k-1):=by rw [<-R];exact dM _ _
 have hEb:E<=1000063:=by
  have:E*1<=E*k:=aR _ jG;omega
 have aGr:(E:Int)<=1000063:=by omega
 have HE:=ae (show tC a k=2^E/\E*(k-1)<=1000063 from ⟨by unfold tC;rw [W,R],by have:E*(k-1)<=E*k:=aR _ (m8 _ _);omega⟩);clear h ha U jG hk W R hEk Oz hT;go_enter Tryz.func380,Tryz.ntmps380;go_wp2_with fail;refine (Sx.out _).mono ?_;rintro e w1 ⟨v1,rfl,mL,I⟩;have X:=ae (af mL I);clear mL I;go_wp2_with fail;refine (SE.out _ X.out.2).mono ?_;rintro e w2 ⟨rfl,rfl⟩;go_wp2_with fail;have W9:=ae (aai (n:=E) X.out.1.r (Bu (k:=1) (by decide) (by decide)));refine W9.out.mono ?_;rintro e w3 ⟨v3,rfl,nL,ke⟩;rw [j6,<-HE.out.1] at nL;have js:=ae (af (nL.base X.out.2.size) (ue X.out.2 ke));clear nL ke;go_wp2_with fail
 go_loopg [5] (tC a k) (fun gh ov wr=> ∃x f b1:Nat,gh=x/\0<x/\x<=tC a k/\x<=f/\zi a k f x=tD a k/\w.heap.size<=b1/\nr wr b1 ov x/\Below w.heap.size w wr)
 case atStart=>exact ⟨_,tC a k,_,rfl,aM (by decide),ak _,ak _,rfl,ak _,js.out.1,js.out.2⟩
 case round=>
  obtain ⟨x,f,b1,LN,mT,Jg,E0,hR,I,hf,S⟩:=hrel;have HGX:=ae LN;have C:=ae (af mT (af Jg (af E0 (af hR I))));have HF:=ae hf;have HB:=ae S;have j:=ae (asv (x:=x) (E:=E) (km:=km) (by rw [<-HE.out.1];exact Jg) (by omega) (by omega) (by have:=HE.out.2;rw [t.out] at this;exact this) s.out.2.1 s.out.2.2.2.2);have tE:=ae (aik (k:=km) hf.r (by omega) j.out.2.1 j.out.1);clear LN mT Jg E0 hR I hf S;go_wp2_with fail;refine tE.out.mono ?_;rintro e w4 ⟨v4,rfl,mV,pA⟩;have oP:=ae (ue HB.out pA);have D:=ae (HF.out.below pA);have Ir:=ae (SC (HA.out.below oP.out) mV.r A.out j.out.2.1 (aM C.out.1));clear mV pA tE;go_wp2_with fail;refine Ir.out.mono ?_;rintro e w5 ⟨q,r,rfl,hq,hr,Y⟩;have Je:=ae (ue oP.out Y);have g:=ae (D.out.below Y);have HQ5:=ae hq;have z:=ae (j.out.2.2.2 (a/x^km) (bW _ _));have B:=ae (ail (w:=w5) g.out.r j.out.1 km 0);clear hq hr Y Ir D;go_wp2_with fail;refine B.out.mono ?_;rintro e w6 ⟨v6,rfl,Dl,M⟩;have GV:=ae (ue Je.out M);have F:=ae (g.out.below M);have m:=ae (Vp Dl.r (HQ5.out.below M).r j.out.2.2.1 z.out.1);clear Dl M B g;go_wp2_with fail;refine m.out.mono ?_;rintro e w7 ⟨v7,rfl,J,Z⟩;have o:=ae (ue GV.out Z);have G:=ae (F.out.below Z);obtain ⟨l7,g1,g2,g3,g4⟩:=J.r.lim z.out.2;have KX:=ae (aaj g1 (by omega) k s.out.2.2.1 (by omega));rw [g3] at KX;clear J Z m F g1 g2 g3 g4;go_wp2_with fail;refine KX.out.mono ?_;rintro e w8 ⟨v8,rfl,O,yk⟩;have HB8:=ae (ue o.out yk);have i:=ae (G.out.below yk);obtain ⟨y,hy⟩:=pS ((x*km+0+a/x^km)/k);rw [hy] at O;have HY:=ae (show zh a k x=y by unfold zh;rw [t.out];exact hy);have p:=ae (O.base o.out.size);have Vj:=ae (aag O.r i.out.r);clear O yk KX G hy;go_wp2_with fail;refine Vj.out.mono ?_;rintro e w9 ⟨rfl,N⟩;have CS:=ae (ue HB8.out N);have HX9:=ae (i.out.below N);have SH:=ae (p.out.below N);clear N i p Vj;by_cases H:y<x
  ·rw [NB H]
   obtain ⟨d,rfl⟩: ∃d,f=d+1:=⟨f-1,by have:=C.out;omega⟩;have l:=ae (show 0<y/\y<=tC a k/\y<=d/\zi a k d y=tD a k by
    have Q:=C.out;refine ⟨by rw [<-HY.out];exact acd s.out.1 s.out.2.2.1 Q.1,by omega,by omega,?_⟩;rw [<-Q.2.2.2.1];show _=if x<=zh a k x then x else zi a k d (zh a k x)
    rw [HY.out,if_neg (by omega)])
   have vm:=ae H;clear H;go_wp2_with fail
   go_roundg y
   case measure=>have:=vm.out;have:=HGX.out;omega
   case rel=>exact ⟨y,d,_,rfl,l.out.1,l.out.2.1,l.out.2.2.1,l.out.2.2.2,ak _,SH.out,CS.out⟩
  ·obtain ⟨P,Jd,ah5⟩: ∃P,tW y x=P/\0<=P:=⟨_,rfl,by unfold tW;rw [if_neg H];split<;>omega⟩
   rw [Jd];have ah6: ¬P<0:=by omega
   have l:=ae (show x=tD a k by
    have Q:=C.out;obtain ⟨d,rfl⟩: ∃d,f=d+1:=⟨f-1,by omega⟩;rw [<-Q.2.2.2.1];show _=if x<=zh a k x then x else zi a k d (zh a k x)
    rw [HY.out,if_pos (by omega)])
   clear Jd H;go_wp2_with fail;go_ret;exact ⟨_,rfl,l.out▸HX9.out.base C.out.2.2.2.2,CS.out⟩
end
end
section
open Go.RowKit Go.Ev
section
variable {n m i j k:Nat}
def Bn.LO {x y:Nat} (a:Bn i x) (b:Bn j y):Bn (i+j) (x*y):=by
 unfold Bn at*;rw [bC];rcases bT y with e|e
 ·subst e;rw [jz];exact i5 (aM (by decide)) (aM (by decide))
 ·exact ax (fJ a e) (aR _ (aQ b))
def ain (a:Bn i n) (b:Bn j m) (hi:i<=20000000:=by omega) (e:j<=20000000:=by omega): ∃z,Bn (i+j) z/\z=n*m/\bH Tryz.prog bw 354 [fD n,fD m] (fD z):=
 ⟨_,Bn.LO a b,rfl,vM fun f g l h d _=>(Sk h d (a.sm hi) (b.sm e)).mono fun _ _ h=>Dd h⟩
def asy (a:Bn i n) (hi:i<=20000000:=by omega): ∃z,Bn (i+i) z/\z=n*n/\bH Tryz.prog bw 353 [fD n] (fD z):=
 ⟨_,Bn.LO a a,rfl,EY fun b d h _=>(aii h (a.sm hi)).mono fun _ _ h=>Dd h⟩
def asz {c:Nat} (d:Bn k n) (g:k<=20000000) (b:m<4294967296:=by omega) (hc:c<4294967296:=by omega): ∃z,Bn (k+33) z/\z=n*m+c/\bH Tryz.prog bw 240 [fD n,bj (.int .u32 (m:Int)),bj (.int .u32 (c:Int))] (fD z):=
 ⟨_,by
  have f:=Bn.LO d (show Bn 32 m from b);have l:=Bn.add f (show Bn 32 c from hc);simp_all,rfl,arn fun w x y z h e a _=>by
  obtain rfl:y=_:=e;obtain rfl:z=_:=a;exact (ail h (d.sm g) m c b hc).mono fun _ _ h=>Dd h⟩
def aio (a:Bn i n) (d:Bn j m) (hi:i<=20000000) (s:j<=20000000) (b:0<m): ∃q r,Bn i q/\Bn j r/\Bn i r/\q=n/m/\r=n % m/\bH Tryz.prog bw 205 [fD n,fD m] (EV (fD q) (fD r) (bj (.bool true))):=
 ⟨_,_,bg (bW _ _) a,oM (cZ _ b) d,bg (Nat.mod_le _ _) a,rfl,rfl,vM fun w x y h g _=>by
  refine (SC h g (a.sm hi) (d.sm s) b).mono ?_;rintro t u ⟨q,r,rfl,l,o,p⟩;exact ⟨_,rfl,fun f e=>⟨_,_,_,rfl,I6 l f e,I6 o f e,rfl⟩,p⟩⟩
def asA (a:Bn i n) (b:Bn j m) (hi:i<=20000000) (s:j<=20000000) (g:0<m): ∃q r,Bn i q/\Bn j r/\q=n/Nat.gcd n m/\r=m/Nat.gcd n m/\bH Tryz.prog bw 244 [fD n,fD m] (EV (fD q) (fD r) (bj (.bool true))):=
 ⟨_,_,bg (bW _ _) a,bg (bW _ _) b,rfl,rfl,vM fun w x y h f _=>by
  refine (asp h f (a.sm hi) (b.sm s) g).mono ?_;rintro t u ⟨q,r,rfl,l,o,p⟩;exact ⟨_,rfl,fun e d=>⟨_,_,_,rfl,I6 l e d,I6 o e d,rfl⟩,p⟩⟩
def ace (a:Bn i n): ∀k,Bn (i*k+1) (n^k)
 |0=>by
   unfold Bn;simp_all
 |k+1=>by
  have:=Bn.LO (ace a k) a;grind
def asB (a:Bn i n) (b:k<=64) (hi:i<=300000): ∃z,Bn (i*k+1) z/\z=n^k/\bH Tryz.prog bw 306 [fD n,bj (.int .i64 (k:Int))] (fD z):=
 ⟨_,ace a k,rfl,vM fun w x y h d _=>by
  obtain rfl:y=_:=d;have e:i*k<=300000*64:=bJ hi b;exact (aik h b ((ace a k).sm (by omega)) (a.sm (by omega))).mono fun _ _ h=>Dd h⟩
def asC {T:Nat} (h:0<n) (d:Bn T n) (a:0<k):Bn (T+1) (tD n k):=by
 refine bg (aim n k _ _) ?_;unfold tC;refine gZ (by decide) ?_;have e:=Om d;have b:1<=eW n:=by unfold eW;rw [if_neg (by omega)];omega
 have f:(eW n+(k-1))/k<=eW n:=by
  rw [Nat.div_le_iff_le_mul_add_pred a];have:k*1<=k*eW n:=aR _ b;have g:1*eW n<=k*eW n:=aN _ a;omega
 omega
def asD {T:Nat} (a:0<n) (b:Bn T n) (f:T<=1000000:=by omega) (d:0<k:=by decide) (g:k<=64:=by decide): ∃z,Bn (T+1) z/\z=tD n k/\bH Tryz.prog bw 380 [fD n,bj (.int .i64 (k:Int))] (fD z):=
 ⟨_,asC a b d,rfl,vM fun w x y h e _=>by
  obtain rfl:y=_:=e;exact (asw h a b f d g).mono fun _ _ h=>Dd h⟩
end
end
section
open Go.RowKit Go.Ev
def asE (x y:Int):jB (decide (x<0) !=decide (y<0)) (x.natAbs*y.natAbs)=x*y:=by
 conv=>rhs;rw [<-afk x,<-afk y]
 cases decide (x<0)<;>cases decide (y<0)<;>(generalize x.natAbs=a;generalize y.natAbs=b;simp [jB,eA,mf,Int.mul_neg])
def Bz.LO {i j:Nat} {x y:Int} (a:Bz i x) (b:Bz j y):Bz (i+j) (x*y):=by
 unfold Bz;rw [dK];exact Bn.LO a b
section
variable {i j:Nat} {x y:Int}
def LP (h:Bz i x) (k:Bz j y) (hi:i<=10000000:=by omega) (q:j<=10000000:=by omega): ∃z,Bz (i+j) z/\z=x*y/\bH Tryz.prog bw 339 [dU x,dU y] (dU z):=by
 obtain ⟨m,p,l,g⟩:=ain h.abs k.abs;refine ⟨x*y,h.LO k,rfl,?_⟩;obtain ⟨z,s,o,a⟩:=nR (b:=decide (x<0) !=decide (y<0)) p;have e:z=x*y:=by rw [o,l];exact asE x y
 rw [<-e];cases d:decide (x<0)<;>cases f:decide (y<0)<;>rw [d,f] at a
 ·exact jV [iS x,iS y,nS m,iS z] mix (F:= []) (T:= [⟨354,[sA 0,sA 1],sA 2⟩,⟨141,[.bool false,sA 2],iP 3⟩]) (pats:= [nC false 0,nC false 1]) (res:=iP 3) (by kernel_rfl)
   jT (dh (di g (bN (eC rfl) (bN (eC rfl) db)) (j' rfl)) rfl (dh (di a (bN jS (bN (eC rfl) db)) (kN rfl)) rfl jU)) rfl (fF (oB d rfl) (fF (oB f rfl) jN)) (jW rfl)
 ·exact jV [iS x,iS y,nS m,iS z] mix (F:= []) (T:= [⟨354,[sA 0,sA 1],sA 2⟩,⟨141,[.bool true,sA 2],iP 3⟩]) (pats:= [nC false 0,nC true 1]) (res:=iP 3) (by kernel_rfl)
   jT (dh (di g (bN (eC rfl) (bN (eC rfl) db)) (j' rfl)) rfl (dh (di a (bN jS (bN (eC rfl) db)) (kN rfl)) rfl jU)) rfl (fF (oB d rfl) (fF (oB f rfl) jN)) (jW rfl)
 ·exact jV [iS x,iS y,nS m,iS z] mix (F:= []) (T:= [⟨354,[sA 0,sA 1],sA 2⟩,⟨141,[.bool true,sA 2],iP 3⟩]) (pats:= [nC true 0,nC false 1]) (res:=iP 3) (by kernel_rfl)
   jT (dh (di g (bN (eC rfl) (bN (eC rfl) db)) (j' rfl)) rfl (dh (di a (bN jS (bN (eC rfl) db)) (kN rfl)) rfl jU)) rfl (fF (oB d rfl) (fF (oB f rfl) jN)) (jW rfl)
 ·exact jV [iS x,iS y,nS m,iS z] mix (F:= []) (T:= [⟨354,[sA 0,sA 1],sA 2⟩,⟨141,[.bool false,sA 2],iP 3⟩]) (pats:= [nC true 0,nC true 1]) (res:=iP 3) (by kernel_rfl)
   jT (dh (di g (bN (eC rfl) (bN (eC rfl) db)) (j' rfl)) rfl (dh (di a (bN jS (bN (eC rfl) db)) (kN rfl)) rfl jU)) rfl (fF (oB d rfl) (fF (oB f rfl) jN)) (jW rfl)
def SI (f:Bz i x) (g:Bz j y) (hi:i<=10000000:=by omega) (d:j<=10000000:=by omega): ∃z,Bz (max i j+1) z/\z=x-y/\bH Tryz.prog bw 361 [dU x,dU y] (dU z):=by
 obtain ⟨n,e,k,b⟩:=BW g;obtain ⟨z,h,l,a⟩:=yf f e hi d;refine ⟨z,h,by omega,?_⟩;exact jV [iS x,iS y,iS n,iS z] mix (F:= []) (T:= [⟨155,[iP 1],iP 2⟩,⟨89,[iP 0,iP 2],iP 3⟩]) (pats:= [iP 0,iP 1]) (res:=iP 3) (by kernel_rfl)
  jT (dh (di b (bN (jW rfl) db) (kN rfl)) rfl (dh (di a (bN (jW rfl) (bN (jW rfl) db)) (kN rfl)) rfl jU)) rfl (fF (kN rfl) (fF (kN rfl) jN)) (jW rfl)
def aip {n m:Nat} (a:Bn i n) (o:Bn j m) (hi:i<=20000000) (k:j<=20000000) (l:m<=n): ∃d,Bn i d/\d=n-m/\bH Tryz.prog bw 144 [fD n,fD m] (pF (fD d) (bj (.bool true))):=
 ⟨_,bg (m8 _ _) a,rfl,vM fun w x y h e _=>by
  refine (aah h e (a.sm hi) (o.sm k)).mono ?_;rintro t z b;rcases b with ⟨s,_,_⟩|⟨_,u,rfl,g,f⟩
  ·omega
  ·exact ⟨_,rfl,fun q p=>⟨_,_,rfl,I6 g q p,rfl⟩,f⟩⟩
def GX (d:Bool) (a b:Nat):Nat:=if d=true/\a % b≠0 then a/b+1 else a/b
def Xj (d:Bool) (a b:Nat):Nat:=if d=true/\a % b≠0 then b-a % b else a % b
def OA (W:Bz i x) (Q:Bz j y) (hi:i<=10000000:=by omega) (hj:j<=10000000:=by omega) (Y:y≠0:=by omega): ∃z u,Bz (i+1) z/\Bz j u/\z=jB (decide (x<0) !=decide (y<0)) (GX (decide (x<0) !=decide (y<0)) x.natAbs y.natAbs)/\u=jB (decide (y<0)) (Xj (decide (x<0) !=decide (y<0)) x.natAbs y.natAbs)/\
 bH Tryz.prog bw 154 [dU x,dU y] (EV (dU z) (dU u) (bj (.bool true))):=by
 have H:0<y.natAbs:=by omega
 obtain ⟨q,r,a,D,X,eq,s,o⟩:=aio W.abs Q.abs (by omega) (by omega) H;obtain ⟨e,Z,C,J⟩:=LC (n:=1);obtain ⟨p,g,E,M⟩:=Sd a (show Bn 1 e by rw [C];unfold Bn;decide);have G:r<y.natAbs:=by rw [s];exact cZ _ H
 obtain ⟨t,P,O,N⟩:=aip Q.abs D (by omega) (by omega) (aQ G);have I:Bn (i+1) p:=by
  rw [E,C];have S:q+1<=2^i:=a;have U:2^i<2^(i+1):=gZ (by decide) (by omega);exact bg S U
 by_cases qp:r=0
 ·have R: ¬x.natAbs % y.natAbs≠0:=by omega
  obtain ⟨z,m,k,f⟩:=nR (b:=decide (x<0) !=decide (y<0)) a;obtain ⟨u,l,h,d⟩:=nR (b:=decide (y<0)) D;refine ⟨z,u,m.mono (by omega),l,by rw [k,eq];unfold GX;simp_all,by rw [h,s];unfold Xj;simp_all,?_⟩;have A:decide (0<(m6 r:Int))=false:=by rw [I7];simp_all
  cases g:decide (x<0)<;>cases a:decide (y<0)<;>rw [g,a] at f<;>rw [a] at d
  ·exact jV [iS x,iS y,nS q,nS r,iS z,iS u] mix (F:= []) (T:= [⟨205,[sA 0,sA 1],.fm [sA 2,sA 3,.bool true]⟩,⟨141,[.bool false,sA 2],iP 4⟩,⟨141,[.bool false,sA 3],iP 5⟩]) (pats:= [nC false 0,nC false 1]) (res:= .fm [iP 4,iP 5,.bool true]) (by kernel_rfl)
    jT (dh (di o (bN (eC rfl) (bN (eC rfl) db)) (BS (j' rfl) (j' rfl) pk)) rfl (dh (di f (bN jS (bN (eC rfl) db)) (kN rfl)) rfl (dh (di d (bN jS (bN (eC rfl) db)) (kN rfl)) rfl jU))) rfl (fF (oB g rfl) (fF (oB a rfl) jN)) (EW (jW rfl) (jW rfl) jS)
  ·exact jV [iS x,iS y,nS q,nS r,iS z,iS u] mix (F:= [⟨.bin .gtr,s2 3,.int .i64 0,.bool false⟩]) (T:= [⟨205,[sA 0,sA 1],.fm [sA 2,sA 3,.bool true]⟩,⟨141,[.bool true,sA 2],iP 4⟩,⟨141,[.bool true,sA 3],iP 5⟩]) (pats:= [nC false 0,nC true 1]) (res:= .fm [iP 4,iP 5,.bool true]) (by kernel_rfl)
    (eZ (GL (BV rfl) (fun _=>rfl) A) jT) (dh (di o (bN (eC rfl) (bN (eC rfl) db)) (BS (j' rfl) (j' rfl) pk)) rfl (dh (di f (bN jS (bN (eC rfl) db)) (kN rfl)) rfl (dh (di d (bN jS (bN (eC rfl) db)) (kN rfl)) rfl jU))) rfl (fF (oB g rfl) (fF (oB a rfl) jN)) (EW (jW rfl) (jW rfl) jS)
  ·exact jV [iS x,iS y,nS q,nS r,iS z,iS u] mix (F:= [⟨.bin .gtr,s2 3,.int .i64 0,.bool false⟩]) (T:= [⟨205,[sA 0,sA 1],.fm [sA 2,sA 3,.bool true]⟩,⟨141,[.bool true,sA 2],iP 4⟩,⟨141,[.bool false,sA 3],iP 5⟩]) (pats:= [nC true 0,nC false 1]) (res:= .fm [iP 4,iP 5,.bool true]) (by kernel_rfl)
    (eZ (GL (BV rfl) (fun _=>rfl) A) jT) (dh (di o (bN (eC rfl) (bN (eC rfl) db)) (BS (j' rfl) (j' rfl) pk)) rfl (dh (di f (bN jS (bN (eC rfl) db)) (kN rfl)) rfl (dh (di d (bN jS (bN (eC rfl) db)) (kN rfl)) rfl jU))) rfl (fF (oB g rfl) (fF (oB a rfl) jN)) (EW (jW rfl) (jW rfl) jS)
  ·exact jV [iS x,iS y,nS q,nS r,iS z,iS u] mix (F:= []) (T:= [⟨205,[sA 0,sA 1],.fm [sA 2,sA 3,.bool true]⟩,⟨141,[.bool false,sA 2],iP 4⟩,⟨141,[.bool true,sA 3],iP 5⟩]) (pats:= [nC true 0,nC true 1]) (res:= .fm [iP 4,iP 5,.bool true]) (by kernel_rfl)
    jT (dh (di o (bN (eC rfl) (bN (eC rfl) db)) (BS (j' rfl) (j' rfl) pk)) rfl (dh (di f (bN jS (bN (eC rfl) db)) (kN rfl)) rfl (dh (di d (bN jS (bN (eC rfl) db)) (kN rfl)) rfl jU))) rfl (fF (oB g rfl) (fF (oB a rfl) jN)) (EW (jW rfl) (jW rfl) jS)
 ·have R:x.natAbs % y.natAbs≠0:=by omega
  have A:decide (0<(m6 r:Int))=true:=by rw [I7];simp_all
  cases g:decide (x<0)<;>cases B:decide (y<0)
  ·obtain ⟨z,m,k,f⟩:=nR (b:=false) a
   obtain ⟨u,l,h,d⟩:=nR (b:=false) D;refine ⟨z,u,m.mono (by omega),l,by rw [k,eq];rfl,by rw [h,s];rfl,?_⟩;have a:=B;exact jV [iS x,iS y,nS q,nS r,iS z,iS u] mix (F:= []) (T:= [⟨205,[sA 0,sA 1],.fm [sA 2,sA 3,.bool true]⟩,⟨141,[.bool false,sA 2],iP 4⟩,⟨141,[.bool false,sA 3],iP 5⟩]) (pats:= [nC false 0,nC false 1]) (res:= .fm [iP 4,iP 5,.bool true]) (by kernel_rfl)
    jT (dh (di o (bN (eC rfl) (bN (eC rfl) db)) (BS (j' rfl) (j' rfl) pk)) rfl (dh (di f (bN jS (bN (eC rfl) db)) (kN rfl)) rfl (dh (di d (bN jS (bN (eC rfl) db)) (kN rfl)) rfl jU))) rfl (fF (oB g rfl) (fF (oB a rfl) jN)) (EW (jW rfl) (jW rfl) jS)
  ·obtain ⟨z,m,k,f⟩:=nR (b:=true) I
   obtain ⟨u,l,h,d⟩:=nR (b:=true) P;refine ⟨z,u,m,l,by rw [k,E,C,eq];unfold GX;simp_all,by rw [h,O,s];unfold Xj;simp_all,?_⟩;have a:=B;exact jV [iS x,iS y,nS q,nS r,nS e,nS p,nS t,iS z,iS u] mix (F:= [⟨.bin .gtr,s2 3,.int .i64 0,.bool true⟩]) (T:= [⟨205,[sA 0,sA 1],.fm [sA 2,sA 3,.bool true]⟩,⟨68,[.int .u64 1],sA 4⟩,⟨143,[sA 2,sA 4],sA 5⟩,⟨144,[sA 1,sA 3],.fm [sA 6,.bool true]⟩,⟨141,[.bool true,sA 5],iP 7⟩,⟨141,[.bool true,sA 6],iP 8⟩]) (pats:= [nC false 0,nC true 1]) (res:= .fm [iP 7,iP 8,.bool true]) (by kernel_rfl)
    (eZ (GL (BV rfl) (fun _=>rfl) A) jT) (dh (di o (bN (eC rfl) (bN (eC rfl) db)) (BS (j' rfl) (j' rfl) pk)) rfl (dh (di J (bN zf db) (j' rfl)) rfl (dh (di M (bN (eC rfl) (bN (eC rfl) db)) (j' rfl)) rfl (dh (di N (bN (eC rfl) (bN (eC rfl) db)) (R8 (j' rfl) pk)) rfl (dh (di f (bN jS (bN (eC rfl) db)) (kN rfl)) rfl (dh (di d (bN jS (bN (eC rfl) db)) (kN rfl)) rfl jU)))))) rfl (fF (oB g rfl) (fF (oB a rfl) jN)) (EW (jW rfl) (jW rfl) jS)
  ·obtain ⟨z,m,k,f⟩:=nR (b:=true) I
   obtain ⟨u,l,h,d⟩:=nR (b:=false) P;refine ⟨z,u,m,l,by rw [k,E,C,eq];unfold GX;simp_all,by rw [h,O,s];unfold Xj;simp_all,?_⟩;have a:=B;exact jV [iS x,iS y,nS q,nS r,nS e,nS p,nS t,iS z,iS u] mix (F:= [⟨.bin .gtr,s2 3,.int .i64 0,.bool true⟩]) (T:= [⟨205,[sA 0,sA 1],.fm [sA 2,sA 3,.bool true]⟩,⟨68,[.int .u64 1],sA 4⟩,⟨143,[sA 2,sA 4],sA 5⟩,⟨144,[sA 1,sA 3],.fm [sA 6,.bool true]⟩,⟨141,[.bool true,sA 5],iP 7⟩,⟨141,[.bool false,sA 6],iP 8⟩]) (pats:= [nC true 0,nC false 1]) (res:= .fm [iP 7,iP 8,.bool true]) (by kernel_rfl)
    (eZ (GL (BV rfl) (fun _=>rfl) A) jT) (dh (di o (bN (eC rfl) (bN (eC rfl) db)) (BS (j' rfl) (j' rfl) pk)) rfl (dh (di J (bN zf db) (j' rfl)) rfl (dh (di M (bN (eC rfl) (bN (eC rfl) db)) (j' rfl)) rfl (dh (di N (bN (eC rfl) (bN (eC rfl) db)) (R8 (j' rfl) pk)) rfl (dh (di f (bN jS (bN (eC rfl) db)) (kN rfl)) rfl (dh (di d (bN jS (bN (eC rfl) db)) (kN rfl)) rfl jU)))))) rfl (fF (oB g rfl) (fF (oB a rfl) jN)) (EW (jW rfl) (jW rfl) jS)
  ·obtain ⟨z,m,k,f⟩:=nR (b:=false) a
   obtain ⟨u,l,h,d⟩:=nR (b:=true) D;refine ⟨z,u,m.mono (by omega),l,by rw [k,eq];rfl,by rw [h,s];rfl,?_⟩;have a:=B;exact jV [iS x,iS y,nS q,nS r,iS z,iS u] mix (F:= []) (T:= [⟨205,[sA 0,sA 1],.fm [sA 2,sA 3,.bool true]⟩,⟨141,[.bool false,sA 2],iP 4⟩,⟨141,[.bool true,sA 3],iP 5⟩]) (pats:= [nC true 0,nC true 1]) (res:= .fm [iP 4,iP 5,.bool true]) (by kernel_rfl)
    jT (dh (di o (bN (eC rfl) (bN (eC rfl) db)) (BS (j' rfl) (j' rfl) pk)) rfl (dh (di f (bN jS (bN (eC rfl) db)) (kN rfl)) rfl (dh (di d (bN jS (bN (eC rfl) db)) (kN rfl)) rfl jU))) rfl (fF (oB g rfl) (fF (oB a rfl) jN)) (EW (jW rfl) (jW rfl) jS)
end
end
section
open Go.RowKit Go.Ev
def sU (p:Int) (q:Nat):World->Value->Prop:=fun w v=> ∃u d,v= .agg #[.bool (decide (p<0)),u,d]/\eD w u p.natAbs/\eD w d q
def rP (i j:Nat):ai:= .agg [s0 i,sA i,sA j]
section
variable {L:List Slot} {A:World->Prop} {i j:Nat}
def aiq {p:Int} {q:Nat} {a b:vC} (h:kX L i=iS p) (h':kX L j=GM q a b): @fB ⟨cP L⟩ (fC A L) (rP i j) (sU p q):=
 letI:aJ:=⟨cP L⟩
 (ahP (tA (x:= .bool (decide (p<0))) (by rw [h];rfl)) (eC h) (eC h')).to fun w v ⟨c,u,d,e,hc,g,f⟩=>⟨u,d,by rw [e,show c=_ from hc],g,f⟩
end
def acf (p:Int) (q:Nat):Int:=jB (decide (p<0)) (p.natAbs/Nat.gcd p.natAbs q)
def air (p:Int) (q:Nat):Nat:=q/Nat.gcd p.natAbs q
def asF {p:Int} {q:Nat} (h:0<q):0<air p q:=Nat.div_pos (Nat.gcd_le_right _ h) (iL _ h)
section
variable {i j k l:Nat} {p r:Int} {q s:Nat}
def asG (x:Bz i p) (y:Bn j q) (hi:i<=10000000) (C:j<=10000000) (h:0<q): ∃z d,Bz i z/\Bn j d/\0<d/\z=acf p q/\d=air p q/\bH Tryz.prog bw 187 [dU p,fD q] (sU z d):=by
 obtain ⟨a,b,t,u,m,eb,g⟩:=asA x.abs y (by omega) (by omega) h;obtain ⟨z,B,o,e⟩:=nR (b:=decide (p<0)) t;refine ⟨z,b,B,u,by rw [eb];exact asF h,by rw [o,m];rfl,eb,?_⟩;cases f:decide (p<0)<;>rw [f] at e
 ·exact jV [iS p,nS q,nS a,nS b,iS z] mix (F:= []) (T:= [⟨244,[sA 0,sA 1],.fm [sA 2,sA 3,.bool true]⟩,⟨141,[.bool false,sA 2],iP 4⟩]) (pats:= [nC false 0,sA 1]) (res:=rP 4 3) (by kernel_rfl)
   jT (dh (di g (bN (eC rfl) (bN (eC rfl) db)) (BS (j' rfl) (j' rfl) pk)) rfl (dh (di e (bN jS (bN (eC rfl) db)) (kN rfl)) rfl jU)) rfl (fF (oB f rfl) (fF (j' rfl) jN)) (aiq rfl rfl)
 ·exact jV [iS p,nS q,nS a,nS b,iS z] mix (F:= []) (T:= [⟨244,[sA 0,sA 1],.fm [sA 2,sA 3,.bool true]⟩,⟨141,[.bool true,sA 2],iP 4⟩]) (pats:= [nC true 0,sA 1]) (res:=rP 4 3) (by kernel_rfl)
   jT (dh (di g (bN (eC rfl) (bN (eC rfl) db)) (BS (j' rfl) (j' rfl) pk)) rfl (dh (di e (bN jS (bN (eC rfl) db)) (kN rfl)) rfl jU)) rfl (fF (oB f rfl) (fF (j' rfl) jN)) (aiq rfl rfl)
end
end
section
open Go.RowKit Go.Ev
section
variable {i j k l n:Nat} {p r:Int} {q s:Nat}
def ais (d:Bn k n) (b:k<=20000000:=by omega):bH Tryz.prog bw 119 [fD n] (fD n):=
 EY fun w x h _=>by
  obtain ⟨l,a,e,rfl,f⟩:=abY h (d.sm b);exact (xM a (by omega)).mono fun _ _ h=>Dd h
end
end
section
open Go.RowKit Go.Ev
def i9 (m e:Int):World->Value->Prop:=fun w x=> ∃v,x= .agg #[.bool (decide (m<0)),v,.int .i64 e]/\eD w v m.natAbs
def dQ (i j:Nat):ai:= .agg [s0 i,sA i,s0 j]
def dZ:ai:= .agg [.bool false,.j7,.int .i64 0]
section
variable {L:List Slot} {A:World->Prop} {i j:Nat} {m e:Int}
def p8 (h:kX L i=iS m) (h':(kX L j).v0.v= .int .i64 e): @fq ⟨cP L⟩ (fC A L) (i9 m e) (dQ i j):=
 letI:aJ:=⟨cP L⟩
 (arf (iQ (x:= .bool (decide (m<0))) (by rw [h];rfl)) (j' h) (iQ h')).of fun w v ⟨u,q,a⟩=>⟨_,u,_,q,rfl,a,rfl⟩
def nT (h:kX L i=iS m) (h':(kX L j).v0.v= .int .i64 e): @fB ⟨cP L⟩ (fC A L) (dQ i j) (i9 m e):=
 letI:aJ:=⟨cP L⟩
 (ahP (tA (x:= .bool (decide (m<0))) (by rw [h];rfl)) (eC h) (tA h')).to fun w v ⟨b,u,g,q,a,f,d⟩=>⟨u,by rw [q,show b=_ from a,show g=_ from d],f⟩
def Xm: @fB ⟨cP L⟩ (fC A L) dZ (i9 0 0):=by
 rintro w v ⟨g,rfl,a,_,rfl,d,b,_,rfl,f,c,_,rfl,hc,rfl⟩;rw [show a= .bool false from d,show b= .slice none 0 0 from f,show c= .int .i64 0 from hc];exact ⟨_,rfl,(KP w 0).r⟩
end
def E1 (m e:Int):Bool:=if m=0 then decide (e=0) else decide (eW m.natAbs<=65536)&&decide (-65536<=e)&&decide (e<=65536)&&decide (m.natAbs % 2=1)
section
variable {i k:Nat} {m e:Int}
def asH:bH Tryz.prog bw 194 [dU m] (bj (.bool true)):=EY fun a b h _=>(aok h).mono fun _ _ h=>abW h
def asI {n:Nat} (d:Bn k n) (b:k<=20000000:=by omega):bH Tryz.prog bw 195 [fD n,bj (.int .i64 0)] (bj (.bool (decide (n % 2=1)))):=
 vM fun w x y h a _=>by
  obtain rfl:y=_:=a;exact (an9 h (d.sm b)).mono fun _ _ h=>abX h
def asJ {n:Nat} (d:Bn k n) (b:k<=20000000:=by omega):bH Tryz.prog bw 140 [fD n] (bj (.int .i64 (qI n:Nat))):=
 EY fun f g h a=>(an8 h (d.sm b) a).mono fun _ _ h=>abX h
def ait (t:Bz k m) (y:k<=10000000:=by omega):bH Tryz.prog bw 132 [i9 m e] (bj (.bool (E1 m e))):=by
 have d:=asH (m:=m);obtain ⟨b,x,eb,f⟩:=GN t.abs;have o:=asI t.abs;unfold E1;by_cases p:m=0
 ·have a:decide ((m6 m.natAbs:Int)=0)=true:=by rw [Sb,p];rfl
  rw [if_pos p];cases s:decide (e=0)
  ·exact jV [iS m,dF (dC .i64 e)] mix (F:= [⟨.bin .eql,s2 0,.int .i64 0,.bool true⟩,⟨.bin .eql,s0 1,.int .i64 0,.bool false⟩]) (T:= [⟨194,[iP 0],.bool true⟩]) (pats:= [dQ 0 1]) (res:= .bool false) (by kernel_rfl)
    (eZ (ud (BV rfl) (fun _=>rfl) a) (eZ (ud (dp rfl) (fun _=>rfl) s) jT)) (dh (di d (bN (jW rfl) db) pk) rfl jU) rfl (fF (p8 rfl rfl) jN) jS
  ·exact jV [iS m,dF (dC .i64 e)] mix (F:= [⟨.bin .eql,s2 0,.int .i64 0,.bool true⟩,⟨.bin .eql,s0 1,.int .i64 0,.bool true⟩]) (T:= [⟨194,[iP 0],.bool true⟩]) (pats:= [dQ 0 1]) (res:= .bool true) (by kernel_rfl)
    (eZ (ud (BV rfl) (fun _=>rfl) a) (eZ (ud (dp rfl) (fun _=>rfl) s) jT)) (dh (di d (bN (jW rfl) db) pk) rfl jU) rfl (fF (p8 rfl rfl) jN) jS
 ·have a:decide ((m6 m.natAbs:Int)=0)=false:=by rw [Sb];simp_all
  have l:decide ((b:Int)<=65536)=decide (eW m.natAbs<=65536):=by grind
  rw [if_neg p,<-l];cases g:decide ((b:Int)<=65536)
  ·exact jV [iS m,dF (dC .i64 e),dF (dC .i64 (b:Nat))] mix (F:= [⟨.bin .eql,s2 0,.int .i64 0,.bool false⟩,⟨.bin .leq,s0 2,.int .i64 65536,.bool false⟩]) (T:= [⟨194,[iP 0],.bool true⟩,⟨135,[sA 0],s0 2⟩]) (pats:= [dQ 0 1]) (res:= .bool false) (by kernel_rfl)
    (eZ (ud (BV rfl) (fun _=>rfl) a) (eZ (EX (dp rfl) (fun _=>rfl) g) jT)) (dh (di d (bN (jW rfl) db) pk) rfl (dh (di f (bN (eC rfl) db) (iQ rfl)) rfl jU)) rfl (fF (p8 rfl rfl) jN) jS
  ·cases h:decide (-65536<=e)
   ·exact jV [iS m,dF (dC .i64 e),dF (dC .i64 (b:Nat))] mix (F:= [⟨.bin .eql,s2 0,.int .i64 0,.bool false⟩,⟨.bin .leq,s0 2,.int .i64 65536,.bool true⟩,⟨.bin .geq,s0 1,.int .i64 (-65536),.bool false⟩]) (T:= [⟨194,[iP 0],.bool true⟩,⟨135,[sA 0],s0 2⟩]) (pats:= [dQ 0 1]) (res:= .bool false) (by kernel_rfl)
     (eZ (ud (BV rfl) (fun _=>rfl) a) (eZ (EX (dp rfl) (fun _=>rfl) g) (eZ (Sa (dp rfl) (fun _=>rfl) h) jT))) (dh (di d (bN (jW rfl) db) pk) rfl (dh (di f (bN (eC rfl) db) (iQ rfl)) rfl jU)) rfl (fF (p8 rfl rfl) jN) jS
   ·cases q:decide (e<=65536)
    ·exact jV [iS m,dF (dC .i64 e),dF (dC .i64 (b:Nat))] mix (F:= [⟨.bin .eql,s2 0,.int .i64 0,.bool false⟩,⟨.bin .leq,s0 2,.int .i64 65536,.bool true⟩,⟨.bin .geq,s0 1,.int .i64 (-65536),.bool true⟩,⟨.bin .leq,s0 1,.int .i64 65536,.bool false⟩]) (T:= [⟨194,[iP 0],.bool true⟩,⟨135,[sA 0],s0 2⟩]) (pats:= [dQ 0 1]) (res:= .bool false) (by kernel_rfl)
      (eZ (ud (BV rfl) (fun _=>rfl) a) (eZ (EX (dp rfl) (fun _=>rfl) g) (eZ (Sa (dp rfl) (fun _=>rfl) h) (eZ (EX (dp rfl) (fun _=>rfl) q) jT)))) (dh (di d (bN (jW rfl) db) pk) rfl (dh (di f (bN (eC rfl) db) (iQ rfl)) rfl jU)) rfl (fF (p8 rfl rfl) jN) jS
    ·cases u:decide (m.natAbs % 2=1)<;>rw [u] at o
     ·exact jV [iS m,dF (dC .i64 e),dF (dC .i64 (b:Nat))] mix (F:= [⟨.bin .eql,s2 0,.int .i64 0,.bool false⟩,⟨.bin .leq,s0 2,.int .i64 65536,.bool true⟩,⟨.bin .geq,s0 1,.int .i64 (-65536),.bool true⟩,⟨.bin .leq,s0 1,.int .i64 65536,.bool true⟩]) (T:= [⟨194,[iP 0],.bool true⟩,⟨135,[sA 0],s0 2⟩,⟨195,[sA 0,.int .i64 0],.bool false⟩]) (pats:= [dQ 0 1]) (res:= .bool false) (by kernel_rfl)
       (eZ (ud (BV rfl) (fun _=>rfl) a) (eZ (EX (dp rfl) (fun _=>rfl) g) (eZ (Sa (dp rfl) (fun _=>rfl) h) (eZ (EX (dp rfl) (fun _=>rfl) q) jT)))) (dh (di d (bN (jW rfl) db) pk) rfl (dh (di f (bN (eC rfl) db) (iQ rfl)) rfl (dh (di o (bN (eC rfl) (bN zf db)) pk) rfl jU))) rfl (fF (p8 rfl rfl) jN) jS
     ·exact jV [iS m,dF (dC .i64 e),dF (dC .i64 (b:Nat))] mix (F:= [⟨.bin .eql,s2 0,.int .i64 0,.bool false⟩,⟨.bin .leq,s0 2,.int .i64 65536,.bool true⟩,⟨.bin .geq,s0 1,.int .i64 (-65536),.bool true⟩,⟨.bin .leq,s0 1,.int .i64 65536,.bool true⟩]) (T:= [⟨194,[iP 0],.bool true⟩,⟨135,[sA 0],s0 2⟩,⟨195,[sA 0,.int .i64 0],.bool true⟩]) (pats:= [dQ 0 1]) (res:= .bool true) (by kernel_rfl)
       (eZ (ud (BV rfl) (fun _=>rfl) a) (eZ (EX (dp rfl) (fun _=>rfl) g) (eZ (Sa (dp rfl) (fun _=>rfl) h) (eZ (EX (dp rfl) (fun _=>rfl) q) jT)))) (dh (di d (bN (jW rfl) db) pk) rfl (dh (di f (bN (eC rfl) db) (iQ rfl)) rfl (dh (di o (bN (eC rfl) (bN zf db)) pk) rfl jU))) rfl (fF (p8 rfl rfl) jN) jS
end
end
section
open Go.RowKit Go.Ev
def aiu {n k:Nat} (d:n≠0) (h:n<2^k):qI n<k/\n/2^qI n≠0:=by
 obtain ⟨t,u,e⟩:=anP n d;have b:=aaa e;have l:0<2^t:=aM (by decide);have g:2^t<=n:=by grind
 refine ⟨by rw [b];exact (dB (a:=2) (by decide)).1 (bg g h),?_⟩;simp_all
def Dn (m e:Int):Int×Int×Int:=
 if e< -131072\/131072<e then (0,0,1) else if m=0 then (0,0,0) else
  if E1 (jB (decide (m<0)) (m.natAbs/2^qI m.natAbs)) (e+(qI m.natAbs:Nat))=true then (jB (decide (m<0)) (m.natAbs/2^qI m.natAbs),e+(qI m.natAbs:Nat),0) else (0,0,3)
def DB (k:Nat) (t:Int×Int×Int):Prop:=Bz k t.1/\ -65536<=t.2.1/\t.2.1<=65536/\(t.2.2=0\/t.1=0/\t.2.1=0)/\0<=t.2.2/\t.2.2<=3
def DB.none {k:Nat} {c:Int} (a:0<=c) (b:c<=3):DB k (0,0,c):=⟨aM (by decide),by simp_all,by simp_all,.inr ⟨rfl,rfl⟩,a,b⟩
def acg {m e:Int} (h:E1 m e=true): -65536<=e/\e<=65536:=by
 unfold E1 at h;grind
section
variable {i j k:Nat} {m e n f:Int}
def asK (l:Bz k m) (Q:k<=1000000): ∃t,DB k t/\t=Dn m e/\bH Tryz.prog bw 86 [dU m,bj (.int .i64 e)] (pF (i9 t.1 t.2.1) (bj (.int .i64 t.2.2))):=by
 refine ⟨Dn m e,?_⟩;unfold Dn;by_cases q:e< -131072
 ·rw [if_pos (.inl q)]
  refine ⟨DB.none (by decide) (by decide),rfl,?_⟩;have c1:decide (e< -131072)=true:=decide_eq_true q;exact jV [iS m,dF (dC .i64 e)] mix (F:= [⟨.bin .lss,s0 1,.int .i64 (-131072),.bool true⟩]) (T:= []) (pats:= [iP 0,s0 1]) (res:= .fm [dZ,.int .i64 1]) (by kernel_rfl)
   (eZ (BT (dp rfl) (fun _=>rfl) c1) jT) jU rfl (fF (kN rfl) (fF (iQ rfl) jN)) (EU Xm zf)
 ·have c1:decide (e< -131072)=false:=decide_eq_false q
  by_cases u:131072<e
  ·rw [if_pos (.inr u)]
   refine ⟨DB.none (by decide) (by decide),rfl,?_⟩;have d:decide (131072<e)=true:=decide_eq_true u;exact jV [iS m,dF (dC .i64 e)] mix (F:= [⟨.bin .lss,s0 1,.int .i64 (-131072),.bool false⟩,⟨.bin .gtr,s0 1,.int .i64 131072,.bool true⟩]) (T:= []) (pats:= [iP 0,s0 1]) (res:= .fm [dZ,.int .i64 1]) (by kernel_rfl)
    (eZ (BT (dp rfl) (fun _=>rfl) c1) (eZ (GL (dp rfl) (fun _=>rfl) d) jT)) jU rfl (fF (kN rfl) (fF (iQ rfl) jN)) (EU Xm zf)
  ·have d:decide (131072<e)=false:=decide_eq_false u
   rw [if_neg (by omega)];obtain ⟨s,P,o⟩:=ab1 l;by_cases E:m=0
   ·rw [if_pos E]
    refine ⟨DB.none (by decide) (by decide),rfl,?_⟩;have g:decide (s=0)=true:=decide_eq_true (by simp_all);exact jV [iS m,dF (dC .i64 e),dF (dC .i64 s)] mix (F:= [⟨.bin .lss,s0 1,.int .i64 (-131072),.bool false⟩,⟨.bin .gtr,s0 1,.int .i64 131072,.bool false⟩,⟨.bin .eql,s0 2,.int .i64 0,.bool true⟩]) (T:= [⟨134,[iP 0],s0 2⟩]) (pats:= [iP 0,s0 1]) (res:= .fm [dZ,.int .i64 0]) (by kernel_rfl)
     (eZ (BT (dp rfl) (fun _=>rfl) c1) (eZ (GL (dp rfl) (fun _=>rfl) d) (eZ (ud (dp rfl) (fun _=>rfl) g) jT))) (dh (di o (bN (jW rfl) db) (iQ rfl)) rfl jU) rfl (fF (kN rfl) (fF (iQ rfl) jN)) (EU Xm zf)
   ·rw [if_neg E]
    have g:decide (s=0)=false:=decide_eq_false (by simp_all);obtain ⟨O,y⟩:=aiu (n:=m.natAbs) (by omega) l;have p:=asJ l.abs;obtain ⟨t,A⟩:=pS (qI m.natAbs);rw [A] at O y p⊢;obtain ⟨a,N,J,C⟩:=ahT (s:=t) (z:=(t:Int)) l.abs rfl;obtain ⟨z,I,M,D⟩:=nR (b:=decide (m<0)) N;have h:=ait (e:=e+(t:Int)) I;rw [<-J,<-M];obtain ⟨x,H⟩:=pS (e+(t:Int));have G:IntKind.i64.wrap (e+(t:Int))=x:=by rw [<-H];exact aB _ (by omega)
    rw [H] at h⊢;cases B:E1 z x<;>rw [B] at h
    ·rw [if_neg (by decide)]
     refine ⟨DB.none (by decide) (by decide),rfl,?_⟩;exact jV [iS m,dF (dC .i64 e),dF (dC .i64 s),dF (dC .i64 (t:Nat)),nS a,iS z,dF (dC .i64 x)] mix (F:= [⟨.bin .lss,s0 1,.int .i64 (-131072),.bool false⟩,⟨.bin .gtr,s0 1,.int .i64 131072,.bool false⟩,⟨.bin .eql,s0 2,.int .i64 0,.bool false⟩,⟨.bin .add,s0 1,s0 3,s0 6⟩]) (T:= [⟨134,[iP 0],s0 2⟩,⟨140,[sA 0],s0 3⟩,⟨142,[sA 0,s0 3],sA 4⟩,⟨141,[s0 0,sA 4],iP 5⟩,⟨132,[dQ 5 6],.bool false⟩]) (pats:= [iP 0,s0 1]) (res:= .fm [dZ,.int .i64 3]) (by kernel_rfl)
      (eZ (BT (dp rfl) (fun _=>rfl) c1) (eZ (GL (dp rfl) (fun _=>rfl) d) (eZ (ud (dp rfl) (fun _=>rfl) g) (eZ (Oj rfl (dp rfl) (dp rfl) (dp rfl) G) jT)))) (dh (di o (bN (jW rfl) db) (iQ rfl)) rfl (dh (di p (bN (eC rfl) db) (iQ rfl)) rfl (dh (di C (bN (eC rfl) (bN (tA rfl) db)) (j' rfl)) rfl (dh (di D (bN (tA (x:= .bool (decide (m<0))) rfl) (bN (eC rfl) db)) (kN rfl)) rfl (dh (di h (bN (nT rfl rfl) db) pk) rfl jU))))) rfl (fF (kN rfl) (fF (iQ rfl) jN)) (EU Xm zf)
    ·rw [if_pos rfl]
     refine ⟨⟨I,(acg B).1,(acg B).2,(.inl rfl),by simp_all,by simp_all⟩,rfl,?_⟩;exact jV [iS m,dF (dC .i64 e),dF (dC .i64 s),dF (dC .i64 (t:Nat)),nS a,iS z,dF (dC .i64 x)] mix (F:= [⟨.bin .lss,s0 1,.int .i64 (-131072),.bool false⟩,⟨.bin .gtr,s0 1,.int .i64 131072,.bool false⟩,⟨.bin .eql,s0 2,.int .i64 0,.bool false⟩,⟨.bin .add,s0 1,s0 3,s0 6⟩]) (T:= [⟨134,[iP 0],s0 2⟩,⟨140,[sA 0],s0 3⟩,⟨142,[sA 0,s0 3],sA 4⟩,⟨141,[s0 0,sA 4],iP 5⟩,⟨132,[dQ 5 6],.bool true⟩]) (pats:= [iP 0,s0 1]) (res:= .fm [dQ 5 6,.int .i64 0]) (by kernel_rfl)
      (eZ (BT (dp rfl) (fun _=>rfl) c1) (eZ (GL (dp rfl) (fun _=>rfl) d) (eZ (ud (dp rfl) (fun _=>rfl) g) (eZ (Oj rfl (dp rfl) (dp rfl) (dp rfl) G) jT)))) (dh (di o (bN (jW rfl) db) (iQ rfl)) rfl (dh (di p (bN (eC rfl) db) (iQ rfl)) rfl (dh (di C (bN (eC rfl) (bN (tA rfl) db)) (j' rfl)) rfl (dh (di D (bN (tA (x:= .bool (decide (m<0))) rfl) (bN (eC rfl) db)) (kN rfl)) rfl (dh (di h (bN (nT rfl rfl) db) pk) rfl jU))))) rfl (fF (kN rfl) (fF (iQ rfl) jN)) (EU (nT rfl rfl) zf)
end
end
section
open Go.RowKit Go.Ev
def EB (e:Int):Prop:= -65536<=e/\e<=65536
section
variable {i j k l:Nat} {m e n f:Int}
def OB (g:Bz k m) (d:k<=20000000:=by omega): ∃c:Int,c=m.sign/\bH Tryz.prog bw 79 [i9 m e] (bj (.int .i64 c)):=by
 obtain ⟨c,b,a⟩:=ab1 g d;refine ⟨c,b,?_⟩;exact jV [iS m,dF (dC .i64 e),dF (dC .i64 c)] mix (F:= []) (T:= [⟨134,[iP 0],s0 2⟩]) (pats:= [dQ 0 1]) (res:=s0 2) (by kernel_rfl)
  jT (dh (di a (bN (jW rfl) db) (iQ rfl)) rfl jU) rfl (fF (p8 rfl rfl) jN) (tA rfl)
def asL (g:Bz k m) (d:k<=20000000:=by omega): ∃z,Bz k z/\z= -m/\bH Tryz.prog bw 133 [i9 m e] (i9 z e):=by
 obtain ⟨z,h,b,a⟩:=BW g d;refine ⟨z,h,b,?_⟩;exact jV [iS m,dF (dC .i64 e),iS z] mix (F:= []) (T:= [⟨155,[iP 0],iP 2⟩]) (pats:= [dQ 0 1]) (res:=dQ 2 1) (by kernel_rfl)
  jT (dh (di a (bN (jW rfl) db) (kN rfl)) rfl jU) rfl (fF (p8 rfl rfl) jN) (nT rfl rfl)
end
end
section
open Go.RowKit Go.Ev
section
variable {i j k l:Nat} {m e n f:Int}
def aiv {C:Nat} (E:131072<=C) (D:C<=200000) (p:Bz i m) (q:Bz j n) (h:EB e) (o:EB f) (hi:i<=400000:=by omega) (G:j<=400000:=by omega): ∃x y,Bz (i+C) x/\Bz (j+C) y/\x=m*2^(e-min e f).toNat/\y=n*2^(f-min e f).toNat/\
 bH Tryz.prog bw 81 [i9 m e,i9 n f] (EV (dU x) (dU y) (bj (.int .i64 (min e f)))):=by
 unfold EB at h o;obtain ⟨x,t,d,a⟩:=AM (s:=(e-min e f).toNat) (c:=C) (z:=e-min e f) p;obtain ⟨y,u,g,b⟩:=AM (s:=(f-min e f).toNat) (c:=C) (z:=f-min e f) q;refine ⟨x,y,t,u,d,g,?_⟩;have A:IntKind.i64.wrap (e-min e f)=e-min e f:=aB _ (by omega);have B:IntKind.i64.wrap (f-min e f)=f-min e f:=aB _ (by omega);exact jV [iS m,dF (dC .i64 e),iS n,dF (dC .i64 f),dF (dC .i64 (min e f)),dF (dC .i64 (e-min e f)),dF (dC .i64 (f-min e f)),iS x,iS y] mix (F:= [⟨.mx false,s0 1,s0 3,s0 4⟩,⟨.bin .sub,s0 1,s0 4,s0 5⟩,⟨.bin .sub,s0 3,s0 4,s0 6⟩]) (T:= [⟨136,[iP 0,s0 5],iP 7⟩,⟨136,[iP 2,s0 6],iP 8⟩]) (pats:= [dQ 0 1,dQ 2 3]) (res:= .fm [iP 7,iP 8,s0 4]) (by kernel_rfl)
  (eZ (ahE rfl (dp rfl) (dp rfl) (dp rfl) rfl) (eZ (abR rfl (dp rfl) (dp rfl) (dp rfl) A) (eZ (abR rfl (dp rfl) (dp rfl) (dp rfl) B) jT))) (dh (di a (bN (jW rfl) (bN (tA rfl) db)) (kN rfl)) rfl (dh (di b (bN (jW rfl) (bN (tA rfl) db)) (kN rfl)) rfl jU)) rfl (fF (p8 rfl rfl) (fF (p8 rfl rfl) jN)) (EW (jW rfl) (jW rfl) (tA rfl))
end
end
section
open Go.RowKit Go.Ev
def kO (m e:Int):Int:=if m=0 then 0 else (eW m.natAbs:Nat)+e
def ug (m e n f:Int):Int:=
 if m.sign≠n.sign then (if m.sign<n.sign then-1 else 1) else if m.sign=0 then 0 else
  if kO m e≠kO n f then (if kO m e<kO n f then-m.sign else m.sign) else wJ (m*2^(e-min e f).toNat) (n*2^(f-min e f).toNat)
section
variable {i j k l:Nat} {m e n f:Int}
def ach (g:Bz k m) (o:EB e) (u:k<=1000000:=by omega): ∃t,t=kO m e/\bH Tryz.prog bw 80 [i9 m e] (bj (.int .i64 t)):=by
 obtain ⟨c,q,a⟩:=OB (e:=e) g;refine ⟨kO m e,rfl,?_⟩;unfold kO;by_cases d:m=0
 ·rw [if_pos d]
  have c1:decide (c=0)=true:=decide_eq_true (by simp_all);exact jV [iS m,dF (dC .i64 e),dF (dC .i64 c)] mix (F:= [⟨.bin .eql,s0 2,.int .i64 0,.bool true⟩]) (T:= [⟨79,[dQ 0 1],s0 2⟩]) (pats:= [dQ 0 1]) (res:= .int .i64 0) (by kernel_rfl)
   (eZ (ud (dp rfl) (fun _=>rfl) c1) jT) (dh (di a (bN (nT rfl rfl) db) (iQ rfl)) rfl jU) rfl (fF (p8 rfl rfl) jN) zf
 ·rw [if_neg d]
  have c1:decide (c=0)=false:=decide_eq_false (by simp_all);obtain ⟨b,s,eb,h⟩:=GN g.abs;rw [<-eb];have p:IntKind.i64.wrap ((b:Int)+e)=(b:Int)+e:=aB _ (by unfold EB at o;omega);exact jV [iS m,dF (dC .i64 e),dF (dC .i64 c),dF (dC .i64 (b:Nat)),dF (dC .i64 ((b:Int)+e))] mix (F:= [⟨.bin .eql,s0 2,.int .i64 0,.bool false⟩,⟨.bin .add,s0 3,s0 1,s0 4⟩]) (T:= [⟨79,[dQ 0 1],s0 2⟩,⟨135,[sA 0],s0 3⟩]) (pats:= [dQ 0 1]) (res:=s0 4) (by kernel_rfl)
   (eZ (ud (dp rfl) (fun _=>rfl) c1) (eZ (Oj rfl (dp rfl) (dp rfl) (dp rfl) p) jT)) (dh (di a (bN (nT rfl rfl) db) (iQ rfl)) rfl (dh (di h (bN (eC rfl) db) (iQ rfl)) rfl jU)) rfl (fF (p8 rfl rfl) jN) (tA rfl)
def asM (H:Bz i m) (I:Bz j n) (J:EB e) (M:EB f) (hi:i<=400000:=by omega) (Z:j<=400000:=by omega) {C:Nat} (Y:131072<=C:=by omega) (N:C<=200000:=by omega): ∃c,c=ug m e n f/\bH Tryz.prog bw 46 [i9 m e,i9 n f] (bj (.int .i64 c)):=by
 obtain ⟨s,S,a⟩:=OB (e:=e) H;obtain ⟨t,U,b⟩:=OB (e:=f) I;refine ⟨ug m e n f,rfl,?_⟩;unfold ug;rw [<-S,<-U];by_cases h:s≠t
 ·rw [if_pos h]
  have c1:decide (s≠t)=true:=decide_eq_true h;by_cases o:s<t
  ·rw [if_pos o]
   have B:decide (s<t)=true:=decide_eq_true o;exact jV [iS m,dF (dC .i64 e),iS n,dF (dC .i64 f),dF (dC .i64 s),dF (dC .i64 t)] mix (F:= [⟨.bin .neq,s0 4,s0 5,.bool true⟩,⟨.bin .lss,s0 4,s0 5,.bool true⟩]) (T:= [⟨79,[dQ 0 1],s0 4⟩,⟨79,[dQ 2 3],s0 5⟩]) (pats:= [dQ 0 1,dQ 2 3]) (res:= .int .i64 (-1)) (by kernel_rfl)
    (eZ (BU (dp rfl) (dp rfl) c1) (eZ (BT (dp rfl) (dp rfl) B) jT)) (dh (di a (bN (nT rfl rfl) db) (iQ rfl)) rfl (dh (di b (bN (nT rfl rfl) db) (iQ rfl)) rfl jU)) rfl (fF (p8 rfl rfl) (fF (p8 rfl rfl) jN)) zf
  ·rw [if_neg o]
   have B:decide (s<t)=false:=decide_eq_false o;exact jV [iS m,dF (dC .i64 e),iS n,dF (dC .i64 f),dF (dC .i64 s),dF (dC .i64 t)] mix (F:= [⟨.bin .neq,s0 4,s0 5,.bool true⟩,⟨.bin .lss,s0 4,s0 5,.bool false⟩]) (T:= [⟨79,[dQ 0 1],s0 4⟩,⟨79,[dQ 2 3],s0 5⟩]) (pats:= [dQ 0 1,dQ 2 3]) (res:= .int .i64 1) (by kernel_rfl)
    (eZ (BU (dp rfl) (dp rfl) c1) (eZ (BT (dp rfl) (dp rfl) B) jT)) (dh (di a (bN (nT rfl rfl) db) (iQ rfl)) rfl (dh (di b (bN (nT rfl rfl) db) (iQ rfl)) rfl jU)) rfl (fF (p8 rfl rfl) (fF (p8 rfl rfl) jN)) zf
 ·rw [if_neg h]
  have c1:decide (s≠t)=false:=decide_eq_false h;by_cases u:s=0
  ·rw [if_pos u]
   have d:decide (s=0)=true:=decide_eq_true u;exact jV [iS m,dF (dC .i64 e),iS n,dF (dC .i64 f),dF (dC .i64 s),dF (dC .i64 t)] mix (F:= [⟨.bin .neq,s0 4,s0 5,.bool false⟩,⟨.bin .eql,s0 4,.int .i64 0,.bool true⟩]) (T:= [⟨79,[dQ 0 1],s0 4⟩,⟨79,[dQ 2 3],s0 5⟩]) (pats:= [dQ 0 1,dQ 2 3]) (res:= .int .i64 0) (by kernel_rfl)
    (eZ (BU (dp rfl) (dp rfl) c1) (eZ (ud (dp rfl) (fun _=>rfl) d) jT)) (dh (di a (bN (nT rfl rfl) db) (iQ rfl)) rfl (dh (di b (bN (nT rfl rfl) db) (iQ rfl)) rfl jU)) rfl (fF (p8 rfl rfl) (fF (p8 rfl rfl) jN)) zf
  ·rw [if_neg u]
   have d:decide (s=0)=false:=decide_eq_false u;obtain ⟨p,R,E⟩:=ach H J;obtain ⟨q,eq,G⟩:=ach I M;rw [<-R,<-eq];by_cases z:p≠q
   ·rw [if_pos z]
    have g:decide (p≠q)=true:=decide_eq_true z;have nh: -1<=s/\s<=1:=by grind
    have hw:IntKind.i64.wrap (-s)= -s:=aB _ (by omega);by_cases A:p<q
    ·rw [if_pos A]
     have D:decide (p<q)=true:=decide_eq_true A;exact jV [iS m,dF (dC .i64 e),iS n,dF (dC .i64 f),dF (dC .i64 s),dF (dC .i64 t),dF (dC .i64 p),dF (dC .i64 q),dF (dC .i64 (-s))] mix (F:= [⟨.bin .neq,s0 4,s0 5,.bool false⟩,⟨.bin .eql,s0 4,.int .i64 0,.bool false⟩,⟨.bin .neq,s0 6,s0 7,.bool true⟩,⟨.bin .lss,s0 6,s0 7,.bool true⟩,⟨.neg,s0 4,s0 4,s0 8⟩]) (T:= [⟨79,[dQ 0 1],s0 4⟩,⟨79,[dQ 2 3],s0 5⟩,⟨80,[dQ 0 1],s0 6⟩,⟨80,[dQ 2 3],s0 7⟩]) (pats:= [dQ 0 1,dQ 2 3]) (res:=s0 8) (by kernel_rfl)
      (eZ (BU (dp rfl) (dp rfl) c1) (eZ (ud (dp rfl) (fun _=>rfl) d) (eZ (BU (dp rfl) (dp rfl) g) (eZ (BT (dp rfl) (dp rfl) D) (eZ (WI rfl (dp rfl) (dp rfl) hw) jT))))) (dh (di a (bN (nT rfl rfl) db) (iQ rfl)) rfl (dh (di b (bN (nT rfl rfl) db) (iQ rfl)) rfl (dh (di E (bN (nT rfl rfl) db) (iQ rfl)) rfl (dh (di G (bN (nT rfl rfl) db) (iQ rfl)) rfl jU)))) rfl (fF (p8 rfl rfl) (fF (p8 rfl rfl) jN)) (tA rfl)
    ·rw [if_neg A]
     have D:decide (p<q)=false:=decide_eq_false A;exact jV [iS m,dF (dC .i64 e),iS n,dF (dC .i64 f),dF (dC .i64 s),dF (dC .i64 t),dF (dC .i64 p),dF (dC .i64 q),dF (dC .i64 (-s))] mix (F:= [⟨.bin .neq,s0 4,s0 5,.bool false⟩,⟨.bin .eql,s0 4,.int .i64 0,.bool false⟩,⟨.bin .neq,s0 6,s0 7,.bool true⟩,⟨.bin .lss,s0 6,s0 7,.bool false⟩]) (T:= [⟨79,[dQ 0 1],s0 4⟩,⟨79,[dQ 2 3],s0 5⟩,⟨80,[dQ 0 1],s0 6⟩,⟨80,[dQ 2 3],s0 7⟩]) (pats:= [dQ 0 1,dQ 2 3]) (res:=s0 4) (by kernel_rfl)
      (eZ (BU (dp rfl) (dp rfl) c1) (eZ (ud (dp rfl) (fun _=>rfl) d) (eZ (BU (dp rfl) (dp rfl) g) (eZ (BT (dp rfl) (dp rfl) D) jT)))) (dh (di a (bN (nT rfl rfl) db) (iQ rfl)) rfl (dh (di b (bN (nT rfl rfl) db) (iQ rfl)) rfl (dh (di E (bN (nT rfl rfl) db) (iQ rfl)) rfl (dh (di G (bN (nT rfl rfl) db) (iQ rfl)) rfl jU)))) rfl (fF (p8 rfl rfl) (fF (p8 rfl rfl) jN)) (tA rfl)
   ·rw [if_neg z]
    have g:decide (p≠q)=false:=decide_eq_false z;obtain ⟨x,y,hx,hy,W,X,O⟩:=aiv Y N H I J M hi Z;obtain ⟨c,Q,P⟩:=I8 (x:=x) (y:=y);rw [<-W,<-X,<-Q];exact jV [iS m,dF (dC .i64 e),iS n,dF (dC .i64 f),dF (dC .i64 s),dF (dC .i64 t),dF (dC .i64 p),dF (dC .i64 q),dF (dC .i64 (-s)),iS x,iS y,dF (dC .i64 (min e f)),dF (dC .i64 c)] mix (F:= [⟨.bin .neq,s0 4,s0 5,.bool false⟩,⟨.bin .eql,s0 4,.int .i64 0,.bool false⟩,⟨.bin .neq,s0 6,s0 7,.bool false⟩]) (T:= [⟨79,[dQ 0 1],s0 4⟩,⟨79,[dQ 2 3],s0 5⟩,⟨80,[dQ 0 1],s0 6⟩,⟨80,[dQ 2 3],s0 7⟩,⟨81,[dQ 0 1,dQ 2 3],.fm [iP 9,iP 10,s0 11]⟩,⟨82,[iP 9,iP 10],s0 12⟩]) (pats:= [dQ 0 1,dQ 2 3]) (res:=s0 12) (by kernel_rfl)
     (eZ (BU (dp rfl) (dp rfl) c1) (eZ (ud (dp rfl) (fun _=>rfl) d) (eZ (BU (dp rfl) (dp rfl) g) jT))) (dh (di a (bN (nT rfl rfl) db) (iQ rfl)) rfl (dh (di b (bN (nT rfl rfl) db) (iQ rfl)) rfl (dh (di E (bN (nT rfl rfl) db) (iQ rfl)) rfl (dh (di G (bN (nT rfl rfl) db) (iQ rfl)) rfl (dh (di O (bN (nT rfl rfl) (bN (nT rfl rfl) db)) (BS (kN rfl) (kN rfl) (iQ rfl))) rfl (dh (di P (bN (jW rfl) (bN (jW rfl) db)) (iQ rfl)) rfl jU)))))) rfl (fF (p8 rfl rfl) (fF (p8 rfl rfl) jN)) (tA rfl)
end
end
end Go.Proofs.YthleenhngcdgkaaGreatDoor
