/- refineCopies_proved. -/
import Derived.Test.YthleenhngcdgkaaGreatDoorPmac
import Derived.Test.YthleenhngcdgkaaGreatDoorPmad
import Derived.Deep.RegionHeld3
import Derived.Lib.EndianBits
set_option maxRecDepth 100000
set_option maxHeartbeats 16000000
set_option linter.all false
noncomputable section
namespace Go.Proofs.YthleenhngcdgkaaGreatDoor
section
open Go.Proofs.Tryz Go.RowKit
def KR (l:List Nat):Nat:=if cS l=0 then 0 else 32*(cS l-1)+Lib.bitLen (el l (cS l-1))
def bitLenAux_le: ∀f x,Lib.bitLenAux f x<=f
 |0,_=>by simp [Lib.bitLenAux]
 |f+1,x=>by
  have a:=bitLenAux_le f (x/2);unfold Lib.bitLenAux;grind
def anV {x:Nat} (h:x<4294967296):Lib.bitLen x<=32:=by
 have a:=Lib.bitLenAux_fuel 32 x h 64 (by omega);have b:=bitLenAux_le 32 x;have d:Lib.bitLen x=Lib.bitLenAux 64 x:=rfl;omega
section
variable {w:World}
def anW {v:Value} {l:List Nat} (h:jj w v l) (J:l.length<=100000000):Calls prog 135 #[v] w (wG (.int .i64 (KR l)) w):=by
 have m:=ae (yF h);have F:=vg l;have z:=ae h.2;obtain ⟨a,c,x,rfl,s,hc,E,b⟩:=h.form;have u:=ae b;have t:=ae s;unfold maxLen at E;clear h b s;obtain ⟨n,f⟩:=pS (cS l);rw [f] at m F;by_cases q:n=0
 ·have j:=ae (show KR l=0 by unfold KR;rw [if_pos (by omega)])
  subst q;clear f;go_enter func135,ntmps135;go_wp2_with fail;refine m.out.mono ?_;rintro e i ⟨rfl,rfl⟩;go_wp2_with fail;go_ret;exact zW (by rw [j.out];rfl)
 ·obtain ⟨k,rfl⟩: ∃k,n=k+1:=⟨n-1,by omega⟩
  have C:k<l.length:=by omega
  obtain rfl:=t.out (by omega);have H:=u.out k C;obtain ⟨d,g⟩:=pS (l.getD k 0);have bd:d<4294967296:=by rw [<-g];exact nf z.out k
  have j:=ae (show KR l=32*k+Lib.bitLen d by
   unfold KR;rw [if_neg (by omega),f,dS,show el l k=d from g])
  rw [g] at H;have A:=ae (fun i=>afg (d:Int) i (by omega) (by omega));have G:=anV bd;obtain ⟨y,o⟩:=pS (Lib.bitLen d);rw [o] at G;have p:=ae o;have D:(((k+1:Nat):Int)==0)=false:=by rw [cO];intro e;rw [beq_iff_eq] at e;omega
  have B:((k:Int)+1==0)=false:=by rw [cO];intro e;rw [beq_iff_eq] at e;omega
  clear o;have I:((k+1:Nat):Int)-1=(k:Int):=by omega
  have M:(0:Int)<=k:=by omega
  have N:(k:Int)<l.length:=by omega
  clear g f q;go_enter func135,ntmps135;go_wp2_with fail;refine m.out.mono ?_;rintro e i ⟨rfl,rfl⟩;go_wp2_with fail;refine (A.out _).mono ?_;rintro e i ⟨rfl,rfl⟩;rw [show ((d:Int)).toNat=d by omega,p.out];go_wp2_with fail;go_ret;exact zW (by rw [j.out,p.out];first|rfl|(congr 1;omega))
def aab (x:Addr):x.add 0=x:=by
 unfold Addr.add;split<;>simp_all
def anX {v:Value} {l:List Nat} (h:jj w v l) (u:l.length<=100000000):Calls prog 195 #[v,.int .i64 0] w (wG (.bool (decide (val l % 2=1))) w):=by
 obtain ⟨a,c,x,rfl,k,hc,q,b⟩:=h.form;unfold maxLen at q;by_cases e:0<l.length
 ·obtain rfl:=k e
  have s:=b 0 e;obtain ⟨f,g⟩:=pS (l.getD 0 0);rw [g,aab] at s;have t:f<4294967296:=by rw [<-g];exact nf h.2 0
  have i:=ae (show val l % 2=f % 2 by
   have:val l=el l 0+4294967296*val (l.drop 1):=by
    cases l with
    |nil=>simp at e
    |cons y l=>rfl
   rw [this,show el l 0=f from g];omega)
  have j:(0:Int)<(l.length:Int):=by omega
  obtain ⟨d,m⟩:=pS (f % 2);have p:bits .and .u32 (f:Int) 1=(d:Int):=by
   have:=bits_mask .u32 32 (by decide) wraps_u32 1 (by decide) (f:Int) (by omega) (by omega);rw [show ((2:Int)^1-1)=1 by decide] at this;rw [this];omega
  have o:=ae m;clear h k b g e m;go_enter func195,ntmps195;go_wp2_with fail;go_ret;exact zW (by rw [i.out,o.out];show Value.bool ((d:Int)==1)=Value.bool (decide (d=1));congr 1;rw [Bool.eq_iff_iff,beq_iff_eq,decide_eq_true_iff];omega)
 ·have i:=ae (show val l % 2=0 by
   cases l with
   |nil=>rfl
   |cons y l=>simp at e)
  have j: ¬(0:Int)<(l.length:Int):=by omega
  clear h k b e;go_enter func195,ntmps195;go_wp2_with fail;go_ret;exact zW (by rw [i.out];rfl)
def anZ {l:List Nat} (g:kT l) {n q r:Nat} (p:n/32=q) (s:n % 32=r) (t:q<l.length) {o:List Nat} (k:o.length=q+1) (e: ∀j,j<q->el o j=el l j) (f:el o q=el l q % 2^r):val o=val l % 2^n:=by
 have b:r<32:=by omega
 obtain ⟨m,h⟩: ∃m,l.length=q+1+m:=⟨l.length-(q+1),by omega⟩;have d:val l=bK (el l) q+4294967296^q*(el l q+4294967296*bK (fun i=>el l (i+(q+1))) m):=by
  rw [lM l,h,Vd,zY,fA,bL,bD];omega
 have a:=qG (fun j=>yG g j) q;rw [lM o,k,zY,Br e,f,QF n,p,s,Nat.mod_mul,d,ij,dV a,gX _ _ (ae3 q),eK a,dr];congr 2;rw [<-QE b,bD,ij]
def an0 {v:Value} {l:List Nat} (h:jj w v l) (hn:l.length<=100000000) (n:Nat) (oW:n<=1048576):Calls prog 145 #[v,.int .i64 (n:Int)] w (rE (val l % 2^n) w):=by
 have N:=ae (af h h.2);have O:=ae (Z3 (w:=w) n oW);obtain ⟨a,c,x,rfl,F,hc,hm,b⟩:=h.form;unfold maxLen at hm;obtain ⟨q,Z⟩:=pS (n/32);obtain ⟨r,hr⟩:=pS (n % 32);have uB:(n:Int).tdiv 32=(q:Int):=by rw [fP (by omega)];omega
 have jP:(n:Int).tmod 32=(r:Int):=by rw [eH (by omega)];omega
 have Et:r<32:=by omega
 have KQ:(r:Int) % 18446744073709551616=(r:Int):=by omega
 have hqb:q<=32768:=by omega
 have A:=ae (af Z hr);clear Z hr;by_cases p:l.length<=q
 ·have Z4:(l.length:Int)<=(q:Int):=by omega
  have B:=ae (xM h (by omega));have C:=ae (show val l % 2^n=val l by
   rw [QF n,A.out.1];refine dV (ax ?_ (fY _ (aM (by decide))));rw [lM];exact ax (qG (fun j=>yG N.out.2 j) _) (aF (by decide) p))
  clear h F b;go_enter func145,ntmps145;go_wp2_with fail;refine O.out.mono ?_;rintro e I ⟨rfl,rfl⟩;go_wp2_with fail;refine B.out.mono ?_;rintro e I ⟨v',rfl,X,o⟩;have M:=ae (af X o);clear X o;go_wp2_with fail;go_ret;exact ⟨_,rfl,by rw [C.out];exact M.out.1,M.out.2⟩
 ·have Z4: ¬(l.length:Int)<=(q:Int):=by omega
  obtain rfl:=F (by omega);have T:jj w (.slice (some x) (q+1) c) (l.take (q+1)):=h.take (by omega);have S:(l.take (q+1)).length=q+1:=by rw [cY,fe (by omega)]
  have B:=ae (ae0 T (by omega));have xT:(q:Int)+1<=(c:Int):=by omega
  have hq3:(0:Int)<=(q:Int)+1:=by omega
  have f:=ae (af S (show q<l.length by omega));have e1:((q:Int)+1).toNat=q+1:=by omega
  clear h F b T S;go_enter func145,ntmps145;go_wp2_with fail;refine O.out.mono ?_;rintro e I ⟨rfl,rfl⟩;go_wp2_with fail;refine B.out.mono ?_;rintro e w1 ⟨v',rfl,s,o⟩;have mH:=s;obtain ⟨⟨G,QM⟩,jH⟩:=mH;rcases QM with ⟨_,h0⟩|⟨g,cap,cur,rfl,W,_,E,h4,_⟩
  ·exfalso;rw [f.out.1] at h0;omega
  rw [f.out.1] at s E⊢;have t:=s.1;rw [f.out.1] at t;have l9:=t.frozenAt q;obtain ⟨i,D⟩:=pS (el (l.take (q+1)) q);have q1:w1.cell? ⟨g,q,none⟩=some (.int .u32 (i:Int)):=by rw [<-D];exact rC t (rD (by rw [f.out.1];omega))
  have Q:=ae D;have HO:=ae (af s o);have hqq:(q:Int)<(q:Int)+1:=by omega
  have hq0:(0:Int)<=(q:Int):=by omega
  have Y:w.heap.size<=g:=W;have HG:=ae Y;have y:=ae E;clear s o G jH W E h4 t D Y;obtain ⟨d,u⟩:=pS (i % 2^r);have Z8:=ae9 Et;have H:0<2^r:=aM (by decide);have bx:i<4294967296:=by rw [<-Q.out];exact yG HO.out.1.2 q
  have m:((2:Int)^r-1) % 4294967296=2^r-1:=by
   have:(2:Int)^r=((2^r:Nat):Int):=(gw 2 r).symm;rw [this];omega
  have anY:bits .and .u32 (i:Int) ((2^r-1) % 4294967296)=(d:Int):=by
   rw [m,bits_mask .u32 32 (by decide) wraps_u32 r (by omega) (i:Int) (by omega) (by omega),<-u];exact (kJ i (2^r)).symm
  have U:d<4294967296:=by rw [<-u];exact bg (Nat.mod_le _ _) bx
  have P:=ae (HO.out.1.set (k:=q) U);have C:=ae (show val ((l.take (q+1)).set q d)=val l % 2^n from anZ N.out.2 A.out.1 A.out.2 f.out.2 (by rw [bu];exact f.out.1)
   (fun j hj=>by rw [uA d (by rw [f.out.1];omega),if_neg (by omega)];unfold el;rw [aD,aD,List.getElem?_take,if_pos (by omega)])
   (by
    rw [uA d (by rw [f.out.1];omega),if_pos rfl,<-u,<-Q.out];congr 1;unfold el;rw [aD,aD,List.getElem?_take,if_pos (by omega)]))
  have R:=ae (yF P.out.sl);have tY:=ae P.out.trim;have J:=vg ((l.take (q+1)).set q d);rw [bu,f.out.1] at J;obtain ⟨z,hz⟩:=pS (cS ((l.take (q+1)).set q d));rw [hz] at R tY J;have b1:(0:Int)<=z:=by omega
  have b2:(z:Int)<=(cap:Int):=by have:=y.out;omega
  clear u Z8 H m U hz;go_wp2_with fail;refine R.out.mono ?_;rintro e I ⟨rfl,rfl⟩;go_wp2_with fail;go_ret;exact ⟨_,rfl,C.out▸tY.out.base (ak _),HO.out.2.setCell HG.out _⟩
end
end
section
open Go.RowKit
def KT {w:World} {t:Nat} {c:Array Value} {T:Nat} {a:Nat×Nat} (h:w.heap[t]? =some (.cells c T a)) (i:Nat):w.cell? ⟨t,i,none⟩=c[i]? :=by
 simp [World.cell?,h]
def Vl {w:World} {t:Nat} {c:Array Value} {T:Nat} (h:w.heap[t]? =some (.cells c T (0,0))) (i:Nat):w.frozen? ⟨t,i,none⟩=false:=by
 simp [World.frozen?,h]
def aac {w:World} {base:Nat} {v:Value} {n t:Nat} {c:Array Value} {T:TypeId} {b:Nat×Nat} (h:nr w base v n) (p:w.heap[t]? =some (.cells c T b)) (o:T≠193) (i:Nat) (u:Value):nr (w.setCell ⟨t,i,none⟩ u) base v n:=by
 obtain ⟨l,⟨⟨d,a⟩,f⟩,j⟩:=h;refine ⟨l,⟨⟨d,?_⟩,f⟩,j⟩;rcases a with a|⟨g,cap,cur,rfl,k,m,r⟩
 ·exact .inl a
 ·refine .inr ⟨g,cap,cur,rfl,k,?_,r⟩
  rw [iJ _ _ _ _ (fun e=> ?_)]
  all_goals grind
def afi {w:World} {t:Nat} {c:Array Value} {T:TypeId} {a:Nat×Nat} (h:w.heap[t]? =some (.cells c T a)) (i:Nat) (u:Value):
 (w.setCell ⟨t,i,none⟩ u).heap[t]? =some (.cells (c.setIfInBounds i u) T a):=by
 simp [World.setCell,eL,h]
def KU {l:List Nat} (h:0<cS l:=by omega):4294967296^(cS l-1)<=val l:=by
 obtain ⟨k,a⟩: ∃k,cS l=k+1:=⟨cS l-1,by omega⟩;have b:=Qz l h;rw [a,dS] at b;rw [xN l,a,dS];show _<=bK (el l) k+4294967296^k*el l k;have d:4294967296^k*1<=4294967296^k*el l k:=aR _ (by omega);omega
def an1 {w w':World} {base:Nat} {e:TypeId} {b n:Nat} {v:Value} {xs:List Value} (h:w.ownsRow base e b v n xs) (i:Below w.heap.size w w'):w'.ownsRow base e b v n xs:=by
 refine ⟨h.1,?_⟩;rcases h.2 with d|⟨g,cap,cur,rfl,f,a,r⟩
 ·exact .inl d
 ·exact .inr ⟨g,cap,cur,rfl,f,(i.block g (au.1 a).1).trans a,r⟩
def nr.below {w w':World} {base:Nat} {v:Value} {n:Nat} (h:nr w base v n) (e:Below w.heap.size w w'):nr w' base v n:=by
 obtain ⟨l,⟨a,b⟩,d⟩:=h;exact ⟨l,⟨an1 a e,b⟩,d⟩
def aad {l:List Nat} (d:cS l=l.length) (e:val l=0):l= []:=by
 by_cases a:l.length=0
 ·simp_all
 ·have b:=KU (l:=l)
  simp_all
def aae (neg:Bool) (n:Nat) (w:World) (e:Ending) (w':World):Prop:= ∃v,e= .returned (.agg #[.bool (neg&&decide (n≠0)),v])/\nr w' w.heap.size v n/\Below w.heap.size w w'
section
variable {w:World}
def an2 (neg:Bool) {v:Value} {l:List Nat} (h:jj w v l) (N:l.length<=100000000):Calls Tryz.prog 141 #[.bool neg,v] w (aae neg (val l) w):=by
 have F:Below w.heap.size w (w.alloc (.cells #[.bool false,.slice none 0 0] 37)):=(aG _ _).alloc (ak _) _;have p:=ae (xM (h.below F) (by omega));obtain ⟨n,H⟩:=pS (val l);rw [H] at p⊢;clear h F H N;go_enter Tryz.func141,Tryz.ntmps141;go_wp2_with fail;refine p.out.mono ?_;rintro e o ⟨R,rfl,E,m⟩;have D:=ae E;have J:=ae m;obtain ⟨a,I,G,B⟩:=E;obtain ⟨g,c1,S,rfl,M,_⟩:=I.sl.form;have f:o.heap[w.heap.size]? =some (.cells #[.bool false,.slice none 0 0] 37 (0,0)):=(m.block _ (by simp)).trans (heap_alloc_new w _);have s:o.cell? ⟨w.heap.size,0,none⟩=some (.bool false):=(KT f 0).trans rfl;have u:o.cell? ⟨w.heap.size,1,none⟩=some (.slice none 0 0):=(KT f 1).trans rfl;have P:=Vl f 0;have Q:=Vl f 1;have O:=ae f;have i:n=0/\a.length=0\/n≠0/\0<a.length:=by
  by_cases d:n=0
  ·exact .inl ⟨d,by rw [aad G (B.trans d)];rfl⟩
  ·refine .inr ⟨d,?_⟩
   cases a with
   |nil=>exact absurd B.symm d
   |cons y t=>simp
 have C: ∀b:Bool,b=(neg&&decide (n≠0))->aae neg n w (.returned (.agg #[.bool b,.slice g a.length c1])) ((o.setCell ⟨w.heap.size,0,none⟩ (.bool b)).setCell ⟨w.heap.size,1,none⟩ (.slice g a.length c1)):=fun b A=>
  ⟨_,by rw [A],(aac (aac D.out f (by decide) 0 _) (afi f 0 _) (by decide) 1 _).base (by simp),
   ((((aG w.heap.size w).alloc (ak _) _).trans (m.mono (by simp))).setCell (ak _) _).setCell (ak _) _⟩
 have q:=ae C;clear m I G B M f C p D J;rcases i with ⟨d,k⟩|⟨d,k⟩
 ·have x: ¬(0:Int)<a.length:=by omega
  have z:decide (0<a.length)=false:=decide_eq_false (by omega);have j:=ae (show false=(neg&&decide (n≠0)) by simp [d]);clear d k;cases neg
  all_goals
   go_wp2_with fail;refine bodyPost_ret (v:= .agg #[.bool false,.slice g a.length c1]) (by simp [results,Tryz.results141,go_sem,s,u]) rfl ?_;exact q.out _ j.out
 ·have x:(0:Int)<a.length:=by omega
  have z:decide (0<a.length)=true:=decide_eq_true k;have j:=ae (show neg=(neg&&decide (n≠0)) by simp [d]);clear d k;cases neg
  all_goals
   go_wp2_with fail
  ·refine bodyPost_ret (v:= .agg #[.bool false,.slice g a.length c1]) (by simp [results,Tryz.results141,go_sem,s,u]) rfl ?_
   exact q.out _ j.out
  ·refine bodyPost_ret (v:= .agg #[.bool true,.slice g a.length c1]) (by simp [results,Tryz.results141,go_sem,s,u]) rfl ?_
   exact q.out _ j.out
end
end
section
open Go.RowKit
def Vn:Nat:=1000000
structure Sm (n:Nat):Prop where
 lt:n<4294967296^Vn
def Bu {n k:Nat} (h:n<2^k) (a:k<=32000000:=by omega):Sm n:=by
 refine ⟨?_⟩;rw [show (4294967296:Nat)=2^32 by decide,<-fE];exact ax h (aF (by decide) (by unfold Vn;omega))
def F0 {n m:Nat} (h:Sm m) (a:n<=m):Sm n:=⟨bg a h.lt⟩
def an3 {l:List Nat} (f:cS l=l.length) (h:Sm (val l)):l.length<=1000000:=by
 by_cases g:l.length=0
 ·omega
 ·have b:=KU (l:=l)
  rw [f] at b;have d:4294967296^(l.length-1)<4294967296^Vn:=bg b h.lt;have e:=(dB (a:=4294967296) (by omega)).1 d;unfold Vn at e;omega
def eD.lim {w:World} {v:Value} {n:Nat} (h:eD w v n) (e:Sm n): ∃l,jj w v l/\cS l=l.length/\val l=n/\l.length<=1000000:=by
 obtain ⟨l,d,a,b⟩:=h;exact ⟨l,d,a,b,an3 a (b▸e)⟩
def Ew (w:World) (x:Value) (z:Int):Prop:= ∃v,x= .agg #[.bool (decide (z<0)),v]/\eD w v z.natAbs
def Ex (w:World) (base:Nat) (x:Value) (z:Int):Prop:= ∃v,x= .agg #[.bool (decide (z<0)),v]/\nr w base v z.natAbs
def F1 (z:Int) (w:World) (e:Ending) (w':World):Prop:= ∃x,e= .returned x/\Ex w' w.heap.size x z/\Below w.heap.size w w'
def Ex.base {w:World} {base base':Nat} {x:Value} {z:Int} (h:Ex w base x z) (a:base'<=base):Ex w base' x z:=by
 obtain ⟨v,e,h⟩:=h;exact ⟨v,e,h.base a⟩
def afj {w:World} {base:Nat} {x:Value} {z:Int} {t:Nat} {c:Array Value} {T:TypeId} {a:Nat×Nat} (h:Ex w base x z) (d:w.heap[t]? =some (.cells c T a)) (b:T≠193) (i:Nat) (u:Value):Ex (w.setCell ⟨t,i,none⟩ u) base x z:=by
 obtain ⟨v,e,h⟩:=h;exact ⟨v,e,aac h d b i u⟩
def jB (neg:Bool) (n:Nat):Int:=if neg then-(n:Int) else n
def an4 {neg:Bool} {n:Nat} {w w':World} {e:Ending} (h:aae neg n w e w'):F1 (jB neg n) w e w':=by
 obtain ⟨v,rfl,b,a⟩:=h;refine ⟨_,rfl,⟨v,?_,?_⟩,a⟩
 ·congr 2
  unfold jB;cases neg
  ·simp
  ·simp
   grind
 ·unfold jB
  grind
def afk (z:Int):jB (decide (z<0)) z.natAbs=z:=by
 unfold jB
 all_goals grind
section
variable {w:World}
def F2 (neg:Bool) {v:Value} {n:Nat} (h:eD w v n) (f:Sm n):Calls Tryz.prog 141 #[.bool neg,v] w (F1 (jB neg n) w):=by
 obtain ⟨l,a,g,b,i⟩:=h.lim f;exact (an2 neg a (by omega)).mono fun e j d=>an4 (by rw [<-b];exact d)
def Ac {w:World} {v:Value} {n:Nat} (h:eD w v n): ∃a k c,v= .slice a k c:=by
 obtain ⟨l,b,_⟩:=h;obtain ⟨a,c,_,e,_⟩:=b.form;simp_all
def aaf (w:World) (b:Bool) (v:Value):(w.alloc (.cells #[.bool b,v] 37)).cell? ⟨w.heap.size,0,none⟩=some (.bool b)/\(w.alloc (.cells #[.bool b,v] 37)).cell? ⟨w.heap.size,1,none⟩=some v:=
 ⟨(KT (heap_alloc_new w _) 0).trans rfl,(KT (heap_alloc_new w _) 1).trans rfl⟩
def eW (n:Nat):Nat:=if n=0 then 0 else Nat.log2 n+1
def an5:eW 0=0:=rfl
def an6 {n b:Nat} (d:2^b<=n) (e:n<2^(b+1)):eW n=b+1:=by
 have a:n≠0:=by omega
 unfold eW;rw [if_neg a];have f:=(Nat.le_log2 a).2 d;have g:=(pK a).2 e;omega
def afl {n:Nat} (h:n≠0:=by omega): ∃b,eW n=b+1/\2^b<=n/\n<2^(b+1):=by
 refine ⟨Nat.log2 n,by unfold eW;simp_all,(Nat.le_log2 h).1 (ak _),(pK h).1 (by omega)⟩
def afm: ∀f x,0<x->x<2^f-> ∃b,Lib.bitLenAux f x=b+1/\2^b<=x/\x<2^(b+1)
 |0,x,h,a=>by omega
 |f+1,x,h,a=>by
  by_cases d:x=1
  ·subst d
   refine ⟨0,?_,by decide,by decide⟩;unfold Lib.bitLenAux;cases f with
   |zero=>rfl
   |succ f=>rfl
  ·obtain ⟨b,e,g,i⟩:=afm f (x/2) (by omega) (by omega)
   refine ⟨b+1,?_,by omega,by omega⟩;unfold Lib.bitLenAux;grind
def afn {x:Nat} (h:0<x) (a:x<4294967296): ∃b,Lib.bitLen x=b+1/\2^b<=x/\x<2^(b+1):=
 afm 64 x h (ax a (by decide))
def an7 {l:List Nat} (f:kT l):KR l=eW (val l):=by
 unfold KR;split
 ·rename_i a
  rw [xN,a];rfl
 ·rename_i a
  obtain ⟨k,d⟩: ∃k,cS l=k+1:=⟨cS l-1,by omega⟩;have h:=Qz l (by omega);rw [d,dS] at h⊢;obtain ⟨b,e,j,m⟩:=afn (gp h) (yG f k);have o:=qG (yG f) k;have i:val l=bK (el l) k+4294967296^k*el l k:=by rw [xN,d,zY]
  have g:(2:Nat)^(32*k)=4294967296^k:=by rw [fE]
  rw [e];refine (an6 (b:=32*k+b) ?_ ?_).symm
  ·rw [bC,g,i]
   have:=aR (4294967296^k) j;omega
  ·rw [ft,bC,g,i]
   have:=aR (4294967296^k) (show el l k+1<=2^(b+1) from m);grind
end
end
section
open Go.Proofs.Tryz Go.RowKit
section
variable {w:World} {u v:Value} {a b n:Nat}
def Vo (h:eD w v a) (f:Sm a):Calls prog 135 #[v] w (wG (.int .i64 (eW a:Nat)) w):=by
 obtain ⟨l,d,g,e,i⟩:=h.lim f;have:=anW d (by omega);rw [an7 d.2,e] at this;exact this
def an8 (h:eD w v a) (g:Sm a) (f:bw w):Calls prog 140 #[v] w (wG (.int .i64 (qI a:Nat)) w):=by
 obtain ⟨l,d,i,e,j⟩:=h.lim g;have:=anU d (by omega) f;rw [e] at this;exact this
def an9 (h:eD w v a) (f:Sm a):Calls prog 195 #[v,.int .i64 0] w (wG (.bool (decide (a % 2=1))) w):=by
 obtain ⟨l,d,g,e,i⟩:=h.lim f;have:=anX d (by omega);rw [e] at this;exact this
def aag (h:eD w u a) (h':eD w v b):Calls prog 137 #[u,v] w (Quiet (.int .i64 (tW a b)) w):=by
 obtain ⟨l,f,j,g⟩:=h;obtain ⟨m,d,i,e⟩:=h';have:=Vb f d;rw [g,e] at this;exact this
def Vp (h:eD w u a) (h':eD w v b) (j:Sm a) (d:Sm b):Calls prog 143 #[u,v] w (rE (a+b) w):=by
 obtain ⟨l,g,p,i,q⟩:=h.lim j;obtain ⟨m,e,k,f,o⟩:=h'.lim d;have:=anu g e;rw [i,f] at this;exact this
def aah (h:eD w u a) (h':eD w v b) (j:Sm a) (d:Sm b):Calls prog 144 #[u,v] w (afe a b w):=by
 obtain ⟨l,g,p,i,q⟩:=h.lim j;obtain ⟨m,e,k,f,o⟩:=h'.lim d;have:=anL g e (by omega) (by omega);rw [i,f] at this;exact this
def aai (h:eD w v a) (g:Sm a) (f:n<=1048576:=by omega):Calls prog 153 #[v,.int .i64 (n:Int)] w (rE (a*2^n) w):=by
 obtain ⟨l,d,i,e,j⟩:=h.lim g;have:=Z6 d (by omega) n f;rw [e] at this;exact this
def afo (h:eD w v a) (g:Sm a) (f:n<=1048576):Calls prog 142 #[v,.int .i64 (n:Int)] w (rE (a/2^n) w):=by
 obtain ⟨l,d,i,e,j⟩:=h.lim g;have:=ae7 d (by omega) n f;rw [e] at this;exact this
def afp (h:eD w v a) (g:Sm a) (f:n<=1048576):Calls prog 145 #[v,.int .i64 (n:Int)] w (rE (a % 2^n) w):=by
 obtain ⟨l,d,i,e,j⟩:=h.lim g;have:=an0 d (by omega) n f;rw [e] at this;exact this
def aoa (h:eD w v a):Calls prog 255 #[v] w (wG (.bool true) w):=by
 obtain ⟨l,d,e,f⟩:=h;have:=ano d;rw [decide_eq_true e] at this;exact this
def eD.form (h:eD w v a): ∃x k c,v= .slice x k c/\(k:Int)<=9223372036854775807/\(a=0↔k=0):=by
 obtain ⟨l,f,g,d⟩:=h;obtain ⟨x,c,_,e,_,_,i,_⟩:=f.form;refine ⟨x,l.length,c,e,by unfold maxLen at i;omega,fun e=> ?_,fun e=> ?_⟩
 ·rw [aad g (d.trans e)];rfl
 ·rw [<-d,b7 e];rfl
def Bv (w:World) (o:Obj):Below w.heap.size w (w.alloc o):=(aG _ w).alloc (ak _) o
def aob {x:Value} {z:Int} (h:Ew w x z) (q:Sm z.natAbs):Calls prog 134 #[x] w (Quiet (.int .i64 z.sign) w):=by
 obtain ⟨v,rfl,l⟩:=h;have d:=ae (fun o=>Vo (l.below (Bv w o)) q);have i:=ae (fun o=>Bv w o);obtain ⟨k,f⟩:=pS (eW z.natAbs);rw [f] at d;clear l;by_cases p:z=0
 ·subst p
  obtain rfl:k=0:=by rw [<-f];rfl
  clear f;go_enter func134,ntmps134;go_wp2_with fail;refine (d.out _).mono ?_;rintro e m ⟨rfl,rfl⟩;go_wp2_with fail;go_ret;exact ⟨rfl,i.out _⟩
 ·have t:((k:Int)==0)=false:=by
   have:k≠0:=fun e=>by
    obtain ⟨b,s,_⟩:=afl (n:=z.natAbs);omega
   simpa using this
  clear f;by_cases j:z<0
  ·have g:=ae (show z.sign= -1 from cF j)
   rw [decide_eq_true j] at*;go_enter func134,ntmps134;go_wp2_with fail;refine (d.out _).mono ?_;rintro e m ⟨rfl,rfl⟩;go_wp2_with fail;go_ret;exact ⟨by rw [g.out];rfl,i.out _⟩
  ·have g:=ae (show z.sign=1 from cL (by omega))
   rw [decide_eq_false j] at*;go_enter func134,ntmps134;go_wp2_with fail;refine (d.out _).mono ?_;rintro e m ⟨rfl,rfl⟩;go_wp2_with fail;go_ret;exact ⟨by rw [g.out];rfl,i.out _⟩
end
end
section
open Go.RowKit
def aoc (z:Int):jB (!decide (z<0)) z.natAbs= -z:=by
 unfold jB
 all_goals grind
def aod (z:Int) (p:Nat):jB (decide (z<0)) (z.natAbs*p)=z*(p:Int):=by
 unfold jB;grind
def afq (n:Nat):((2^n:Nat):Int)=2^n:=gw 2 n
def F3 (w:World) (t:Nat):Prop:=w.heap[t]? =some (.cells #[.bool false,.slice none 0 0] 37 (0,0))
def F3.below {w w':World} {t:Nat} (h:F3 w t) (a:Below w.heap.size w w'):F3 w' t:=(a.block t (au.1 h).1).trans h
def F3.facts {w:World} {t:Nat} (h:F3 w t):w.cell? ⟨t,0,none⟩=some (.bool false)/\w.cell? ⟨t,1,none⟩=some (.slice none 0 0)/\w.frozen? ⟨t,0,none⟩=false/\w.frozen? ⟨t,1,none⟩=false/\t<w.heap.size:=
 ⟨(KT h 0).trans rfl,(KT h 1).trans rfl,Vl h 0,Vl h 1,(au.1 h).1⟩
def F4 {w a:World} {t base:Nat} {b:Bool} {v:Value} {z:Int} (f:Below w.heap.size w a) (e:w.heap.size<=t) (d:F3 a t) (g:Ex a base (.agg #[.bool b,v]) z) (h:w.heap.size<=base):
 F1 z w (.returned (.agg #[.bool b,v])) ((a.setCell ⟨t,0,none⟩ (.bool b)).setCell ⟨t,1,none⟩ v):=
 ⟨_,rfl,(afj (afj g d (by decide) 0 _) (afi d 0 _) (by decide) 1 _).base h,(f.setCell e _).setCell e _⟩
def Ex.form {w:World} {base:Nat} {x:Value} {z:Int} (h:Ex w base x z): ∃b a k c,x= .agg #[.bool b,.slice a k c]/\b=decide (z<0):=by
 obtain ⟨v,rfl,d⟩:=h;obtain ⟨a,k,c,rfl⟩:=Ac d.r;simp_all
def boxes {w:World} {s:Bool} {v:Value} {n:Nat} (h:eD w v n):
 Below w.heap.size w ((w.alloc (.cells #[.bool s,v] 37)).alloc (.cells #[.bool false,.slice none 0 0] 37))/\F3 ((w.alloc (.cells #[.bool s,v] 37)).alloc (.cells #[.bool false,.slice none 0 0] 37)) (w.heap.size+1)/\
  eD ((w.alloc (.cells #[.bool s,v] 37)).alloc (.cells #[.bool false,.slice none 0 0] 37)) v n/\
  ((w.alloc (.cells #[.bool s,v] 37)).alloc (.cells #[.bool false,.slice none 0 0] 37)).cell? ⟨w.heap.size,0,none⟩=some (.bool s)/\((w.alloc (.cells #[.bool s,v] 37)).alloc (.cells #[.bool false,.slice none 0 0] 37)).cell? ⟨w.heap.size,1,none⟩=some v:=by
 have b:(w.alloc (.cells #[.bool s,v] 37)).heap.size=w.heap.size+1:=by simp
 have b1:=Bv w (.cells #[.bool s,v] 37);have a:=Bv (w.alloc (.cells #[.bool s,v] 37)) (.cells #[.bool false,.slice none 0 0] 37);have d:=b1.trans (a.mono (by omega));obtain ⟨c0,c1⟩:=aaf w s v;refine ⟨d,?_,h.below d,(a.cell (p:=⟨w.heap.size,0,none⟩) (by rw [b];simp)).trans c0,(a.cell (p:=⟨w.heap.size,1,none⟩) (by rw [b];simp)).trans c1⟩;have:=heap_alloc_new (w.alloc (.cells #[.bool s,v] 37)) (.cells #[.bool false,.slice none 0 0] 37);rw [b] at this;exact this
section
variable {w:World}
def NJ {w:World} {p q:Addr} (h:q.block≠p.block) (u:Value):(w.setCell p u).cell? q=w.cell? q:=by
 unfold World.cell?;rw [iJ _ _ _ _ h]
def aoe {x:Value} {z:Int} (h:Ew w x z) (u:Sm z.natAbs):Calls Tryz.prog 155 #[x] w (F1 (-z) w):=by
 obtain ⟨v,rfl,g⟩:=h;obtain ⟨a,k,c,rfl⟩:=Ac g;obtain ⟨s,j⟩:=pS (decide (z<0));rw [j];have m:=ae j;have b:=ae (boxes (s:=s) g);clear g j;go_enter Tryz.func155,Tryz.ntmps155;go_wp2_with fail;refine (F2 (!s) b.out.2.2.1 u).mono ?_;rintro e E ⟨F,rfl,f,d⟩;obtain ⟨b1,o,y,c1,rfl,p⟩:=f.form;have l:=ae (af f d);have i:=b.out.2.1.below d;have A:=ae i;obtain ⟨q,t,B,C,D⟩:=i.facts;clear f d i p;go_wp2_with fail;refine bodyPost_ret (v:= .agg #[.bool b1,.slice o y c1]) (by simp [results,Tryz.results155,go_sem,q,t]) rfl ?_;exact F4 (b.out.1.trans (l.out.2.mono b.out.1.size)) (by omega) A.out ((by rw [<-m.out];exact aoc z:jB (!s) z.natAbs= -z)▸l.out.1) b.out.1.size
def aof {x:Value} {z:Int} {n:Nat} (h:Ew w x z) (R:Sm z.natAbs) (Q:n<=1048576) (P:Sm (z.natAbs*2^n)):Calls Tryz.prog 136 #[x,.int .i64 (n:Int)] w (F1 (z*2^n) w):=by
 obtain ⟨v,rfl,y⟩:=h;obtain ⟨a,k,c,rfl⟩:=Ac y;obtain ⟨s,B⟩:=pS (decide (z<0));rw [B];have J:=ae B;have g:=boxes (s:=s) y;clear y B;go_enter Tryz.func136,Tryz.ntmps136;go_wp2_with fail;have C:=g.2.2.2.1;have E:=g.2.2.2.2;generalize (w.alloc (.cells #[.bool s,.slice a k c] 37)).alloc (.cells #[.bool false,.slice none 0 0] 37)=d at g C E⊢;have m:=ae g;have Z:=g.2.1.facts.2.2.2.2;have H:w.heap.size<d.heap.size:=by omega
 clear g;have F: ∀b,Below d.heap.size d b->b.cell? ⟨w.heap.size,0,none⟩=some (.bool s)/\b.cell? ⟨w.heap.size,1,none⟩=some (.slice a k c):=fun b f=>⟨(f.cell (p:=⟨w.heap.size,0,none⟩) H).trans C,(f.cell (p:=⟨w.heap.size,1,none⟩) H).trans E⟩
 have l:=ae F;have G: ∀(b:World) (i:Nat) (u:Value),(b.cell? ⟨w.heap.size,0,none⟩=some (.bool s)/\b.cell? ⟨w.heap.size,1,none⟩=some (.slice a k c))->((b.setCell ⟨w.heap.size+1,i,none⟩ u).cell? ⟨w.heap.size,0,none⟩=some (.bool s)/\(b.setCell ⟨w.heap.size+1,i,none⟩ u).cell? ⟨w.heap.size,1,none⟩=some (.slice a k c)):=fun b i u h=>⟨(NJ (by simp) _).trans h.1,(NJ (by simp) _).trans h.2⟩
 have D:=ae G;have t:=ae (aG d.heap.size d).drew;clear F G
 go_region_held3 (fun b=>b.cell? ⟨w.heap.size,0,none⟩=some (.bool s)/\b.cell? ⟨w.heap.size,1,none⟩=some (.slice a k c))
  ((first|exact D.out _ _ _ (D.out _ _ _ (l.out _ q))|exact l.out _ q|exact l.out _ o|exact l.out _ t.out|exact l.out _ (aG _ _)))
  (first
   |(go_at_call 153;refine (aai (m.out.2.2.1.below (by first|exact t.out|exact aG _ _)) R Q).mono ?_;rintro e W ⟨x1,rfl,j,f⟩;have o:Below d.heap.size d W:=t.out.trans f;have T:=ae j;clear j f)
   |(go_at_call 141;refine (F2 s T.out.r P).mono ?_;rintro e X ⟨x2,rfl,j,f⟩;have q:Below d.heap.size d X:=o.trans (f.mono o.size);obtain ⟨b1,M,S,c1,rfl,Y⟩:=j.form;clear Y;have I:=ae (j.base (base':=w.heap.size) (by have:=m.out.1.size;have:=o.size;omega));have A:=m.out.2.1.below q;have U:=ae A;obtain ⟨N,O,f0,f1,ht⟩:=A.facts;clear j f A))
 all_goals
  go_wp2_with fail;refine bodyPost_ret (v:= .agg #[.bool b1,.slice M S c1]) (by simp [results,Tryz.results136,go_sem,N,O]) rfl ?_;exact F4 (m.out.1.trans (q.mono m.out.1.size)) (by omega) U.out ((by rw [<-J.out];rw [aod z (2^n),afq]:jB s (z.natAbs*2^n)=z*2^n)▸I.out) (ak _)
end
end
section
open Go.Proofs.Tryz Go.RowKit
def wJ (a b:Int):Int:=if a<b then-1 else if b<a then 1 else 0
def aog {a b:Int} (d:0<=a) (e:0<=b):tW a.natAbs b.natAbs=wJ a b:=by
 unfold tW wJ;omega
def aoh {a b:Int} (d:a<0) (e:b<0):tW b.natAbs a.natAbs=wJ a b:=by
 unfold tW wJ;omega
def aoi {a b:Int} (h:a<b):wJ a b= -1:=if_pos h
def aoj {a b:Int} (h:b<a):wJ a b=1:=by unfold wJ;rw [if_neg (by omega),if_pos h]
section
variable {w:World}
def aok {x:Value} {z:Int} (h:Ew w x z):Calls prog 194 #[x] w (Quiet (.bool true) w):=by
 obtain ⟨v,rfl,d⟩:=h;have f:=ae (fun o=>aoa (d.below (Bv w o)));have g:=ae (fun o=>Bv w o);obtain ⟨a,k,c,rfl,m,b⟩:=d.form;clear d;by_cases i:z<0
 ·have j:(0:Int)<(k:Int):=by
   have:k≠0:=fun e=>by have:=b.2 e;omega
   omega
  rw [decide_eq_true i];clear b;go_enter func194,ntmps194;go_wp2_with fail;refine (f.out _).mono ?_;rintro e l ⟨rfl,rfl⟩;go_wp2_with fail;go_ret;exact ⟨rfl,g.out _⟩
 ·rw [decide_eq_false i]
  clear b;by_cases j:(0:Int)<(k:Int)
  all_goals
   go_enter func194,ntmps194;go_wp2_with fail;refine (f.out _).mono ?_;rintro e l ⟨rfl,rfl⟩;go_wp2_with fail;go_ret;exact ⟨rfl,g.out _⟩
def aol (n:Nat) (z:n<9223372036854775808):Calls prog 37 #[.int .i64 (n:Int)] w (F1 (n:Int) w):=by
 have k:=Bv w (.cells #[.bool false,.slice none 0 0] 37);have l:F3 (w.alloc (.cells #[.bool false,.slice none 0 0] 37)) w.heap.size:=heap_alloc_new w _;have a:=ae (af k l);have HO:=ae (fun q:World=>Nz (w:=q) n (by omega));have x: ¬(n:Int)<0:=by omega
 have y:(n:Int) % 18446744073709551616=(n:Int):=by omega
 clear k l;go_enter func37,ntmps37;go_wp2_with fail;refine (HO.out _).mono ?_;rintro e s ⟨B,rfl,d,b⟩;obtain ⟨h,j,c1,rfl⟩:=Ac d.r;have i:Ex s (w.alloc (.cells #[.bool false,.slice none 0 0] 37)).heap.size (.agg #[.bool false,.slice h j c1]) (n:Int):=⟨_,by rw [decide_eq_false (by omega)],by simpa using d⟩;have g:=ae (af i b);have f:=a.out.2.below b;have p:=ae f;obtain ⟨m,o,t,u,A⟩:=f.facts;clear d b f i;go_wp2_with fail;refine bodyPost_ret (v:= .agg #[.bool false,.slice h j c1]) (by simp [results,results37,go_sem,m,o]) rfl ?_;exact F4 (a.out.1.trans (g.out.2.mono a.out.1.size)) (ak _) p.out g.out.1 a.out.1.size
def aom {x y:Value} {p q:Int} (h:Ew w x p) (h':Ew w y q):Calls prog 82 #[x,y] w (Quiet (.int .i64 (wJ p q)) w):=by
 obtain ⟨v,rfl,s⟩:=h;obtain ⟨u,rfl,m⟩:=h';have g: ∀o b,Below w.heap.size w ((w.alloc o).alloc b):=fun o b=>(Bv w o).trans ((Bv _ b).mono (by simp))
 have z:=ae (fun o b=>aag (s.below (g o b)) (m.below (g o b)));have A:=ae (fun o b=>aag (m.below (g o b)) (s.below (g o b)));obtain ⟨a,k,c,rfl⟩:=Ac s;obtain ⟨C,E,D,rfl⟩:=Ac m;have f:=ae g;clear s m g;by_cases j:p<0<;>by_cases l:q<0
 ·have d:=ae (aoh j l)
  rw [decide_eq_true j,decide_eq_true l];go_enter func82,ntmps82;go_wp2_with fail;refine (A.out _ _).mono ?_;rintro e B ⟨rfl,i⟩;have t:=ae i;clear i;go_wp2_with fail;go_ret;exact ⟨by rw [<-d.out];rfl,(f.out _ _).trans (t.out.mono (f.out _ _).size)⟩
 ·have d:=ae (aoi (show p<q by omega))
  rw [decide_eq_true j,decide_eq_false l];go_enter func82,ntmps82;go_wp2_with fail;go_ret;exact ⟨by rw [d.out];rfl,f.out _ _⟩
 ·have d:=ae (aoj (show q<p by omega))
  rw [decide_eq_false j,decide_eq_true l];go_enter func82,ntmps82;go_wp2_with fail;go_ret;exact ⟨by rw [d.out];rfl,f.out _ _⟩
 ·have d:=ae (aog (show 0<=p by omega) (show 0<=q by omega))
  rw [decide_eq_false j,decide_eq_false l];go_enter func82,ntmps82;go_wp2_with fail;refine (z.out _ _).mono ?_;rintro e B ⟨rfl,i⟩;have t:=ae i;clear i;go_wp2_with fail;go_ret;exact ⟨by rw [<-d.out];rfl,(f.out _ _).trans (t.out.mono (f.out _ _).size)⟩
end
end
section
open Go.RowKit
def aon {n:Nat} (h:Sm n) (k:Nat):Sm (n/k):=F0 h (bW _ _)
def aoo {z:Int} (h: ¬z<0) (n:Nat):jB false (z.natAbs/2^n)=z/2^n:=by
 unfold jB;grind
def neg_ediv {a b:Nat} (f:0<b): -(a:Int)/(b:Int)= -((if a % b=0 then a/b else a/b+1:Nat):Int):=by
 have d:=du a b;have g:=cZ a f;split
 ·rename_i h
  rw [h,dt] at d
  conv=>lhs;rw [<-d]
  rw [eA,<-Int.mul_neg,Int.mul_ediv_cancel_left _ (by omega)]
 ·rename_i h
  have e: -(a:Int)=(b:Int)*(-((a/b:Nat):Int)-1)+((b:Int)-((a % b:Nat):Int)):=by
   grind
  rw [e,Int.mul_add_ediv_left _ _ (by omega),Int.ediv_eq_zero_of_lt (by omega) (by omega)];omega
def afr {z:Int} (h:z<0) (n:Nat):jB true (if z.natAbs % 2^n=0 then z.natAbs/2^n else z.natAbs/2^n+1)=z/2^n:=by
 unfold jB;rw [if_pos rfl,<-neg_ediv (aM (by decide)),afq];grind
section
variable {w:World}
def aop {x:Value} {z:Int} {n:Nat} (h:Ew w x z) (T:Sm z.natAbs) (nh:Sm (z.natAbs+1)) (hn:n<=1048576):Calls Tryz.prog 91 #[x,.int .i64 (n:Int)] w (F1 (z/2^n) w):=by
 obtain ⟨v,rfl,U⟩:=h;obtain ⟨a,k,c,rfl⟩:=Ac U;obtain ⟨s,xU⟩:=pS (decide (z<0));rw [xU];have N:=ae xU;have NL:=ae (Bu (n:=1) (k:=1) (by decide) (by decide));have O:=ae (aon T (2^n));have Vq:=ae (F0 (n:=z.natAbs/2^n+1) nh (dI (bW _ _)));have S:=boxes (s:=s) U;have Ad:=ae T;clear U xU T nh;go_enter Tryz.func91,Tryz.ntmps91;go_wp2_with fail;generalize (w.alloc (.cells #[.bool s,.slice a k c] 37)).alloc (.cells #[.bool false,.slice none 0 0] 37)=F at S⊢;have d:=ae S;clear S;have H:=ae (fun C (b:Below F.heap.size F C)=>af ((b.cell (p:=⟨w.heap.size,0,none⟩) (by have:=d.out.2.1.facts.2.2.2.2;simp;omega)).trans d.out.2.2.2.1) ((b.cell (p:=⟨w.heap.size,1,none⟩) (by have:=d.out.2.1.facts.2.2.2.2;simp;omega)).trans d.out.2.2.2.2));have HN:=ae (fun C (b:Below F.heap.size F C)=>d.out.2.2.1.below b);refine (afo d.out.2.2.1 Ad.out hn).mono ?_;rintro e w1 ⟨v1,rfl,f,b⟩;obtain ⟨a1,k1,c1,rfl⟩:=Ac f.r;have j:=H.out _ b;have l:=ae (af f b);have m:=j.1;have D:=j.2;have E:w.heap.size<w1.heap.size:=aj w1 _ m;clear f b j;cases s
 ·go_wp2_with fail
  refine (F2 false l.out.1.r O.out).mono ?_;rintro e w2 ⟨x2,rfl,f,b⟩;obtain ⟨b2,a2,X,c2,rfl,dz⟩:=f.form;have g:=ae (af f (l.out.2.trans (b.mono l.out.2.size)));have i:=d.out.2.1.below g.out.2;have B:=ae i;obtain ⟨t,u,f0,f1,ht⟩:=i.facts;clear f b i dz;go_wp2_with fail;refine bodyPost_ret (v:= .agg #[.bool b2,.slice a2 X c2]) (by simp [results,Tryz.results91,go_sem,t,u]) rfl ?_;have y: ¬z<0:=of_decide_eq_false N.out;exact F4 (d.out.1.trans (g.out.2.mono d.out.1.size)) (by omega) B.out ((aoo y n)▸g.out.1) (by have:=d.out.1.size;have:=l.out.2.size;omega)
 ·go_wp2_with fail
  refine (afp (HN.out _ l.out.2) Ad.out hn).mono ?_;rintro e w2 ⟨v2,rfl,f,b⟩;obtain ⟨a2,X,c2,rfl,KL,qK⟩:=f.r.form;have g:=ae (af (l.out.1.below b) (l.out.2.trans (b.mono l.out.2.size)));have j:=H.out _ g.out.2;clear m D E;have m:=j.1;have D:=j.2;have E:w.heap.size<w2.heap.size:=aj w2 _ m;have q:=ae qK;clear f b j qK;by_cases hl:(0:Int)<(X:Int)
  ·have I:=ae (show¬z.natAbs % 2^n=0 from fun e=>by have:=q.out.1 e;omega)
   have HO:=ae (fun C:World=>Nz (w:=C) 1 (by decide));go_wp2_with fail;refine (HO.out _).mono ?_;rintro e w3 ⟨v3,rfl,nL,Z⟩;have W:=ae (af nL (g.out.2.trans (Z.mono g.out.2.size)));have J:=ae (g.out.1.below Z);clear nL Z;go_wp2_with fail;refine (Vp J.out.r W.out.1.r O.out NL.out).mono ?_;rintro e w4 ⟨v4,rfl,mV,pA⟩;obtain ⟨a4,k4,c4,rfl⟩:=Ac mV.r;have A:=ae (af mV (W.out.2.trans (pA.mono W.out.2.size)));have j:=H.out _ A.out.2;clear m D E;have m:=j.1;have D:=j.2;have E:w.heap.size<w4.heap.size:=aj w4 _ m;clear mV pA j;go_wp2_with fail;refine (F2 true A.out.1.r Vq.out).mono ?_;rintro e w5 ⟨x5,rfl,f,b⟩;obtain ⟨Q,P,Y,R,rfl,G⟩:=f.form;have o:=ae (af f (A.out.2.trans (b.mono A.out.2.size)));have i:=d.out.2.1.below o.out.2;have B:=ae i;obtain ⟨t,u,f0,f1,ht⟩:=i.facts;have M:=ae (af d.out.1.size A.out.2.size);clear f b i G;go_wp2_with fail;refine bodyPost_ret (v:= .agg #[.bool Q,.slice P Y R]) (by simp [results,Tryz.results91,go_sem,t,u]) rfl ?_;have y:z<0:=of_decide_eq_true N.out;exact F4 (d.out.1.trans (o.out.2.mono d.out.1.size)) (by omega) B.out ((by have:=afr y n;rw [if_neg I.out] at this;exact this:jB true (z.natAbs/2^n+1)=z/2^n)▸o.out.1) (by have:=M.out;omega)
  ·have I:=ae (show z.natAbs % 2^n=0 from q.out.2 (by omega))
   go_wp2_with fail;refine (F2 true g.out.1.r O.out).mono ?_;rintro e w5 ⟨x5,rfl,f,b⟩;obtain ⟨Q,P,Y,R,rfl,G⟩:=f.form;have o:=ae (af f (g.out.2.trans (b.mono g.out.2.size)));have i:=d.out.2.1.below o.out.2;have B:=ae i;obtain ⟨t,u,f0,f1,ht⟩:=i.facts;have M:=ae (af d.out.1.size g.out.2.size);clear f b i G;go_wp2_with fail;refine bodyPost_ret (v:= .agg #[.bool Q,.slice P Y R]) (by simp [results,Tryz.results91,go_sem,t,u]) rfl ?_;have y:z<0:=of_decide_eq_true N.out;exact F4 (d.out.1.trans (o.out.2.mono d.out.1.size)) (by omega) B.out ((by have:=afr y n;rw [if_pos I.out] at this;exact this:jB true (z.natAbs/2^n)=z/2^n)▸o.out.1) (by have:=M.out;omega)
end
end
section
open Go.RowKit
def KY (w:World) (s s':Bool) (v u:Value):World:=((w.alloc (.cells #[.bool s,v] 37)).alloc (.cells #[.bool s',u] 37)).alloc (.cells #[.bool false,.slice none 0 0] 37)
structure Bw (w:World) (p:Nat) (s s':Bool) (v u:Value):Prop where
 c0:w.cell? ⟨p,0,none⟩=some (.bool s)
 c1:w.cell? ⟨p,1,none⟩=some v
 d0:w.cell? ⟨p+1,0,none⟩=some (.bool s')
 d1:w.cell? ⟨p+1,1,none⟩=some u
def Bw.lt {w:World} {p:Nat} {s s':Bool} {v u:Value} (h:Bw w p s s' v u):p+1<w.heap.size:=aj w _ h.d0
def Bw.below {w w':World} {p:Nat} {s s':Bool} {v u:Value} (h:Bw w p s s' v u) (a:Below w.heap.size w w'):Bw w' p s s' v u:=by
 have b:=h.lt;exact ⟨(a.cell (p:=⟨p,0,none⟩) (by simp;omega)).trans h.c0,(a.cell (p:=⟨p,1,none⟩) (by simp;omega)).trans h.c1,(a.cell (p:=⟨p+1,0,none⟩) (by simp;omega)).trans h.d0,(a.cell (p:=⟨p+1,1,none⟩) (by simp;omega)).trans h.d1⟩
def Bw.setCell {w:World} {p:Nat} {s s':Bool} {v u:Value} (h:Bw w p s s' v u) (i:Nat) (x:Value):Bw (w.setCell ⟨p+1+1,i,none⟩ x) p s s' v u:=
 ⟨(NJ (by simp;omega) _).trans h.c0,(NJ (by simp;omega) _).trans h.c1,(NJ (by simp) _).trans h.d0,(NJ (by simp) _).trans h.d1⟩
structure aoq (w w0:World) (s s':Bool) (v u:Value) (n m:Nat):Prop where
 below:Below w.heap.size w w0
 res:F3 w0 (w.heap.size+1+1)
 two:Bw w0 w.heap.size s s' v u
 r1:eD w0 v n
 r2:eD w0 u m
def aor {w:World} {s s':Bool} {v u:Value} {n m:Nat} (h:eD w v n) (h':eD w u m):aoq w (KY w s s' v u) s s' v u n m:=by
 have i:(w.alloc (.cells #[.bool s,v] 37)).heap.size=w.heap.size+1:=by simp
 have j:((w.alloc (.cells #[.bool s,v] 37)).alloc (.cells #[.bool s',u] 37)).heap.size=w.heap.size+1+1:=by simp
 have b1:=Bv w (.cells #[.bool s,v] 37);have d:=Bv (w.alloc (.cells #[.bool s,v] 37)) (.cells #[.bool s',u] 37);have b:=Bv ((w.alloc (.cells #[.bool s,v] 37)).alloc (.cells #[.bool s',u] 37)) (.cells #[.bool false,.slice none 0 0] 37);have e:Below w.heap.size w (KY w s s' v u):=(b1.trans (d.mono (by omega))).trans (b.mono (by omega));have a:Below (w.heap.size+1) (w.alloc (.cells #[.bool s,v] 37)) (KY w s s' v u):=by rw [i] at d;exact d.trans (b.mono (by omega))
 rw [j] at b;obtain ⟨c0,c1⟩:=aaf w s v;obtain ⟨f,g⟩:=aaf (w.alloc (.cells #[.bool s,v] 37)) s' u;rw [i] at f g;refine ⟨e,?_,⟨(a.cell (p:=⟨w.heap.size,0,none⟩) (by simp)).trans c0,(a.cell (p:=⟨w.heap.size,1,none⟩) (by simp)).trans c1,(b.cell (p:=⟨w.heap.size+1,0,none⟩) (by simp)).trans f,(b.cell (p:=⟨w.heap.size+1,1,none⟩) (by simp)).trans g⟩,h.below e,h'.below e⟩;have:=heap_alloc_new ((w.alloc (.cells #[.bool s,v] 37)).alloc (.cells #[.bool s',u] 37)) (.cells #[.bool false,.slice none 0 0] 37);rw [j] at this;exact this
def add_same {p q:Int} (h:decide (p<0)=decide (q<0)):jB (decide (p<0)) (p.natAbs+q.natAbs)=p+q:=by
 unfold jB;grind
def aos {p q:Int} (h:decide (p<0)≠decide (q<0)) (a:q.natAbs<=p.natAbs):jB (decide (p<0)) (p.natAbs-q.natAbs)=p+q:=by
 unfold jB;grind
def add_lt {p q:Int} (h:decide (p<0)≠decide (q<0)) (a:p.natAbs<=q.natAbs):jB (decide (q<0)) (q.natAbs-p.natAbs)=p+q:=by
 unfold jB;grind
section
variable {w:World}
def aot {x y:Value} {p q:Int} (h:Ew w x p) (h':Ew w y q) (hs:Sm (p.natAbs+q.natAbs)):Calls Tryz.prog 89 #[x,y] w (F1 (p+q) w):=by
 obtain ⟨v,rfl,hv⟩:=h;obtain ⟨u,rfl,hu⟩:=h';obtain ⟨a,k,c,rfl⟩:=Ac hv;obtain ⟨F,H,G,rfl⟩:=Ac hu;obtain ⟨s,xU⟩:=pS (decide (p<0));obtain ⟨s',nh⟩:=pS (decide (q<0));rw [xU,nh];have I:=ae (af xU nh);have D:=ae (af hs (af (F0 hs (Nat.le_add_right _ _)) (F0 hs (Nat.le_add_left _ _))));have j:=aor (s:=s) (s':=s') hv hu;clear hv hu xU nh hs;by_cases J:s=s'
 ·have Y:=ae (show decide (p<0)=decide (q<0) by rw [I.out.1,I.out.2,J])
  have aou:(s==s')=true:=by simpa using J
  subst J;go_enter Tryz.func89,Tryz.ntmps89;go_wp2_with fail;have c0:=j.two.c0;have c1:=j.two.c1;have m:=j.two.d0;have o:=j.two.d1;have l:=j.two.lt;have t:w.heap.size<(KY w s s (.slice a k c) (.slice F H G)).heap.size:=by omega
  unfold KY at j c0 c1 m o l t;generalize ((w.alloc (.cells #[.bool s,.slice a k c] 37)).alloc (.cells #[.bool s,.slice F H G] 37)).alloc (.cells #[.bool false,.slice none 0 0] 37)=B at j c0 c1 m o l t⊢;have d:=ae j;clear j;have hS: ∀z,Below B.heap.size B z->Bw z w.heap.size s s (.slice a k c) (.slice F H G):=fun z b=>d.out.two.below b
  have O:=ae hS;have Z:=ae (aG B.heap.size B).drew;have Vr:=ae (fun (z:World) (h:Bw z w.heap.size s s (.slice a k c) (.slice F H G))=>af h.c0 (af h.c1 h.d1));have HTS:=ae (fun (z:World) (i i':Nat) (x x':Value) (h:Bw z w.heap.size s s (.slice a k c) (.slice F H G))=>(h.setCell i x).setCell i' x');clear hS
  go_region_held3 (fun z=>z.cell? ⟨w.heap.size,0,none⟩=some (.bool s)/\z.cell? ⟨w.heap.size,1,none⟩=some (.slice a k c)/\z.cell? ⟨w.heap.size+1,1,none⟩=some (.slice F H G))
   ((refine Vr.out _ ?_;first|exact HTS.out _ _ _ _ _ (O.out _ dz)|exact O.out _ dz|exact O.out _ bP|exact O.out _ Z.out|exact O.out _ (aG _ _)))
   (first
    |(go_at_call 143;refine (Vp (d.out.r1.below (by first|exact Z.out|exact aG _ _)) (d.out.r2.below (by first|exact Z.out|exact aG _ _)) D.out.2.1 D.out.2.2).mono ?_;rintro e w1 ⟨x1,rfl,f,b⟩;have bP:Below B.heap.size B w1:=Z.out.trans b;have U:=ae f;clear f b)
    |(go_at_call 141;refine (F2 s U.out.r D.out.1).mono ?_;rintro e w2 ⟨x2,rfl,f,b⟩;have dz:Below B.heap.size B w2:=bP.trans (b.mono bP.size);obtain ⟨b1,Q,T,P,rfl,X⟩:=f.form;clear X;have N:=ae (f.base (base':=w.heap.size) (by have:=d.out.below.size;have:=bP.size;omega));have A:=d.out.res.below dz;have W:=ae A;obtain ⟨R,S,f0,f1,ht⟩:=A.facts;clear f b A))
  all_goals
   go_wp2_with fail;refine bodyPost_ret (v:= .agg #[.bool b1,.slice Q T P]) (by simp [results,Tryz.results89,go_sem,R,S]) rfl ?_;exact F4 (d.out.below.trans (dz.mono d.out.below.size)) (by omega) W.out ((by rw [<-I.out.1];exact add_same Y.out:jB s (p.natAbs+q.natAbs)=p+q)▸N.out) (ak _)
 ·have Y:=ae (show decide (p<0)≠decide (q<0) by rw [I.out.1,I.out.2];exact J)
  have aou:(s==s')=false:=by simpa using J
  clear J;go_enter Tryz.func89,Tryz.ntmps89;go_wp2_with fail;have c0:=j.two.c0;have c1:=j.two.c1;have m:=j.two.d0;have o:=j.two.d1;have l:=j.two.lt;have t:w.heap.size<(KY w s s' (.slice a k c) (.slice F H G)).heap.size:=by omega
  unfold KY at j c0 c1 m o l t;generalize ((w.alloc (.cells #[.bool s,.slice a k c] 37)).alloc (.cells #[.bool s',.slice F H G] 37)).alloc (.cells #[.bool false,.slice none 0 0] 37)=B at j c0 c1 m o l t⊢;have d:=ae j;clear j;have vq:=ae (fun z (b:Below B.heap.size B z)=>af (d.out.r1.below b) (d.out.r2.below b));refine (aah d.out.r1 d.out.r2 D.out.2.1 D.out.2.2).mono ?_;rintro e w1 F6;rcases F6 with ⟨bA,rfl,b⟩|⟨E,v1,rfl,f,b⟩
  ·have HL:=ae bA
   have C:=ae b;clear bA b c0 c1 m o l t;have g:=d.out.two.below C.out;have c0:=g.c0;have c1:=g.c1;have m:=g.d0;have o:=g.d1;have l:=g.lt;have t:w.heap.size<w1.heap.size:=by omega
   clear g;go_wp2_with fail;refine (aah (vq.out _ C.out).2 (vq.out _ C.out).1 D.out.2.2 D.out.2.1).mono ?_;rintro e w2 F6;rcases F6 with ⟨bA,rfl,b⟩|⟨E,v1,rfl,f,b⟩
   ·exact absurd bA (by have:=HL.out;omega)
   ·obtain ⟨a2,k2,c2,rfl⟩:=Ac f.r
    have U:=ae f;have gC:=ae (C.out.trans (b.mono C.out.size));clear E f b c0 c1 m o l t;have g:=d.out.two.below gC.out;have c0:=g.c0;have c1:=g.c1;have m:=g.d0;have o:=g.d1;have l:=g.lt;have t:w.heap.size<w2.heap.size:=by omega
    clear g;go_wp2_with fail;refine (F2 s' U.out.r (F0 D.out.2.2 (m8 _ _))).mono ?_;rintro e w9 ⟨x2,rfl,f,b⟩;obtain ⟨b1,Q,T,P,rfl,X⟩:=f.form;clear X;have M:=ae (gC.out.trans (b.mono gC.out.size));have N:=ae (f.base (base':=w.heap.size) (by have:=d.out.below.size;have:=gC.out.size;omega));have A:=d.out.res.below M.out;have W:=ae A;obtain ⟨R,S,f0,f1,ht⟩:=A.facts;clear f b A c0 c1 m o l t;go_wp2_with fail;refine bodyPost_ret (v:= .agg #[.bool b1,.slice Q T P]) (by simp [results,Tryz.results89,go_sem,R,S]) rfl ?_;exact F4 (d.out.below.trans (M.out.mono d.out.below.size)) (by omega) W.out ((by rw [<-I.out.2];exact add_lt Y.out (by have:=HL.out;omega):jB s' (q.natAbs-p.natAbs)=p+q)▸N.out) (ak _)
  ·obtain ⟨a2,k2,c2,rfl⟩:=Ac f.r
   have HL:=ae E;have U:=ae f;have C:=ae b;clear E f b c0 c1 m o l t;have g:=d.out.two.below C.out;have c0:=g.c0;have c1:=g.c1;have m:=g.d0;have o:=g.d1;have l:=g.lt;have t:w.heap.size<w1.heap.size:=by omega
   clear g;go_wp2_with fail;refine (F2 s U.out.r (F0 D.out.2.1 (m8 _ _))).mono ?_;rintro e w9 ⟨x2,rfl,f,b⟩;obtain ⟨b1,Q,T,P,rfl,X⟩:=f.form;clear X;have M:=ae (C.out.trans (b.mono C.out.size));have N:=ae (f.base (base':=w.heap.size) (by have:=d.out.below.size;have:=C.out.size;omega));have A:=d.out.res.below M.out;have W:=ae A;obtain ⟨R,S,f0,f1,ht⟩:=A.facts;clear f b A c0 c1 m o l t;go_wp2_with fail;refine bodyPost_ret (v:= .agg #[.bool b1,.slice Q T P]) (by simp [results,Tryz.results89,go_sem,R,S]) rfl ?_;exact F4 (d.out.below.trans (M.out.mono d.out.below.size)) (by omega) W.out ((by rw [<-I.out.1];exact aos Y.out HL.out:jB s (p.natAbs-q.natAbs)=p+q)▸N.out) (ak _)
end
end
section
open Go.RowKit
def afs {l:List Nat} {k:Nat} (a:k<l.length):val (l.drop k)=el l k+4294967296*val (l.drop (k+1)):=by
 rw [fU a];show l[k]+_=_;unfold el;simp_all
def aov {l:List Nat} {k d:Nat} (a:k<l.length):val ((l.set k d).drop k)=d+4294967296*val (l.drop (k+1)):=by
 rw [afs (by simp_all),uA d a,if_pos rfl,List.drop_set_of_lt (by omega)]
def aow {t q r x d s:Nat} (h:t=d*q+r) (b:r*4294967296+x=s):x+4294967296*t=d*(s/d+4294967296*q)+s % d:=by
 have a:=du s d;grind
def div_lt {r x d s:Nat} (a:r<d) (e:x<4294967296) (b:r*4294967296+x=s):s/d<4294967296:=by
 rw [gJ (by omega)];omega
def aox (a d:Nat) (w:World) (e:Ending) (w':World):Prop:= ∃v,e= .returned (.tuple #[v,.int .u32 ((a % d:Nat):Int),.bool true])/\nr w' w.heap.size v (a/d)/\Below w.heap.size w w'
section
variable {w:World}
def aaj {v:Value} {l:List Nat} (h:jj w v l) (hn:l.length<=100000000) (d:Nat) (P:0<d) (hd:d<4294967296):Calls Tryz.prog 120 #[v,.int .u32 (d:Int)] w (aox (val l) d w):=by
 have HL:=ae h.2;obtain ⟨a,c,x,rfl,ha,hc,hm,b⟩:=h.form;have HC:=ae (fun w' (f:Below w.heap.size w w') i (t:i<l.length)=>(f.cell (aj w _ (b i t))).trans (b i t));have HA:=ae ha;unfold maxLen at hm;clear h b ha;have hdi:((d:Int)==0)=false:=by rw [cO];intro e;rw [beq_iff_eq] at e;omega
 have aFU: ¬(d:Int)=0:=by omega
 obtain ⟨i0,W,Y,Z,X⟩:=info_parts CO;go_enter Tryz.func120,Tryz.ntmps120;go_wp2_with (refine wpList_make_full w rfl (.tmp 13) (.tmp 13) 35 rfl w.heap.size 193 i0 _ 1 Tryz.underlying35 W Y Z _ _ _ _ l.length rfl rfl rfl rfl (by rw [X];omega) (by unfold maxLen;omega) (ak _) ?_;intro w1 J p);have S:Below w.heap.size w w1:=(aG _ _).grown p (ak _) (by intro k hk;cases hk);rw [FO] at J;have j:gy w1 w.heap.size (.slice (some ⟨w.heap.size,0,none⟩) l.length l.length) (List.replicate l.length 0):=⟨by rw [aV];exact J,FP _⟩;have HO:=ae j;have T:=ae S;clear J p S j W Y Z X;go_wp2_with fail;obtain ⟨g,p⟩:=pS w.heap.size;rw [p] at HO⊢;have HG:=ae p;clear p
 go_loopg [8,9] l.length (fun gh cv iv wr=> ∃(k r:Nat) (o:List Nat),gh=k/\k<=l.length/\((k=0/\iv= .int .i64 (-1))\/(0<k/\iv= .int .i64 ((k-1:Nat):Int)))/\cv= .int .u64 r/\r<d/\o.length=l.length/\gy wr g (.slice (some ⟨g,0,none⟩) l.length l.length) o/\
  val (l.drop k)=d*val (o.drop k)+r/\Below w.heap.size w wr)
 case atStart=>
  refine ⟨l.length,0,_,rfl,ak _,?_,rfl,P,aV,HO.out,by rw [lQ (ak _),lQ (by rw [aV];exact ak _)];rfl,T.out⟩;by_cases e:l.length=0
  ·exact .inl ⟨e,by rw [e];rfl⟩
  ·exact .inr ⟨by omega,by congr 1;omega⟩
 case round=>
  obtain ⟨k,r,o,rfl,hk,QB,rfl,M,D,j,B,f⟩:=hrel;rcases QB with ⟨rfl,rfl⟩|⟨jG,rfl⟩
  ·have HT:=ae (xM j.sl (by omega))
   have q:=ae f;have e1:(r:Int) % 4294967296=(r:Int):=by omega
   have R:val l/d=val o/\val l % d=r:=by
    have h1:val l=d*val o+r:=by simpa using B
    rw [h1];exact ⟨by rw [Nat.mul_add_div P,eK M,dt],by rw [Nat.mul_add_mod,dV M]⟩
   have Q:=ae R;clear R B j D f HO T;go_wp2_with fail;refine HT.out.mono ?_;rintro e w' ⟨v,rfl,hf,f⟩;have HF:=ae hf;have gC:=ae f;clear hf f;go_wp2_with fail;refine bodyPost_ret (v:= .tuple #[v,.int .u32 (r:Int),.bool true]) (by simp [results,Tryz.results120,go_sem]) rfl ?_;exact ⟨v,by rw [Q.out.2],Q.out.1▸HF.out.base q.out.size,q.out.trans (gC.out.mono q.out.size)⟩
  ·obtain ⟨i,t⟩:=pS (gk-1)
   rw [t];have H:i<l.length:=by omega
   have KJ:gk=i+1:=by omega
   subst KJ;clear t;obtain rfl:=HA.out (by omega);have A:=j.1;rw [D] at A;have l9:=A.frozenAt i;obtain ⟨U,FW⟩: ∃U,wr.cell? ⟨g,i,none⟩=some U:=⟨_,rC A (rD)⟩;have q1:=HC.out _ f i H;obtain ⟨u,z⟩:=pS (l.getD i 0);rw [z] at q1;have bx:u<4294967296:=by rw [<-z];exact nf HL.out i
   have qH:=ae (show el l i=u from z);have F:=ae j;have jc:=ae D;have HV:=ae B;have q:=ae f;have i0:(0:Int)<=i:=by omega
   have i1:(i:Int)<l.length:=by omega
   clear z D B f j A;obtain ⟨s,N⟩:=pS (r*4294967296+u);obtain ⟨m,E⟩:=pS (s % d);obtain ⟨y,C⟩:=pS (s/d);have O:y<4294967296:=by rw [<-C];exact div_lt M bx N
   have I:m<d:=by rw [<-E];exact cZ _ P
   have QG:bits .or .u64 ((r:Int)*4294967296) (u:Int)=(s:Int):=by
    rw [bits_join .u64 64 (by decide) wraps_u64 32 ((r:Int)*4294967296) (u:Int) (by omega) (by omega) (by omega) (by omega) (by omega) (by omega)];omega
   have etm:(s:Int).tmod (d:Int)=(m:Int):=by rw [<-E,eH (by omega)];exact (kJ s d).symm
   have etd:(s:Int).tdiv (d:Int)=(y:Int):=by rw [<-C,fP (by omega)];exact (Int.natCast_ediv s d).symm
   have ewr:IntKind.u64.wrap (y:Int)=(y:Int):=wraps_u64 _ (by omega) (by omega);have emo:(y:Int) % 4294967296=(y:Int):=by omega
   have G:=ae N;have HY:=ae C;have pB:=ae E;clear N C E;go_wp2_with fail
   go_roundg i
   case measure=>omega
   case rel=>
    refine ⟨i,m,o.set i y,rfl,by omega,?_,rfl,I,by rw [bu];exact jc.out,F.out.set O,?_,q.out.setCell (by rw [HG.out];exact ak _) _⟩
    ·by_cases e:i=0
     ·exact .inl ⟨e,by subst e;rfl⟩
     ·exact .inr ⟨by omega,by congr 1;omega⟩
    ·rw [afs H,aov (by rw [jc.out];exact H),qH.out,aow HV.out G.out,HY.out,pB.out]
end
end
end Go.Proofs.YthleenhngcdgkaaGreatDoor
