/- refineFuel_proved. -/
import Derived.Test.YtnmpjdgobafdkaaGreatDoorPmac
import Derived.Test.YtnmpjdgobafdkaaGreatDoorPmad
import Derived.Deep.RegionHeld3
set_option maxRecDepth 100000
set_option maxHeartbeats 16000000
set_option linter.all false
noncomputable section
namespace Go.Proofs.YtnmpjdgobafdkaaGreatDoor
section
open Go.Proofs.Tryz Go.RowKit
def JX (l:List Nat):Nat:=if cP l=0 then 0 else 32*(cP l-1)+Lib.bitLen (el l (cP l-1))
def bitLenAux_le: ∀f x,Lib.bitLenAux f x<=f
 |0,_=>by simp [Lib.bitLenAux]
 |f+1,x=>by
  have a:=bitLenAux_le f (x/2);unfold Lib.bitLenAux;grind
def am0 {x:Nat} (h:x<4294967296):Lib.bitLen x<=32:=by
 have a:=Lib.bitLenAux_fuel 32 x h 64 (by omega);have b:=bitLenAux_le 32 x;have d:Lib.bitLen x=Lib.bitLenAux 64 x:=rfl;omega
section
variable {w:World}
def am1 {v:Value} {l:List Nat} (h:g7 w v l) (J:l.length<=100000000):Calls prog 127 #[v] w (vF (.int .i64 (JX l)) w):=by
 have m:=ae (xU h);have E:=uW l;have z:=ae h.2;obtain ⟨a,c,x,rfl,s,hc,D,b⟩:=h.form;have u:=ae b;have t:=ae s;unfold maxLen at D;clear h b s;obtain ⟨n,f⟩:=pQ (cP l);rw [f] at m E;by_cases q:n=0
 ·have j:=ae (show JX l=0 by unfold JX;rw [if_pos (by omega)])
  subst q;clear f;go_enter func127,ntmps127;go_wp2_with fail;refine m.out.mono ?_;rintro e i ⟨rfl,rfl⟩;go_wp2_with fail;go_ret;exact ze (by rw [j.out];rfl)
 ·obtain ⟨k,rfl⟩: ∃k,n=k+1:=⟨n-1,by omega⟩
  have C:k<l.length:=by omega
  obtain rfl:=t.out (by omega);have G:=u.out k C;obtain ⟨d,g⟩:=pQ (l.getD k 0);have bd:d<4294967296:=by rw [<-g];exact mH z.out k
  have j:=ae (show JX l=32*k+Lib.bitLen d by
   unfold JX;rw [if_neg (by omega),f,dX,show el l k=d from g])
  rw [g] at G;have A:=ae (fun i=>aep (d:Int) i (by omega) (by omega));have F:=am0 bd;obtain ⟨y,o⟩:=pQ (Lib.bitLen d);rw [o] at F;have p:=ae o;have H:(((k+1:Nat):Int)==0)=false:=by rw [cW];intro e;rw [beq_iff_eq] at e;omega
  have B:((k:Int)+1==0)=false:=by rw [cW];intro e;rw [beq_iff_eq] at e;omega
  clear o;have I:((k+1:Nat):Int)-1=(k:Int):=by omega
  have M:(0:Int)<=k:=by omega
  have N:(k:Int)<l.length:=by omega
  clear g f q;go_enter func127,ntmps127;go_wp2_with fail;refine m.out.mono ?_;rintro e i ⟨rfl,rfl⟩;go_wp2_with fail;refine (A.out _).mono ?_;rintro e i ⟨rfl,rfl⟩;rw [show ((d:Int)).toNat=d by omega,p.out];go_wp2_with fail;go_ret;exact ze (by rw [j.out,p.out];first|rfl|(congr 1;omega))
def Zm (x:Addr):x.add 0=x:=by
 unfold Addr.add;split<;>simp_all
def am2 {v:Value} {l:List Nat} (h:g7 w v l) (u:l.length<=100000000):Calls prog 173 #[v,.int .i64 0] w (vF (.bool (decide (val l % 2=1))) w):=by
 obtain ⟨a,c,x,rfl,k,hc,q,b⟩:=h.form;unfold maxLen at q;by_cases e:0<l.length
 ·obtain rfl:=k e
  have s:=b 0 e;obtain ⟨f,g⟩:=pQ (l.getD 0 0);rw [g,Zm] at s;have t:f<4294967296:=by rw [<-g];exact mH h.2 0
  have i:=ae (show val l % 2=f % 2 by
   have:val l=el l 0+4294967296*val (l.drop 1):=by
    cases l with
    |nil=>simp at e
    |cons y l=>rfl
   rw [this,show el l 0=f from g];omega)
  have j:(0:Int)<(l.length:Int):=by omega
  obtain ⟨d,m⟩:=pQ (f % 2);have p:bits .and .u32 (f:Int) 1=(d:Int):=by
   have:=bits_mask .u32 32 (by decide) wraps_u32 1 (by decide) (f:Int) (by omega) (by omega);rw [show ((2:Int)^1-1)=1 by decide] at this;rw [this];omega
  have o:=ae m;clear h k b g e m;go_enter func173,ntmps173;go_wp2_with fail;go_ret;exact ze (by rw [i.out,o.out];show Value.bool ((d:Int)==1)=Value.bool (decide (d=1));congr 1;rw [Bool.eq_iff_iff,beq_iff_eq,decide_eq_true_iff];omega)
 ·have i:=ae (show val l % 2=0 by
   cases l with
   |nil=>rfl
   |cons y l=>simp at e)
  have j: ¬(0:Int)<(l.length:Int):=by omega
  clear h k b e;go_enter func173,ntmps173;go_wp2_with fail;go_ret;exact ze (by rw [i.out];rfl)
def am4 {l:List Nat} (g:j5 l) {n q r:Nat} (p:n/32=q) (s:n % 32=r) (t:q<l.length) {o:List Nat} (k:o.length=q+1) (e: ∀j,j<q->el o j=el l j) (f:el o q=el l q % 2^r):val o=val l % 2^n:=by
 have b:r<32:=by omega
 obtain ⟨m,h⟩: ∃m,l.length=q+1+m:=⟨l.length-(q+1),by omega⟩;have d:val l=bK (el l) q+4294967296^q*(el l q+4294967296*bK (fun i=>el l (i+(q+1))) m):=by
  rw [ld l,h,Uj,zg,fI,bI,bF];omega
 have a:=qy (fun j=>xW g j) q;rw [ld o,k,zg,AG e,f,PC n,p,s,Nat.mod_mul,d,iq,dY a,gX _ _ (aec q),eW a,cV];congr 2;rw [<-PA b,bF,iq]
def am5 {v:Value} {l:List Nat} (h:g7 w v l) (hn:l.length<=100000000) (n:Nat) (oC:n<=1048576):Calls prog 136 #[v,.int .i64 (n:Int)] w (rj (val l % 2^n) w):=by
 have N:=ae (af h h.2);have O:=ae (Zd (w:=w) n oC);obtain ⟨a,c,x,rfl,G,hc,hm,b⟩:=h.form;unfold maxLen at hm;obtain ⟨q,Z⟩:=pQ (n/32);obtain ⟨r,hr⟩:=pQ (n % 32);have vH:(n:Int).tdiv 32=(q:Int):=by rw [fV (by omega)];omega
 have jd:(n:Int).tmod 32=(r:Int):=by rw [eL (by omega)];omega
 have DF:r<32:=by omega
 have Cb:(r:Int) % 18446744073709551616=(r:Int):=by omega
 have hqb:q<=32768:=by omega
 have B:=ae (af Z hr);clear Z hr;by_cases p:l.length<=q
 ·have Ze:(l.length:Int)<=(q:Int):=by omega
  have C:=ae (wU h (by omega));have D:=ae (show val l % 2^n=val l by
   rw [PC n,B.out.1];refine dY (az ?_ (gC _ (aO (by decide))));rw [ld];exact az (qy (fun j=>xW N.out.2 j) _) (aG (by decide) p))
  clear h G b;go_enter func136,ntmps136;go_wp2_with fail;refine O.out.mono ?_;rintro e J ⟨rfl,rfl⟩;go_wp2_with fail;refine C.out.mono ?_;rintro e J ⟨v',rfl,X,o⟩;have M:=ae (af X o);clear X o;go_wp2_with fail;go_ret;exact ⟨_,rfl,by rw [D.out];exact M.out.1,M.out.2⟩
 ·have Ze: ¬(l.length:Int)<=(q:Int):=by omega
  obtain rfl:=G (by omega);have T:g7 w (.slice (some x) (q+1) c) (l.take (q+1)):=h.take (by omega);have S:(l.take (q+1)).length=q+1:=by rw [bM,dV (by omega)]
  have C:=ae (ad9 T (by omega));have AL:(q:Int)+1<=(c:Int):=by omega
  have hq3:(0:Int)<=(q:Int)+1:=by omega
  have f:=ae (af S (show q<l.length by omega));have e1:((q:Int)+1).toNat=q+1:=by omega
  clear h G b T S;go_enter func136,ntmps136;go_wp2_with fail;refine O.out.mono ?_;rintro e J ⟨rfl,rfl⟩;go_wp2_with fail;refine C.out.mono ?_;rintro e w1 ⟨v',rfl,s,o⟩;have lX:=s;obtain ⟨⟨H,PL⟩,jr⟩:=lX;rcases PL with ⟨_,h0⟩|⟨g,cap,cur,rfl,W,_,F,h4,_⟩
  ·exfalso;rw [f.out.1] at h0;omega
  rw [f.out.1] at s F⊢;have u:=s.1;rw [f.out.1] at u;have kb:=u.frozenAt q;obtain ⟨i,E⟩:=pQ (el (l.take (q+1)) q);have q1:w1.cell? ⟨g,q,none⟩=some (.int .u32 (i:Int)):=by rw [<-E];exact qZ u (re (by rw [f.out.1];omega))
  have Q:=ae E;have HO:=ae (af s o);have hqq:(q:Int)<(q:Int)+1:=by omega
  have hq0:(0:Int)<=(q:Int):=by omega
  have Y:w.heap.size<=g:=W;have HG:=ae Y;have A:=ae F;clear s o H jr W F h4 u E Y;obtain ⟨d,y⟩:=pQ (i % 2^r);have Zi:=aei DF;have I:0<2^r:=aO (by decide);have bx:i<4294967296:=by rw [<-Q.out];exact xW HO.out.1.2 q
  have m:((2:Int)^r-1) % 4294967296=2^r-1:=by
   have:(2:Int)^r=((2^r:Nat):Int):=(iw 2 r).symm;rw [this];omega
  have am3:bits .and .u32 (i:Int) ((2^r-1) % 4294967296)=(d:Int):=by
   rw [m,bits_mask .u32 32 (by decide) wraps_u32 r (by omega) (i:Int) (by omega) (by omega),<-y];exact (lB i (2^r)).symm
  have U:d<4294967296:=by rw [<-y];exact bh (Nat.mod_le _ _) bx
  have P:=ae (HO.out.1.set (k:=q) U);have D:=ae (show val ((l.take (q+1)).set q d)=val l % 2^n from am4 N.out.2 B.out.1 B.out.2 f.out.2 (by rw [bA];exact f.out.1)
   (fun j hj=>by rw [ue d (by rw [f.out.1];omega),if_neg (by omega)];unfold el;rw [aD,aD,List.getElem?_take,if_pos (by omega)])
   (by
    rw [ue d (by rw [f.out.1];omega),if_pos rfl,<-y,<-Q.out];congr 1;unfold el;rw [aD,aD,List.getElem?_take,if_pos (by omega)]))
  have R:=ae (xU P.out.sl);have tI:=ae P.out.trim;have t:=uW ((l.take (q+1)).set q d);rw [bA,f.out.1] at t;obtain ⟨z,hz⟩:=pQ (cP ((l.take (q+1)).set q d));rw [hz] at R tI t;have b1:(0:Int)<=z:=by omega
  have b2:(z:Int)<=(cap:Int):=by have:=A.out;omega
  clear y Zi I m U hz;go_wp2_with fail;refine R.out.mono ?_;rintro e J ⟨rfl,rfl⟩;go_wp2_with fail;go_ret;exact ⟨_,rfl,D.out▸tI.out.base (aq _),HO.out.2.setCell HG.out _⟩
end
end
section
open Go.RowKit
def JZ {w:World} {t:Nat} {c:Array Value} {T:Nat} {a:Nat×Nat} (h:w.heap[t]? =some (.cells c T a)) (i:Nat):w.cell? ⟨t,i,none⟩=c[i]? :=by
 simp [World.cell?,h]
def Uq {w:World} {t:Nat} {c:Array Value} {T:Nat} (h:w.heap[t]? =some (.cells c T (0,0))) (i:Nat):w.frozen? ⟨t,i,none⟩=false:=by
 simp [World.frozen?,h]
def Zn {w:World} {base:Nat} {v:Value} {n t:Nat} {c:Array Value} {T:TypeId} {b:Nat×Nat} (h:mP w base v n) (p:w.heap[t]? =some (.cells c T b)) (o:T≠172) (i:Nat) (u:Value):mP (w.setCell ⟨t,i,none⟩ u) base v n:=by
 obtain ⟨l,⟨⟨d,a⟩,f⟩,j⟩:=h;refine ⟨l,⟨⟨d,?_⟩,f⟩,j⟩;rcases a with a|⟨g,cap,cur,rfl,k,m,r⟩
 ·exact .inl a
 ·refine .inr ⟨g,cap,cur,rfl,k,?_,r⟩
  rw [gI _ _ _ _ (fun e=> ?_)]
  all_goals grind
def aer {w:World} {t:Nat} {c:Array Value} {T:TypeId} {a:Nat×Nat} (h:w.heap[t]? =some (.cells c T a)) (i:Nat) (u:Value):
 (w.setCell ⟨t,i,none⟩ u).heap[t]? =some (.cells (c.setIfInBounds i u) T a):=by
 simp [World.setCell,gQ,h]
def J0 {l:List Nat} (h:0<cP l:=by omega):4294967296^(cP l-1)<=val l:=by
 obtain ⟨k,a⟩: ∃k,cP l=k+1:=⟨cP l-1,by omega⟩;have b:=Pu l h;rw [a,dX] at b;rw [wV l,a,dX];show _<=bK (el l) k+4294967296^k*el l k;have d:4294967296^k*1<=4294967296^k*el l k:=aR _ (by omega);omega
def am6 {w w':World} {base:Nat} {e:TypeId} {b n:Nat} {v:Value} {xs:List Value} (h:w.ownsRow base e b v n xs) (i:Below w.heap.size w w'):w'.ownsRow base e b v n xs:=by
 refine ⟨h.1,?_⟩;rcases h.2 with d|⟨g,cap,cur,rfl,f,a,r⟩
 ·exact .inl d
 ·exact .inr ⟨g,cap,cur,rfl,f,(i.block g (ax.1 a).1).trans a,r⟩
def mP.below {w w':World} {base:Nat} {v:Value} {n:Nat} (h:mP w base v n) (e:Below w.heap.size w w'):mP w' base v n:=by
 obtain ⟨l,⟨a,b⟩,d⟩:=h;exact ⟨l,⟨am6 a e,b⟩,d⟩
def Zo {l:List Nat} (d:cP l=l.length) (e:val l=0):l= []:=by
 by_cases a:l.length=0
 ·simp_all
 ·have b:=J0 (l:=l)
  simp_all
def Zp (neg:Bool) (n:Nat) (w:World) (e:Ending) (w':World):Prop:= ∃v,e= .returned (.agg #[.bool (neg&&decide (n≠0)),v])/\mP w' w.heap.size v n/\Below w.heap.size w w'
section
variable {w:World}
def am7 (neg:Bool) {v:Value} {l:List Nat} (h:g7 w v l) (N:l.length<=100000000):Calls Tryz.prog 116 #[.bool neg,v] w (Zp neg (val l) w):=by
 have H:Below w.heap.size w (w.alloc (.cells #[.bool false,.slice none 0 0] 37)):=(aH _ _).alloc (aq _) _;have q:=ae (wU (h.below H) (by omega));obtain ⟨n,F⟩:=pQ (val l);rw [F] at q⊢;clear h H F N;go_enter Tryz.func116,Tryz.ntmps116;go_wp2_with fail;refine q.out.mono ?_;rintro e o ⟨Q,rfl,D,m⟩;have C:=ae D;have I:=ae m;obtain ⟨a,G,E,A⟩:=D;obtain ⟨g,c1,R,rfl,J,_⟩:=G.sl.form;have f:o.heap[w.heap.size]? =some (.cells #[.bool false,.slice none 0 0] 37 (0,0)):=(m.block _ (by simp)).trans (heap_alloc_new w _);have s:o.cell? ⟨w.heap.size,0,none⟩=some (.bool false):=(JZ f 0).trans rfl;have u:o.cell? ⟨w.heap.size,1,none⟩=some (.slice none 0 0):=(JZ f 1).trans rfl;have O:=Uq f 0;have P:=Uq f 1;have S:=ae f;have i:n=0/\a.length=0\/n≠0/\0<a.length:=by
  by_cases d:n=0
  ·exact .inl ⟨d,by rw [Zo E (A.trans d)];rfl⟩
  ·refine .inr ⟨d,?_⟩
   cases a with
   |nil=>exact absurd A.symm d
   |cons y t=>simp
 have B: ∀b:Bool,b=(neg&&decide (n≠0))->Zp neg n w (.returned (.agg #[.bool b,.slice g a.length c1])) ((o.setCell ⟨w.heap.size,0,none⟩ (.bool b)).setCell ⟨w.heap.size,1,none⟩ (.slice g a.length c1)):=fun b M=>
  ⟨_,by rw [M],(Zn (Zn C.out f (by decide) 0 _) (aer f 0 _) (by decide) 1 _).base (by simp),
   ((((aH w.heap.size w).alloc (aq _) _).trans (m.mono (by simp))).setCell (aq _) _).setCell (aq _) _⟩
 have p:=ae B;clear m G E A J f B q C I;rcases i with ⟨d,k⟩|⟨d,k⟩
 ·have x: ¬(0:Int)<a.length:=by omega
  have z:decide (0<a.length)=false:=decide_eq_false (by omega);have j:=ae (show false=(neg&&decide (n≠0)) by simp [d]);clear d k;cases neg
  all_goals
   go_wp2_with fail;refine bodyPost_ret (v:= .agg #[.bool false,.slice g a.length c1]) (by simp [results,Tryz.results116,go_sem,s,u]) rfl ?_;exact p.out _ j.out
 ·have x:(0:Int)<a.length:=by omega
  have z:decide (0<a.length)=true:=decide_eq_true k;have j:=ae (show neg=(neg&&decide (n≠0)) by simp [d]);clear d k;cases neg
  all_goals
   go_wp2_with fail
  ·refine bodyPost_ret (v:= .agg #[.bool false,.slice g a.length c1]) (by simp [results,Tryz.results116,go_sem,s,u]) rfl ?_
   exact p.out _ j.out
  ·refine bodyPost_ret (v:= .agg #[.bool true,.slice g a.length c1]) (by simp [results,Tryz.results116,go_sem,s,u]) rfl ?_
   exact p.out _ j.out
end
end
section
open Go.RowKit
def Ur:Nat:=1000000
structure Sm (n:Nat):Prop where
 lt:n<4294967296^Ur
def AM {n k:Nat} (h:n<2^k) (a:k<=32000000:=by omega):Sm n:=by
 refine ⟨?_⟩;rw [show (4294967296:Nat)=2^32 by decide,<-fJ];exact az h (aG (by decide) (by unfold Ur;omega))
def Fh {n m:Nat} (h:Sm m) (a:n<=m):Sm n:=⟨bh a h.lt⟩
def am8 {l:List Nat} (f:cP l=l.length) (h:Sm (val l)):l.length<=1000000:=by
 by_cases g:l.length=0
 ·omega
 ·have b:=J0 (l:=l)
  rw [f] at b;have d:4294967296^(l.length-1)<4294967296^Ur:=bh b h.lt;have e:=(dC (a:=4294967296) (by omega)).1 d;unfold Ur at e;omega
def dL.lim {w:World} {v:Value} {n:Nat} (h:dL w v n) (e:Sm n): ∃l,g7 w v l/\cP l=l.length/\val l=n/\l.length<=1000000:=by
 obtain ⟨l,d,a,b⟩:=h;exact ⟨l,d,a,b,am8 a (b▸e)⟩
def DI (w:World) (x:Value) (z:Int):Prop:= ∃v,x= .agg #[.bool (decide (z<0)),v]/\dL w v z.natAbs
def DJ (w:World) (base:Nat) (x:Value) (z:Int):Prop:= ∃v,x= .agg #[.bool (decide (z<0)),v]/\mP w base v z.natAbs
def Fi (z:Int) (w:World) (e:Ending) (w':World):Prop:= ∃x,e= .returned x/\DJ w' w.heap.size x z/\Below w.heap.size w w'
def DJ.base {w:World} {base base':Nat} {x:Value} {z:Int} (h:DJ w base x z) (a:base'<=base):DJ w base' x z:=by
 obtain ⟨v,e,h⟩:=h;exact ⟨v,e,h.base a⟩
def aes {w:World} {base:Nat} {x:Value} {z:Int} {t:Nat} {c:Array Value} {T:TypeId} {a:Nat×Nat} (h:DJ w base x z) (d:w.heap[t]? =some (.cells c T a)) (b:T≠172) (i:Nat) (u:Value):DJ (w.setCell ⟨t,i,none⟩ u) base x z:=by
 obtain ⟨v,e,h⟩:=h;exact ⟨v,e,Zn h d b i u⟩
def jm (neg:Bool) (n:Nat):Int:=if neg then-(n:Int) else n
def am9 {neg:Bool} {n:Nat} {w w':World} {e:Ending} (h:Zp neg n w e w'):Fi (jm neg n) w e w':=by
 obtain ⟨v,rfl,b,a⟩:=h;refine ⟨_,rfl,⟨v,?_,?_⟩,a⟩
 ·congr 2
  unfold jm;cases neg
  ·simp
  ·simp
   grind
 ·unfold jm
  grind
def aet (z:Int):jm (decide (z<0)) z.natAbs=z:=by
 unfold jm
 all_goals grind
section
variable {w:World}
def Fj (neg:Bool) {v:Value} {n:Nat} (h:dL w v n) (f:Sm n):Calls Tryz.prog 116 #[.bool neg,v] w (Fi (jm neg n) w):=by
 obtain ⟨l,a,g,b,i⟩:=h.lim f;exact (am7 neg a (by omega)).mono fun e j d=>am9 (by rw [<-b];exact d)
def zj {w:World} {v:Value} {n:Nat} (h:dL w v n): ∃a k c,v= .slice a k c:=by
 obtain ⟨l,b,_⟩:=h;obtain ⟨a,c,_,e,_⟩:=b.form;simp_all
def Zs (w:World) (b:Bool) (v:Value):(w.alloc (.cells #[.bool b,v] 37)).cell? ⟨w.heap.size,0,none⟩=some (.bool b)/\(w.alloc (.cells #[.bool b,v] 37)).cell? ⟨w.heap.size,1,none⟩=some v:=
 ⟨(JZ (heap_alloc_new w _) 0).trans rfl,(JZ (heap_alloc_new w _) 1).trans rfl⟩
def eN (n:Nat):Nat:=if n=0 then 0 else Nat.log2 n+1
def ana:eN 0=0:=rfl
def anb {n b:Nat} (d:2^b<=n) (e:n<2^(b+1)):eN n=b+1:=by
 have a:n≠0:=by omega
 unfold eN;rw [if_neg a];have f:=(Nat.le_log2 a).2 d;have g:=(pM a).2 e;omega
def aeu {n:Nat} (h:n≠0:=by omega): ∃b,eN n=b+1/\2^b<=n/\n<2^(b+1):=by
 refine ⟨Nat.log2 n,by unfold eN;simp_all,(Nat.le_log2 h).1 (aq _),(pM h).1 (by omega)⟩
def aev: ∀f x,0<x->x<2^f-> ∃b,Lib.bitLenAux f x=b+1/\2^b<=x/\x<2^(b+1)
 |0,x,h,a=>by omega
 |f+1,x,h,a=>by
  by_cases d:x=1
  ·subst d
   refine ⟨0,?_,by decide,by decide⟩;unfold Lib.bitLenAux;cases f with
   |zero=>rfl
   |succ f=>rfl
  ·obtain ⟨b,e,g,i⟩:=aev f (x/2) (by omega) (by omega)
   refine ⟨b+1,?_,by omega,by omega⟩;unfold Lib.bitLenAux;grind
def aew {x:Nat} (h:0<x) (a:x<4294967296): ∃b,Lib.bitLen x=b+1/\2^b<=x/\x<2^(b+1):=
 aev 64 x h (az a (by decide))
def anc {l:List Nat} (f:j5 l):JX l=eN (val l):=by
 unfold JX;split
 ·rename_i a
  rw [wV,a];rfl
 ·rename_i a
  obtain ⟨k,d⟩: ∃k,cP l=k+1:=⟨cP l-1,by omega⟩;have h:=Pu l (by omega);rw [d,dX] at h⊢;obtain ⟨b,e,j,m⟩:=aew (gF h) (xW f k);have o:=qy (xW f) k;have i:val l=bK (el l) k+4294967296^k*el l k:=by rw [wV,d,zg]
  have g:(2:Nat)^(32*k)=4294967296^k:=by rw [fJ]
  rw [e];refine (anb (b:=32*k+b) ?_ ?_).symm
  ·rw [bC,g,i]
   have:=aR (4294967296^k) j;omega
  ·rw [eK,bC,g,i]
   have:=aR (4294967296^k) (show el l k+1<=2^(b+1) from m);grind
end
end
section
open Go.Proofs.Tryz Go.RowKit
section
variable {w:World} {u v:Value} {a b n:Nat}
def Us (h:dL w v a) (f:Sm a):Calls prog 127 #[v] w (vF (.int .i64 (eN a:Nat)) w):=by
 obtain ⟨l,d,g,e,i⟩:=h.lim f;have:=am1 d (by omega);rw [anc d.2,e] at this;exact this
def ane (h:dL w v a) (g:Sm a) (f:bw w):Calls prog 132 #[v] w (vF (.int .i64 (qA a:Nat)) w):=by
 obtain ⟨l,d,i,e,j⟩:=h.lim g;have:=amZ d (by omega) f;rw [e] at this;exact this
def anf (h:dL w v a) (f:Sm a):Calls prog 173 #[v,.int .i64 0] w (vF (.bool (decide (a % 2=1))) w):=by
 obtain ⟨l,d,g,e,i⟩:=h.lim f;have:=am2 d (by omega);rw [e] at this;exact this
def Zt (h:dL w u a) (h':dL w v b):Calls prog 129 #[u,v] w (Quiet (.int .i64 (tG a b)) w):=by
 obtain ⟨l,f,j,g⟩:=h;obtain ⟨m,d,i,e⟩:=h';have:=Uh f d;rw [g,e] at this;exact this
def Ut (h:dL w u a) (h':dL w v b) (j:Sm a) (f:Sm b):Calls prog 134 #[u,v] w (rj (a+b) w):=by
 obtain ⟨l,g,p,i,q⟩:=h.lim j;obtain ⟨m,d,k,e,o⟩:=h'.lim f;have:=amB g d;rw [i,e] at this;exact this
def Zu (h:dL w u a) (h':dL w v b) (j:Sm a) (f:Sm b):Calls prog 135 #[u,v] w (aen a b w):=by
 obtain ⟨l,g,p,i,q⟩:=h.lim j;obtain ⟨m,d,k,e,o⟩:=h'.lim f;have:=amQ g d (by omega) (by omega);rw [i,e] at this;exact this
def Zv (h:dL w v a) (g:Sm a) (f:n<=1048576:=by omega):Calls prog 144 #[v,.int .i64 (n:Int)] w (rj (a*2^n) w):=by
 obtain ⟨l,d,i,e,j⟩:=h.lim g;have:=Zg d (by omega) n f;rw [e] at this;exact this
def aex (h:dL w v a) (g:Sm a) (f:n<=1048576):Calls prog 133 #[v,.int .i64 (n:Int)] w (rj (a/2^n) w):=by
 obtain ⟨l,d,i,e,j⟩:=h.lim g;have:=aeg d (by omega) n f;rw [e] at this;exact this
def aey (h:dL w v a) (g:Sm a) (f:n<=1048576):Calls prog 136 #[v,.int .i64 (n:Int)] w (rj (a % 2^n) w):=by
 obtain ⟨l,d,i,e,j⟩:=h.lim g;have:=am5 d (by omega) n f;rw [e] at this;exact this
def ang (h:dL w v a):Calls prog 224 #[v] w (vF (.bool true) w):=by
 obtain ⟨l,d,e,f⟩:=h;have:=amv d;rw [decide_eq_true e] at this;exact this
def dL.form (h:dL w v a): ∃x k c,v= .slice x k c/\(k:Int)<=9223372036854775807/\(a=0↔k=0):=by
 obtain ⟨l,f,g,d⟩:=h;obtain ⟨x,c,_,e,_,_,i,_⟩:=f.form;refine ⟨x,l.length,c,e,by unfold maxLen at i;omega,fun e=> ?_,fun e=> ?_⟩
 ·rw [Zo g (d.trans e)];rfl
 ·rw [<-d,cJ e];rfl
def AO (w:World) (o:Obj):Below w.heap.size w (w.alloc o):=(aH _ w).alloc (aq _) o
def anh {x:Value} {z:Int} (h:DI w x z) (q:Sm z.natAbs):Calls prog 126 #[x] w (Quiet (.int .i64 z.sign) w):=by
 obtain ⟨v,rfl,l⟩:=h;have d:=ae (fun o=>Us (l.below (AO w o)) q);have g:=ae (fun o=>AO w o);obtain ⟨k,f⟩:=pQ (eN z.natAbs);rw [f] at d;clear l;by_cases p:z=0
 ·subst p
  obtain rfl:k=0:=by rw [<-f];rfl
  clear f;go_enter func126,ntmps126;go_wp2_with fail;refine (d.out _).mono ?_;rintro e m ⟨rfl,rfl⟩;go_wp2_with fail;go_ret;exact ⟨rfl,g.out _⟩
 ·have t:((k:Int)==0)=false:=by
   have:k≠0:=fun e=>by
    obtain ⟨b,s,_⟩:=aeu (n:=z.natAbs);omega
   simpa using this
  clear f;by_cases j:z<0
  ·have i:=ae (show z.sign= -1 from cF j)
   rw [decide_eq_true j] at*;go_enter func126,ntmps126;go_wp2_with fail;refine (d.out _).mono ?_;rintro e m ⟨rfl,rfl⟩;go_wp2_with fail;go_ret;exact ⟨by rw [i.out];rfl,g.out _⟩
  ·have i:=ae (show z.sign=1 from cO (by omega))
   rw [decide_eq_false j] at*;go_enter func126,ntmps126;go_wp2_with fail;refine (d.out _).mono ?_;rintro e m ⟨rfl,rfl⟩;go_wp2_with fail;go_ret;exact ⟨by rw [i.out];rfl,g.out _⟩
end
end
section
open Go.RowKit
def ani (z:Int):jm (!decide (z<0)) z.natAbs= -z:=by
 unfold jm
 all_goals grind
def anj (z:Int) (p:Nat):jm (decide (z<0)) (z.natAbs*p)=z*(p:Int):=by
 unfold jm;grind
def aez (n:Nat):((2^n:Nat):Int)=2^n:=iw 2 n
def Fk (w:World) (t:Nat):Prop:=w.heap[t]? =some (.cells #[.bool false,.slice none 0 0] 37 (0,0))
def Fk.below {w w':World} {t:Nat} (h:Fk w t) (a:Below w.heap.size w w'):Fk w' t:=(a.block t (ax.1 h).1).trans h
def Fk.facts {w:World} {t:Nat} (h:Fk w t):w.cell? ⟨t,0,none⟩=some (.bool false)/\w.cell? ⟨t,1,none⟩=some (.slice none 0 0)/\w.frozen? ⟨t,0,none⟩=false/\w.frozen? ⟨t,1,none⟩=false/\t<w.heap.size:=
 ⟨(JZ h 0).trans rfl,(JZ h 1).trans rfl,Uq h 0,Uq h 1,(ax.1 h).1⟩
def Fl {w a:World} {t base:Nat} {b:Bool} {v:Value} {z:Int} (f:Below w.heap.size w a) (e:w.heap.size<=t) (d:Fk a t) (g:DJ a base (.agg #[.bool b,v]) z) (h:w.heap.size<=base):
 Fi z w (.returned (.agg #[.bool b,v])) ((a.setCell ⟨t,0,none⟩ (.bool b)).setCell ⟨t,1,none⟩ v):=
 ⟨_,rfl,(aes (aes g d (by decide) 0 _) (aer d 0 _) (by decide) 1 _).base h,(f.setCell e _).setCell e _⟩
def DJ.form {w:World} {base:Nat} {x:Value} {z:Int} (h:DJ w base x z): ∃b a k c,x= .agg #[.bool b,.slice a k c]/\b=decide (z<0):=by
 obtain ⟨v,rfl,d⟩:=h;obtain ⟨a,k,c,rfl⟩:=zj d.r;simp_all
def boxes {w:World} {s:Bool} {v:Value} {n:Nat} (h:dL w v n):
 Below w.heap.size w ((w.alloc (.cells #[.bool s,v] 37)).alloc (.cells #[.bool false,.slice none 0 0] 37))/\Fk ((w.alloc (.cells #[.bool s,v] 37)).alloc (.cells #[.bool false,.slice none 0 0] 37)) (w.heap.size+1)/\
  dL ((w.alloc (.cells #[.bool s,v] 37)).alloc (.cells #[.bool false,.slice none 0 0] 37)) v n/\
  ((w.alloc (.cells #[.bool s,v] 37)).alloc (.cells #[.bool false,.slice none 0 0] 37)).cell? ⟨w.heap.size,0,none⟩=some (.bool s)/\((w.alloc (.cells #[.bool s,v] 37)).alloc (.cells #[.bool false,.slice none 0 0] 37)).cell? ⟨w.heap.size,1,none⟩=some v:=by
 have b:(w.alloc (.cells #[.bool s,v] 37)).heap.size=w.heap.size+1:=by simp
 have b1:=AO w (.cells #[.bool s,v] 37);have a:=AO (w.alloc (.cells #[.bool s,v] 37)) (.cells #[.bool false,.slice none 0 0] 37);have d:=b1.trans (a.mono (by omega));obtain ⟨c0,c1⟩:=Zs w s v;refine ⟨d,?_,h.below d,(a.cell (p:=⟨w.heap.size,0,none⟩) (by rw [b];simp)).trans c0,(a.cell (p:=⟨w.heap.size,1,none⟩) (by rw [b];simp)).trans c1⟩;have:=heap_alloc_new (w.alloc (.cells #[.bool s,v] 37)) (.cells #[.bool false,.slice none 0 0] 37);rw [b] at this;exact this
section
variable {w:World}
def MD {w:World} {p q:Addr} (h:q.block≠p.block) (u:Value):(w.setCell p u).cell? q=w.cell? q:=by
 unfold World.cell?;rw [gI _ _ _ _ h]
def ank {x:Value} {z:Int} (h:DI w x z) (u:Sm z.natAbs):Calls Tryz.prog 146 #[x] w (Fi (-z) w):=by
 obtain ⟨v,rfl,g⟩:=h;obtain ⟨a,k,c,rfl⟩:=zj g;obtain ⟨s,j⟩:=pQ (decide (z<0));rw [j];have m:=ae j;have b:=ae (boxes (s:=s) g);clear g j;go_enter Tryz.func146,Tryz.ntmps146;go_wp2_with fail;refine (Fj (!s) b.out.2.2.1 u).mono ?_;rintro e E ⟨F,rfl,f,d⟩;obtain ⟨b1,o,y,c1,rfl,p⟩:=f.form;have l:=ae (af f d);have i:=b.out.2.1.below d;have A:=ae i;obtain ⟨q,t,B,C,D⟩:=i.facts;clear f d i p;go_wp2_with fail;refine bodyPost_ret (v:= .agg #[.bool b1,.slice o y c1]) (by simp [results,Tryz.results146,go_sem,q,t]) rfl ?_;exact Fl (b.out.1.trans (l.out.2.mono b.out.1.size)) (by omega) A.out ((by rw [<-m.out];exact ani z:jm (!s) z.natAbs= -z)▸l.out.1) b.out.1.size
def anl {x:Value} {z:Int} {n:Nat} (h:DI w x z) (R:Sm z.natAbs) (Q:n<=1048576) (P:Sm (z.natAbs*2^n)):Calls Tryz.prog 128 #[x,.int .i64 (n:Int)] w (Fi (z*2^n) w):=by
 obtain ⟨v,rfl,y⟩:=h;obtain ⟨a,k,c,rfl⟩:=zj y;obtain ⟨s,B⟩:=pQ (decide (z<0));rw [B];have J:=ae B;have g:=boxes (s:=s) y;clear y B;go_enter Tryz.func128,Tryz.ntmps128;go_wp2_with fail;have C:=g.2.2.2.1;have E:=g.2.2.2.2;generalize (w.alloc (.cells #[.bool s,.slice a k c] 37)).alloc (.cells #[.bool false,.slice none 0 0] 37)=d at g C E⊢;have m:=ae g;have Z:=g.2.1.facts.2.2.2.2;have H:w.heap.size<d.heap.size:=by omega
 clear g;have F: ∀b,Below d.heap.size d b->b.cell? ⟨w.heap.size,0,none⟩=some (.bool s)/\b.cell? ⟨w.heap.size,1,none⟩=some (.slice a k c):=fun b f=>⟨(f.cell (p:=⟨w.heap.size,0,none⟩) H).trans C,(f.cell (p:=⟨w.heap.size,1,none⟩) H).trans E⟩
 have l:=ae F;have G: ∀(b:World) (i:Nat) (u:Value),(b.cell? ⟨w.heap.size,0,none⟩=some (.bool s)/\b.cell? ⟨w.heap.size,1,none⟩=some (.slice a k c))->((b.setCell ⟨w.heap.size+1,i,none⟩ u).cell? ⟨w.heap.size,0,none⟩=some (.bool s)/\(b.setCell ⟨w.heap.size+1,i,none⟩ u).cell? ⟨w.heap.size,1,none⟩=some (.slice a k c)):=fun b i u h=>⟨(MD (by simp) _).trans h.1,(MD (by simp) _).trans h.2⟩
 have D:=ae G;have t:=ae (aH d.heap.size d).drew;clear F G
 go_region_held3 (fun b=>b.cell? ⟨w.heap.size,0,none⟩=some (.bool s)/\b.cell? ⟨w.heap.size,1,none⟩=some (.slice a k c))
  ((first|exact D.out _ _ _ (D.out _ _ _ (l.out _ q))|exact l.out _ q|exact l.out _ o|exact l.out _ t.out|exact l.out _ (aH _ _)))
  (first
   |(go_at_call 144;refine (Zv (m.out.2.2.1.below (by first|exact t.out|exact aH _ _)) R Q).mono ?_;rintro e W ⟨x1,rfl,j,f⟩;have o:Below d.heap.size d W:=t.out.trans f;have T:=ae j;clear j f)
   |(go_at_call 116;refine (Fj s T.out.r P).mono ?_;rintro e X ⟨x2,rfl,j,f⟩;have q:Below d.heap.size d X:=o.trans (f.mono o.size);obtain ⟨b1,M,S,c1,rfl,Y⟩:=j.form;clear Y;have I:=ae (j.base (base':=w.heap.size) (by have:=m.out.1.size;have:=o.size;omega));have A:=m.out.2.1.below q;have U:=ae A;obtain ⟨N,O,f0,f1,ht⟩:=A.facts;clear j f A))
 all_goals
  go_wp2_with fail;refine bodyPost_ret (v:= .agg #[.bool b1,.slice M S c1]) (by simp [results,Tryz.results128,go_sem,N,O]) rfl ?_;exact Fl (m.out.1.trans (q.mono m.out.1.size)) (by omega) U.out ((by rw [<-J.out];rw [anj z (2^n),aez]:jm s (z.natAbs*2^n)=z*2^n)▸I.out) (aq _)
end
end
section
open Go.Proofs.Tryz Go.RowKit
def vL (a b:Int):Int:=if a<b then-1 else if b<a then 1 else 0
def anm {a b:Int} (d:0<=a) (e:0<=b):tG a.natAbs b.natAbs=vL a b:=by
 unfold tG vL;omega
def ann {a b:Int} (d:a<0) (e:b<0):tG b.natAbs a.natAbs=vL a b:=by
 unfold tG vL;omega
def ano {a b:Int} (h:a<b):vL a b= -1:=if_pos h
def anp {a b:Int} (h:b<a):vL a b=1:=by unfold vL;rw [if_neg (by omega),if_pos h]
section
variable {w:World}
def anq {x:Value} {z:Int} (h:DI w x z):Calls prog 172 #[x] w (Quiet (.bool true) w):=by
 obtain ⟨v,rfl,d⟩:=h;have f:=ae (fun o=>ang (d.below (AO w o)));have g:=ae (fun o=>AO w o);obtain ⟨a,k,c,rfl,m,b⟩:=d.form;clear d;by_cases i:z<0
 ·have j:(0:Int)<(k:Int):=by
   have:k≠0:=fun e=>by have:=b.2 e;omega
   omega
  rw [decide_eq_true i];clear b;go_enter func172,ntmps172;go_wp2_with fail;refine (f.out _).mono ?_;rintro e l ⟨rfl,rfl⟩;go_wp2_with fail;go_ret;exact ⟨rfl,g.out _⟩
 ·rw [decide_eq_false i]
  clear b;by_cases j:(0:Int)<(k:Int)
  all_goals
   go_enter func172,ntmps172;go_wp2_with fail;refine (f.out _).mono ?_;rintro e l ⟨rfl,rfl⟩;go_wp2_with fail;go_ret;exact ⟨rfl,g.out _⟩
def anr (n:Nat) (z:n<9223372036854775808):Calls prog 31 #[.int .i64 (n:Int)] w (Fi (n:Int) w):=by
 have l:=AO w (.cells #[.bool false,.slice none 0 0] 37);have k:Fk (w.alloc (.cells #[.bool false,.slice none 0 0] 37)) w.heap.size:=heap_alloc_new w _;have a:=ae (af l k);have HO:=ae (fun q:World=>Ms (w:=q) n (by omega));have x: ¬(n:Int)<0:=by omega
 have y:(n:Int) % 18446744073709551616=(n:Int):=by omega
 clear l k;go_enter func31,ntmps31;go_wp2_with fail;refine (HO.out _).mono ?_;rintro e s ⟨B,rfl,d,b⟩;obtain ⟨h,j,c1,rfl⟩:=zj d.r;have i:DJ s (w.alloc (.cells #[.bool false,.slice none 0 0] 37)).heap.size (.agg #[.bool false,.slice h j c1]) (n:Int):=⟨_,by rw [decide_eq_false (by omega)],by simpa using d⟩;have g:=ae (af i b);have f:=a.out.2.below b;have p:=ae f;obtain ⟨m,o,t,u,A⟩:=f.facts;clear d b f i;go_wp2_with fail;refine bodyPost_ret (v:= .agg #[.bool false,.slice h j c1]) (by simp [results,results31,go_sem,m,o]) rfl ?_;exact Fl (a.out.1.trans (g.out.2.mono a.out.1.size)) (aq _) p.out g.out.1 a.out.1.size
def ans {x y:Value} {p q:Int} (h:DI w x p) (h':DI w y q):Calls prog 76 #[x,y] w (Quiet (.int .i64 (vL p q)) w):=by
 obtain ⟨v,rfl,s⟩:=h;obtain ⟨u,rfl,m⟩:=h';have f: ∀o b,Below w.heap.size w ((w.alloc o).alloc b):=fun o b=>(AO w o).trans ((AO _ b).mono (by simp))
 have z:=ae (fun o b=>Zt (s.below (f o b)) (m.below (f o b)));have A:=ae (fun o b=>Zt (m.below (f o b)) (s.below (f o b)));obtain ⟨a,k,c,rfl⟩:=zj s;obtain ⟨C,E,D,rfl⟩:=zj m;have g:=ae f;clear s m f;by_cases j:p<0<;>by_cases l:q<0
 ·have d:=ae (ann j l)
  rw [decide_eq_true j,decide_eq_true l];go_enter func76,ntmps76;go_wp2_with fail;refine (A.out _ _).mono ?_;rintro e B ⟨rfl,i⟩;have t:=ae i;clear i;go_wp2_with fail;go_ret;exact ⟨by rw [<-d.out];rfl,(g.out _ _).trans (t.out.mono (g.out _ _).size)⟩
 ·have d:=ae (ano (show p<q by omega))
  rw [decide_eq_true j,decide_eq_false l];go_enter func76,ntmps76;go_wp2_with fail;go_ret;exact ⟨by rw [d.out];rfl,g.out _ _⟩
 ·have d:=ae (anp (show q<p by omega))
  rw [decide_eq_false j,decide_eq_true l];go_enter func76,ntmps76;go_wp2_with fail;go_ret;exact ⟨by rw [d.out];rfl,g.out _ _⟩
 ·have d:=ae (anm (show 0<=p by omega) (show 0<=q by omega))
  rw [decide_eq_false j,decide_eq_false l];go_enter func76,ntmps76;go_wp2_with fail;refine (z.out _ _).mono ?_;rintro e B ⟨rfl,i⟩;have t:=ae i;clear i;go_wp2_with fail;go_ret;exact ⟨by rw [<-d.out];rfl,(g.out _ _).trans (t.out.mono (g.out _ _).size)⟩
end
end
section
open Go.RowKit
def ant {n:Nat} (h:Sm n) (k:Nat):Sm (n/k):=Fh h (bT _ _)
def anu {z:Int} (h: ¬z<0) (n:Nat):jm false (z.natAbs/2^n)=z/2^n:=by
 unfold jm;grind
def neg_ediv {a b:Nat} (f:0<b): -(a:Int)/(b:Int)= -((if a % b=0 then a/b else a/b+1:Nat):Int):=by
 have d:=du a b;have g:=dj a f;split
 ·rename_i h
  rw [h,dt] at d
  conv=>lhs;rw [<-d]
  rw [eB,<-Int.mul_neg,Int.mul_ediv_cancel_left _ (by omega)]
 ·rename_i h
  have e: -(a:Int)=(b:Int)*(-((a/b:Nat):Int)-1)+((b:Int)-((a % b:Nat):Int)):=by
   grind
  rw [e,Int.mul_add_ediv_left _ _ (by omega),Int.ediv_eq_zero_of_lt (by omega) (by omega)];omega
def aeA {z:Int} (h:z<0) (n:Nat):jm true (if z.natAbs % 2^n=0 then z.natAbs/2^n else z.natAbs/2^n+1)=z/2^n:=by
 unfold jm;rw [if_pos rfl,<-neg_ediv (aO (by decide)),aez];grind
section
variable {w:World}
def anv {x:Value} {z:Int} {n:Nat} (h:DI w x z) (R:Sm z.natAbs) (nZ:Sm (z.natAbs+1)) (hn:n<=1048576):Calls Tryz.prog 85 #[x,.int .i64 (n:Int)] w (Fi (z/2^n) w):=by
 obtain ⟨v,rfl,S⟩:=h;obtain ⟨a,k,c,rfl⟩:=zj S;obtain ⟨s,wZ⟩:=pQ (decide (z<0));rw [wZ];have J:=ae wZ;have MF:=ae (AM (n:=1) (k:=1) (by decide) (by decide));have M:=ae (ant R (2^n));have Uu:=ae (Fh (n:=z.natAbs/2^n+1) nZ (dH (bT _ _)));have Q:=boxes (s:=s) S;have zk:=ae R;clear S wZ R nZ;go_enter Tryz.func85,Tryz.ntmps85;go_wp2_with fail;generalize (w.alloc (.cells #[.bool s,.slice a k c] 37)).alloc (.cells #[.bool false,.slice none 0 0] 37)=E at Q⊢;have d:=ae Q;clear Q;have F:=ae (fun B (b:Below E.heap.size E B)=>af ((b.cell (p:=⟨w.heap.size,0,none⟩) (by have:=d.out.2.1.facts.2.2.2.2;simp;omega)).trans d.out.2.2.2.1) ((b.cell (p:=⟨w.heap.size,1,none⟩) (by have:=d.out.2.1.facts.2.2.2.2;simp;omega)).trans d.out.2.2.2.2));have HN:=ae (fun B (b:Below E.heap.size E B)=>d.out.2.2.1.below b);refine (aex d.out.2.2.1 zk.out hn).mono ?_;rintro e w1 ⟨v1,rfl,f,b⟩;obtain ⟨a1,k1,c1,rfl⟩:=zj f.r;have u3:=F.out _ b;have j:=ae (af f b);have l:=u3.1;have C:=u3.2;have D:w.heap.size<w1.heap.size:=ak w1 _ l;clear f b u3;cases s
 ·go_wp2_with fail
  refine (Fj false j.out.1.r M.out).mono ?_;rintro e w2 ⟨x2,rfl,f,b⟩;obtain ⟨b2,a2,U,c2,rfl,fM⟩:=f.form;have g:=ae (af f (j.out.2.trans (b.mono j.out.2.size)));have i:=d.out.2.1.below g.out.2;have A:=ae i;obtain ⟨q,t,f0,f1,ht⟩:=i.facts;clear f b i fM;go_wp2_with fail;refine bodyPost_ret (v:= .agg #[.bool b2,.slice a2 U c2]) (by simp [results,Tryz.results85,go_sem,q,t]) rfl ?_;have u: ¬z<0:=of_decide_eq_false J.out;exact Fl (d.out.1.trans (g.out.2.mono d.out.1.size)) (by omega) A.out ((anu u n)▸g.out.1) (by have:=d.out.1.size;have:=j.out.2.size;omega)
 ·go_wp2_with fail
  refine (aey (HN.out _ j.out.2) zk.out hn).mono ?_;rintro e w2 ⟨v2,rfl,f,b⟩;obtain ⟨a2,U,c2,rfl,JT,zl⟩:=f.r.form;have g:=ae (af (j.out.1.below b) (j.out.2.trans (b.mono j.out.2.size)));have u3:=F.out _ g.out.2;clear l C D;have l:=u3.1;have C:=u3.2;have D:w.heap.size<w2.heap.size:=ak w2 _ l;have o:=ae zl;clear f b u3 zl;by_cases hl:(0:Int)<(U:Int)
  ·have G:=ae (show¬z.natAbs % 2^n=0 from fun e=>by have:=o.out.1 e;omega)
   have HO:=ae (fun B:World=>Ms (w:=B) 1 (by decide));go_wp2_with fail;refine (HO.out _).mono ?_;rintro e w3 ⟨v3,rfl,m9,X⟩;have T:=ae (af m9 (g.out.2.trans (X.mono g.out.2.size)));have H:=ae (g.out.1.below X);clear m9 X;go_wp2_with fail;refine (Ut H.out.r T.out.1.r M.out MF.out).mono ?_;rintro e w4 ⟨v4,rfl,Y,nf⟩;obtain ⟨a4,k4,c4,rfl⟩:=zj Y.r;have y:=ae (af Y (T.out.2.trans (nf.mono T.out.2.size)));have u3:=F.out _ y.out.2;clear l C D;have l:=u3.1;have C:=u3.2;have D:w.heap.size<w4.heap.size:=ak w4 _ l;clear Y nf u3;go_wp2_with fail;refine (Fj true y.out.1.r Uu.out).mono ?_;rintro e w5 ⟨x5,rfl,f,b⟩;obtain ⟨O,N,W,P,rfl,Z⟩:=f.form;have m:=ae (af f (y.out.2.trans (b.mono y.out.2.size)));have i:=d.out.2.1.below m.out.2;have A:=ae i;obtain ⟨q,t,f0,f1,ht⟩:=i.facts;have I:=ae (af d.out.1.size y.out.2.size);clear f b i Z;go_wp2_with fail;refine bodyPost_ret (v:= .agg #[.bool O,.slice N W P]) (by simp [results,Tryz.results85,go_sem,q,t]) rfl ?_;have u:z<0:=of_decide_eq_true J.out;exact Fl (d.out.1.trans (m.out.2.mono d.out.1.size)) (by omega) A.out ((by have:=aeA u n;rw [if_neg G.out] at this;exact this:jm true (z.natAbs/2^n+1)=z/2^n)▸m.out.1) (by have:=I.out;omega)
  ·have G:=ae (show z.natAbs % 2^n=0 from o.out.2 (by omega))
   go_wp2_with fail;refine (Fj true g.out.1.r M.out).mono ?_;rintro e w5 ⟨x5,rfl,f,b⟩;obtain ⟨O,N,W,P,rfl,Z⟩:=f.form;have m:=ae (af f (g.out.2.trans (b.mono g.out.2.size)));have i:=d.out.2.1.below m.out.2;have A:=ae i;obtain ⟨q,t,f0,f1,ht⟩:=i.facts;have I:=ae (af d.out.1.size g.out.2.size);clear f b i Z;go_wp2_with fail;refine bodyPost_ret (v:= .agg #[.bool O,.slice N W P]) (by simp [results,Tryz.results85,go_sem,q,t]) rfl ?_;have u:z<0:=of_decide_eq_true J.out;exact Fl (d.out.1.trans (m.out.2.mono d.out.1.size)) (by omega) A.out ((by have:=aeA u n;rw [if_pos G.out] at this;exact this:jm true (z.natAbs/2^n)=z/2^n)▸m.out.1) (by have:=I.out;omega)
end
end
section
open Go.RowKit
def J3 (w:World) (s s':Bool) (v u:Value):World:=((w.alloc (.cells #[.bool s,v] 37)).alloc (.cells #[.bool s',u] 37)).alloc (.cells #[.bool false,.slice none 0 0] 37)
structure AP (w:World) (p:Nat) (s s':Bool) (v u:Value):Prop where
 c0:w.cell? ⟨p,0,none⟩=some (.bool s)
 c1:w.cell? ⟨p,1,none⟩=some v
 d0:w.cell? ⟨p+1,0,none⟩=some (.bool s')
 d1:w.cell? ⟨p+1,1,none⟩=some u
def AP.lt {w:World} {p:Nat} {s s':Bool} {v u:Value} (h:AP w p s s' v u):p+1<w.heap.size:=ak w _ h.d0
def AP.below {w w':World} {p:Nat} {s s':Bool} {v u:Value} (h:AP w p s s' v u) (a:Below w.heap.size w w'):AP w' p s s' v u:=by
 have b:=h.lt;exact ⟨(a.cell (p:=⟨p,0,none⟩) (by simp;omega)).trans h.c0,(a.cell (p:=⟨p,1,none⟩) (by simp;omega)).trans h.c1,(a.cell (p:=⟨p+1,0,none⟩) (by simp;omega)).trans h.d0,(a.cell (p:=⟨p+1,1,none⟩) (by simp;omega)).trans h.d1⟩
def AP.setCell {w:World} {p:Nat} {s s':Bool} {v u:Value} (h:AP w p s s' v u) (i:Nat) (x:Value):AP (w.setCell ⟨p+1+1,i,none⟩ x) p s s' v u:=
 ⟨(MD (by simp;omega) _).trans h.c0,(MD (by simp;omega) _).trans h.c1,(MD (by simp) _).trans h.d0,(MD (by simp) _).trans h.d1⟩
structure anw (w w0:World) (s s':Bool) (v u:Value) (n m:Nat):Prop where
 below:Below w.heap.size w w0
 res:Fk w0 (w.heap.size+1+1)
 two:AP w0 w.heap.size s s' v u
 r1:dL w0 v n
 r2:dL w0 u m
def anx {w:World} {s s':Bool} {v u:Value} {n m:Nat} (h:dL w v n) (h':dL w u m):anw w (J3 w s s' v u) s s' v u n m:=by
 have i:(w.alloc (.cells #[.bool s,v] 37)).heap.size=w.heap.size+1:=by simp
 have j:((w.alloc (.cells #[.bool s,v] 37)).alloc (.cells #[.bool s',u] 37)).heap.size=w.heap.size+1+1:=by simp
 have b1:=AO w (.cells #[.bool s,v] 37);have d:=AO (w.alloc (.cells #[.bool s,v] 37)) (.cells #[.bool s',u] 37);have b:=AO ((w.alloc (.cells #[.bool s,v] 37)).alloc (.cells #[.bool s',u] 37)) (.cells #[.bool false,.slice none 0 0] 37);have e:Below w.heap.size w (J3 w s s' v u):=(b1.trans (d.mono (by omega))).trans (b.mono (by omega));have a:Below (w.heap.size+1) (w.alloc (.cells #[.bool s,v] 37)) (J3 w s s' v u):=by rw [i] at d;exact d.trans (b.mono (by omega))
 rw [j] at b;obtain ⟨c0,c1⟩:=Zs w s v;obtain ⟨f,g⟩:=Zs (w.alloc (.cells #[.bool s,v] 37)) s' u;rw [i] at f g;refine ⟨e,?_,⟨(a.cell (p:=⟨w.heap.size,0,none⟩) (by simp)).trans c0,(a.cell (p:=⟨w.heap.size,1,none⟩) (by simp)).trans c1,(b.cell (p:=⟨w.heap.size+1,0,none⟩) (by simp)).trans f,(b.cell (p:=⟨w.heap.size+1,1,none⟩) (by simp)).trans g⟩,h.below e,h'.below e⟩;have:=heap_alloc_new ((w.alloc (.cells #[.bool s,v] 37)).alloc (.cells #[.bool s',u] 37)) (.cells #[.bool false,.slice none 0 0] 37);rw [j] at this;exact this
def add_same {p q:Int} (h:decide (p<0)=decide (q<0)):jm (decide (p<0)) (p.natAbs+q.natAbs)=p+q:=by
 unfold jm;grind
def anz {p q:Int} (h:decide (p<0)≠decide (q<0)) (a:q.natAbs<=p.natAbs):jm (decide (p<0)) (p.natAbs-q.natAbs)=p+q:=by
 unfold jm;grind
def add_lt {p q:Int} (h:decide (p<0)≠decide (q<0)) (a:p.natAbs<=q.natAbs):jm (decide (q<0)) (q.natAbs-p.natAbs)=p+q:=by
 unfold jm;grind
section
variable {w:World}
def anA {x y:Value} {p q:Int} (h:DI w x p) (h':DI w y q) (hs:Sm (p.natAbs+q.natAbs)):Calls Tryz.prog 83 #[x,y] w (Fi (p+q) w):=by
 obtain ⟨v,rfl,hv⟩:=h;obtain ⟨u,rfl,hu⟩:=h';obtain ⟨a,k,c,rfl⟩:=zj hv;obtain ⟨F,H,G,rfl⟩:=zj hu;obtain ⟨s,wZ⟩:=pQ (decide (p<0));obtain ⟨s',nZ⟩:=pQ (decide (q<0));rw [wZ,nZ];have I:=ae (af wZ nZ);have D:=ae (af hs (af (Fh hs (Nat.le_add_right _ _)) (Fh hs (Nat.le_add_left _ _))));have j:=anx (s:=s) (s':=s') hv hu;clear hv hu wZ nZ hs;by_cases J:s=s'
 ·have zq:=ae (show decide (p<0)=decide (q<0) by rw [I.out.1,I.out.2,J])
  have anB:(s==s')=true:=by simpa using J
  subst J;go_enter Tryz.func83,Tryz.ntmps83;go_wp2_with fail;have c0:=j.two.c0;have c1:=j.two.c1;have l:=j.two.d0;have m:=j.two.d1;have z:=j.two.lt;have o:w.heap.size<(J3 w s s (.slice a k c) (.slice F H G)).heap.size:=by omega
  unfold J3 at j c0 c1 l m z o;generalize ((w.alloc (.cells #[.bool s,.slice a k c] 37)).alloc (.cells #[.bool s,.slice F H G] 37)).alloc (.cells #[.bool false,.slice none 0 0] 37)=B at j c0 c1 l m z o⊢;have d:=ae j;clear j;have hS: ∀t,Below B.heap.size B t->AP t w.heap.size s s (.slice a k c) (.slice F H G):=fun t b=>d.out.two.below b
  have O:=ae hS;have Y:=ae (aH B.heap.size B).drew;have Uv:=ae (fun (t:World) (h:AP t w.heap.size s s (.slice a k c) (.slice F H G))=>af h.c0 (af h.c1 h.d1));have HTS:=ae (fun (t:World) (i i':Nat) (x x':Value) (h:AP t w.heap.size s s (.slice a k c) (.slice F H G))=>(h.setCell i x).setCell i' x');clear hS
  go_region_held3 (fun t=>t.cell? ⟨w.heap.size,0,none⟩=some (.bool s)/\t.cell? ⟨w.heap.size,1,none⟩=some (.slice a k c)/\t.cell? ⟨w.heap.size+1,1,none⟩=some (.slice F H G))
   ((refine Uv.out _ ?_;first|exact HTS.out _ _ _ _ _ (O.out _ fM)|exact O.out _ fM|exact O.out _ bW|exact O.out _ Y.out|exact O.out _ (aH _ _)))
   (first
    |(go_at_call 134;refine (Ut (d.out.r1.below (by first|exact Y.out|exact aH _ _)) (d.out.r2.below (by first|exact Y.out|exact aH _ _)) D.out.2.1 D.out.2.2).mono ?_;rintro e w1 ⟨x1,rfl,f,b⟩;have bW:Below B.heap.size B w1:=Y.out.trans b;have U:=ae f;clear f b)
    |(go_at_call 116;refine (Fj s U.out.r D.out.1).mono ?_;rintro e w2 ⟨x2,rfl,f,b⟩;have fM:Below B.heap.size B w2:=bW.trans (b.mono bW.size);obtain ⟨b1,Q,T,P,rfl,X⟩:=f.form;clear X;have N:=ae (f.base (base':=w.heap.size) (by have:=d.out.below.size;have:=bW.size;omega));have A:=d.out.res.below fM;have W:=ae A;obtain ⟨R,S,f0,f1,ht⟩:=A.facts;clear f b A))
  all_goals
   go_wp2_with fail;refine bodyPost_ret (v:= .agg #[.bool b1,.slice Q T P]) (by simp [results,Tryz.results83,go_sem,R,S]) rfl ?_;exact Fl (d.out.below.trans (fM.mono d.out.below.size)) (by omega) W.out ((by rw [<-I.out.1];exact add_same zq.out:jm s (p.natAbs+q.natAbs)=p+q)▸N.out) (aq _)
 ·have zq:=ae (show decide (p<0)≠decide (q<0) by rw [I.out.1,I.out.2];exact J)
  have anB:(s==s')=false:=by simpa using J
  clear J;go_enter Tryz.func83,Tryz.ntmps83;go_wp2_with fail;have c0:=j.two.c0;have c1:=j.two.c1;have l:=j.two.d0;have m:=j.two.d1;have z:=j.two.lt;have o:w.heap.size<(J3 w s s' (.slice a k c) (.slice F H G)).heap.size:=by omega
  unfold J3 at j c0 c1 l m z o;generalize ((w.alloc (.cells #[.bool s,.slice a k c] 37)).alloc (.cells #[.bool s',.slice F H G] 37)).alloc (.cells #[.bool false,.slice none 0 0] 37)=B at j c0 c1 l m z o⊢;have d:=ae j;clear j;have AQ:=ae (fun t (b:Below B.heap.size B t)=>af (d.out.r1.below b) (d.out.r2.below b));refine (Zu d.out.r1 d.out.r2 D.out.2.1 D.out.2.2).mono ?_;rintro e w1 Fm;rcases Fm with ⟨bB,rfl,b⟩|⟨E,v1,rfl,f,b⟩
  ·have Z:=ae bB
   have C:=ae b;clear bB b c0 c1 l m z o;have g:=d.out.two.below C.out;have c0:=g.c0;have c1:=g.c1;have l:=g.d0;have m:=g.d1;have z:=g.lt;have o:w.heap.size<w1.heap.size:=by omega
   clear g;go_wp2_with fail;refine (Zu (AQ.out _ C.out).2 (AQ.out _ C.out).1 D.out.2.2 D.out.2.1).mono ?_;rintro e w2 Fm;rcases Fm with ⟨bB,rfl,b⟩|⟨E,v1,rfl,f,b⟩
   ·exact absurd bB (by have:=Z.out;omega)
   ·obtain ⟨a2,k2,c2,rfl⟩:=zj f.r
    have U:=ae f;have iX:=ae (C.out.trans (b.mono C.out.size));clear E f b c0 c1 l m z o;have g:=d.out.two.below iX.out;have c0:=g.c0;have c1:=g.c1;have l:=g.d0;have m:=g.d1;have z:=g.lt;have o:w.heap.size<w2.heap.size:=by omega
    clear g;go_wp2_with fail;refine (Fj s' U.out.r (Fh D.out.2.2 (nr _ _))).mono ?_;rintro e w9 ⟨x2,rfl,f,b⟩;obtain ⟨b1,Q,T,P,rfl,X⟩:=f.form;clear X;have M:=ae (iX.out.trans (b.mono iX.out.size));have N:=ae (f.base (base':=w.heap.size) (by have:=d.out.below.size;have:=iX.out.size;omega));have A:=d.out.res.below M.out;have W:=ae A;obtain ⟨R,S,f0,f1,ht⟩:=A.facts;clear f b A c0 c1 l m z o;go_wp2_with fail;refine bodyPost_ret (v:= .agg #[.bool b1,.slice Q T P]) (by simp [results,Tryz.results83,go_sem,R,S]) rfl ?_;exact Fl (d.out.below.trans (M.out.mono d.out.below.size)) (by omega) W.out ((by rw [<-I.out.2];exact add_lt zq.out (by have:=Z.out;omega):jm s' (q.natAbs-p.natAbs)=p+q)▸N.out) (aq _)
  ·obtain ⟨a2,k2,c2,rfl⟩:=zj f.r
   have Z:=ae E;have U:=ae f;have C:=ae b;clear E f b c0 c1 l m z o;have g:=d.out.two.below C.out;have c0:=g.c0;have c1:=g.c1;have l:=g.d0;have m:=g.d1;have z:=g.lt;have o:w.heap.size<w1.heap.size:=by omega
   clear g;go_wp2_with fail;refine (Fj s U.out.r (Fh D.out.2.1 (nr _ _))).mono ?_;rintro e w9 ⟨x2,rfl,f,b⟩;obtain ⟨b1,Q,T,P,rfl,X⟩:=f.form;clear X;have M:=ae (C.out.trans (b.mono C.out.size));have N:=ae (f.base (base':=w.heap.size) (by have:=d.out.below.size;have:=C.out.size;omega));have A:=d.out.res.below M.out;have W:=ae A;obtain ⟨R,S,f0,f1,ht⟩:=A.facts;clear f b A c0 c1 l m z o;go_wp2_with fail;refine bodyPost_ret (v:= .agg #[.bool b1,.slice Q T P]) (by simp [results,Tryz.results83,go_sem,R,S]) rfl ?_;exact Fl (d.out.below.trans (M.out.mono d.out.below.size)) (by omega) W.out ((by rw [<-I.out.1];exact anz zq.out Z.out:jm s (p.natAbs-q.natAbs)=p+q)▸N.out) (aq _)
end
end
end Go.Proofs.YtnmpjdgobafdkaaGreatDoor
