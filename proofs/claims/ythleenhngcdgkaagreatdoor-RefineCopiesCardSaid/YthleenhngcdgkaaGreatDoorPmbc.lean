/- refineCopies_proved. -/
import Derived.Test.YthleenhngcdgkaaGreatDoorPmbb
import Derived.BigRegion
set_option maxRecDepth 100000
set_option maxHeartbeats 16000000
set_option linter.all false
noncomputable section
namespace Go.Proofs.YthleenhngcdgkaaGreatDoor
section
open Go.Proofs.Tryz Go Go.RowKit
variable {w w1:World} {x:bI}
def rA (a:Below (w.heap.size+1) (w.alloc (.cells ⟨fZ x⟩ 90)) w1):w1.heap[w.heap.size]? =some (.cells ⟨fZ x⟩ 90 (0,0)):=
 (a.block w.heap.size (by omega)).trans (by show (w.heap.push _)[w.heap.size]? =_;simp)
def jF {b:Nat} (h:w.heap[b]? =some (.cells ⟨fZ x⟩ 90 (0,0))):w.cell? ⟨b,0,none⟩=some (.int .i64 x.k)/\w.cell? ⟨b,1,none⟩=some (.int .i64 x.a)/\w.cell? ⟨b,2,none⟩=some (.int .i64 x.b)/\w.cell? ⟨b,3,none⟩=some (.int .i64 x.n)/\w.cell? ⟨b,4,none⟩=some (.string x.t):=
 ⟨mD h 0,mD h 1,mD h 2,mD h 3,mD h 4⟩
def lI (a:Below (w.heap.size+1) (w.alloc (.cells ⟨fZ x⟩ 90)) w1):Below w.heap.size w w1:=
 ((aG w.heap.size w).alloc (ak _) _).trans (a.mono (by omega))
def uv (w:World) (o:Obj):(w.alloc o).heap.size=w.heap.size+1:=by simp
def P5 (d:nJ x) (z:om w):
 Calls prog 175 #[gK x] w fun e H=>e= .returned (.bool true)/\Below w.heap.size w H:=by
 obtain ⟨k,a,b,n,t⟩:=x;have u:=d.k1;have y:=d.k2;have h:=d.pow;have f:=d.lW;have l:=d.pP;simp only at u y h f l;have s:=ae (af d z);have q:=ae (fun x:bI=>(aG w.heap.size w).alloc (ak _) (.cells ⟨fZ x⟩ 90));unfold gK;simp only;by_cases o:k=1
 ·subst o
  obtain rfl:=f (by omega);clear u y h f l d z;go_enter func175,ntmps175;go_wp2_with fail;refine (amq aDe (s.out.2.below (q.out ⟨1,a,b,0,t⟩)) (s.out.1.Ct rfl)).mono ?_;rintro e w1 ⟨p,N,P,O,Q,S,R,rfl,m⟩;have g:Below (w.heap.size+1) (w.alloc (.cells ⟨fZ ⟨1,a,b,0,t⟩⟩ 90)) w1:=by rw [<-uv w];exact m
  obtain ⟨j,A,B,C,D⟩:=jF (rA g);simp only at j A B C D;have i:=ae (lI g);have G:w.heap.size<w1.heap.size:=aj w1 _ j;have I:=i.out.size;clear m g;go_wp2_with fail;go_ret;exact ⟨rfl,i.out.alloc i.out.size _⟩
 ·by_cases E:k=2
  ·subst E
   obtain rfl:=f (by omega);clear u y h f l d z o;go_enter func175,ntmps175;go_wp2_with fail;refine (ad8 aDi (s.out.2.below (q.out ⟨2,a,b,0,t⟩)) (s.out.1.FA rfl)).mono ?_;rintro e w1 ⟨rfl,m⟩;have g:Below (w.heap.size+1) (w.alloc (.cells ⟨fZ ⟨2,a,b,0,t⟩⟩ 90)) w1:=by rw [<-uv w];exact m
   obtain ⟨j,A,B,C,D⟩:=jF (rA g);simp only at j A B C D;have i:=ae (lI g);have G:w.heap.size<w1.heap.size:=aj w1 _ j;clear m g;go_wp2_with fail;go_ret;exact ⟨rfl,i.out⟩
  ·obtain rfl:=l o E
   clear d z l;by_cases F:k=10
   ·subst F
    obtain ⟨J,M⟩:=h rfl;clear u y h f o E;go_enter func175,ntmps175;go_wp2_with fail;go_ret;exact ⟨by simp;omega,q.out ⟨10,a,b,n,ByteArray.empty⟩⟩
   ·obtain rfl:=f F
    clear h f;go_enter func175,ntmps175;go_wp2_with fail;go_ret;exact ⟨rfl,q.out ⟨k,a,b,0,ByteArray.empty⟩⟩
end
section
open Go.Proofs.Tryz Go Go.RowKit Go.Ev
def aDl:(prog.info? 164).map (fun i=>(i.zero,i.size,i.bytes))=some (some (.agg #[.bool false,.slice none 0 0,.slice none 0 0,.int .i64 0]),4,64):=by kernel_rfl
def aDm {a b c d:Value} {n j:Nat} (f:j<n):(madeCells #[a,b,c,d] (n*4))[j*4]? =some a/\(madeCells #[a,b,c,d] (n*4))[j*4+1]? =some b/\(madeCells #[a,b,c,d] (n*4))[j*4+2]? =some c/\(madeCells #[a,b,c,d] (n*4))[j*4+3]? =some d:=by
 have e: ∀k,k<n*4->(madeCells #[a,b,c,d] (n*4))[k]? =some (#[a,b,c,d][k % 4]!):=fun k g=>by
  unfold madeCells;simp_all
 refine ⟨?_,?_,?_,?_⟩
 all_goals grind
def aDn {W a:World} {n:Nat} {l:List Rs} {t:TypeId} (s:0<n) (q:a.ownsRow W.heap.size 164 4 (.slice (some ⟨W.heap.size,0,none⟩) n n) n (madeCells (Value.agg #[.bool false,.slice none 0 0,.slice none 0 0,.int .i64 0]).cells (n*4)).toList) (p:W.grownBy a none):
 ur W (a.alloc (.cells #[.slice (some ⟨W.heap.size,0,none⟩) n n] t)) a.heap.size W.heap.size n l 0:=by
 have f:Below W.heap.size W a:=(vW p).oe (fun k _ e=>by cases e) (ak _);rcases q.2 with ⟨e,_⟩|⟨g,cap,cur,e,y,hc,u,x,b,d⟩
 ·cases e
 ·cases e
  have i:W.heap.size<a.heap.size:=(au.1 hc).1;have m:cur.toList=(madeCells #[.bool false,.slice none 0 0,.slice none 0 0,.int .i64 0] (n*4)).toList:=by
   rw [mu (by simp [b])] at d;exact d
  have o:cur=madeCells #[.bool false,.slice none 0 0,.slice none 0 0,.int .i64 0] (n*4):=Array.toList_inj.1 m;subst o;refine ⟨f.alloc f.size _,by omega,ak _,by omega,⟨t,heap_alloc_new _ _⟩,_,(dX _ _ _ i).trans hc,b,fun j _ h=>aDm h,fun j h=>by omega⟩
def Hu {w w':World} (h:bw w) (b:Below w.heap.size w w'):bw w':=fun j a=>(b.cell (aj w _ (h j a))).trans (h j a)
def aDo {w:World} (i:Int):Calls prog 94 #[.int .i64 i] w fun e a=>e= .returned (.bool true)/\a=w:=by
 go_enter func94,ntmps94;go_wp2_with fail;go_ret;exact ⟨rfl,rfl⟩
def aDp {W:World} {B:Nat} {v:Value} {L:List bI} (h:iz W B v L) {l:List Rs} (T:Ud (L.map zO) l) (hl:l.length=L.length) (U:0<L.length) (z:L.length<=10000) (hT:bw W):
 Calls prog 93 #[v,.func (.func 94) #[] #[]] W fun e A=> ∃b g,e= .returned (.slice (some ⟨g,0,none⟩) L.length L.length)/\ur W A b g L.length l L.length:=by
 have D:=ae (af h (af T (af hl hT)));obtain ⟨va,vc,rfl⟩:=h.slice;obtain ⟨n,Z⟩:=pS L.length;have j:=ae Z;rw [Z] at U z⊢;have H0:=ae U;clear h T hT hl Z;obtain ⟨i0,eT,fL,gd,fG⟩:=info_parts aDl;go_enter func93,ntmps93;go_wp2_with (refine wpList_make_full W rfl (.tmp 9) (.tmp 9) 161 rfl W.heap.size 164 i0 _ 4 underlying161 eT fL gd _ _ _ _ n rfl rfl rfl rfl (by rw [fG];omega) (by unfold maxLen;omega) (ak _) ?_;intro w1 ho f;have I:=ae (aDn (l:=l) (t:=161) H0.out ho f);clear ho f);have o: ∀(w:World) (b g i:Nat),i<n->ur W w b g n l i-> ∀(x:bI),L.getD i dP=x-> ∀(r:Rs),l.getD i eR=r->
  Calls prog 149 #[gK x,.func (.func 150) #[] #[.pointer (some ⟨b,0,none⟩)]] w fun e A=> ∃M k1 c1 N k2 u,e= .returned (.agg #[.bool (decide (r.p<0)),.slice M k1 c1,.slice N k2 u,.int .i64 r.s])/\eD A (.slice M k1 c1) r.p.natAbs/\eD A (.slice N k2 u) r.q/\Below w.heap.size w A:=fun w b g i Y hw x hx r G=>by
  have q:=aCD (b:=b) (g:=g) (w:=w) (W:=W) D.out.2.1 D.out.2.2.1 (by rw [j.out];omega) (by rw [j.out];exact Y) (by rw [j.out];exact hw) (Hu D.out.2.2.2 hw.below) hx;rw [G] at q;exact q
 have O:=ae o;clear o;obtain ⟨b,X⟩:=pS w1.heap.size;obtain ⟨g,f⟩:=pS W.heap.size;rw [X,f] at I;rw [X,f];generalize w1.alloc (.cells #[.slice (some ⟨g,0,none⟩) n n] 161)=w2 at I⊢;clear eT fL gd fG X f U;go_loopw [13] (fun iv wr=> ∃i:Nat,iv= .int .i64 (i:Int)/\i<=n/\ur W wr b g n l i) (fun iv _=>n-(intOf iv).toNat)
 case atStart=>exact ⟨0,rfl,by omega,I.out⟩
 case round=>
  obtain ⟨i,rfl,Y,F⟩:=hrel;have J:=ae F;have hc:=F.cell.1;have mG:=F.blt.1;by_cases E:i<n
  ·obtain ⟨y,hy⟩:=pS (L.getD i dP)
   obtain ⟨gv,cv,ev,c0,c1,u,c3,c4⟩:=(D.out.1.frame (S:=fun _=>False) (Fr.iE J.out.below) (fun _ _ e=>e)).form (by rw [j.out];exact E) hy;rw [j.out] at ev;cases ev;obtain ⟨k,a,bb,m,t⟩:=y;simp only at c0 c1 u c3 c4;have d:=ae (af hy E);obtain ⟨r,G⟩:=pS (l.getD i eR);have C:=ae G;have i0:(0:Int)<=(i:Int):=by omega
   have i1:(i:Int)<(n:Int):=by omega
   have vL:gv<wr.heap.size:=aj wr _ c0;clear F hy E hc mG G;go_wp2_with fail;refine (aDo _).mono ?_;rintro e w3 ⟨rfl,zJ⟩;have P:Below (wr.heap.size+1) (wr.alloc (.cells ⟨fZ ⟨k,a,bb,m,t⟩⟩ 90)) w3:=by rw [zJ];exact aG _ _
   obtain ⟨R,d1,d2,d3,d4⟩:=jF (rA P);simp only at R d1 d2 d3 d4;have vP:=ae (J.out.later (lI P));have Ur:=vP.out.cell.1;have hs:wr.heap.size<w3.heap.size:=aj w3 _ R;clear zJ P c0 c1 u c3 c4 vL;go_wp2_with fail
   go_region_with ((go_at_call 149;refine (O.out _ _ _ _ d.out.2 (vP.out.later (by first|exact ((aG _ _).drew)|exact (aG _ _))) _ d.out.1 _ C.out).mono ?_;rintro e w4 ⟨M,k1,x1,N,k2,x2,rfl,n1,n2,pA⟩;have H:=ae ((vP.out.later (by first|exact ((aG _ _).drew)|exact (aG _ _))).later pA);obtain ⟨⟨q0,q1,q2,q3⟩,f0,f1,f2,f3⟩:=H.out.at d.out.2;have uf:=H.out.cell.1;have N1:=ae n1;have N2:=ae n2;clear n1 n2 pA))
   all_goals
    have Q:=H.out.next d.out.2 (by rw [C.out];exact N1.out) (by rw [C.out];exact N2.out);rw [C.out] at Q;have HQ:=ae Q;clear Q q0 q1 q2 q3 f0 f1 f2 f3 uf Ur R d1 d2 d3 d4 hs;go_wp2_with fail;go_roundw
    case rel=>exact ⟨i+1,by go_num,by have:=d.out.2;omega,HQ.out⟩
    case measure=>have:=d.out.2;simp [intOf];omega
  ·have Cz:i=n:=by omega
   subst Cz;clear E Y;go_wp2_with fail;go_ret;exact ⟨_,_,rfl,J.out⟩
end
section
open Go Go.RowKit
def zR {n:Nat} {w:World} (o:Obj) (h:n<=w.heap.size):n<=(w.alloc o).heap.size:=by rw [uv];omega
def aDr {w:World} {B p:Nat} {v:Value} {L:List bI} (h:qj w B p v L) (hl:L.length<=10000) {x:bI} (hx:nJ x) (hf:mS L.length x) (hT:om w):
 Calls Tryz.prog 122 #[ptr p,gK x] w fun e w'=>e= .returned (.bool true)/\Below w.heap.size w w':=by
 have f:=ae (af hx (af hf (af hT (af h hl))));obtain ⟨k,a,b,n,t⟩:=x;have h1:=hx.k1;have h2:=hx.k2;have P:=hf.a0;have O:=hf.b0;simp only at h1 h2 P O;clear hx hf hT h hl;have HL:=ae (vX ⟨k,a,b,n,t⟩);unfold ptr gK;simp only;have M:=ae (af h1 h2);go_enter Tryz.func122,Tryz.ntmps122;go_wp2_with fail;refine (J8 h1 h2 _).mono ?_;rintro e w1 ⟨rfl,A9⟩;have y:Below (w.heap.size+1) (w.alloc (.cells ⟨fZ ⟨k,a,b,n,t⟩⟩ 90)) w1:=by rw [A9];exact aG _ _
 obtain ⟨g,o,q,s,u⟩:=jF (rA y);simp only at g o q s u;have hs:w.heap.size<w1.heap.size:=aj w1 _ g;have N:=ae y;clear y A9 h1 h2;rcases Kj k with E|E|E
 ·obtain rfl:=P E
  obtain rfl:=O (by omega);rw [E];clear E P O;go_wp2_with fail;refine (P5 f.out.1 (f.out.2.2.1.below (lI N.out))).mono ?_;rintro e w2 ⟨rfl,C⟩;have G:=ae (N.out.trans (C.mono (by omega)));have wM:=C.size;clear g o q s u C;obtain ⟨g,o,q,s,u⟩:=jF (rA G.out);simp only at g o q s u;have X:w.heap.size<w2.heap.size:=by omega
  clear hs wM;go_wp2_with fail;refine (adS (x:=⟨k,0,0,n,t⟩) M.out.1 M.out.2 _).mono ?_;rintro e w3 ⟨av,rfl,i⟩;obtain ⟨aa,ac,rfl⟩:=ry i.2;have Q:=ae i;have H:=ae ((lI G.out).trans (i.1.mono (by omega)));obtain ⟨d,m⟩:=pS ((args ⟨k,0,0,n,t⟩).length);have F:=ae m;have mn:d<=2:=by rw [<-m];exact HL.out
  rw [m];clear m i g o q s u X;go_wp2_with fail;go_loopw [39] (fun iv wr=>wr=w3/\ ∃j:Nat,iv= .int .i64 (j:Int)/\j<=d) (fun iv _=>d-(intOf iv).toNat)
  case atStart=>exact ⟨rfl,0,rfl,by omega⟩
  case round=>
   obtain ⟨T,j,rfl,Y⟩:=hrel;subst T;by_cases A:j<d
   ·obtain ⟨a4,c4,U,I⟩:=Bb Q.out.2
    obtain ⟨g4,W,uf⟩:=I j (by rw [F.out];exact A);cases U;subst W;have D:=f.out.2.1.args _ (Ke (l:=args ⟨k,0,0,n,t⟩) (by rw [F.out];exact A));obtain ⟨z,J⟩:=pS ((args ⟨k,0,0,n,t⟩).getD j 0);rw [J] at uf D;have R:=ae D;clear D J I;have yH:(0:Int)<=(j:Int):=by omega
    have xR:(j:Int)<(d:Int):=by omega
    go_wp2_with fail;refine (ad3 (f.out.2.2.2.1.below H.out) (by have:=f.out.2.2.2.2;omega) z).mono ?_;rintro e w4 ⟨rfl,Z⟩;subst Z;have y:(decide (0<=z)&&decide (z<(L.length:Int)))=true:=by have:=R.out;simp;omega
    rw [y];clear y;go_wp2_with fail;go_roundw
    case rel=>exact ⟨by first|rfl|trivial,j+1,by go_num,by omega⟩
    case measure=>simp [intOf];omega
   ·have S:j=d:=by omega
    subst S;clear Y A;go_wp2_with fail;go_ret;exact ⟨rfl,H.out⟩
 ·obtain rfl:=O (by omega)
  rw [E];clear E P O;go_wp2_with fail;refine (P5 f.out.1 (f.out.2.2.1.below (lI N.out))).mono ?_;rintro e w2 ⟨rfl,C⟩;have G:=ae (N.out.trans (C.mono (by omega)));have wM:=C.size;clear g o q s u C;obtain ⟨g,o,q,s,u⟩:=jF (rA G.out);simp only at g o q s u;have X:w.heap.size<w2.heap.size:=by omega
  clear hs wM;go_wp2_with fail;refine (adS (x:=⟨k,a,0,n,t⟩) M.out.1 M.out.2 _).mono ?_;rintro e w3 ⟨av,rfl,i⟩;obtain ⟨aa,ac,rfl⟩:=ry i.2;have Q:=ae i;have H:=ae ((lI G.out).trans (i.1.mono (by omega)));obtain ⟨d,m⟩:=pS ((args ⟨k,a,0,n,t⟩).length);have F:=ae m;have mn:d<=2:=by rw [<-m];exact HL.out
  rw [m];clear m i g o q s u X;go_wp2_with fail;go_loopw [39] (fun iv wr=>wr=w3/\ ∃j:Nat,iv= .int .i64 (j:Int)/\j<=d) (fun iv _=>d-(intOf iv).toNat)
  case atStart=>exact ⟨rfl,0,rfl,by omega⟩
  case round=>
   obtain ⟨T,j,rfl,Y⟩:=hrel;subst T;by_cases A:j<d
   ·obtain ⟨a4,c4,U,I⟩:=Bb Q.out.2
    obtain ⟨g4,W,uf⟩:=I j (by rw [F.out];exact A);cases U;subst W;have D:=f.out.2.1.args _ (Ke (l:=args ⟨k,a,0,n,t⟩) (by rw [F.out];exact A));obtain ⟨z,J⟩:=pS ((args ⟨k,a,0,n,t⟩).getD j 0);rw [J] at uf D;have R:=ae D;clear D J I;have yH:(0:Int)<=(j:Int):=by omega
    have xR:(j:Int)<(d:Int):=by omega
    go_wp2_with fail;refine (ad3 (f.out.2.2.2.1.below H.out) (by have:=f.out.2.2.2.2;omega) z).mono ?_;rintro e w4 ⟨rfl,Z⟩;subst Z;have y:(decide (0<=z)&&decide (z<(L.length:Int)))=true:=by have:=R.out;simp;omega
    rw [y];clear y;go_wp2_with fail;go_roundw
    case rel=>exact ⟨by first|rfl|trivial,j+1,by go_num,by omega⟩
    case measure=>simp [intOf];omega
   ·have S:j=d:=by omega
    subst S;clear Y A;go_wp2_with fail;go_ret;exact ⟨rfl,H.out⟩
 ·rw [E]
  clear E P O;go_wp2_with fail;refine (P5 f.out.1 (f.out.2.2.1.below (lI N.out))).mono ?_;rintro e w2 ⟨rfl,C⟩;have G:=ae (N.out.trans (C.mono (by omega)));have wM:=C.size;clear g o q s u C;obtain ⟨g,o,q,s,u⟩:=jF (rA G.out);simp only at g o q s u;have X:w.heap.size<w2.heap.size:=by omega
  clear hs wM;go_wp2_with fail;refine (adS (x:=⟨k,a,b,n,t⟩) M.out.1 M.out.2 _).mono ?_;rintro e w3 ⟨av,rfl,i⟩;obtain ⟨aa,ac,rfl⟩:=ry i.2;have Q:=ae i;have H:=ae ((lI G.out).trans (i.1.mono (by omega)));obtain ⟨d,m⟩:=pS ((args ⟨k,a,b,n,t⟩).length);have F:=ae m;have mn:d<=2:=by rw [<-m];exact HL.out
  rw [m];clear m i g o q s u X;go_wp2_with fail;go_loopw [39] (fun iv wr=>wr=w3/\ ∃j:Nat,iv= .int .i64 (j:Int)/\j<=d) (fun iv _=>d-(intOf iv).toNat)
  case atStart=>exact ⟨rfl,0,rfl,by omega⟩
  case round=>
   obtain ⟨T,j,rfl,Y⟩:=hrel;subst T;by_cases A:j<d
   ·obtain ⟨a4,c4,U,I⟩:=Bb Q.out.2
    obtain ⟨g4,W,uf⟩:=I j (by rw [F.out];exact A);cases U;subst W;have D:=f.out.2.1.args _ (Ke (l:=args ⟨k,a,b,n,t⟩) (by rw [F.out];exact A));obtain ⟨z,J⟩:=pS ((args ⟨k,a,b,n,t⟩).getD j 0);rw [J] at uf D;have R:=ae D;clear D J I;have yH:(0:Int)<=(j:Int):=by omega
    have xR:(j:Int)<(d:Int):=by omega
    go_wp2_with fail;refine (ad3 (f.out.2.2.2.1.below H.out) (by have:=f.out.2.2.2.2;omega) z).mono ?_;rintro e w4 ⟨rfl,Z⟩;subst Z;have y:(decide (0<=z)&&decide (z<(L.length:Int)))=true:=by have:=R.out;simp;omega
    rw [y];clear y;go_wp2_with fail;go_roundw
    case rel=>exact ⟨by first|rfl|trivial,j+1,by go_num,by omega⟩
    case measure=>simp [intOf];omega
   ·have S:j=d:=by omega
    subst S;clear Y A;go_wp2_with fail;go_ret;exact ⟨rfl,H.out⟩
end
section
open Go Go.RowKit
variable {i n g:Nat} {l:List bI} {S D:List Int} {w wr w9:World} {sv dv:Value} {k a b m s d:Int} {t:ByteArray} {o:Obj}
structure Zi (l:List bI) (S D:List Int) (i:Nat):Prop where
 ls:S.length=i
 ld:D.length=i
 s1: ∀j,j<i->1<=S.getD j 0/\S.getD j 0<=(j:Int)+1
 d1: ∀j,j<i->1<=D.getD j 0/\D.getD j 0<=(j:Int)+1
 fit: ∀j,j<i->mS j (l.getD j dP)
def ad9 {l:List Int} {x:Int} {j:Nat} (f:l.length=i) (e:j<i+1):(l++ [x]).getD j 0=if j<i then l.getD j 0 else x:=by
 grind
def Zi.next (h:Zi l S D i) (hs:1<=s/\s<=(i:Int)+1) (hd:1<=d/\d<=(i:Int)+1) (hf:mS i (l.getD i dP)):Zi l (S++ [s]) (D++ [d]) (i+1) where
 ls:=by simp [h.ls]
 ld:=by simp [h.ld]
 s1:=fun j hj=>by
  rw [ad9 h.ls hj];split
  ·exact h.s1 j (by assumption)
  all_goals grind
 d1:=fun j hj=>by
  rw [ad9 h.ld hj];split
  ·exact h.d1 j (by assumption)
  all_goals grind
 fit:=fun j hj=>by
  by_cases h0:j<i
  ·exact h.fit j h0
  all_goals grind
structure xF (w wr:World) (sv dv:Value) (S D:List Int) (i:Nat) (l:List bI):Prop where
 oG:wr.ownsRow w.heap.size 3 1 sv S.length (ints S)
 Km:wr.ownsRow w.heap.size 3 1 dv D.length (ints D)
 apart: ∀k,sv.ownBlock=some k->dv.ownBlock≠some k
 inv:Zi l S D i
 below:Below w.heap.size w wr
def xF.later {w':World} (h:xF w wr sv dv S D i l) (f:Below wr.heap.size wr w'):xF w w' sv dv S D i l:=
 ⟨oh h.oG (Fr.iE (S:=fun _=>False) f) (fun _ _ e=>e),oh h.Km (Fr.iE (S:=fun _=>False) f) (fun _ _ e=>e),h.apart,h.inv,h.below.trans (f.mono h.below.size)⟩
def xF.half (h:xF w wr sv dv S D i l) (q:Fr (fun k=>sv.ownBlock=some k) (wr.alloc o) w9) (f:sv.ownBlock=some g\/(wr.alloc o).heap.size<=g):
 w9.ownsRow w.heap.size 3 1 dv D.length (ints D)/\Below w.heap.size w w9/\dv.ownBlock≠some g:=by
 have j:Fr (fun k=>sv.ownBlock=some k) wr w9:=((Fr.refl (fun k=>sv.ownBlock=some k) wr).alloc o).trans q (fun _ _ e=>e);refine ⟨oh h.Km j (fun k p e=>h.apart k e p),h.below.trans (j.oe (fun k p e=>by have:=(h.oG.lt k e).1;omega) h.below.size),fun e=> ?_⟩;rcases f with f|f
 ·exact h.apart g f e
 ·have:=(h.Km.lt g e).2;simp at f;omega
def xF.next {p:World} {f cap x:Nat} {u:Obj} (h:xF w wr sv dv S D i l)
 (z:w9.ownsRow w.heap.size 3 1 (.slice (some ⟨g,0,none⟩) (S.length+1) cap) (S.length+1) (ints S++ [.int .i64 s])) (F:Fr (fun k=>sv.ownBlock=some k) (wr.alloc o) w9) (H:sv.ownBlock=some g\/(wr.alloc o).heap.size<=g)
 (R:p.ownsRow w.heap.size 3 1 (.slice (some ⟨f,0,none⟩) (D.length+1) x) (D.length+1) (ints D++ [.int .i64 d])) (G:Fr (fun k=>dv.ownBlock=some k) (w9.alloc u) p) (j:dv.ownBlock=some f\/(w9.alloc u).heap.size<=f)
 (M:1<=s/\s<=(i:Int)+1) (I:1<=d/\d<=(i:Int)+1) (J:mS i (l.getD i dP)):
 xF w p (.slice (some ⟨g,0,none⟩) (S.length+1) cap) (.slice (some ⟨f,0,none⟩) (D.length+1) x) (S++ [s]) (D++ [d]) (i+1) l:=by
 obtain ⟨O,B,P⟩:=h.half F H;have A:Fr (fun k=>dv.ownBlock=some k) w9 p:=((Fr.refl (fun k=>dv.ownBlock=some k) w9).alloc u).trans G (fun _ _ e=>e);have C:ints (S++ [s])=ints S++ [.int .i64 s]:=by simp [ints]
 have Q:ints (D++ [d])=ints D++ [.int .i64 d]:=by simp [ints]
 refine ⟨?_,?_,fun k q N=> ?_,h.inv.next M I J,B.trans (A.oe (fun k q e=>by have:=(O.lt k e).1;omega) B.size)⟩
 ·rw [C,bp]
  exact oh z A (fun k q e=>by
   have y:g=k:=by simpa [Value.ownBlock] using q
   all_goals grind)
 ·simp_all
 ·have y:g=k:=by simpa [Value.ownBlock] using q
  have E:f=k:=by simpa [Value.ownBlock] using N
  subst y;subst E;rcases j with j|j
  ·exact P j
  ·have:=(z.lt f rfl).2;simp at j;omega
def aDs (w:World) (l:List bI):xF w w (.slice none 0 0) (.slice none 0 0) [] [] 0 l:=
 ⟨World.ownsRow_nil _ _ _ _,World.ownsRow_nil _ _ _ _,fun k h=>by simp [Value.ownBlock] at h,⟨rfl,rfl,fun j h=>by omega,fun j h=>by omega,fun j h=>by omega⟩,aG _ _⟩
def amt (h:arity k=0) (f:a=0) (j:b=0):mS n ⟨k,a,b,m,t⟩:=
 ⟨fun x e=>by unfold args at e;rw [if_pos h] at e;simp at e,fun _=>f,fun _=>j⟩
def amu (h:arity k=1) (p:0<=a/\a<(n:Int)) (f:b=0):mS n ⟨k,a,b,m,t⟩:=
 ⟨fun x j=>by
  unfold args at j
  all_goals grind,fun e=>by simp only at e;omega,fun _=>f⟩
def aea (h:arity k=2) (j:0<=a/\a<(n:Int)) (p:0<=b/\b<(n:Int)):mS n ⟨k,a,b,m,t⟩:=
 ⟨fun x f=>by
  unfold args at f
  all_goals grind,fun e=>by simp only at e;omega,fun e=>by simp only at e;omega⟩
end
section
open Go Go.RowKit
def Bg {w:World} {B:Nat} {v:Value} {a:List Int} {j:Nat} (h:w.ownsRow B 3 1 v a.length (ints a)) (d:j<a.length:=by omega): ∃g c,v= .slice (some ⟨g,0,none⟩) a.length c/\w.cell? ⟨g,j,none⟩=some (.int .i64 (a.getD j 0))/\g<w.heap.size:=by
 obtain ⟨g,c,rfl,_,_,b⟩:=MP h;exact ⟨g,c,rfl,by rw [h.cellAt j (by omega),PK d],b⟩
def aDt {w:World} {B:Nat} {v:Value} {l:List bI} (h:iz w B v l) (hl:l.length<=1000) (hm: ∀i,i<l.length->nJ (l.getD i dP)) (hT:om w):
 Calls Tryz.prog 117 #[v] w fun e w'=>Below w.heap.size w w'/\(e= .returned (.tuple #[.slice none 0 0,.slice none 0 0])\/ ∃sv dv S D,e= .returned (.tuple #[sv,dv])/\xF w w' sv dv S D l.length l/\0<l.length):=by
 have HX:=ae (af h (af hl (af hm hT)));obtain ⟨va,vc,rfl⟩:=h.slice;obtain ⟨n,hn⟩:=pS l.length;have HN:=ae hn;rw [hn] at hl⊢;clear h hm hT hn;go_enter Tryz.func117,Tryz.ntmps117;go_wp2_with fail;go_loopw [4,5,14] (fun sv dv iv wr=> ∃S D,∃i:Nat,iv= .int .i64 (i:Int)/\i<=n/\xF w wr sv dv S D i l) (fun _ _ iv _=>n-(intOf iv).toNat)
 case atStart=>exact ⟨[],[],0,rfl,by omega,aDs w l⟩
 case round=>
  obtain ⟨S,D,i,rfl,hi,hW⟩:=hrel;obtain ⟨sa,sc,rfl⟩:=ry hW.oG;obtain ⟨da,dc,rfl⟩:=ry hW.Km;obtain ⟨Y,Aa⟩:=pS S.length;obtain ⟨dn,kK⟩:=pS D.length;have I:=ae (by rw [<-Aa,<-kK];exact hW:xF w wr (.slice sa Y sc) (.slice da dn dc) S D i l);have p:=ae Aa;have E:=ae kK;have Ko:=ae (show Y<=1000/\dn<=1000 by have:=hW.inv.ls;have:=hW.inv.ld;omega);rw [Aa,kK];by_cases bz:i<n
  ·clear hW Aa kK
   obtain ⟨y,hy⟩:=pS (l.getD i dP);obtain ⟨gv,cv,ev,c0,c1,c2,c3,c4⟩:=(HX.out.1.frame (S:=fun _=>False) (Fr.iE I.out.below) (fun _ _ e=>e)).form (by rw [HN.out];exact bz) hy;rw [HN.out] at ev;cases ev;obtain ⟨k,a,b,m,t⟩:=y;simp only at c0 c1 c2 c3 c4;have HY:=ae hy;have hk:=HX.out.2.2.1 i (by rw [HN.out];exact bz);rw [hy] at hk;have HK:=ae hk;have h1:=hk.k1;have h2:=hk.k2;simp only at h1 h2;clear hy hk;have i0:(0:Int)<=(i:Int):=by omega
   have i1:(i:Int)<(n:Int):=by omega
   have vL:gv<wr.heap.size:=aj wr _ c0;go_wp2_with fail;refine (J8 h1 h2 _).mono ?_;rintro e w1 ⟨rfl,A9⟩;have bP:Below (wr.heap.size+1) (wr.alloc (.cells ⟨fZ ⟨k,a,b,m,t⟩⟩ 90)) w1:=by rw [A9];exact aG _ _
   obtain ⟨J,T,U,W,X⟩:=jF (rA bP);simp only at J T U W X;have hs:wr.heap.size<w1.heap.size:=aj w1 _ J;have cC:=ae bP;clear bP A9 h1 h2 c0 c1 c2 c3 c4 vL;rcases Kj k with G|G|G
   ·rw [G]
    have H0:=ae G;clear G;go_wp2_with fail;refine (P5 (x:=⟨k,a,b,m,t⟩) HK.out ((HX.out.2.2.2.below I.out.below).below (lI cC.out))).mono ?_;rintro e w2 ⟨rfl,M⟩;have gC:=ae (cC.out.trans (M.mono (by omega)));have f:=ae (I.out.later (lI gC.out));have F:=ae f.out.below;have wM:=M.size;clear J T U W X M;obtain ⟨J,T,U,W,X⟩:=jF (rA gC.out);simp only at J T U W X;have fh:wr.heap.size<w2.heap.size:=by omega
    clear hs wM;by_cases ha:a=0
    ·by_cases hb:b=0
     ·subst ha;subst hb
      go_wp2_with (at_builtin;first
       |(refine Bc rfl _ _ rfl w.heap.size (zR _ f.out.below.size) _ Y (ints S) rfl (by have R:=f.out.oG;rw [p.out] at R;exact R.alloc _) _ (.int .i64 (1)) rfl (heap_alloc_new _ _) (by simp [Value.oneCell']) (by have:=Ko.out;omega) ?_;intro g cap w9 u A C;have o:=ae (af u (af A C));clear u A C)
       |(refine Bc rfl _ _ rfl w.heap.size (zR _ (f.out.half o.out.2.1 o.out.2.2).2.1.size) _ dn (ints D) rfl (by have R:=(f.out.half o.out.2.1 o.out.2.2).1;rw [E.out] at R;exact R.alloc _) _ (.int .i64 (1)) rfl (heap_alloc_new _ _) (by simp [Value.oneCell']) (by have:=Ko.out;omega) ?_;intro g' P7 Kn u A C;have H:=ae (af u (af A C));clear u A C))
      go_roundw
      case rel=>
       have P:=xF.next (s:=1) (d:=1) f.out (by rw [p.out];exact o.out.1) o.out.2.1 o.out.2.2 (by rw [E.out];exact H.out.1) H.out.2.1 H.out.2.2 ⟨by omega,by omega⟩ ⟨by omega,by omega⟩ (by rw [HY.out];exact amt H0.out rfl rfl);rw [p.out,E.out] at P;exact ⟨_,_,i+1,by go_num,by omega,P⟩
      case measure=>simp [intOf];omega
     ·go_wp2_with fail
      go_ret2;exact ⟨F.out,.inl rfl⟩
    ·go_wp2_with fail
     go_ret2;exact ⟨F.out,.inl rfl⟩
   ·rw [G]
    have H0:=ae G;clear G;go_wp2_with fail;refine (P5 (x:=⟨k,a,b,m,t⟩) HK.out ((HX.out.2.2.2.below I.out.below).below (lI cC.out))).mono ?_;rintro e w2 ⟨rfl,M⟩;have gC:=ae (cC.out.trans (M.mono (by omega)));have f:=ae (I.out.later (lI gC.out));have F:=ae f.out.below;have wM:=M.size;clear J T U W X M;obtain ⟨J,T,U,W,X⟩:=jF (rA gC.out);simp only at J T U W X;have fh:wr.heap.size<w2.heap.size:=by omega
    clear hs wM;by_cases hb:b=0
    ·subst hb
     rcases bT i with eT|eT
     ·subst eT
      by_cases ha:a= -1
      ·subst ha
       go_wp2_with fail;go_ret2;exact ⟨F.out,.inl rfl⟩
      ·go_wp2_with fail
       go_ret2;exact ⟨F.out,.inl rfl⟩
     ·obtain ⟨j,I4⟩: ∃j:Nat,(i:Int)-1=(j:Int):=⟨i-1,by omega⟩
      by_cases ha:a=(j:Int)
      ·subst ha
       obtain ⟨ag,ac,N,O,BZ⟩:=Bg f.out.oG (j:=j) (by have:=p.out;have:=f.out.inv.ls;omega);obtain ⟨dg,dc,e8,Z,Mu⟩:=Bg f.out.Km (j:=j) (by have:=E.out;have:=f.out.inv.ld;omega);rw [p.out] at N;rw [E.out] at e8;cases N;cases e8;obtain ⟨s0,s9⟩:=f.out.inv.s1 j (by omega);obtain ⟨q0,q9⟩:=f.out.inv.d1 j (by omega);have UC:=ae (af (rfl:S.getD j 0=S.getD j 0) (rfl:D.getD j 0=D.getD j 0));generalize S.getD j 0=sj at O s0 s9 UC;generalize D.getD j 0=dj at Z q0 q9 UC;obtain ⟨s1,nh⟩:=pS (1+sj);obtain ⟨q1,uB⟩:=pS (dj+1);have zzq:max (1:Int) q1=q1:=(by omega);have Aa:(j:Int)<(Y:Int):=by have:=p.out;have:=f.out.inv.ls;omega
       have kK:(j:Int)<(dn:Int):=by have:=E.out;have:=f.out.inv.ld;omega
       have yH:(0:Int)<=(j:Int):=by omega
       go_wp2_with fail;go_region;have Q:=ae (f.out.later ((Fr.refl (fun _=>False) w2).drew.below));clear f;have f:=Q;have F:=ae f.out.below;clear Q O Z;go_wp2_with (at_builtin;first
        |(refine Bc rfl _ _ rfl w.heap.size (zR _ f.out.below.size) _ Y (ints S) rfl (by have R:=f.out.oG;rw [p.out] at R;exact R.alloc _) _ (.int .i64 (s1)) rfl (heap_alloc_new _ _) (by simp [Value.oneCell']) (by have:=Ko.out;omega) ?_;intro g cap w9 u A C;have o:=ae (af u (af A C));clear u A C)
        |(refine Bc rfl _ _ rfl w.heap.size (zR _ (f.out.half o.out.2.1 o.out.2.2).2.1.size) _ dn (ints D) rfl (by have R:=(f.out.half o.out.2.1 o.out.2.2).1;rw [E.out] at R;exact R.alloc _) _ (.int .i64 (q1)) rfl (heap_alloc_new _ _) (by simp [Value.oneCell']) (by have:=Ko.out;omega) ?_;intro g' P7 Kn u A C;have H:=ae (af u (af A C));clear u A C))
       go_roundw
       case rel=>
        have P:=xF.next (s:=s1) (d:=q1) f.out (by rw [p.out];exact o.out.1) o.out.2.1 o.out.2.2 (by rw [E.out];exact H.out.1) H.out.2.1 H.out.2.2 ⟨by omega,by omega⟩ ⟨by omega,by omega⟩ (by rw [HY.out];exact amu H0.out ⟨by omega,by omega⟩ rfl);rw [p.out,E.out] at P;exact ⟨_,_,i+1,by go_num,by omega,P⟩
       case measure=>simp [intOf];omega
      ·go_wp2_with fail
       go_ret2;exact ⟨F.out,.inl rfl⟩
    ·go_wp2_with fail
     go_ret2;exact ⟨F.out,.inl rfl⟩
   ·rw [G]
    have H0:=ae G;clear G;go_wp2_with fail;refine (P5 (x:=⟨k,a,b,m,t⟩) HK.out ((HX.out.2.2.2.below I.out.below).below (lI cC.out))).mono ?_;rintro e w2 ⟨rfl,M⟩;have gC:=ae (cC.out.trans (M.mono (by omega)));have f:=ae (I.out.later (lI gC.out));have F:=ae f.out.below;have wM:=M.size;clear J T U W X M;obtain ⟨J,T,U,W,X⟩:=jF (rA gC.out);simp only at J T U W X;have fh:wr.heap.size<w2.heap.size:=by omega
    clear hs wM;rcases bT i with eT|eT
    ·subst eT
     by_cases hb:b= -1
     ·subst hb
      go_wp2_with fail;go_ret2;exact ⟨F.out,.inl rfl⟩
     ·go_wp2_with fail
      go_ret2;exact ⟨F.out,.inl rfl⟩
    ·obtain ⟨j,I4⟩: ∃j:Nat,(i:Int)-1=(j:Int):=⟨i-1,by omega⟩
     by_cases hb:b=(j:Int)
     ·subst hb
      obtain ⟨ag,ac,N,O,BZ⟩:=Bg f.out.oG (j:=j) (by have:=p.out;have:=f.out.inv.ls;omega);obtain ⟨dg,dc,e8,Z,Mu⟩:=Bg f.out.Km (j:=j) (by have:=E.out;have:=f.out.inv.ld;omega);rw [p.out] at N;rw [E.out] at e8;cases N;cases e8;obtain ⟨s0,s9⟩:=f.out.inv.s1 j (by omega);obtain ⟨q0,q9⟩:=f.out.inv.d1 j (by omega);have UC:=ae (af (rfl:S.getD j 0=S.getD j 0) (rfl:D.getD j 0=D.getD j 0));generalize S.getD j 0=sj at O s0 s9 UC;generalize D.getD j 0=dj at Z q0 q9 UC;obtain ⟨s1,nh⟩:=pS (1+sj);obtain ⟨q1,uB⟩:=pS (dj+1);have zzq:max (1:Int) q1=q1:=(by omega);have Aa:(j:Int)<(Y:Int):=by have:=p.out;have:=f.out.inv.ls;omega
      have kK:(j:Int)<(dn:Int):=by have:=E.out;have:=f.out.inv.ld;omega
      have yH:(0:Int)<=(j:Int):=by omega
      go_wp2_with fail;go_region;have Q:=ae (f.out.later ((Fr.refl (fun _=>False) w2).drew.below));clear f;have f:=Q;have F:=ae f.out.below;clear Q O Z;by_cases h5:s1<=(i:Int)
      ·obtain ⟨q,hiq⟩: ∃q:Nat,(i:Int)-s1=(q:Int):=⟨((i:Int)-s1).toNat,by omega⟩
       by_cases ha:a=(q:Int)
       ·subst ha
        obtain ⟨ag',ac',N,O,BZ⟩:=Bg f.out.oG (j:=q) (by have:=p.out;have:=f.out.inv.ls;omega);obtain ⟨dg',dc',e8,Z,Mu⟩:=Bg f.out.Km (j:=q) (by have:=E.out;have:=f.out.inv.ld;omega);rw [p.out] at N;rw [E.out] at e8;cases N;cases e8;obtain ⟨t0,t9⟩:=f.out.inv.s1 q (by omega);obtain ⟨r0,r9⟩:=f.out.inv.d1 q (by omega);generalize S.getD q 0=tj at O t0 t9;generalize D.getD q 0=rj at Z r0 r9;obtain ⟨s2,wM⟩:=pS (s1+tj);obtain ⟨q2,xT⟩:=pS (rj+1);have aG1:(q:Int)<(Y:Int):=by have:=p.out;have:=f.out.inv.ls;omega
        have aG2:(q:Int)<(dn:Int):=by have:=E.out;have:=f.out.inv.ld;omega
        have hq0:(0:Int)<=(q:Int):=by omega
        by_cases V5:q1<q2
        ·have zzq2:max q1 q2=q2:=by omega
         go_wp2_with fail
         go_region;have Q:=ae (f.out.later ((Fr.refl (fun _=>False) _).drew.below));clear f;have f:=Q;clear Q O Z;go_wp2_with (at_builtin;first
          |(refine Bc rfl _ _ rfl w.heap.size (zR _ f.out.below.size) _ Y (ints S) rfl (by have R:=f.out.oG;rw [p.out] at R;exact R.alloc _) _ (.int .i64 (s2)) rfl (heap_alloc_new _ _) (by simp [Value.oneCell']) (by have:=Ko.out;omega) ?_;intro g cap w9 u A C;have o:=ae (af u (af A C));clear u A C)
          |(refine Bc rfl _ _ rfl w.heap.size (zR _ (f.out.half o.out.2.1 o.out.2.2).2.1.size) _ dn (ints D) rfl (by have R:=(f.out.half o.out.2.1 o.out.2.2).1;rw [E.out] at R;exact R.alloc _) _ (.int .i64 (q2)) rfl (heap_alloc_new _ _) (by simp [Value.oneCell']) (by have:=Ko.out;omega) ?_;intro g' P7 Kn u A C;have H:=ae (af u (af A C));clear u A C))
         go_roundw
         case rel=>
          have P:=xF.next (s:=s2) (d:=q2) f.out (by rw [p.out];exact o.out.1) o.out.2.1 o.out.2.2 (by rw [E.out];exact H.out.1) H.out.2.1 H.out.2.2 ⟨by omega,by omega⟩ ⟨by omega,by omega⟩ (by rw [HY.out];exact aea H0.out ⟨by omega,by omega⟩ ⟨by omega,by omega⟩);rw [p.out,E.out] at P;exact ⟨_,_,i+1,by go_num,by omega,P⟩
         case measure=>simp [intOf];omega
        ·have zzq2:max q1 q2=q1:=by omega
         go_wp2_with fail
         go_region;have Q:=ae (f.out.later ((Fr.refl (fun _=>False) _).drew.below));clear f;have f:=Q;clear Q O Z;go_wp2_with (at_builtin;first
          |(refine Bc rfl _ _ rfl w.heap.size (zR _ f.out.below.size) _ Y (ints S) rfl (by have R:=f.out.oG;rw [p.out] at R;exact R.alloc _) _ (.int .i64 (s2)) rfl (heap_alloc_new _ _) (by simp [Value.oneCell']) (by have:=Ko.out;omega) ?_;intro g cap w9 u A C;have o:=ae (af u (af A C));clear u A C)
          |(refine Bc rfl _ _ rfl w.heap.size (zR _ (f.out.half o.out.2.1 o.out.2.2).2.1.size) _ dn (ints D) rfl (by have R:=(f.out.half o.out.2.1 o.out.2.2).1;rw [E.out] at R;exact R.alloc _) _ (.int .i64 (q1)) rfl (heap_alloc_new _ _) (by simp [Value.oneCell']) (by have:=Ko.out;omega) ?_;intro g' P7 Kn u A C;have H:=ae (af u (af A C));clear u A C))
         go_roundw
         case rel=>
          have P:=xF.next (s:=s2) (d:=q1) f.out (by rw [p.out];exact o.out.1) o.out.2.1 o.out.2.2 (by rw [E.out];exact H.out.1) H.out.2.1 H.out.2.2 ⟨by omega,by omega⟩ ⟨by omega,by omega⟩ (by rw [HY.out];exact aea H0.out ⟨by omega,by omega⟩ ⟨by omega,by omega⟩);rw [p.out,E.out] at P;exact ⟨_,_,i+1,by go_num,by omega,P⟩
         case measure=>simp [intOf];omega
       ·go_wp2_with fail
        go_ret2;exact ⟨F.out,.inl rfl⟩
      ·by_cases ha:a=(i:Int)-s1
       ·subst ha
        have Zk:(i:Int)-s1<0:=by omega
        go_wp2_with fail;go_ret2;exact ⟨F.out,.inl rfl⟩
       ·go_wp2_with fail
        go_ret2;exact ⟨F.out,.inl rfl⟩
     ·go_wp2_with fail
      go_ret2;exact ⟨F.out,.inl rfl⟩
  ·obtain rfl:i=n:=by omega
   clear hW Aa kK bz hi;rcases bT i with G|G
   ·subst G
    go_wp2_with fail;go_ret2;exact ⟨I.out.below,.inl rfl⟩
   ·obtain ⟨j,I4⟩: ∃j:Nat,(i:Int)-1=(j:Int):=⟨i-1,by omega⟩
    obtain ⟨ag,ac,N,O,BZ⟩:=Bg I.out.oG (j:=j) (by have:=p.out;have:=I.out.inv.ls;omega);rw [p.out] at N;cases N;have Aa:(j:Int)<(Y:Int):=by have:=p.out;have:=I.out.inv.ls;omega
    have yH:(0:Int)<=(j:Int):=by omega
    have eT: ¬i=0:=by omega
    have hi3:((i:Int)==0)=false:=by simp;omega
    generalize S.getD j 0=z at O;by_cases hz:z=(i:Int)
    ·subst hz
     go_wp2_with fail;go_ret2;exact ⟨I.out.below,.inr ⟨_,_,S,D,rfl,I.out,G⟩⟩
    ·have tP:(z==(i:Int))=false:=by simpa using hz
     go_wp2_with fail;go_ret2;exact ⟨I.out.below,.inl rfl⟩
def aDu (w:World) (l:List bI) (e:Ending) (w':World):Prop:= ∃r:Bool,e= .returned (.bool r)/\Below w.heap.size w w'/\(r=true->0<l.length/\ ∀i,i<l.length->mS i (l.getD i dP))
def aDv {w:World} {B:Nat} {v:Value} {l:List bI} (h:iz w B v l) (o:l.length<=1000) (s: ∀i,i<l.length->nJ (l.getD i dP)) (q:om w):
 Calls Tryz.prog 63 #[v] w (aDu w l):=by
 have k:=ae (af h (af o (af s q)));obtain ⟨u,x,rfl⟩:=h.slice;obtain ⟨n,b⟩:=pS l.length;have g:=ae b;have A:=ae (by have R:=fun (w:World)=> @aDt w B (.slice u l.length x) l;rw [b] at R;exact R);rw [b] at o;rw [b];have m:=ae (by rw [<-b];exact k.out.1:iz w B (.slice u n x) l);clear h s q b;by_cases P:n<1
 ·go_enter Tryz.func63,Tryz.ntmps63
  go_wp2_with fail;go_ret;exact ⟨false,rfl,aG _ _,fun e=>by cases e⟩
 ·by_cases Q:200<n
  ·go_enter Tryz.func63,Tryz.ntmps63
   go_wp2_with fail;go_ret;exact ⟨false,rfl,aG _ _,fun e=>by cases e⟩
  ·go_enter Tryz.func63,Tryz.ntmps63
   go_wp2_with fail;refine (A.out w m.out o (by rw [<-g.out];exact k.out.2.2.1) k.out.2.2.2).mono ?_;rintro e X ⟨d,rfl|⟨W,dv,S,D,rfl,a,E⟩⟩
   ·have f:=ae d
    clear d;go_wp2_with fail;go_ret;exact ⟨false,rfl,f.out,fun e=>by cases e⟩
   ·have C:=ae a
    have f:=ae d;obtain ⟨j,H⟩: ∃j:Nat,(n:Int)-1=(j:Int):=⟨n-1,by omega⟩;have t:=a.inv.ls;have p:=a.inv.ld;obtain ⟨M,J,rfl,F,G⟩:=Bg a.oG (j:=j);obtain ⟨O,N,rfl,y,I⟩:=Bg a.Km (j:=j);rw [t,p];have Y:(j:Int)<(n:Int):=by omega
    have Z:(0:Int)<=(j:Int):=by omega
    have U:(0:Int)<(n:Int):=by omega
    generalize D.getD j 0=z at y;clear a d E t p F;go_wp2_with fail;go_ret;exact ⟨_,rfl,f.out,fun _=>⟨by have:=g.out;omega,fun i T=>C.out.inv.fit i (by have:=g.out;omega)⟩⟩
end
section
open Go Go.RowKit
variable {L:List bI} {x:bI} {w:World} {B q:Nat} {v:Value}
structure GI (L:List bI):Prop where
 nd: ∀i,i<L.length->nJ (L.getD i dP)
 fit: ∀i,i<L.length->mS i (L.getD i dP)
 nodup:L.Nodup
def amv:GI []:=⟨fun i h=>by simp at h,fun i h=>by simp at h,j4⟩
def aeb {j:Nat} (a:j<L.length+1:=by omega):(L++ [x]).getD j dP=if j<L.length then L.getD j dP else x:=by
 grind
def GI.snoc (h:GI L) (hx:nJ x) (hf:mS L.length x) (hn:x∉L):GI (L++ [x]) where
 nd:=fun i hi=>by
  rw [aeb (by simp_all)];split
  ·exact h.nd i (by assumption)
  omega
 fit:=fun i hi=>by
  have nK:i<L.length+1:=by simp_all
  rw [aeb nK];split
  ·exact h.fit i (by assumption)
  grind
 nodup:=by
  rw [List.nodup_append];exact ⟨h.nodup,by simp,fun a ha b hb e=>by simp_all⟩
structure aec (w w':World) (B q:Nat) (v:Value) (L:List bI) (x:bI) (id:Nat) (v':Value) (L':List bI):Prop where
 ref:qj w' B q v' L'
 gi:GI L'
 Zl:L'=L\/L'=L++ [x]
 MY:id<L'.length
 fr:Fr (fun j=>j=q\/v.ownBlock=some j) w w'
 own: ∀j,v'.ownBlock=some j->v.ownBlock=some j\/w.heap.size<=j
def aDw {d:Array Oper} {o:Oper} {a:Act} {K:Act->World->Prop} {Q:Exit->Act->World->Prop} {E:Prop} (J:o.guard=none) (s x:Operand) (D:o.op= .call {callee:= .builtin .append,args:= #[s,x],argTypes:= #[32,32]})
 (base:Nat) (I:base<=w.heap.size) (v:Value) (L:List bI) (F:a.eval s=v) (j:iz w base v L) (B:Nat) (y:bI) (G:a.eval x= .slice (some ⟨B,0,none⟩) 1 1)
 (C:w.heap[B]? =some (.cells ⟨fZ y⟩ 90 (0,0))) (M:L.length<=100000)
 (h: ∀g cap b,iz b base (.slice (some ⟨g,0,none⟩) (L.length+1) cap) (L++ [y])->Fr (fun k=>v.ownBlock=some k) w b->(v.ownBlock=some g\/w.heap.size<=g)->
  K (a.put o.dst (.slice (some ⟨g,0,none⟩) (L.length+1) cap)) b):
 if Region.wanted o (yielded d a.tmps)=true then Oper.wp Tryz.prog o a w K Q else E:=by
 obtain ⟨H,i,m,p,l⟩:=info_parts Tryz.infoNode;refine step_append_lies w J s x 32 D base 90 H _ 5 48 Tryz.underlying32 i m p l rfl (by omega) v L.length (Cw L) F j.own ⟨B,0,none⟩ 1 1 (fZ y) G rfl (World.news_of_block (cs:=⟨fZ y⟩) C)
  (by intro u f;simp [fZ] at f;rcases f with rfl|rfl|rfl|rfl|rfl<;>rfl) (by omega) (by unfold maxLen;omega) (by omega) I w.heap.size rfl ?_
 intro g cap b t z A _;refine h g cap b ⟨?_⟩ (vW z) (A.imp id (fun e=>by omega));rw [ad4,bp];exact t
def aed (h:qj w B q v L):v.ownBlock≠some q:=fun e=>by
 obtain ⟨cur,hc⟩:=vV h.iT.own e;rw [h.blk] at hc;cases hc
def aDx {d:World} {n b cap:Nat} {o:Obj} (H:qj w B q v L) (j:iz d B (.slice (some ⟨b,0,none⟩) (n+1) cap) (L++ [x])) (i:Fr (fun k=>v.ownBlock=some k) (w.alloc o).drew d)
 (g:v.ownBlock=some b\/(w.alloc o).drew.heap.size<=b):
 qj (d.setCell ⟨q,0,none⟩ (.slice (some ⟨b,0,none⟩) (n+1) cap)) B q (.slice (some ⟨b,0,none⟩) (n+1) cap) (L++ [x])/\(∀k,(Value.slice (some ⟨b,0,none⟩) (n+1) cap).ownBlock=some k->v.ownBlock=some k\/w.heap.size<=k)/\
  Fr (fun k=>k=q\/v.ownBlock=some k) w (d.setCell ⟨q,0,none⟩ (.slice (some ⟨b,0,none⟩) (n+1) cap)):=by
 have p:q<w.heap.size:=(au.1 H.blk).1;have s:(w.alloc o).drew.heap.size=w.heap.size+1:=by simp
 have f:b≠q:=fun e=>by
  rcases g with h|h
  ·exact aed H (by rw [h,e])
  ·omega
 have l:d.heap[q]? =some (.cells #[v] 34 (0,0)):=by
  rw [i.block q (by omega) (aed H)];exact (((aG w.heap.size w).alloc (ak _) o).drew.block q p).trans H.blk
 refine ⟨⟨?_,⟨?_⟩⟩,fun k m=> ?_,?_⟩
 ·unfold World.setCell
  simp only [eL,l];simp
 ·exact ownsRow_setCell_other (a:=⟨q,0,none⟩) j.own (by simp [Value.ownBlock];exact f) _
 ·have:b=k:=by simpa [Value.ownBlock] using m
  subst this;exact g.imp id (fun h=>by omega)
 ·exact (((Fr.refl (fun k=>k=q\/v.ownBlock=some k) w).alloc o).drew.trans i (fun k _ e=> .inr e)).setCell _ (fun _=> .inl rfl)
def aee (h:qj w B q v L) (Y:B<=w.heap.size) (hg:GI L) (hx:nJ x) (hf:mS L.length x) (hl:L.length<=4000) (hT:om w):
 Calls Tryz.prog 70 #[ptr q,gK x] w fun e w'=> ∃(id:Nat) (v':Value) (L':List bI),e= .returned (.tuple #[.int .i64 id,.int .i64 0])/\aec w w' B q v L x id v' L':=by
 have g:=ae (af h (af Y (af hg (af hx (af hf (af hl hT))))));have hq:q<w.heap.size:=(au.1 h.blk).1;obtain ⟨a,c,rfl⟩:=h.iT.slice;obtain ⟨n,E⟩:=pS L.length;have l:=ae E;have M:=ae (by rw [<-E];exact h:qj w B q (.slice a n c) L);rw [E] at hl⊢;clear h Y hg hx hf hT E;obtain ⟨k,d,f,m,t⟩:=x;have T:=ae ((aG w.heap.size w).alloc (ak _) (.cells ⟨fZ ⟨k,d,f,m,t⟩⟩ 90));have HQ:=ae hq;clear hq;unfold ptr;rw [show gK ⟨k,d,f,m,t⟩= .agg #[.int .i64 k,.int .i64 d,.int .i64 f,.int .i64 m,.string t] from rfl];go_enter Tryz.func70,Tryz.ntmps70;go_wp2_with fail;refine (aDr (x:=⟨k,d,f,m,t⟩) (M.out.below T.out) (by have:=l.out;omega) g.out.2.2.2.1 g.out.2.2.2.2.1 (g.out.2.2.2.2.2.2.below T.out)).mono ?_;rintro e R ⟨rfl,hb⟩;have O:=ae (by rw [<-uv w];exact hb:Below (w.heap.size+1) (w.alloc (.cells ⟨fZ ⟨k,d,f,m,t⟩⟩ 90)) R);clear hb;obtain ⟨u,z,A,C,D⟩:=jF (rA O.out);simp only at u z A C D;have hs:w.heap.size<R.heap.size:=aj R _ u;go_wp2_with fail;refine (aC0 (M.out.below (lI O.out)) (by have:=l.out;omega) ⟨k,d,f,m,t⟩).mono ?_;rintro e b ⟨⟨r,rfl,hr⟩,P⟩;have Q:=ae (O.out.trans (P.mono (by omega)));have wM:=P.size;clear u z A C D P;obtain ⟨u,z,A,C,D⟩:=jF (rA Q.out);simp only at u z A C D;have fh:w.heap.size<b.heap.size:=by omega
 clear hs wM;have s:=ae (M.out.below (lI Q.out));have tc:Fr (fun j=>j=q\/(Value.slice a n c).ownBlock=some j) w b:=Fr.iE (lI Q.out);have j5:=ae tc;clear tc;rcases hr with ⟨rfl,yi⟩|⟨i,rfl,hi,X⟩
 ·have Zm:=ae yi
  clear yi;have y:=mD s.out.blk 0;simp only [bM,bB] at y;have f0:=yw s.out.blk 0;have xT:q<b.heap.size:=aj b _ y;have U:=ae (aed s.out);have I:=ae (show B<=b.heap.size by have:=g.out.2.1;omega);have lP: ∀o,Below b.heap.size b (b.alloc o).drew:=fun o=>((aG _ b).alloc (ak _) o).drew
  have W:=ae lP;have N:=ae xT;have Y8:(b.alloc (.cells ⟨fZ ⟨k,d,f,m,t⟩⟩ 90)).cell? ⟨q,0,none⟩=some (.slice a n c):=(((aG _ b).alloc (ak _) _).cell (p:=⟨q,0,none⟩) xT).trans y;clear lP;go_wp2_with fail
  go_region_law (refine aDw (by rfl) _ _ (by rfl) B (zR _ I.out) (.slice a n c) L (by rfl) (iz.mk ((s.out.iT.own.alloc _).drew)) b.heap.size ⟨k,d,f,m,t⟩ (by rfl) (heap_alloc_new b _) (by have:=l.out;omega) ?_;intro gg mN F H G S;rw [l.out] at H;rw [l.out];have s1:F.cell? ⟨q,0,none⟩=some (.slice a n c):=G.cell (((W.out _).cell (p:=⟨q,0,none⟩) N.out).trans y) U.out;have s2:F.frozen? ⟨q,0,none⟩=false:=(G.frozen (a:=⟨q,0,none⟩) (by have:=N.out;simp;omega) U.out).trans (((W.out _).frozen (p:=⟨q,0,none⟩) N.out).trans f0))
  all_goals
   have Z:=aDx s.out H G S;have J:=ae Z;have hq5:q<F.heap.size:=aj F _ s1;clear Z H G S;go_wp2_with fail;go_ret2;exact ⟨n,_,L++ [⟨k,d,f,m,t⟩],rfl,J.out.1,g.out.2.2.1.snoc g.out.2.2.2.1 g.out.2.2.2.2.1 Zm.out,.inr rfl,by rw [bp,l.out];simp,j5.out.trans J.out.2.2 (fun _ _ e=>e),fun j e=>(J.out.2.1 j e).imp id (fun h=>by omega)⟩
 ·have HI:=ae (af hi X)
  clear hi X;have eT:(0:Int)<=(i:Int):=by omega
  go_wp2_with fail;go_ret2;exact ⟨i,_,L,rfl,s.out,g.out.2.2.1,.inl rfl,HI.out.1,j5.out,fun j e=> .inl e⟩
end
section
open Go Go.RowKit
structure P8 (w:World) (q:Nat) (v lv:Value):Prop where
 q:lv.ownBlock≠some q
 v: ∀j,lv.ownBlock=some j->v.ownBlock≠some j
 lt: ∀j,lv.ownBlock=some j->j<w.heap.size
structure yA (w wr:World) (B q:Nat) (v:Value) (L:List bI) (Bl:Nat) (lv:Value) (l:List bI) (av:Value) (A:List Int) (i:Nat) (v':Value) (L':List bI):Prop where
 at_:wr.ownsRow w.heap.size 3 1 av A.length (ints A)
 len:A.length=i
 ids: ∀j,j<i->0<=A.getD j 0/\A.getD j 0<(L'.length:Int)
 ref:qj wr B q v' L'
 gi:GI L'
 FH:L'.length<=L.length+i
 fr:Fr (fun j=>j=q\/v.ownBlock=some j) w wr
 own: ∀j,v'.ownBlock=some j->v.ownBlock=some j\/w.heap.size<=j
 list:iz wr Bl lv l
 sep:P8 w q v lv
section
variable {w wr w5 w6 w7:World} {B q Bl i id:Nat} {v lv av v' v2:Value} {L l L' L2:List bI} {A:List Int} {x:bI}
def aDy (h:qj w B q v L) (b:GI L) (d:iz w Bl lv l) (f:P8 w q v lv) (a:Below w.heap.size w w5):yA w w5 B q v L Bl lv l (.slice none 0 0) [] 0 v L:=
 ⟨World.ownsRow_nil _ _ _ _,rfl,fun j h=>by omega,h.below a,b,by omega,Fr.iE a,fun j e=> .inl e,d.frame (S:=fun _=>False) (Fr.iE a) (fun _ _ e=>e),f⟩
def yA.later (h:yA w wr B q v L Bl lv l av A i v' L') (a:Below wr.heap.size wr w5):yA w w5 B q v L Bl lv l av A i v' L':=
 {h with
  at_:=oh (S:=fun _=>False) h.at_ (Fr.iE a) (fun _ _ e=>e)
  ref:=h.ref.below a
  fr:=h.fr.trans (Fr.iE (S:=fun _=>False) a) (fun _ _ e=>e.elim)
  list:=h.list.frame (S:=fun _=>False) (Fr.iE a) (fun _ _ e=>e)}
def yA.aDz (h:yA w wr B q v L Bl lv l av A i v' L'):av.ownBlock≠some q/\ ∀j,av.ownBlock=some j->v'.ownBlock≠some j:=by
 refine ⟨fun e=> ?_,fun j e a=> ?_⟩
 ·obtain ⟨cur,hc⟩:=vV h.at_ e
  rw [h.ref.blk] at hc;cases hc
 ·obtain ⟨c1,d⟩:=vV h.at_ e
  obtain ⟨b,f⟩:=vV h.ref.iT.own a
  all_goals grind
def yA.put (h:yA w wr B q v L Bl lv l av A i v' L') (a:aec wr w6 B q v' L' x id v2 L2):
 w6.ownsRow w.heap.size 3 1 av A.length (ints A)/\Fr (fun j=>j=q\/v.ownBlock=some j) w w6/\(∀j,v2.ownBlock=some j->v.ownBlock=some j\/w.heap.size<=j)/\iz w6 Bl lv l/\L2.length<=L.length+(i+1)/\(∀j,j<i->0<=A.getD j 0/\A.getD j 0<(L2.length:Int))/\av.ownBlock≠some q/\ ∀j,av.ownBlock=some j->v2.ownBlock≠some j:=by
 have d:=h.aDz;have m:=oh h.at_ a.fr (fun k b e=>by
  simp_all)
 have g:L'.length<=L2.length/\L2.length<=L'.length+1:=by
  rcases a.Zl with e|e
  all_goals grind
 refine ⟨m,h.fr.trans a.fr fun j f e=> ?_,fun j e=> ?_,h.list.frame a.fr fun k b e=> ?_,by have:=h.FH;omega,fun j f=> ?_,d.1,fun j e o=> ?_⟩
 ·rcases e with e|e
  ·exact .inl e
  ·rcases h.own j e with e|e
   all_goals grind
 ·have:=h.fr.size
  rcases a.own j e with e|e
  ·exact h.own j e
  all_goals grind
 ·rcases e with e|e
  ·exact h.sep.q (by rw [b,e])
  ·rcases h.own k e with e|e
   ·exact h.sep.v k b e
   ·have:=h.sep.lt k b;omega
 ·have:=h.ids j f;omega
 ·obtain ⟨c1,s⟩:=vV m e
  obtain ⟨p,t⟩:=vV a.ref.iT.own o
  all_goals grind
def yA.next {g cap:Nat} {o:Obj} (h:yA w wr B q v L Bl lv l av A i v' L') (a:aec wr w6 B q v' L' x id v2 L2)
 (E:w7.ownsRow w.heap.size 3 1 (.slice (some ⟨g,0,none⟩) (A.length+1) cap) (A.length+1) (ints A++ [.int .i64 id])) (p:Fr (fun k=>av.ownBlock=some k) (w6.alloc o) w7):
 yA w w7 B q v L Bl lv l (.slice (some ⟨g,0,none⟩) (A.length+1) cap) (A++ [(id:Int)]) (i+1) v2 L2:=by
 obtain ⟨m,s,t,u,y,F,z,C⟩:=h.put a;have b:Fr (fun k=>av.ownBlock=some k) w6 w7:=((Fr.refl (fun k=>av.ownBlock=some k) w6).alloc o).trans p (fun _ _ e=>e);have D:ints (A++ [(id:Int)])=ints A++ [.int .i64 id]:=by simp [ints]
 refine ⟨?_,by simp [h.len],fun j f=> ?_,a.ref.frame b z (fun k d e=>C k e d),a.gi,y,s.trans b fun j f e=> ?_,t,u.frame b fun k d e=> ?_,h.sep⟩
 ·simp_all
 ·rw [ad9 h.len f]
  split
  ·simp_all
  ·have:=a.MY;omega
 ·have:=(m.lt j e).1;omega
 ·have:=(m.lt k e).1
  have:=h.sep.lt k d;omega
end
def amw {w:World} {b:Nat} {k a c m z:Int} {t:ByteArray} (h:w.heap[b]? =some (.cells ⟨fZ ⟨k,a,c,m,t⟩⟩ 90 (0,0))):(w.setCell ⟨b,1,none⟩ (.int .i64 z)).heap[b]? =some (.cells ⟨fZ ⟨k,z,c,m,t⟩⟩ 90 (0,0)):=by
 unfold World.setCell;simp only [eL,h];simp [fZ]
def aef {k a b d e m:Int} {t:ByteArray} (h:nJ ⟨k,a,b,m,t⟩):nJ ⟨k,d,e,m,t⟩:=⟨h.k1,h.k2,h.Ct,h.FA,h.pP,h.pow,h.lW⟩
def aDA {n:Nat} {k a b m:Int} {t:ByteArray} (h:mS n ⟨k,a,b,m,t⟩) (d:arity k=1):0<=a/\a<(n:Int):=
 h.args a (by
  unfold args
  all_goals grind)
def aDB {n:Nat} {k a b m:Int} {t:ByteArray} (h:mS n ⟨k,a,b,m,t⟩) (d:arity k=2):(0<=a/\a<(n:Int))/\0<=b/\b<(n:Int):=
 ⟨h.args a (by
  unfold args
  all_goals grind),h.args b (by
   unfold args
   all_goals grind)⟩
end
section
open Go Go.RowKit
def aDC (w:World) (B q:Nat) (v:Value) (L l:List bI) (e:Ending) (w':World):Prop:=
 ∃d a,qj w' B q d a/\GI a/\a.length<=L.length+l.length/\Fr (fun j=>j=q\/v.ownBlock=some j) w w'/\(∀j,d.ownBlock=some j->v.ownBlock=some j\/w.heap.size<=j)/\
  (e= .returned (.tuple #[.slice none 0 0,.int .i64 1])\/ ∃b A,e= .returned (.tuple #[b,.int .i64 0])/\w'.ownsRow w.heap.size 3 1 b A.length (ints A)/\0<A.length)
def aeg (w:World) (q:Nat) (v:Value):Prop:= ∀a,w.heap.size<=a.heap.size->Fr (fun j=>j=q\/v.ownBlock=some j) w a->om a
def aDE {w:World} {B q T:Nat} {v lv:Value} {L l:List bI} (h:qj w B q v L) (hB:B<=w.heap.size) (hg:GI L) (hl:iz w T lv l) (hm: ∀i,i<l.length->nJ (l.getD i dP)) (hn:l.length<=200) (hL:L.length<=3000) (hs:P8 w q v lv) (hT:aeg w q v) (UD:om w):
 Calls Tryz.prog 38 #[ptr q,lv] w (aDC w B q v L l):=by
 have HT:=ae hT;have C:=ae (af h (af hB (af hg (af hl (af hm (af hL (af hs UD)))))));have c0:=mD h.blk 0;simp only [bM,bB] at c0;have hq:q<w.heap.size:=aj w _ c0;obtain ⟨qa,qc,rfl⟩:=h.iT.slice;obtain ⟨la,lc,rfl⟩:=hl.slice;obtain ⟨n,j8⟩:=pS l.length;have HN:=ae j8;have HL:=ae (by rw [<-j8];exact hl:iz w T (.slice la n lc) l);have HS:=ae (by rw [<-j8];exact hs:P8 w q (.slice qa L.length qc) (.slice la n lc));have HV:=ae (fun (w:World) (h:iz w T (.slice la n lc) l)=> @aDv w T (.slice la n lc) l h);rw [j8] at hn⊢;clear h hB hg hl hm hs hT UD j8;unfold ptr;go_enter Tryz.func38,Tryz.ntmps38;go_wp2_with fail;refine (HV.out w HL.out (by have:=HN.out;omega) C.out.2.2.2.2.1 C.out.2.2.2.2.2.2.2).mono ?_;rintro e w0 ⟨r,rfl,oI,hr⟩;have Kp:=ae oI;have HR:=ae hr;have hq0:q<w0.heap.size:=by have:=oI.size;omega
 have Y8:w0.cell? ⟨q,0,none⟩=some (.slice qa L.length qc):=(oI.cell (p:=⟨q,0,none⟩) hq).trans c0;clear oI hr c0 hq;cases r
 ·go_wp2_with fail
  go_ret2;exact ⟨_,L,C.out.1.below Kp.out,C.out.2.2.1,by omega,Fr.iE Kp.out,fun j e=> .inl e,.inl rfl⟩
 ·obtain ⟨Y9,amx⟩:=HR.out rfl
  have HF:=ae (af Y9 amx);have HW0:=ae (aDy C.out.1 C.out.2.2.1 HL.out HS.out Kp.out);clear Y9 amx HR;go_wp2_with fail;go_loopw [7,22] (fun av iv wr=> ∃A,∃i:Nat,∃v' L',iv= .int .i64 (i:Int)/\i<=n/\yA w wr B q (.slice qa L.length qc) L T (.slice la n lc) l av A i v' L') (fun _ iv _=>n-(intOf iv).toNat)
  case atStart=>exact ⟨[],0,_,L,rfl,by omega,HW0.out⟩
  case round=>
   obtain ⟨A,i,v',L',rfl,hi,hW⟩:=hrel;obtain ⟨aa,ac,rfl⟩:=ry hW.at_;have Z:=hW.len;rw [Z] at hW⊢;have u:=ae hW;by_cases bz:i<n
   ·obtain ⟨y,hy⟩:=pS (l.getD i dP)
    obtain ⟨gv,cv,ev,c0,c1,c2,c3,c4⟩:=hW.list.form (by rw [HN.out];exact bz) hy;rw [HN.out] at ev;cases ev;obtain ⟨k,a,b,m,t⟩:=y;simp only at c0 c1 c2 c3 c4;have hk:=C.out.2.2.2.2.1 i (by rw [HN.out];exact bz);have hf:=HF.out.2 i (by rw [HN.out];exact bz);rw [hy] at hk hf;have G:=ae hk;have UE:=ae hf;have Q:=ae (af bz hn);clear hy hk hf hW Z hi;have i0:(0:Int)<=(i:Int):=by omega
    have i1:(i:Int)<(n:Int):=by omega
    have vL:gv<wr.heap.size:=aj wr _ c0;go_wp2_with fail;refine (J8 (k:=k) G.out.k1 G.out.k2 _).mono ?_;rintro e w1 ⟨rfl,A9⟩;have bP:Below (wr.heap.size+1) (wr.alloc (.cells ⟨fZ ⟨k,a,b,m,t⟩⟩ 90)) w1:=by rw [A9];exact aG _ _
    have cC:=ae bP;have M8:=ae (rA bP);have X:=ae (u.out.later (lI bP));have hs:wr.heap.size<w1.heap.size:=(au.1 M8.out).1;obtain ⟨I,J,M,N,O⟩:=jF M8.out;simp only at I J M N O;clear bP A9 c0 c1 c2 c3 c4 vL bz;rcases Kj k with D|D|D
    ·rw [D]
     have F:=ae D;clear D;go_wp2_with fail;refine (J8 (k:=k) G.out.k1 G.out.k2 _).mono ?_;rintro e o ⟨rfl,s⟩;have S:=ae (show o.heap[wr.heap.size]? =some (.cells ⟨fZ ⟨k,a,b,m,t⟩⟩ 90 (0,0)) by rw [s];exact M8.out);have U:=ae (show yA w o B q (.slice qa L.length qc) L T (.slice (some ⟨gv,0,none⟩) n lc) l (.slice _ i ac) A i v' L' by rw [s];exact u.out.later (lI cC.out));have aeh:=ae (show Below wr.heap.size wr o by rw [s];exact lI cC.out);have vZ:wr.heap.size<o.heap.size:=(au.1 S.out).1;clear s I J M N O;obtain ⟨I,J,M,N,O⟩:=jF S.out;simp only at I J M N O;rw [F.out];have d:=U;go_wp2_with fail;refine (aee (x:=⟨k,a,b,m,t⟩) d.out.ref (by have:=C.out.2.1;have:=d.out.fr.size;omega) d.out.gi (aef G.out) (amt F.out (UE.out.a0 F.out) (UE.out.b0 (by have:=F.out;simp only;omega))) (by have:=d.out.FH;have:=C.out.2.2.2.2.2.1;omega) (HT.out _ d.out.fr.size d.out.fr)).mono ?_;rintro e w6 ⟨id,v2,L2,rfl,hp⟩;have E:=ae hp;clear hp;go_wp2_with (at_builtin;refine Bc rfl _ _ rfl w.heap.size (zR _ (d.out.put E.out).2.1.size) _ i (ints A) rfl (by have R:=(d.out.put E.out).1;rw [d.out.len] at R;exact R.alloc _) _ (.int .i64 id) rfl (heap_alloc_new _ _) (by simp [Value.oneCell']) (by have:=Q.out;omega) ?_;intro g cap w9 kA kB kC;have W:=ae (af kA (af kB kC));clear kA kB kC);go_roundw
     case rel=>
      have P:=d.out.next (g:=g) (cap:=cap) E.out (by rw [d.out.len];exact W.out.1) W.out.2.1;rw [d.out.len] at P;exact ⟨_,i+1,_,_,by go_num,by have:=Q.out;omega,P⟩
     case measure=>have:=Q.out;simp [intOf];omega
    ·rw [D]
     have F:=ae D;have ha:=aDA UE.out D;obtain ⟨f,rfl⟩: ∃f:Nat,a=(f:Int):=⟨a.toNat,by omega⟩;clear D;obtain ⟨ag,ac',Y,rB,BZ⟩:=Bg X.out.at_ (j:=f) (by have:=X.out.len;omega);rw [X.out.len] at Y;cases Y;obtain ⟨z0,H⟩:=X.out.ids f (by omega);generalize hz:A.getD f 0=z at rB z0 H;have yj:=ae (af z0 H);clear hz z0 H;have dT:(f:Int)<(i:Int):=by omega
     have mT:(0:Int)<=(f:Int):=by omega
     have yV:=yw M8.out 1;go_wp2_with fail;refine (J8 (k:=k) G.out.k1 G.out.k2 _).mono ?_;rintro e o ⟨rfl,s⟩;have S:=ae (show o.heap[wr.heap.size]? =some (.cells ⟨fZ ⟨k,z,b,m,t⟩⟩ 90 (0,0)) by rw [s];exact amw M8.out);have U:=ae (show yA w o B q (.slice qa L.length qc) L T (.slice (some ⟨gv,0,none⟩) n lc) l (.slice _ i ac) A i v' L' by rw [s];exact u.out.later ((lI cC.out).setCell (ak _) _));have aeh:=ae (show Below wr.heap.size wr o by rw [s];exact (lI cC.out).setCell (ak _) _);have vZ:wr.heap.size<o.heap.size:=(au.1 S.out).1;clear s I J M N O;obtain ⟨I,J,M,N,O⟩:=jF S.out;simp only at I J M N O;rw [F.out];have d:=U;clear rB yV;go_wp2_with fail;refine (aee (x:=⟨k,z,b,m,t⟩) d.out.ref (by have:=C.out.2.1;have:=d.out.fr.size;omega) d.out.gi (aef G.out) (amu F.out yj.out (UE.out.b0 (by have:=F.out;simp only;omega))) (by have:=d.out.FH;have:=C.out.2.2.2.2.2.1;omega) (HT.out _ d.out.fr.size d.out.fr)).mono ?_;rintro e w6 ⟨id,v2,L2,rfl,hp⟩;have E:=ae hp;clear hp;go_wp2_with (at_builtin;refine Bc rfl _ _ rfl w.heap.size (zR _ (d.out.put E.out).2.1.size) _ i (ints A) rfl (by have R:=(d.out.put E.out).1;rw [d.out.len] at R;exact R.alloc _) _ (.int .i64 id) rfl (heap_alloc_new _ _) (by simp [Value.oneCell']) (by have:=Q.out;omega) ?_;intro g cap w9 kA kB kC;have W:=ae (af kA (af kB kC));clear kA kB kC);go_roundw
     case rel=>
      have P:=d.out.next (g:=g) (cap:=cap) E.out (by rw [d.out.len];exact W.out.1) W.out.2.1;rw [d.out.len] at P;exact ⟨_,i+1,_,_,by go_num,by have:=Q.out;omega,P⟩
     case measure=>have:=Q.out;simp [intOf];omega
    ·rw [D]
     have F:=ae D;have mn:=aDB UE.out D;obtain ⟨ha,hb⟩:=mn;obtain ⟨jb,rfl⟩: ∃jb:Nat,b=(jb:Int):=⟨b.toNat,by omega⟩;obtain ⟨f,rfl⟩: ∃f:Nat,a=(f:Int):=⟨a.toNat,by omega⟩;clear D;obtain ⟨ag,ac',Y,rB,BZ⟩:=Bg X.out.at_ (j:=f) (by have:=X.out.len;omega);rw [X.out.len] at Y;cases Y;obtain ⟨z0,H⟩:=X.out.ids f (by omega);generalize hz:A.getD f 0=z at rB z0 H;have yj:=ae (af z0 H);clear hz z0 H;have dT:(f:Int)<(i:Int):=by omega
     have mT:(0:Int)<=(f:Int):=by omega
     have yV:=yw M8.out 1;go_wp2_with fail;refine (J8 (k:=k) G.out.k1 G.out.k2 _).mono ?_;rintro e o ⟨rfl,s⟩;have S:=ae (show o.heap[wr.heap.size]? =some (.cells ⟨fZ ⟨k,z,(jb:Int),m,t⟩⟩ 90 (0,0)) by rw [s];exact amw M8.out);have U:=ae (show yA w o B q (.slice qa L.length qc) L T (.slice (some ⟨gv,0,none⟩) n lc) l (.slice _ i ac) A i v' L' by rw [s];exact u.out.later ((lI cC.out).setCell (ak _) _));have aeh:=ae (show Below wr.heap.size wr o by rw [s];exact (lI cC.out).setCell (ak _) _);have vZ:wr.heap.size<o.heap.size:=(au.1 S.out).1;clear s I J M N O;obtain ⟨I,J,M,N,O⟩:=jF S.out;simp only at I J M N O;rw [F.out];clear rB yV dT mT BZ;obtain ⟨ag,ac',Y,rB,BZ⟩:=Bg U.out.at_ (j:=jb) (by have:=U.out.len;omega);rw [U.out.len] at Y;cases Y;obtain ⟨z0,H⟩:=U.out.ids jb (by omega);generalize hz:A.getD jb 0=z' at rB z0 H;have HZ2:=ae (af z0 H);clear hz z0 H;have dT:(jb:Int)<(i:Int):=by omega
     have mT:(0:Int)<=(jb:Int):=by omega
     have yV:=yw S.out 2;go_wp2_with fail;have d:=ae (u.out.later (show Below wr.heap.size wr (o.setCell ⟨wr.heap.size,2,none⟩ (.int .i64 z')) from aeh.out.setCell (ak _) _));refine (aee (x:=⟨k,z,z',m,t⟩) d.out.ref (by have:=C.out.2.1;have:=d.out.fr.size;omega) d.out.gi (aef G.out) (aea F.out yj.out HZ2.out) (by have:=d.out.FH;have:=C.out.2.2.2.2.2.1;omega) (HT.out _ d.out.fr.size d.out.fr)).mono ?_;rintro e w6 ⟨id,v2,L2,rfl,hp⟩;have E:=ae hp;clear hp;go_wp2_with (at_builtin;refine Bc rfl _ _ rfl w.heap.size (zR _ (d.out.put E.out).2.1.size) _ i (ints A) rfl (by have R:=(d.out.put E.out).1;rw [d.out.len] at R;exact R.alloc _) _ (.int .i64 id) rfl (heap_alloc_new _ _) (by simp [Value.oneCell']) (by have:=Q.out;omega) ?_;intro g cap w9 kA kB kC;have W:=ae (af kA (af kB kC));clear kA kB kC);go_roundw
     case rel=>
      have P:=d.out.next (g:=g) (cap:=cap) E.out (by rw [d.out.len];exact W.out.1) W.out.2.1;rw [d.out.len] at P;exact ⟨_,i+1,_,_,by go_num,by have:=Q.out;omega,P⟩
     case measure=>have:=Q.out;simp [intOf];omega
   ·obtain rfl:i=n:=by omega
    clear hW hi bz;go_wp2_with fail;go_ret2;exact ⟨_,L',u.out.ref,u.out.gi,by have:=u.out.FH;have:=HN.out;omega,u.out.fr,u.out.own,.inr ⟨_,A,rfl,by have R:=u.out.at_;rw [u.out.len] at R⊢;exact R,by have:=u.out.len;have:=HF.out.1;have:=HN.out;omega⟩⟩
end
end Go.Proofs.YthleenhngcdgkaaGreatDoor
