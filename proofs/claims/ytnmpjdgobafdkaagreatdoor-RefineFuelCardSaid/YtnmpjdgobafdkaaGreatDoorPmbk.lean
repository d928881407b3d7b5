/- refineFuel_proved. -/
import Derived.Test.YtnmpjdgobafdkaaGreatDoorPmbj
import Derived.Deep.RegionHeld3
import Derived.Maps.OwnSet
import Derived.DeepKeys4
set_option maxRecDepth 100000
set_option maxHeartbeats 16000000
set_option linter.all false
noncomputable section
namespace Go.Proofs.YtnmpjdgobafdkaaGreatDoor
section
open Go Go.RowKit
variable {w w1:World} {x:b8}
def wM (a:Below (w.heap.size+1) (w.alloc (.cells ⟨jD x⟩ 60)) w1):w1.heap[w.heap.size]? =some (.cells ⟨jD x⟩ 60 (0,0)):=
 (a.block w.heap.size (by omega)).trans (by show (w.heap.push _)[w.heap.size]? =_;simp)
def mF {b:Nat} (h:w.heap[b]? =some (.cells ⟨jD x⟩ 60 (0,0))):w.cell? ⟨b,0,none⟩=some (.int .i64 x.k)/\w.cell? ⟨b,1,none⟩=some (.int .i64 x.a)/\w.cell? ⟨b,2,none⟩=some (.int .i64 x.b)/\w.cell? ⟨b,3,none⟩=some (.int .i64 x.n)/\w.cell? ⟨b,4,none⟩=some (.string x.t):=
 ⟨qv h 0,qv h 1,qv h 2,qv h 3,qv h 4⟩
def uR (a:Below (w.heap.size+1) (w.alloc (.cells ⟨jD x⟩ 60)) w1):Below w.heap.size w w1:=
 ((aH w.heap.size w).alloc (aq _) _).trans (a.mono (by omega))
def uS (w:World) (o:Obj):(w.alloc o).heap.size=w.heap.size+1:=by simp
end
section
open Go.Proofs.Tryz Go Go.RowKit Go.Ev
def aCk:(prog.info? 156).map (fun i=>(i.zero,i.size,i.bytes))=some (some (.agg #[.bool false,.slice none 0 0,.slice none 0 0,.int .i64 0]),4,64):=by kernel_rfl
def aCl {a b c d:Value} {n j:Nat} (f:j<n):(madeCells #[a,b,c,d] (n*4))[j*4]? =some a/\(madeCells #[a,b,c,d] (n*4))[j*4+1]? =some b/\(madeCells #[a,b,c,d] (n*4))[j*4+2]? =some c/\(madeCells #[a,b,c,d] (n*4))[j*4+3]? =some d:=by
 have e: ∀k,k<n*4->(madeCells #[a,b,c,d] (n*4))[k]? =some (#[a,b,c,d][k % 4]!):=fun k g=>by
  unfold madeCells;simp_all
 refine ⟨?_,?_,?_,?_⟩
 all_goals grind
def aCm {W a:World} {n:Nat} {l:List Rs} {t:TypeId} (s:0<n) (q:a.ownsRow W.heap.size 156 4 (.slice (some ⟨W.heap.size,0,none⟩) n n) n (madeCells (Value.agg #[.bool false,.slice none 0 0,.slice none 0 0,.int .i64 0]).cells (n*4)).toList) (p:W.grownBy a none):
 tY W (a.alloc (.cells #[.slice (some ⟨W.heap.size,0,none⟩) n n] t)) a.heap.size W.heap.size n l 0:=by
 have f:Below W.heap.size W a:=(uN p).nJ (fun k _ e=>by cases e) (aq _);rcases q.2 with ⟨e,_⟩|⟨g,cap,cur,e,y,hc,u,x,b,d⟩
 ·cases e
 ·cases e
  have i:W.heap.size<a.heap.size:=(ax.1 hc).1;have m:cur.toList=(madeCells #[.bool false,.slice none 0 0,.slice none 0 0,.int .i64 0] (n*4)).toList:=by
   rw [mS (by simp [b])] at d;exact d
  have o:cur=madeCells #[.bool false,.slice none 0 0,.slice none 0 0,.int .i64 0] (n*4):=Array.toList_inj.1 m;subst o;refine ⟨f.alloc f.size _,by omega,aq _,by omega,⟨t,heap_alloc_new _ _⟩,_,(dI _ _ _ i).trans hc,b,fun j _ h=>aCl h,fun j h=>by omega⟩
def GO {w w':World} (h:bw w) (b:Below w.heap.size w w'):bw w':=fun j a=>(b.cell (ak w _ (h j a))).trans (h j a)
def aCn {w:World} (i:Int):Calls prog 88 #[.int .i64 i] w fun e a=>e= .returned (.bool true)/\a=w:=by
 go_enter func88,ntmps88;go_wp2_with fail;go_ret;exact ⟨rfl,rfl⟩
def aCo {W:World} {B:Nat} {v:Value} {L:List b8} (h:jE W B v L) {l:List Rs} (T:Th (L.map yX) l) (hl:l.length=L.length) (U:0<L.length) (A:L.length<=10000) (hT:bw W):
 Calls prog 87 #[v,.func (.func 88) #[] #[]] W fun e C=> ∃b g,e= .returned (.slice (some ⟨g,0,none⟩) L.length L.length)/\tY W C b g L.length l L.length:=by
 have E:=ae (af h (af T (af hl hT)));obtain ⟨va,vc,rfl⟩:=h.slice;obtain ⟨n,Z⟩:=pQ L.length;have o:=ae Z;rw [Z] at U A⊢;have H0:=ae U;clear h T hT hl Z;obtain ⟨i0,fq,ff,fH,eV⟩:=info_parts aCk;go_enter func87,ntmps87;go_wp2_with (refine wpList_make_full W rfl (.tmp 9) (.tmp 9) 153 rfl W.heap.size 156 i0 _ 4 underlying153 fq ff fH _ _ _ _ n rfl rfl rfl rfl (by rw [eV];omega) (by unfold maxLen;omega) (aq _) ?_;intro w1 ho j;have I:=ae (aCm (l:=l) (t:=153) H0.out ho j);clear ho j);have u: ∀(w:World) (b g i:Nat),i<n->tY W w b g n l i-> ∀(x:b8),L.getD i fS=x-> ∀(r:Rs),l.getD i eH=r->
  Calls prog 140 #[ig x,.func (.func 141) #[] #[.pointer (some ⟨b,0,none⟩)]] w fun e C=> ∃M k1 c1 N k2 z,e= .returned (.agg #[.bool (decide (r.p<0)),.slice M k1 c1,.slice N k2 z,.int .i64 r.s])/\dL C (.slice M k1 c1) r.p.natAbs/\dL C (.slice N k2 z) r.q/\Below w.heap.size w C:=fun w b g i Y hw x hx r H=>by
  have q:=aBM (b:=b) (g:=g) (w:=w) (W:=W) E.out.2.1 E.out.2.2.1 (by rw [o.out];omega) (by rw [o.out];exact Y) (by rw [o.out];exact hw) (GO E.out.2.2.2 hw.below) hx;rw [H] at q;exact q
 have O:=ae u;clear u;obtain ⟨b,X⟩:=pQ w1.heap.size;obtain ⟨g,j⟩:=pQ W.heap.size;rw [X,j] at I;rw [X,j];generalize w1.alloc (.cells #[.slice (some ⟨g,0,none⟩) n n] 153)=w2 at I⊢;clear fq ff fH eV X j U;go_loopw [13] (fun iv wr=> ∃i:Nat,iv= .int .i64 (i:Int)/\i<=n/\tY W wr b g n l i) (fun iv _=>n-(intOf iv).toNat)
 case atStart=>exact ⟨0,rfl,by omega,I.out⟩
 case round=>
  obtain ⟨i,rfl,Y,G⟩:=hrel;have J:=ae G;have hc:=G.cell.1;have oh:=G.blt.1;by_cases F:i<n
  ·obtain ⟨y,hy⟩:=pQ (L.getD i fS)
   obtain ⟨gv,cv,ev,c0,c1,z,c3,c4⟩:=(E.out.1.frame (S:=fun _=>False) (Fr.jq J.out.below) (fun _ _ e=>e)).form (by rw [o.out];exact F) hy;rw [o.out] at ev;cases ev;obtain ⟨k,a,bb,m,t⟩:=y;simp only at c0 c1 z c3 c4;have f:=ae (af hy F);obtain ⟨r,H⟩:=pQ (l.getD i eH);have D:=ae H;have i0:(0:Int)<=(i:Int):=by omega
   have i1:(i:Int)<(n:Int):=by omega
   have yu:gv<wr.heap.size:=ak wr _ c0;clear G hy F hc oh H;go_wp2_with fail;refine (aCn _).mono ?_;rintro e w3 ⟨rfl,qQ⟩;have P:Below (wr.heap.size+1) (wr.alloc (.cells ⟨jD ⟨k,a,bb,m,t⟩⟩ 60)) w3:=by rw [qQ];exact aH _ _
   obtain ⟨R,d1,d2,d3,d4⟩:=mF (wM P);simp only at R d1 d2 d3 d4;have mC:=ae (J.out.later (uR P));have TB:=mC.out.cell.1;have hs:wr.heap.size<w3.heap.size:=ak w3 _ R;clear qQ P c0 c1 z c3 c4 yu;go_wp2_with fail
   go_region_with ((go_at_call 140;refine (O.out _ _ _ _ f.out.2 (mC.out.later (by first|exact ((aH _ _).drew)|exact (aH _ _))) _ f.out.1 _ D.out).mono ?_;rintro e w4 ⟨M,k1,x1,N,k2,x2,rfl,n1,n2,nf⟩;have d:=ae ((mC.out.later (by first|exact ((aH _ _).drew)|exact (aH _ _))).later nf);obtain ⟨⟨q0,q1,q2,q3⟩,f0,f1,f2,f3⟩:=d.out.at f.out.2;have CH:=d.out.cell.1;have N1:=ae n1;have N2:=ae n2;clear n1 n2 nf))
   all_goals
    have Q:=d.out.next f.out.2 (by rw [D.out];exact N1.out) (by rw [D.out];exact N2.out);rw [D.out] at Q;have HQ:=ae Q;clear Q q0 q1 q2 q3 f0 f1 f2 f3 CH TB R d1 d2 d3 d4 hs;go_wp2_with fail;go_roundw
    case rel=>exact ⟨i+1,by go_num,by have:=f.out.2;omega,HQ.out⟩
    case measure=>have:=f.out.2;simp [intOf];omega
  ·have EZ:i=n:=by omega
   subst EZ;clear F Y;go_wp2_with fail;go_ret;exact ⟨_,_,rfl,J.out⟩
end
section
open Go Go.RowKit
def E7 {n:Nat} {w:World} (o:Obj) (h:n<=w.heap.size):n<=(w.alloc o).heap.size:=by rw [uS];omega
structure GI (L:List b8):Prop where
 nd: ∀i,i<L.length->px (L.getD i fS)
 fit: ∀i,i<L.length->qU i (L.getD i fS)
 nodup:L.Nodup
def aCq:GI []:=⟨fun i h=>by simp at h,fun i h=>by simp at h,jZ⟩
def adp {L:List b8} {x:b8} {j:Nat} (a:j<L.length+1:=by omega):(L++ [x]).getD j fS=if j<L.length then L.getD j fS else x:=by
 grind
def GI.snoc {L:List b8} {x:b8} (h:GI L) (hx:px x) (hf:qU L.length x) (hn:x∉L):GI (L++ [x]) where
 nd:=fun i hi=>by
  rw [adp (by simp_all)];split
  ·exact h.nd i (by assumption)
  omega
 fit:=fun i hi=>by
  have m8:i<L.length+1:=by simp_all
  rw [adp m8];split
  ·exact h.fit i (by assumption)
  grind
 nodup:=by
  rw [List.nodup_append];exact ⟨h.nodup,by simp,fun a ha b hb e=>by simp_all⟩
def aCr {j w:World} {p n k:Nat} {m:Value} (h:py j w p m n k) {D:Int} (u:1<=D) (x:D<=4) (closed:Bool):
 Calls Tryz.prog 6 #[.pointer (some ⟨p,0,none⟩),.int .i64 D,.bool closed] w (adn closed j w p m n k (.slice none 0 0) [] 4):=by
 have i:jE w j.heap.size (.slice none 0 0) []:=⟨World.ownsRow_nil _ _ _ _⟩;have o:Calls Tryz.prog 18 #[.pointer (some ⟨p,0,none⟩),.slice none 0 0,.int .i64 D,.bool closed] w (adn closed j w p m n k (.slice none 0 0) [] 4):=by
  have t:D=1\/D=2\/D=3\/D=4:=by omega
  rcases t with rfl|rfl|rfl|rfl
  ·exact (Yr.1 closed h i (by simp)).mono fun e q ⟨f,b,d,g,a⟩=>⟨f,b,d,g,a.deeper (by omega)⟩
  ·exact (Yr.2.1 closed h i (by simp)).mono fun e q ⟨f,b,d,g,a⟩=>⟨f,b,d,g,a.deeper (by omega)⟩
  ·exact (Yr.2.2.1 closed h i (by simp)).mono fun e q ⟨f,b,d,g,a⟩=>⟨f,b,d,g,a.deeper (by omega)⟩
  ·exact Yr.2.2.2 closed h i (by simp)
 have l:=ae o;clear h i o;go_enter Tryz.func6,Tryz.ntmps6;go_wp2_with fail;refine l.out.mono ?_;rintro e y ⟨f,b,d,rfl,a⟩;have s:=ae a;clear a;go_wp2_with fail;go_ret;exact ⟨f,b,d,rfl,s.out⟩
def TL (W:World) (v:Value) (n:Nat):Prop:=n<=1000/\ ∃a c,v= .slice a n c/\ ∀j,j<n-> ∃b x,a=some b/\ -9223372036854775808<=x/\W.cell? (b.add j)=some (.int .i64 x)
def TL.OX {W:World} {v:Value} {n p:Nat} (h:TL W v n) (k:W.heap.size<=p):EU W p v n:=by
 obtain ⟨d,a,c,rfl,f⟩:=h;refine ⟨d,a,c,rfl,fun j g=> ?_⟩;obtain ⟨b,x,rfl,i,hc⟩:=f j g;refine ⟨b,x,rfl,fun e=> ?_,i,hc⟩;have:=ak W _ hc;rw [akY] at this;omega
end
section
open Go.Proofs.Tryz Go Go.RowKit
variable {w:World} {bx p m B:Nat} {v:Value} {zs:List Int}
structure JB (w:World) (bx p m:Nat):Prop where
 box:w.cell? ⟨bx,0,none⟩=some (.pointer (some ⟨p,0,none⟩))
 lst: ∃a c,w.cell? ⟨p,0,none⟩=some (.slice a m c)
def JB.below {w':World} (h:JB w bx p m) (b:Fr (fun _=>False) w w'):JB w' bx p m:=by
 obtain ⟨a,c,e⟩:=h.lst;exact ⟨b.cell h.box (fun e=>e),a,c,b.cell e (fun e=>e)⟩
def aCs (a:JB w bx p m) {z:Int} (i:0<=z) (j:z<(m:Int)) (d:m<=10000):
 Calls prog 64 #[.int .i64 z,.pointer (some ⟨bx,0,none⟩)] w fun e g=>e= .returned (.bool false)/\Fr (fun _=>False) w g:=by
 have b:=a.box;obtain ⟨k,l,f⟩:=a.lst;have o:bx<w.heap.size:=ak w _ b;have h:p<w.heap.size:=ak w _ f;clear a;go_enter func64,ntmps64;go_wp2_with fail;go_ret;exact ⟨by simp;omega,Fr.refl _ _⟩
def aCt (h:w.ownsRow B 3 1 v zs.length (ints zs)) (x:JB w bx p m) (y: ∀z∈zs,0<=z/\z<(m:Int)) (I:m<=10000) (J:zs.length<=2):
 Calls prog 110 #[v,.func (.func 64) #[] #[.pointer (some ⟨bx,0,none⟩)]] w fun e N=>e= .returned (.int .i64 (-1))/\Fr (fun _=>False) w N:=by
 have f:=ae (af h (af x (af y I)));obtain ⟨a,c,rfl⟩:=vw h;obtain ⟨n,j⟩:=pQ zs.length;have s:=ae j;rw [j] at J⊢;clear h x y j;go_enter func110,ntmps110;go_wp2_with fail;go_loopw [8] (fun iv wr=>Fr (fun _=>False) w wr/\ ∃k:Nat,k<=n/\iv= .int .i64 (k:Int)) (fun iv _=>n-(intOf iv).toNat)
 case atStart=>exact ⟨Fr.refl _ _,0,by omega,rfl⟩
 case round=>
  obtain ⟨b,k,H,rfl⟩:=hrel;have q:=ae b;by_cases i:k<n
  ·obtain ⟨P,Q,F,C⟩:=GK (qu f.out.1 b (fun _ _ e=>e))
   obtain ⟨R,G,D⟩:=C k (by rw [s.out];exact i);cases F;subst G;have d:=f.out.2.2.1 _ (Yl (l:=zs) (by rw [s.out];exact i));obtain ⟨z,o⟩:=pQ (zs.getD k 0);rw [o] at D d;obtain ⟨u,t⟩:=d;have g:=ae (af (f.out.2.1.below b) (af u t));have S:(0:Int)<=(k:Int):=by omega
   have O:(k:Int)<(n:Int):=by omega
   clear b C o u t;go_wp2_with fail;refine (aCs g.out.1 g.out.2.1 g.out.2.2 f.out.2.2.2).mono ?_;rintro e T ⟨rfl,A⟩;have M:=ae (q.out.trans A (fun _ _ e=>e));clear A;go_wp2_with fail;go_roundw
   case rel=>exact ⟨M.out,k+1,by omega,by go_num⟩
   case measure=>simp [intOf];omega
  ·have E:k=n:=by omega
   subst E;clear b H i;go_wp2_with fail;go_ret;exact ⟨rfl,q.out⟩
def aCu (h:w.ownsRow B 3 1 v zs.length (ints zs)) (b:JB w bx p m) (i: ∀z∈zs,0<=z/\z<(m:Int)) (f:m<=10000) (g:zs.length<=2):
 Calls prog 63 #[v,.func (.func 64) #[] #[.pointer (some ⟨bx,0,none⟩)]] w fun e l=>e= .returned (.bool false)/\Fr (fun _=>False) w l:=by
 have j:=ae (aCt h b i f g);obtain ⟨a,c,rfl⟩:=vw h;clear h b i f g;go_enter func63,ntmps63;go_wp2_with fail;refine j.out.mono ?_;rintro e o ⟨rfl,d⟩;have k:=ae d;clear d;go_wp2_with fail;go_ret;exact ⟨rfl,k.out⟩
end
section
open Go.Proofs.Tryz Go Go.RowKit
variable {w w':World} {p B m:Nat} {k a b n:Int} {v mv:Value} {L:List b8} {t:ByteArray} {x:b8}
structure Ys (w w':World) (p m:Nat) (x:b8):Prop where
 below:Below w.heap.size w w'
 box:JB w' w.heap.size p m
 nd:w'.heap[w.heap.size+1]? =some (.cells ⟨jD x⟩ 60 (0,0))
def O1 (h:iI w B p v mv L) (d:Below ((w.alloc (.cells #[.pointer (some ⟨p,0,none⟩)] 29)).alloc (.cells ⟨jD x⟩ 60)).heap.size ((w.alloc (.cells #[.pointer (some ⟨p,0,none⟩)] 29)).alloc (.cells ⟨jD x⟩ 60)) w'):
 Ys w w' p L.length x:=by
 have j:((w.alloc (.cells #[.pointer (some ⟨p,0,none⟩)] 29)).alloc (.cells ⟨jD x⟩ 60)).heap.size=w.heap.size+2:=by simp
 rw [j] at d;have i:Below w.heap.size w ((w.alloc (.cells #[.pointer (some ⟨p,0,none⟩)] 29)).alloc (.cells ⟨jD x⟩ 60)):=((aH w.heap.size w).alloc (aq _) _).alloc (by simp) _;have f:=i.trans (d.mono (by omega));have g:=qv ((f.block p (ax.1 h.blk).1).trans h.blk) 0;obtain ⟨a,c,rfl⟩:=h.lz.slice;refine ⟨f,⟨?_,a,c,g⟩,?_⟩
 ·have e:w'.heap[w.heap.size]? =some (.cells #[.pointer (some ⟨p,0,none⟩)] 29 (0,0)):=by
   rw [d.block _ (by omega)];show ((w.heap.push _).push _)[w.heap.size]? =_;grind
  exact qv e 0
 ·rw [d.block _ (by omega)]
  show ((w.heap.push _).push _)[w.heap.size+1]? =_;grind
def Ys.later {e:World} (h:Ys w w' p m x) (d:Below w'.heap.size w' e):Ys w e p m x:=
 ⟨h.below.trans (d.mono h.below.size),h.box.below (Fr.jq d),(d.block _ (ax.1 h.nd).1).trans h.nd⟩
def O2 {g n:Nat} {a:Option Addr} {c:Nat} {d:List Int} (f:d.length=n) (h:w.ownsRow B 3 1 (.slice a d.length c) d.length (ints d)) (i:JB w g p m) (o: ∀z∈d,0<=z/\z<(m:Int)) (j:m<=10000) (l:d.length<=2):
 Calls prog 63 #[.slice a n c,.func (.func 64) #[] #[.pointer (some ⟨g,0,none⟩)]] w fun e w'=>e= .returned (.bool false)/\Fr (fun _=>False) w w':=by
 subst f;exact aCu h i o j l
def O3 (h:arity k=0):(args ⟨k,a,b,n,t⟩).length=0:=by unfold args;rw [if_pos h];rfl
def Yt (h:arity k=1):(args ⟨k,a,b,n,t⟩).length=1:=by unfold args;rw [if_neg (by simp_all),if_pos h];rfl
def alB (h:arity k=2):(args ⟨k,a,b,n,t⟩).length=2:=by unfold args;rw [if_neg (by simp_all),if_neg (by simp_all)];rfl
def aCv (h:iI w B p v mv L) (H:L.length<=5000) (G:arity k=0) (D:3<=k) (E:k<=4) (F:qU L.length ⟨k,0,0,0,ByteArray.empty⟩):
 Calls prog 39 #[ptr p,ig ⟨k,0,0,0,ByteArray.empty⟩] w fun e w'=>e= .returned (.bool true)/\Below w.heap.size w w':=by
 have q:=ae (af h (af H F));have R: ∀(C:Fn) (first cap:Array Value) (w:World),(Instr.makeFunc C first cap).run prog w= .ok (.func C first cap) w:=fun _ _ _ _=>rfl
 clear h H F;unfold ptr ig;simp only;have W: ¬k=1:=by omega
 have X: ¬k=2:=by omega
 have N: ¬k=10:=by omega
 have z:=ae G;have A:=ae (af D E);clear G D E;go_enter func39,ntmps39;go_wp2_with fail;refine (Jr (x:=⟨k,0,0,0,ByteArray.empty⟩) (by have:=A.out;simp only;omega) (by have:=A.out;simp only;omega) _).mono ?_;rintro e I ⟨U,rfl,u⟩;have o:=ae (O1 (x:=⟨k,0,0,0,ByteArray.empty⟩) q.out.1 u.1);have s:=u.2;obtain ⟨S,T,rfl⟩:=vw s;have P:=ae s;obtain ⟨f,g,i,j,l⟩:=mF o.out.nd;simp only at f g i j l;have M:w.heap.size+1<I.heap.size:=ak I _ f;have J:=o.out.box.box;rw [O3 z.out];clear u s;go_wp2_with fail;refine (O2 (O3 z.out) P.out o.out.box q.out.2.2.args (by have:=q.out.2.1;omega) (xP _)).mono ?_;rintro e O ⟨rfl,y⟩;have d:=ae (o.out.later y.below);have Q:=y.size;clear f g i j l J y;obtain ⟨f,g,i,j,l⟩:=mF d.out.nd;simp only at f g i j l;have Y:w.heap.size+1<O.heap.size:=by omega
 clear M Q;go_wp2_with fail;go_ret
 first
  |exact ⟨by first|rfl|(simp;done),d.out.below.alloc d.out.below.size _⟩
  |exact ⟨by first|rfl|(simp;done),(d.out.below.alloc d.out.below.size _).setCell d.out.below.size _⟩
  |exact ⟨by first|rfl|(simp;done),((d.out.below.alloc d.out.below.size _).setCell d.out.below.size _).setCell d.out.below.size _⟩
def aCw (h:iI w B p v mv L) (H:L.length<=5000) (G:arity k=1) (D:5<=k) (E:k<=16) (N:k≠10) (F:qU L.length ⟨k,a,0,0,ByteArray.empty⟩):
 Calls prog 39 #[ptr p,ig ⟨k,a,0,0,ByteArray.empty⟩] w fun e w'=>e= .returned (.bool true)/\Below w.heap.size w w':=by
 have q:=ae (af h (af H F));have S: ∀(C:Fn) (first cap:Array Value) (w:World),(Instr.makeFunc C first cap).run prog w= .ok (.func C first cap) w:=fun _ _ _ _=>rfl
 clear h H F;unfold ptr ig;simp only;have X: ¬k=1:=by omega
 have Y: ¬k=2:=by omega
 have O: ¬k=10:=by omega
 have z:=ae G;have A:=ae (af D E);clear G D E N;go_enter func39,ntmps39;go_wp2_with fail;refine (Jr (x:=⟨k,a,0,0,ByteArray.empty⟩) (by have:=A.out;simp only;omega) (by have:=A.out;simp only;omega) _).mono ?_;rintro e I ⟨W,rfl,u⟩;have o:=ae (O1 (x:=⟨k,a,0,0,ByteArray.empty⟩) q.out.1 u.1);have s:=u.2;obtain ⟨T,U,rfl⟩:=vw s;have Q:=ae s;obtain ⟨f,g,i,j,l⟩:=mF o.out.nd;simp only at f g i j l;have M:w.heap.size+1<I.heap.size:=ak I _ f;have J:=o.out.box.box;rw [Yt z.out];clear u s;go_wp2_with fail;refine (O2 (Yt z.out) Q.out o.out.box q.out.2.2.args (by have:=q.out.2.1;omega) (xP _)).mono ?_;rintro e P ⟨rfl,y⟩;have d:=ae (o.out.later y.below);have R:=y.size;clear f g i j l J y;obtain ⟨f,g,i,j,l⟩:=mF d.out.nd;simp only at f g i j l;have Z:w.heap.size+1<P.heap.size:=by omega
 clear M R;go_wp2_with fail;go_ret
 first
  |exact ⟨by first|rfl|(simp;done),d.out.below.alloc d.out.below.size _⟩
  |exact ⟨by first|rfl|(simp;done),(d.out.below.alloc d.out.below.size _).setCell d.out.below.size _⟩
  |exact ⟨by first|rfl|(simp;done),((d.out.below.alloc d.out.below.size _).setCell d.out.below.size _).setCell d.out.below.size _⟩
def aCx (h:iI w B p v mv L) (H:L.length<=5000) (G:arity k=2) (D:6<=k) (E:k<=9) (F:qU L.length ⟨k,a,b,0,ByteArray.empty⟩):
 Calls prog 39 #[ptr p,ig ⟨k,a,b,0,ByteArray.empty⟩] w fun e w'=>e= .returned (.bool true)/\Below w.heap.size w w':=by
 have q:=ae (af h (af H F));have R: ∀(C:Fn) (first cap:Array Value) (w:World),(Instr.makeFunc C first cap).run prog w= .ok (.func C first cap) w:=fun _ _ _ _=>rfl
 clear h H F;unfold ptr ig;simp only;have W: ¬k=1:=by omega
 have X: ¬k=2:=by omega
 have N: ¬k=10:=by omega
 have z:=ae G;have A:=ae (af D E);clear G D E;go_enter func39,ntmps39;go_wp2_with fail;refine (Jr (x:=⟨k,a,b,0,ByteArray.empty⟩) (by have:=A.out;simp only;omega) (by have:=A.out;simp only;omega) _).mono ?_;rintro e I ⟨U,rfl,u⟩;have o:=ae (O1 (x:=⟨k,a,b,0,ByteArray.empty⟩) q.out.1 u.1);have s:=u.2;obtain ⟨S,T,rfl⟩:=vw s;have P:=ae s;obtain ⟨f,g,i,j,l⟩:=mF o.out.nd;simp only at f g i j l;have M:w.heap.size+1<I.heap.size:=ak I _ f;have J:=o.out.box.box;rw [alB z.out];clear u s;go_wp2_with fail;refine (O2 (alB z.out) P.out o.out.box q.out.2.2.args (by have:=q.out.2.1;omega) (xP _)).mono ?_;rintro e O ⟨rfl,y⟩;have d:=ae (o.out.later y.below);have Q:=y.size;clear f g i j l J y;obtain ⟨f,g,i,j,l⟩:=mF d.out.nd;simp only at f g i j l;have Y:w.heap.size+1<O.heap.size:=by omega
 clear M Q;go_wp2_with fail;go_ret
 first
  |exact ⟨by first|rfl|(simp;done),d.out.below.alloc d.out.below.size _⟩
  |exact ⟨by first|rfl|(simp;done),(d.out.below.alloc d.out.below.size _).setCell d.out.below.size _⟩
  |exact ⟨by first|rfl|(simp;done),((d.out.below.alloc d.out.below.size _).setCell d.out.below.size _).setCell d.out.below.size _⟩
end
section
open Go.Proofs.Tryz Go Go.RowKit
variable {w:World} {B p:Nat} {v mv:Value} {L:List b8} {t:ByteArray}
def aCy (h:iI w B p v mv L) (I:L.length<=5000) (J:t∈xR) (F:pz w) (H:qU L.length ⟨1,0,0,0,t⟩):
 Calls prog 39 #[ptr p,ig ⟨1,0,0,0,t⟩] w fun e U=>e= .returned (.bool true)/\Below w.heap.size w U:=by
 have m:=ae (af h (af I H));have C:=ae (af J F);clear J F;have Y: ∀(E:Fn) (first cap:Array Value) (w:World),(Instr.makeFunc E first cap).run prog w= .ok (.func E first cap) w:=fun _ _ _ _=>rfl
 clear h I H;unfold ptr ig;simp only;go_enter func39,ntmps39;go_wp2_with fail;refine (Jr (x:=⟨1,0,0,0,t⟩) (by simp) (by simp) _).mono ?_;rintro e M ⟨av,rfl,u⟩;have k:=ae (O1 (x:=⟨1,0,0,0,t⟩) m.out.1 u.1);have o:=u.2;obtain ⟨aa,ac,rfl⟩:=vw o;have W:=ae o;obtain ⟨a,b,d,f,g⟩:=mF k.out.nd;simp only at a b d f g;have O:w.heap.size+1<M.heap.size:=ak M _ a;have N:=k.out.box.box;rw [O3 (show arity 1=0 by rfl)];clear u o;go_wp2_with fail;refine (O2 (O3 (show arity 1=0 by rfl)) W.out k.out.box m.out.2.2.args (by have:=m.out.2.1;omega) (xP _)).mono ?_;rintro e j ⟨rfl,y⟩;have i:=ae (k.out.later y.below);have X:=y.size;clear a b d f g N y;obtain ⟨a,b,d,f,g⟩:=mF i.out.nd;simp only at a b d f g;have vy:w.heap.size+1<j.heap.size:=by omega
 clear O X;go_wp2_with fail;refine (alx alz (C.out.2.below (i.out.below.alloc i.out.below.size _)) C.out.1).mono ?_;rintro e l ⟨s,qa,qn,qc,ra,rn,rc,rfl,G⟩;have q:Below (j.heap.size+1) (j.alloc (.cells ⟨jD ⟨1,0,0,0,ByteArray.empty⟩⟩ 60)) l:=by rw [<-uS j];exact G
 have A:=ae (wM q);have z:=ae (i.out.later (uR q));clear a b d f g G q;obtain ⟨a,b,d,f,g⟩:=mF z.out.nd;obtain ⟨D,P,Q,R,S⟩:=mF A.out;have e5:=Au A.out 4;simp only at a b d f g D P Q R S;have Z:j.heap.size<l.heap.size:=ak l _ D;have T:w.heap.size+1<l.heap.size:=by omega
 go_wp2_with fail;go_ret
 first
  |exact ⟨by first|rfl|(simp;done),(z.out.below.setCell i.out.below.size _).alloc (by have:=z.out.below.size;simp;omega) _⟩
def aCz (h:iI w B p v mv L) (X:L.length<=5000) (Y:t∈E2) (U:pz w) (i:qU L.length ⟨2,0,0,0,t⟩):
 Calls prog 39 #[ptr p,ig ⟨2,0,0,0,t⟩] w fun e b=>e= .returned (.bool true)/\Below w.heap.size w b:=by
 have G:=ae (af h (af X i));have F:=ae (af Y U);clear Y U;have TM: ∀(S:Fn) (first cap:Array Value) (w:World),(Instr.makeFunc S first cap).run prog w= .ok (.func S first cap) w:=fun _ _ _ _=>rfl
 clear h X i;unfold ptr ig;simp only;go_enter func39,ntmps39;go_wp2_with fail;refine (Jr (x:=⟨2,0,0,0,t⟩) (by simp) (by simp) _).mono ?_;rintro e w3 ⟨av,rfl,O⟩;have z:=ae (O1 (x:=⟨2,0,0,0,t⟩) G.out.1 O.1);have N:=O.2;obtain ⟨aa,ac,rfl⟩:=vw N;have wT:=ae N;obtain ⟨l,m,o,q,f⟩:=mF z.out.nd;simp only at l m o q f;have Dp:w.heap.size+1<w3.heap.size:=ak w3 _ l;have AA:=z.out.box.box;rw [O3 (show arity 2=0 by rfl)];clear O N;go_wp2_with fail;refine (O2 (O3 (show arity 2=0 by rfl)) wT.out z.out.box G.out.2.2.args (by have:=G.out.2.1;omega) (xP _)).mono ?_;rintro e j ⟨rfl,Q⟩;have iU:=ae (z.out.later Q.below);have yZ:=Q.size;clear l m o q f AA Q;obtain ⟨l,m,o,q,f⟩:=mF iU.out.nd;simp only at l m o q f;have vy:w.heap.size+1<j.heap.size:=by omega
 clear Dp yZ;go_wp2_with fail;have H:=heap_alloc_new j (.cells #[.int .i64 2,.int .i64 0,.int .i64 0,.int .i64 0,.string {data:= #[]}] 60);have I:=uS j (.cells #[.int .i64 2,.int .i64 0,.int .i64 0,.int .i64 0,.string {data:= #[]}] 60);have J:=iU.out.later ((aH j.heap.size j).alloc (aq _) (.cells #[.int .i64 2,.int .i64 0,.int .i64 0,.int .i64 0,.string {data:= #[]}] 60));generalize j.alloc (.cells #[.int .i64 2,.int .i64 0,.int .i64 0,.int .i64 0,.string {data:= #[]}] 60)=a at H I J⊢;have y:=ae H;have s:=ae J;have E:=ae I;obtain ⟨g,W⟩:=pQ j.heap.size;rw [W] at y E vy⊢;clear l m o q f H I J W;have A:=ae vy;have R: ∀b,Fr (· =g) a b->pz b:=fun b i=>F.out.2.below (s.out.below.trans (i.nJ (fun k hk e=>by have:=A.out;omega) s.out.below.size))
 have Z:=ae R;have T: ∀b,Fr (· =g) a b->b.cell? ⟨w.heap.size+1,4,none⟩=some (.string t)/\Fr (· =g) a b:=fun b i=>⟨i.cell (mF s.out.nd).2.2.2.2 (fun e=>by have:=A.out;simp at e;omega),i⟩
 have HS:=ae T;have f4:=Au y.out 4;have Yu:g<a.heap.size:=ak a _ (mF (x:=⟨2,0,0,0,ByteArray.empty⟩) y.out).1;have P:w.heap.size+1<a.heap.size:=by omega
 have f:=(mF s.out.nd).2.2.2.2;simp only at f;have C:=ae (af Yu P);clear R T
 go_region_held3 (fun b=>b.cell? ⟨w.heap.size+1,4,none⟩=some (.string t)/\Fr (· =g) a b)
  ((refine HS.out _ ?_;first|exact tB.setCell _ (fun _=>rfl)|exact tB|exact tC|exact Fr.refl _ _|exact (Fr.refl _ _).drew))
  (first
   |(go_at_call 66;refine (aly aCi (Z.out _ (by first|exact Fr.refl _ _|exact (Fr.refl _ _).drew)) F.out.1).mono ?_;rintro e w8 ⟨rfl,pj⟩;have u3:Below a.heap.size a w8:=(aH _ a).drew.trans pj;have tC:Fr (· =g) a w8:=Fr.jq u3)
   |(go_at_call 67;refine (aly aCj (Z.out _ tC) F.out.1).mono ?_;rintro e w9 ⟨rfl,Bl⟩;have u:Below a.heap.size a w9:=u3.trans (Bl.mono u3.size);have tB:Fr (· =g) a w9:=Fr.jq u;have d:=(u.block g C.out.1).trans y.out;have M:=s.out.later u;have f9:=Au d 4;obtain ⟨p0,p1,p2,p3,p4⟩:=mF (x:=⟨2,0,0,0,ByteArray.empty⟩) d;obtain ⟨q0,q1,q2,q3,q4⟩:=mF M.nd;simp only at p0 p1 p2 p3 p4 q0 q1 q2 q3 q4;have s9:=az C.out.1 u.size;have s9':=az C.out.2 u.size;have D:=ae M.below;clear d M))
 all_goals
  go_wp2_with fail;go_ret;exact ⟨by first|rfl|(simp;done),(D.out.setCell (show w.heap.size<=g by have:=A.out;omega) _)⟩
def aCA (h:iI w B p v mv L) (H:L.length<=5000) {a n:Int} (oC: -3<=n) (sU:n<=4) (F:qU L.length ⟨10,a,0,n,ByteArray.empty⟩):
 Calls prog 39 #[ptr p,ig ⟨10,a,0,n,ByteArray.empty⟩] w fun e X=>e= .returned (.bool true)/\Below w.heap.size w X:=by
 have q:=ae (af h (af H F));have TM: ∀(E:Fn) (first cap:Array Value) (w:World),(Instr.makeFunc E first cap).run prog w= .ok (.func E first cap) w:=fun _ _ _ _=>rfl
 clear h H F;unfold ptr ig;simp only;go_enter func39,ntmps39;go_wp2_with fail;refine (Jr (x:=⟨10,a,0,n,ByteArray.empty⟩) (by simp) (by simp) _).mono ?_;rintro e M ⟨av,rfl,A⟩;have m:=ae (O1 (x:=⟨10,a,0,n,ByteArray.empty⟩) q.out.1 A.1);have z:=A.2;obtain ⟨aa,ac,rfl⟩:=vw z;have Y:=ae z;obtain ⟨b,d,f,i,j⟩:=mF m.out.nd;simp only at b d f i j;have O:w.heap.size+1<M.heap.size:=ak M _ b;have N:=m.out.box.box;rw [Yt (show arity 10=1 by rfl)];clear A z;go_wp2_with fail;refine (O2 (Yt (show arity 10=1 by rfl)) Y.out m.out.box q.out.2.2.args (by have:=q.out.2.1;omega) (xP _)).mono ?_;rintro e k ⟨rfl,C⟩;have I:=ae (m.out.later C.below);have Z:=C.size;clear b d f i j N C;obtain ⟨b,d,f,i,j⟩:=mF I.out.nd;simp only at b d f i j;have W:w.heap.size+1<k.heap.size:=by omega
 clear O Z;go_wp2_with fail;have s:=heap_alloc_new k (.cells #[.int .i64 10,.int .i64 a,.int .i64 0,.int .i64 0,.string {data:= #[]}] 60);have u:=uS k (.cells #[.int .i64 10,.int .i64 a,.int .i64 0,.int .i64 0,.string {data:= #[]}] 60);have y:=I.out.later ((aH k.heap.size k).alloc (aq _) (.cells #[.int .i64 10,.int .i64 a,.int .i64 0,.int .i64 0,.string {data:= #[]}] 60));generalize k.alloc (.cells #[.int .i64 10,.int .i64 a,.int .i64 0,.int .i64 0,.string {data:= #[]}] 60)=D at s u y⊢;have l:=ae s;have J:=ae y;have o:=ae u;obtain ⟨g,G⟩:=pQ k.heap.size;rw [G] at l o W⊢;clear b d f i j s u y G;have f3:=Au l.out 3;have Yu:g<D.heap.size:=ak D _ (mF (x:=⟨10,a,0,0,ByteArray.empty⟩) l.out).1;have U:w.heap.size+1<D.heap.size:=by omega
 obtain ⟨b,d,f,i,j⟩:=mF J.out.nd;obtain ⟨P,Q,R,S,T⟩:=mF (x:=⟨10,a,0,0,ByteArray.empty⟩) l.out;simp only at b d f i j P Q R S T;have Ij:decide ((-64:Int)<=n)=true:=decide_eq_true (by omega);have Qy:decide (n<=(64:Int))=true:=decide_eq_true (by omega);go_region
 all_goals
  go_wp2_with fail;go_ret;exact ⟨by first|rfl|(simp;done),(J.out.below.setCell (show w.heap.size<=g by omega) _).drew⟩
end
section
open Go.Proofs.Tryz Go Go.RowKit Go.Maps
variable {x:b8} {w:World} {L:List b8} {k a:Int} {n b:Nat} {t:ByteArray}
def alC {B p:Nat} {v F:Value} (h:iI w B p v F L) (j:L.length<=5000) (g:px x) (f:qU L.length x) (A:pz w):
 Calls prog 39 #[ptr p,ig x] w fun e G=>e= .returned (.bool true)/\Below w.heap.size w G:=by
 obtain ⟨k,a,b,n,t⟩:=x;have E:=g.k1;have s:=g.k2;have u:=g.ES;have y:=g.nam;have z:=g.qt;have q:=g.pow;have l:=g.lH;have m:=f.a0;have i:=f.b0;simp only at E s u y z q l m i;by_cases C:k=1
 ·subst C
  obtain rfl:=l (by omega);obtain rfl:=m (by rfl);obtain rfl:=i (by decide);exact aCy h j (u rfl) A f
 ·by_cases D:k=2
  ·subst D
   obtain rfl:=l (by omega);obtain rfl:=m (by rfl);obtain rfl:=i (by decide);exact aCz h j (y rfl) A f
  ·obtain rfl:=z C D
   by_cases o:k=10
   ·subst o
    obtain rfl:=i (by decide);exact aCA h j (q rfl).1 (q rfl).2 f
   ·obtain rfl:=l o
    rcases L6 k with d|d|d
    ·obtain rfl:=m d
     obtain rfl:=i (by omega);have:k<=4:=by
      unfold arity at d;split at d<;>try split at d
      all_goals first|omega|(simp at d)
     exact aCv h j d (by omega) this f
    ·obtain rfl:=i (by omega)
     exact aCw h j d (als d) s o f
    ·exact aCx h j d (ado d).1 (ado d).2 f
def alD:laidOutB prog=true:=by kernel_rfl
def aCB:(match prog.underlying 60 with|some (.array _ _)|some (.struct _)=>true|_=>false)=true:=by rw [underlying60]
def Mb:Keyed prog 60:=Keyed.of_law (deep_law_laid alD (m:=2) (by omega) (of_decide_eq_true (by kernel_rfl)) (by kernel_rfl) aCB)
def aCC (d:Nat) {b n:Int} (j:(Lit.int .i64 k).wf=true) (h:(Lit.int .i64 a).wf=true) (i:(Lit.int .i64 b).wf=true) (l:(Lit.int .i64 n).wf=true) (m:t.size<=maxLen):
 prog.keyLits (d+2) 60 [.int .i64 k,.int .i64 a,.int .i64 b,.int .i64 n,.string t]=some [.int .i64 k,.int .i64 a,.int .i64 b,.int .i64 n,.string t.data.toList]:=by
 have f:prog.cellsOf 3=1:=by kernel_rfl
 have g:prog.cellsOf 9=1:=by kernel_rfl
 have e:prog.cellsOf 60=5:=by kernel_rfl
 simp [Program.keyLits,underlying60,underlying3,underlying9,f,g,e,j,h,i,l,m]
def O4 (f: -100000<=k:=by omega) (g:k<=100000:=by omega):(Lit.int .i64 k).wf=true:=by
 have d:IntKind.i64.min= -9223372036854775808:=by rfl
 have e:IntKind.i64.max=9223372036854775807:=by rfl
 simp [Lit.wf,d,e];omega
def aCD {b n:Int} (l:(Lit.int .i64 k).wf=true) (h:(Lit.int .i64 a).wf=true) (i:(Lit.int .i64 b).wf=true) (m:(Lit.int .i64 n).wf=true) (o:t.size<=maxLen): ∃p,keyOf prog 60 (ig ⟨k,a,b,n,t⟩)=some p:=by
 obtain ⟨d,j⟩: ∃d,prog.types.size+1=d+2:=⟨prog.types.size-1,by have:1<=prog.types.size:=of_decide_eq_true (by kernel_rfl);omega⟩;have g:prog.keyType 60=true:=by kernel_rfl
 have f:prog.cellsOf 60=5:=by kernel_rfl
 have e:(ig ⟨k,a,b,n,t⟩).formed prog 60=true:=by simp [ig,Value.formed,underlying60,f]
 have hc:(ig ⟨k,a,b,n,t⟩).cells.toList= [.int .i64 k,.int .i64 a,.int .i64 b,.int .i64 n,.string t]:=by simp [ig,Value.cells]
 refine ⟨.string (keyBytes [.int .i64 k,.int .i64 a,.int .i64 b,.int .i64 n,.string t.data.toList]),?_⟩;unfold keyOf;rw [underlying60];simp only;rw [g,e,j,hc,aCC d l h i m o];rfl
def aCF {b n:Int} (h:arity k=1):args ⟨k,a,b,n,t⟩= [a]:=by unfold args;simp_all
def alE {b n:Int} (h:arity k=2):args ⟨k,a,b,n,t⟩= [a,b]:=by unfold args;simp_all
def aCG (h:qU n x) (g:n<=10000):(0<=x.a/\x.a<=10000)/\(0<=x.b/\x.b<=10000):=by
 obtain ⟨k,a,b,m,t⟩:=x;have e:=h.a0;have f:=h.b0;simp only at e f⊢;rcases L6 k with d|d|d
 ·omega
 ·have:=h.args a (by rw [aCF d];simp)
  omega
 ·have:=h.args a (by rw [alE d];simp)
  have:=h.args b (by rw [alE d];simp);omega
def alF:(xR.all fun s=>decide (s.size<=100))=true/\(E2.all fun s=>decide (s.size<=100))=true:=by constructor<;>decide
def aCH (h:px x):x.t.size<=100:=by
 by_cases d:x.k=1
 ·exact of_decide_eq_true (ef.1 alF.1 _ (h.ES d))
 ·by_cases e:x.k=2
  ·exact of_decide_eq_true (ef.1 alF.2 _ (h.nam e))
  ·rw [h.qt d e];decide
def adq (d:px x) (o:qU n x) (p:n<=10000): ∃q,keyOf prog 60 (ig x)=some q:=by
 have h:=aCG o p;have i:=aCH d;have j:=d.k1;have l:=d.k2;have e:=d.pow;have f:=d.lH;obtain ⟨k,a,b,m,t⟩:=x;simp only at h i j l e f;have s: -3<=m/\m<=4:=by
  by_cases g:k=10
  ·exact e g
  ·rw [f g];omega
 exact aCD (O4) (O4) (O4) (O4) (by unfold maxLen;omega)
def alG {y:b8} (h:ig x=ig y):x=y:=by
 obtain ⟨k,a,b,m,t⟩:=x;obtain ⟨f,d,e,g,i⟩:=y;simp only [ig] at h;simp_all
structure pA (w:World) (b:Nat) (L:List b8):Prop where
 ex: ∃D:DataW Nat,w.ownsMap prog 60 (plainElem prog 3) b L.length D/\(∀(x:b8) kl,x∉L->keyOf prog 60 (ig x)=some kl->has D kl=false)/\ ∀(i:Nat) kl,i<L.length->keyOf prog 60 (ig (L.getD i fS))=some kl->has D kl=true/\ ∀z,D.atKey kl z= .lit (.int .i64 (i:Int))
def aCI (w:World):pA (w.alloc (.map #[] 0)) w.heap.size []:=
 ⟨⟨_,World.ownsMap_made w prog 60 _,fun _ _ _ _=>rfl,fun i _ d _=>by simp at d⟩⟩
def pA.frame {w':World} {S:Nat->Prop} (h:pA w b L) (o:Fr S w w') (m: ¬S b):pA w' b L:=by
 obtain ⟨D,⟨f,d,e,g,i,j⟩,l⟩:=h.ex;exact ⟨⟨D,⟨f,d,(o.block b (ax.1 e).1 m).trans e,g,i,j⟩,l⟩⟩
def pA.blk (h:pA w b L): ∃e d,w.heap[b]? =some (.map e d):=by
 obtain ⟨D,⟨e,d,f,_⟩,_⟩:=h.ex;simp_all
def adr (w:World):(zeroValue 3).run prog w= .ok (.int .i64 0) w:=by kernel_rfl
def pA.look (h:pA w b L) (o:px x) (j:qU n x) (l:n<=10000) (f:x∉L):
 ∃c:Int,(Instr.lookup 54 (.map (some b)) (ig x) true).run prog w= .ok (.tuple #[.int .i64 c,.bool false]) w:=by
 obtain ⟨D,g,i⟩:=h.ex;obtain ⟨p,d⟩:=adq o j l;obtain ⟨v,s,e,m⟩:=g.look_ok Mb underlying54 (adr w) (plainElem_int (q:= .i64) underlying3 (by decide)) d;rw [i.1 x p f d] at e;obtain ⟨c,rfl,_,_⟩:=plainElem_int_inv underlying3 m;exact ⟨c,e⟩
def pA.aCJ {i:Nat} (h:pA w b L) (z:px x) (u:qU n x) (y:n<=10000) (hi:i<L.length) (g:L.getD i fS=x):
 (Instr.lookup 54 (.map (some b)) (ig x) true).run prog w= .ok (.tuple #[.int .i64 i,.bool true]) w:=by
 obtain ⟨D,p,s⟩:=h.ex;obtain ⟨A,d⟩:=adq z u y;obtain ⟨v,B,f,e⟩:=p.look_ok Mb underlying54 (adr w) (plainElem_int (q:= .i64) underlying3 (by decide)) d;obtain ⟨j,l⟩:=s.2 i A hi (by rw [g];exact d);rw [j] at f;rw [l] at e;obtain ⟨c,rfl,m,_⟩:=plainElem_int_inv underlying3 e;have o:(DataW.lit (.int .i64 (i:Int)):DataW Nat)= .lit (.int .i64 c):=congrArg Prod.fst m;cases o;exact f
def pA.store (h:pA w b L) (H:px x) (F:qU n x) (G:n<=10000) (M:L.length<=10000) (B:x∉L):
 ∃l,(Instr.mapUpdate 54 (.map (some b)) (ig x) (.int .i64 L.length)).run prog w= .ok () l/\pA l b (L++ [x])/\Fr (· =b) w l:=by
 obtain ⟨D,o,p⟩:=h.ex;obtain ⟨A,g⟩:=adq H F G;obtain ⟨l,I,C,E⟩:=o.update Mb underlying54 (by unfold maxLen;omega) g (plainElem_int (q:= .i64) underlying3 (O4 (k:=(L.length:Int))));refine ⟨l,I,⟨⟨_,by rw [aX];exact C,fun y j s f=> ?_,fun i j u f=> ?_⟩⟩,(uN E).mono (fun k _ e=>by cases e;rfl)⟩
 ·simp only [bZ,b7,not_or] at s
  have d:j≠A:=fun e=>s.2 (alG (Mb.inj (e▸f) g))
  rw [has_put_other d];exact p.1 y j s.1 f
 ·by_cases q:i<L.length
  ·have m:(L++ [x]).getD i fS=L.getD i fS:=by rw [aD,aD,iA q]
   rw [m] at f;have d:j≠A:=fun e=>B (by
    have:=alG (Mb.inj (e▸f) g);rw [<-this,aD,aM q];exact eU q)
   rw [has_put_other d];exact ⟨(p.2 i j q f).1,fun z=>by rw [atKey_put_other d];exact (p.2 i j q f).2 z⟩
  ·have J:i=L.length:=by rw [aX] at u;simp at u;omega
   subst J;have m:(L++ [x]).getD L.length fS=x:=by rw [aD];simp
   rw [m,g] at f;cases f;exact ⟨has_put_same o.isMap (Mb.key g) _,fun z=>atKey_put_same o.isMap (Mb.key g) _ z⟩
end
section
open Go Go.RowKit Go.Maps
variable {w:World} {B p b:Nat} {v m:Value} {L:List b8} {x:b8}
def iI.frame {w':World} {S:Nat->Prop} (h:iI w B p v m L) (a:Fr S w w') (d: ¬S p) (e: ∀k,v.ownBlock=some k-> ¬S k):iI w' B p v m L:=
 ⟨(a.block p (ax.1 h.blk).1 d).trans h.blk,h.lz.frame a e⟩
def ads (h:iI w B p v m L):v.ownBlock≠some p:=fun e=>by
 obtain ⟨cur,hc⟩:=Dg h.lz.own e;rw [h.blk] at hc;grind
def Yw {d:List b8} (h:iI w B p v m L) (hi:pA w b d):p≠b/\v.ownBlock≠some b:=by
 obtain ⟨f,a,g⟩:=hi.blk;refine ⟨fun e=> ?_,fun e=> ?_⟩
 ·have:=h.blk
  simp_all
 ·obtain ⟨cur,hc⟩:=Dg h.lz.own e
  simp_all
def aCK {f:Array Oper} {o:Oper} {a:Act} {K:Act->World->Prop} {Q:Exit->Act->World->Prop} {E:Prop} (N:o.guard=none) (s x:Operand) (G:o.op= .call {callee:= .builtin .append,args:= #[s,x],argTypes:= #[55,55]})
 (base:Nat) (M:base<=w.heap.size) (v:Value) (L:List b8) (H:a.eval s=v) (j:jE w base v L) (B:Nat) (y:b8) (I:a.eval x= .slice (some ⟨B,0,none⟩) 1 1)
 (F:w.heap[B]? =some (.cells ⟨jD y⟩ 60 (0,0))) (O:L.length<=100000)
 (h: ∀g cap d,jE d base (.slice (some ⟨g,0,none⟩) (L.length+1) cap) (L++ [y])->Fr (fun k=>v.ownBlock=some k) w d->(v.ownBlock=some g\/w.heap.size<=g)->
  K (a.put o.dst (.slice (some ⟨g,0,none⟩) (L.length+1) cap)) d):
 if Region.wanted o (yielded f a.tmps)=true then Oper.wp Tryz.prog o a w K Q else E:=by
 obtain ⟨J,z,t,q,l⟩:=info_parts Tryz.infoNode;refine step_append_lies w N s x 55 G base 60 J _ 5 48 Tryz.underlying55 z t q l rfl (by omega) v L.length (Di L) H j.own ⟨B,0,none⟩ 1 1 (jD y) I rfl (World.news_of_block (cs:=⟨jD y⟩) F)
  (by intro u i;simp [jD] at i;rcases i with rfl|rfl|rfl|rfl|rfl<;>rfl) (by omega) (by unfold maxLen;omega) (by omega) M w.heap.size rfl ?_
 intro g cap d A C D _;refine h g cap d ⟨?_⟩ (uN C) (D.imp id (fun e=>by omega));rw [alo,aX];exact A
def aCL {f:World} {n d cap:Nat} {o:Obj} (H:iI w B p v m L) (i:jE f B (.slice (some ⟨d,0,none⟩) (n+1) cap) (L++ [x])) (g:Fr (fun k=>v.ownBlock=some k) (w.alloc o).drew f)
 (j:v.ownBlock=some d\/(w.alloc o).drew.heap.size<=d):
 iI (f.setCell ⟨p,0,none⟩ (.slice (some ⟨d,0,none⟩) (n+1) cap)) B p (.slice (some ⟨d,0,none⟩) (n+1) cap) m (L++ [x])/\
  Fr (fun k=>k=p\/v.ownBlock=some k) w (f.setCell ⟨p,0,none⟩ (.slice (some ⟨d,0,none⟩) (n+1) cap)):=by
 have q:p<w.heap.size:=(ax.1 H.blk).1;have s:(w.alloc o).drew.heap.size=w.heap.size+1:=by simp
 have l:d≠p:=fun e=>by
  rcases j with h|h
  ·exact ads H (by rw [h,e])
  omega
 have t:f.heap[p]? =some (.cells #[v,m] 57 (0,0)):=by
  rw [g.block p (by omega) (ads H)];exact (((aH w.heap.size w).alloc (aq _) o).drew.block p q).trans H.blk
 refine ⟨⟨?_,⟨?_⟩⟩,?_⟩
 ·unfold World.setCell
  grind
 ·exact ownsRow_setCell_other (a:=⟨p,0,none⟩) i.own (by simp [Value.ownBlock];omega) _
 ·exact (((Fr.refl (fun k=>k=p\/v.ownBlock=some k) w).alloc o).drew.trans g (fun k _ e=> .inr e)).setCell _ (fun _=> .inl rfl)
def aCM (h:iI w B p v (.map (some b)) L) (hi:pA w b L) (hB:B<=w.heap.size) (hx:px x) (hf:qU L.length x) (Gf:x∉L) (hl:L.length<=4000) (hT:pz w):
 Calls Tryz.prog 21 #[ptr p,ig x] w fun e w'=> ∃v',e= .returned (.tuple #[.int .i64 L.length,.int .i64 0])/\iI w' B p v' (.map (some b)) (L++ [x])/\pA w' b (L++ [x])/\Fr (fun j=>j=p\/j=b\/v.ownBlock=some j) w w':=by
 have i:=ae (af h (af hi (af hB (af hx (af hf (af Gf (af hl hT)))))));have hp:p<w.heap.size:=(ax.1 h.blk).1;obtain ⟨a,c,rfl⟩:=h.lz.slice;obtain ⟨n,U⟩:=pQ L.length;have s:=ae U;have R:=ae (by rw [<-U];exact h:iI w B p (.slice a n c) (.map (some b)) L);have I:=ae (Yw h hi);rw [U] at hl⊢;clear h hi hB hx hf Gf hT U;obtain ⟨k,d,f,m,t⟩:=x;have HA:=ae ((aH w.heap.size w).alloc (aq _) (.cells ⟨jD ⟨k,d,f,m,t⟩⟩ 60));have HQ:=ae hp;clear hp;unfold ptr;rw [show ig ⟨k,d,f,m,t⟩= .agg #[.int .i64 k,.int .i64 d,.int .i64 f,.int .i64 m,.string t] from rfl];go_enter Tryz.func21,Tryz.ntmps21;go_wp2_with fail;refine (alC (x:=⟨k,d,f,m,t⟩) (R.out.below HA.out) (by have:=s.out;omega) i.out.2.2.2.1 i.out.2.2.2.2.1 (i.out.2.2.2.2.2.2.2.below HA.out)).mono ?_;rintro e u ⟨rfl,hb⟩;have J:=ae (by rw [<-uS w];exact hb:Below (w.heap.size+1) (w.alloc (.cells ⟨jD ⟨k,d,f,m,t⟩⟩ 60)) u);clear hb;obtain ⟨l,C,D,E,F⟩:=mF (wM J.out);simp only at l C D E F;have hs:w.heap.size<u.heap.size:=ak u _ l;have pD:=ae (R.out.below (uR J.out));have Z:=ae (i.out.2.1.frame (Fr.jq (S:=fun _=>False) (uR J.out)) (fun e=>e));have lJ:=ae (Fr.jq (S:=fun _=>False) (uR J.out));have q:=qv pD.out.blk 0;have b1:=qv pD.out.blk 1;simp only [cS,bX,fG] at q b1;have T:=Au pD.out.blk 0;have D4:p<u.heap.size:=ak u _ q;obtain ⟨cl,JC⟩:=(Z.out.frame (Fr.refl (fun _=>False) u).drew (fun e=>e)).look (x:=⟨k,d,f,m,t⟩) i.out.2.2.2.1 i.out.2.2.2.2.1 (by have:=s.out;omega) i.out.2.2.2.2.2.1;rw [show ig ⟨k,d,f,m,t⟩= .agg #[.int .i64 k,.int .i64 d,.int .i64 f,.int .i64 m,.string t] from rfl] at JC;go_wp2_with fail;go_region;have tw:Below (w.heap.size+1) (w.alloc (.cells ⟨jD ⟨k,d,f,m,t⟩⟩ 60)) u.drew:=J.out.drew;clear l C D E F hs q b1 T D4 JC;generalize u.drew=g at tw⊢;have Q:=ae tw;clear tw;obtain ⟨l,C,D,E,F⟩:=mF (wM Q.out);simp only at l C D E F;have hs:w.heap.size<g.heap.size:=ak g _ l;have y:=ae (R.out.below (uR Q.out));have L0:=ae (i.out.2.1.frame (Fr.jq (S:=fun _=>False) (uR Q.out)) (fun e=>e));have kf:=ae (Fr.jq (S:=fun j=>j=p\/(Value.slice a n c).ownBlock=some j) (uR Q.out));have q:=qv y.out.blk 0;have b1:=qv y.out.blk 1;simp only [cS,bX,fG] at q b1;have T:=Au y.out.blk 0;have AL:p<g.heap.size:=ak g _ q;have Tk:=ae (ads y.out);have J4:=ae hs;have aCN:=ae (Yw y.out L0.out).2;have Y:=ae (show B<=g.heap.size by have:=i.out.2.2.1;omega);have o7: ∀o,Below g.heap.size g (g.alloc o).drew:=fun o=>((aH _ g).alloc (aq _) o).drew
 have Tn:=ae o7;have A:=ae AL;have Tp:(g.alloc (.cells ⟨jD ⟨k,d,f,m,t⟩⟩ 60)).cell? ⟨p,0,none⟩=some (.slice a n c):=(((aH _ g).alloc (aq _) _).cell (p:=⟨p,0,none⟩) AL).trans q;clear o7;go_wp2_with fail
 go_region_law (refine aCK (by rfl) _ _ (by rfl) B (E7 _ Y.out) (.slice a n c) L (by rfl) (jE.mk ((y.out.lz.own.alloc _).drew)) g.heap.size ⟨k,d,f,m,t⟩ (by rfl) (heap_alloc_new g _) (by have:=s.out;omega) ?_;intro gg lu w5 nW W tA;rw [s.out] at nW;rw [s.out];have s1:w5.cell? ⟨p,0,none⟩=some (.slice a n c):=W.cell (((Tn.out _).cell (p:=⟨p,0,none⟩) A.out).trans q) Tk.out;have s2:w5.frozen? ⟨p,0,none⟩=false:=(W.frozen (a:=⟨p,0,none⟩) (by have:=A.out;simp;omega) Tk.out).trans (((Tn.out _).frozen (p:=⟨p,0,none⟩) A.out).trans T))
 all_goals
  have hE:=aCL y.out nW W tA;have z:=ae hE;clear hE nW W tA s1 s2 l C D E F q b1 T Tp;generalize w5.setCell ⟨p,0,none⟩ (.slice (some ⟨gg,0,none⟩) (n+1) lu)=G at z⊢;have P:=(z.out.2.block w.heap.size J4.out (fun e=>e.elim (fun e=>by have:=HQ.out;omega) (fun e=>by have:=LU R.out.lz.own e;omega))).trans (wM Q.out);obtain ⟨l,C,D,E,F⟩:=mF P;simp only at l C D E F;have b1:=qv z.out.1.blk 1;simp only [cS,bX,fG] at b1;have Yu:w.heap.size<G.heap.size:=ak G _ l;have hp6:p<G.heap.size:=ak G _ b1;have N:=L0.out.frame z.out.2 (fun e=>e.elim (fun e=>I.out.1 e.symm) (fun e=>aCN.out e));have H:=ae N;obtain ⟨w7,iY,O,M⟩:=(H.out.frame (Fr.refl (fun _=>False) G).drew (fun e=>e)).store (x:=⟨k,d,f,m,t⟩) i.out.2.2.2.1 i.out.2.2.2.2.1 (by have:=s.out;omega) (by have:=s.out;omega) i.out.2.2.2.2.2.1;rw [show ig ⟨k,d,f,m,t⟩= .agg #[.int .i64 k,.int .i64 d,.int .i64 f,.int .i64 m,.string t] from rfl,s.out] at iY;have X:=ae (af O ((Fr.refl (fun j=>j=b) G).drew.trans M (fun _ _ e=>e)));clear P N O M;go_wp2_with fail;go_region;go_wp2_with fail;go_ret2;refine ⟨_,rfl,z.out.1.frame X.out.2 (fun e=>I.out.1 e) (fun j e e'=>(Yw z.out.1 H.out).2 (by rw [e,e'])),X.out.1,((kf.out.trans z.out.2 (fun _ _ e=>e)).mono (fun j _ e=>e.imp id .inr)).trans X.out.2 (fun j _ e=> .inr (.inl e))⟩
end
section
open Go Go.RowKit Go.Maps
def alH {w:World} :Calls Tryz.prog 8 #[] w fun e a=> ∃p b,e= .returned (ptr p)/\iI a w.heap.size p (.slice none 0 0) (.map (some b)) []/\pA a b []/\w.heap.size<=p/\w.heap.size<=b/\Below w.heap.size w a:=by
 have f:= @run_makeMap Tryz.prog;go_enter Tryz.func8,Tryz.ntmps8;go_wp2_with fail;go_ret;have g:(w.alloc (.map #[] 0)).heap.size=w.heap.size+1:=by simp
 have d:Below w.heap.size w (w.alloc (.map #[] 0)):=(aH _ w).alloc (aq _) _;refine ⟨(w.alloc (.map #[] 0)).heap.size,w.heap.size,by simp [ptr],⟨?_,⟨World.ownsRow_nil _ _ _ _⟩⟩,(aCI w).frame (S:=fun _=>False) ((Fr.refl _ _).alloc _) (fun e=>e),by omega,aq _,d.alloc (by omega) _⟩;exact heap_alloc_new (w.alloc (.map #[] 0)) _
end
end Go.Proofs.YtnmpjdgobafdkaaGreatDoor
