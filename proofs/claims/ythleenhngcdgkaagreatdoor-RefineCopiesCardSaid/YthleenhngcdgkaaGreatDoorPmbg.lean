/- refineCopies_proved. -/
import Derived.Test.YthleenhngcdgkaaGreatDoorItl
import Derived.Test.YthleenhngcdgkaaGreatDoorPmbf
import Derived.Shelf.SlIterI.Nil
import Derived.Shelf.SortM.Plain
import Derived.Shelf.SortM.SortNone
import Derived.Ground.GgzProg
import Derived.Ground.SlgmProg
import Derived.Shelf.SlMaps.Clone
import Derived.Ground.SlmcProg
import Derived.Test.YthleenhngcdgkaaGreatDoorProg
set_option maxRecDepth 100000
set_option maxHeartbeats 16000000
set_option linter.all false
noncomputable section
namespace Go.Proofs.YthleenhngcdgkaaGreatDoor
section
open Go.Proofs.Tryz Go Go.RowKit Go.Ev Go.Maps
variable {p f:Int} {L:List bI} {W:World} {B:Nat} {v m:Value} {o:Oc}
structure Dq where
 m:Int
 e:Int
 b:Bool
def aeO (L:List bI) (id:Nat) (p w:Int) (x:Oc×Dq):Prop:=x.1.Ok/\aeJ L id w x.1/\bH prog bw 28 [nU x.1.m x.1.e x.1.n x.1.f,bj (.int .i64 p)] (pF (i9 x.2.m x.2.e) (bj (.bool x.2.b)))
def aE6 (h:o.Ok) (p0:0<=p) (k:p<=512): ∃d:Dq,bH prog bw 28 [nU o.m o.e o.n o.f,bj (.int .i64 p)] (pF (i9 d.m d.e) (bj (.bool d.b))):=by
 obtain ⟨a,j,M,g,_,_,hc⟩:=aE5.h [] rfl [.z o.m,.i o.e,.z o.n,.i o.f,.i p] (qh s7 h.hm (pw h.e0 h.e1 (qh s7 h.hn (pw h.f0 h.f1 (ZA (yv (by omega) (by omega)) gS))))) iV;rcases bq.1 j with rfl|j
 ·obtain ⟨m,M,rfl,_,_,g⟩:=nG g
  obtain ⟨e,M,rfl,_,_,g⟩:=qC g;obtain rfl:M= []:=g;exact ⟨⟨m,e,true⟩,hc _ rfl⟩
 ·obtain rfl:=cB.1 j
  obtain ⟨m,M,rfl,_,_,g⟩:=nG g;obtain ⟨e,M,rfl,_,_,g⟩:=qC g;obtain rfl:M= []:=g;exact ⟨⟨m,e,false⟩,hc _ rfl⟩
def aE7 (j:GI L) {id:Nat} (k:Bi L id) (l:L.length<=4000) (hi:id<L.length) (p0:0<=p) (q:p<=512): ∃F:Int->Oc×Dq,∀w,0<=w->w<=4096->aeO L id p w (F w):=by
 have h: ∀w:Int,∃x:Oc×Dq,0<=w->w<=4096->aeO L id p w x:=fun w=>by
  by_cases b:0<=w/\w<=4096
  ·obtain ⟨o,a,g⟩:=aET j k l hi b.1 b.2
   obtain ⟨d,i⟩:=aE6 a p0 q;exact ⟨(o,d),fun _ _=>⟨a,g,i⟩⟩
  ·exact ⟨(lL,⟨0,0,false⟩),fun e a=>absurd ⟨e,a⟩ b⟩
 exact ⟨fun w=>Classical.choose (h w),fun w=>ju (h w)⟩
def UY (x:Oc×Dq):Option (Int×Int×Int):=if x.1.s=11 then some (0,0,11) else if x.1.s=0/\x.2.b=true then some (x.2.m,x.2.e,0) else none
def Qp (F:Int->Oc×Dq):List Int->Int×Int×Int
 | []=>(0,0,12)
 |w::l=>(UY (F w)).getD (Qp F l)
def Lk (p f:Int) (k:Nat):Prop:=(∀j,j<k->2^j*(p+8)<=f)/\f<2^k*(p+8)
def aE8 {k b:Nat} (h:Lk p f k) (h':Lk p f b):k=b:=by
 rcases fS k b with a|a|a
 ·have:=h'.1 k a;have:=h.2;omega
 ·exact a
 ·have:=h.1 b a;have:=h'.2;omega
def aE9 {d:Dq} {w0:World} (j:bH prog bw 28 [nU o.m o.e o.n o.f,bj (.int .i64 p)] (pF (i9 d.m d.e) (bj (.bool d.b)))) (l:bw w0) {x:Value} (z:nU o.m o.e o.n o.f w0 x):
 Calls prog 28 #[x,.int .i64 p] w0 fun e h=> ∃a k c,e= .returned (.tuple #[.agg #[.bool (decide (d.m<0)),.slice a k c,.int .i64 d.e],.bool d.b])/\eD h (.slice a k c) d.m.natAbs/\Below w0.heap.size w0 h:=by
 refine (j (fun _=>False) w0 [x,.int .i64 p] (fun b q=>q.elim) (ZE l (aG _ _) (fun k e=>e.elim)) (fun h g=>⟨_,_,rfl,?_,_,_,rfl,rfl,rfl⟩)).mono ?_
 ·obtain ⟨a,b,e,i,A⟩:=z
  exact ⟨a,b,e,D6 (S:=fun _=>False) i g (fun _ _ e=>e.elim),D6 (S:=fun _=>False) A g (fun _ _ e=>e.elim)⟩
 ·rintro e h ⟨v,rfl,t,C⟩
  obtain ⟨u,s,rfl,⟨y,rfl,i⟩,rfl⟩:=t h fun _ _ _=>rfl
  obtain ⟨a,k,c,rfl,_⟩:=i.form
  all_goals grind
def aFa (p:Int) (w:World):Calls prog 26 #[.int .i64 p] w fun e a=>e= .returned (.bool (decide (0<=p/\p<=512)))/\a=w:=by
 go_enter func26,ntmps26;go_wp2_with fail
 all_goals
  go_ret;refine ⟨?_,rfl⟩;simp
  try omega
def aFb (f:Int) (w:World):Calls prog 27 #[.int .i64 f] w fun e a=>e= .returned (.bool (decide (0<=f/\f<=4096)))/\a=w:=by
 go_enter func27,ntmps27;go_wp2_with fail
 all_goals
  go_ret;refine ⟨?_,rfl⟩;simp
  try omega
def aFc (p0:0<=p) (b:p<=512) (w:World):Calls prog 26 #[.int .i64 p] w fun e a=>e= .returned (.bool true)/\a=w:=by
 go_enter func26,ntmps26;go_wp2_with fail;go_ret;exact ⟨by simp,rfl⟩
def aFd (b:0<=f) (d:f<=4096) (w:World):Calls prog 27 #[.int .i64 f] w fun e a=>e= .returned (.bool true)/\a=w:=by
 go_enter func27,ntmps27;go_wp2_with fail;go_ret;exact ⟨by simp,rfl⟩
open Classical in
def anf {p:Nat} (l:iR W B p v m L) (g:GI L) (I:L.length<=4000) {id:Nat} (hi:id<L.length):
 Calls prog 25 #[ptr p,.int .i64 id] W fun e J=>e= .returned (.bool (decide (Bi L id)))/\Below W.heap.size W J:=by
 have d:=ae (PN l hi (by omega) rfl);have D:=ae (fun H h=>amM (W:=H) (l.below h) g.ahead (fun i hi=>amO (g.nd i hi)) (by omega) hi);obtain ⟨x,G⟩:=pS (L.getD id dP);rw [G] at d;obtain ⟨z,q⟩:=pS (decide (Bi L id));have C:=ae q;rw [q];clear l g I hi G q;obtain ⟨k,s,u,y,t⟩:=x;rw [show gK ⟨k,s,u,y,t⟩= .agg #[.int .i64 k,.int .i64 s,.int .i64 u,.int .i64 y,.string t] from rfl] at d;unfold ptr at d D⊢;go_enter func25,ntmps25;go_wp2_with fail;refine d.out.mono ?_;rintro e P ⟨rfl,j⟩;have A:=ae (j.below.alloc j.size (.cells #[.int .i64 k,.int .i64 s,.int .i64 u,.int .i64 y,.string t] 90));clear j;go_wp2_with fail;refine (D.out _ A.out).mono ?_;rintro e Q ⟨N,n,O,rfl,F,_,E⟩;have a:=ae (af F (A.out.trans (E.mono A.out.size)));clear E F;by_cases b:n=0
 ·obtain rfl:z=true:=by rw [<-C.out];exact decide_eq_true (a.out.1.1 b)
  subst b;go_wp2_with fail;go_ret;exact ⟨rfl,a.out.2⟩
 ·obtain rfl:z=false:=by rw [<-C.out];exact decide_eq_false (fun h=>b (a.out.1.2 h))
  have M:((n:Int)==0)=false:=by simp;omega
  clear b;go_wp2_with fail;go_ret;exact ⟨rfl,a.out.2⟩
open Classical in
def aFe {p:Nat} (g:iR W B p v m L) (d:GI L) {id:Nat} (j:Bi L id) (h:L.length<=4000) (hi:id<L.length):
 Calls prog 25 #[ptr p,.int .i64 id] W fun e a=>e= .returned (.bool true)/\Below W.heap.size W a:=
 (anf g d h hi).mono fun e a ⟨i,b⟩=>⟨by simp_all,b⟩
def ang {p:Nat} (d:iR W B p v m L) (g:L.length<=4000) {i:Int} (hi:i<0\/(L.length:Int)<=i):
 Calls prog 25 #[ptr p,.int .i64 i] W fun e h=>e= .returned (.bool false)/\Below W.heap.size W h:=by
 have b:=ae (aCB d hi (by omega));clear d g hi;rw [show gK dP= .agg #[.int .i64 0,.int .i64 0,.int .i64 0,.int .i64 0,.string ByteArray.empty] from rfl] at b;unfold ptr at b⊢;go_enter func25,ntmps25;go_wp2_with fail;refine b.out.mono ?_;rintro e k ⟨rfl,a⟩;have j:=ae (a.below.alloc a.size (.cells #[.int .i64 0,.int .i64 0,.int .i64 0,.int .i64 0,.string ByteArray.empty] 90));clear a;go_wp2_with fail;go_ret;exact ⟨rfl,j.out⟩
end
section
open Go.Proofs.Tryz Go Go.RowKit Go.Ev Go.Maps
variable {w W:World} {i p f:Int} {b q p0 pc bm k B:Nat} {t:TypeId} {b0:Bool} {v m:Value} {L:List bI}
def UZ:Value:= .agg #[.int .i64 0,.int .i64 0,.bool false,.slice none 0 0,.int .i64 0,.bool false,.slice none 0 0,.int .i64 0]
def aFf (w:World):(zeroValue 66).run prog w= .ok UZ w:=by kernel_rfl
open Classical in
def aeP (z:Value) (v:Value):Option (DataW Nat×List MemPlace):=if v=z then some (.lit (.int .i64 0),[]) else none
def aeQ (h:w.heap[b]? =some (.map #[] 0)) (R:Value->Option (DataW Nat×List MemPlace)): ∃D:DataW Nat,w.ownsMap prog 3 R b 0 D/\ ∀k,has D k=false:=by
 obtain ⟨o,l,a,d,g,j⟩:=World.ownsMap_made (default:World) prog 3 R;have e:=heap_alloc_new (default:World) (.map #[] 0);rw [e] at a;cases a;exact ⟨_,⟨_,_,h,d,g,j⟩,fun k=>rfl⟩
open Classical in
def aFg (h:w.heap[b]? =some (.map #[] 0)) (hi:(Lit.int .i64 i).wf=true):(Instr.lookup 59 (.map (some b)) (.int .i64 i) true).run prog w= .ok (.tuple #[UZ,.bool false]) w:=by
 obtain ⟨D,g,j⟩:=aeQ h (aeP UZ);obtain ⟨v,l,d,a⟩:=g.look_ok UN underlying59 (aFf w) (zd:= .lit (.int .i64 0)) (zp:= []) (by simp [aeP]) (keyOf_int_mk underlying3 hi);rw [j] at d;have e:v=UZ:=by
  unfold aeP at a;split at a
  ·assumption
  ·cases a
 rw [e] at d;exact d
def aFh (h:w.heap[b]? =some (.map #[] 0)) (hi:(Lit.int .i64 i).wf=true) (x:Value): ∃a,(Instr.mapUpdate 59 (.map (some b)) (.int .i64 i) x).run prog w= .ok () a/\Fr (· =b) w a:=by
 obtain ⟨D,d,l⟩:=aeQ h (fun _=>some (.lit (.int .i64 0),[]));obtain ⟨a,j,_,g⟩:=d.update UN underlying59 (by unfold maxLen;omega) (keyOf_int_mk underlying3 hi) rfl;exact ⟨a,j,(vW g).mono (fun k _ e=>by cases e;rfl)⟩
def aFi {a k d x} (e:w.heap[q]? =some (.cells #[.bool b0,.slice a k d,.int .i64 x] t (0,0))) (p:Addr) (z:Int) (h:p.block=q):w.cell? p≠some (.int .u32 z):=by
 obtain ⟨k,o,j⟩:=p;have g:k=q:=h;subst g;intro c;simp only [World.cell?,e] at c;grind
def Qq (W:World) (bm:Nat) (r:Int×Int×Int) (e:Ending) (w':World):Prop:= ∃a k c,e= .returned (.tuple #[.agg #[.bool (decide (r.1<0)),.slice a k c,.int .i64 r.2.1],.int .i64 r.2.2])/\eD w' (.slice a k c) r.1.natAbs/\Fr (· =bm) W w'
def ZO {b:Bool} {a0 k0 d0 x0 a k d x} (e:w.heap[q]? =some (.cells #[.bool b0,.slice a0 k0 d0,.int .i64 x0] t (0,0))):
 (((w.setCell ⟨q,0,none⟩ (.bool b)).setCell ⟨q,1,none⟩ (.slice a k d)).setCell ⟨q,2,none⟩ (.int .i64 x)).heap[q]? =some (.cells #[.bool b,.slice a k d,.int .i64 x] t (0,0))/\Fr (· =q) w (((w.setCell ⟨q,0,none⟩ (.bool b)).setCell ⟨q,1,none⟩ (.slice a k d)).setCell ⟨q,2,none⟩ (.int .i64 x)):=
 ⟨heap_set (heap_set (heap_set e)),(((Fr.refl (· =q) w).setCell (a:=⟨q,0,none⟩) _ (fun _=>rfl)).setCell (a:=⟨q,1,none⟩) _ (fun _=>rfl)).setCell (a:=⟨q,2,none⟩) _ (fun _=>rfl)⟩
def Qr {e:World} {r:Int×Int×Int} {d:Act} {a:Option Addr} {c:Nat} (h:d.tmps.getD 10 undef= .pointer (some ⟨q,0,none⟩)) (j:d.tmps.getD 11 undef= .int .i64 r.2.2) (l:d.defers= []) (g:e.heap[q]? =some (.cells #[.bool (decide (r.1<0)),.slice a k c,.int .i64 r.2.1] t (0,0))) (s:eD e (.slice a k c) r.1.natAbs) (o:Fr (· =bm) W e):
 bodyPost prog f11 (Qq W bm r) Exit.ret d e:=by
 rw [cM] at h j;have u:=(g5 (k:=0) g rfl).1;have x:=(g5 (k:=1) g rfl).1;have y:=(g5 (k:=2) g rfl).1;refine bodyPost_ret (v:= .tuple #[.agg #[.bool (decide (r.1<0)),.slice a k c,.int .i64 r.2.1],.int .i64 r.2.2]) (by simp [results,results11,go_sem,h,j,u,x,y];try rfl) l ?_;exact ⟨a,k,c,rfl,s,o⟩
def aFj (hg:iR W B p0 v m L) (hG:GI L) {id:Nat} (hN:Bi L id) (hl:L.length<=4000) (hi:id<L.length) (hT:om W) (AH:bw W) (hc:W.cell? ⟨pc,0,none⟩=some (.map (some bm))) (hm:W.heap[bm]? =some (.map #[] 0)) (h1:0<=p) (h2:p<=512) (h3:0<=f) (h4:f<=4096)
 {F:Int->Oc×Dq} (hF: ∀w,0<=w->w<=4096->aeO L id p w (F w)) (N:Lk p f k):
 Calls prog 11 #[ptr pc,ptr p0,.int .i64 id,.int .i64 p,.int .i64 f] W (Qq W bm (Qp F (sG (p+8) k))):=by
 have HX:=ae (af hg (af hT (af AH (af hG (af hN (af hl hi))))));have HF:=ae (af hF N);have KG:=ae (fun W' h=>aFe (W:=W') (hg.below h) hG hN hl hi);have HM:=ae hm;have ZP:pc<W.heap.size:=aj W _ hc;have hid:(Lit.int .i64 (id:Int)).wf=true:=Kw;have HID:=ae hid;have Y9:p0<W.heap.size:=(au.1 hg.blk).1;have HL:=ae (fun w=>aEY p f w (by omega) (by omega) (by omega) (by omega));have HA:=ae (aFc h1 h2);have HWK:=ae (aFd h3 h4);have R:=ae (af h1 (af h2 (af h3 h4)));clear hg hG hN hl hi hT AH hF N hm hid h1 h2 h3 h4;obtain ⟨r,hr⟩:=pS (Qp F (sG (p+8) k));have HR:=ae hr;rw [hr];clear hr;unfold ptr at KG⊢;go_enter func11,ntmps11;go_wp2_with fail;obtain ⟨M,tV⟩:=pS (W.alloc (.cells #[.bool false,.slice none 0 0,.int .i64 0] 39));have bP:Below W.heap.size W M:=by rw [<-tV];exact (aG _ W).alloc (ak _) _
 have h6:M.heap[W.heap.size]? =some (.cells #[.bool false,.slice none 0 0,.int .i64 0] 39 (0,0)):=by rw [<-tV];exact heap_alloc_new W _
 have Bo:W.heap.size<M.heap.size:=(au.1 h6).1;have H:=ae (af bP (af h6 Bo));rw [tV];clear bP h6 Bo tV;refine (KG.out M H.out.1).mono ?_;rintro e wa ⟨rfl,Qs⟩;have zV:=ae Qs;clear Qs;go_wp2_with fail;refine (HA.out _).mono ?_;rintro e w' ⟨rfl,rfl⟩;go_wp2_with fail;refine (HWK.out _).mono ?_;rintro e Fs ⟨rfl,rfl⟩;have hcw:Fs.cell? ⟨pc,0,none⟩=some (.map (some bm)):=((H.out.1.trans (zV.out.mono H.out.1.size)).cell (p:=⟨pc,0,none⟩) ZP).trans hc;have hmw:Fs.heap[bm]? =some (.map #[] 0):=((H.out.1.trans (zV.out.mono H.out.1.size)).block _ (au.1 HM.out).1).trans HM.out;have Ks:=aFg hmw HID.out;unfold UZ at Ks;have aFk:pc<Fs.heap.size:=aj Fs _ hcw;clear hmw;go_wp2_with fail;refine (HL.out _).mono ?_;rintro e w4 ⟨v4,u,rfl,pA,eU,hsp,_⟩;obtain rfl:u=k:=aE8 (hsp ⟨R.out.1,R.out.2.1,R.out.2.2.1,R.out.2.2.2⟩) HF.out.2;obtain ⟨la,lc,rfl⟩:=Qg eU;have oP:=ae (zV.out.trans ((((aG _ _).alloc (ak _) _).trans (pA.mono (by rw [uv];omega))).mono zV.out.size));have HO:=ae (show w4.ownsRow _ 3 1 (.slice la u lc) (sG (p+8) u).length (ints (sG (p+8) u)) by rw [ZM];exact eU);have aG7:u<=20:=by
  rcases b6 u 21 with h|h
  ·omega
  ·have h1:=HF.out.2.1 20 (by omega)
   have:=R.out.1;have:=R.out.2.2.2;omega
 clear pA eU hsp hcw Ks aFk;go_wp2_with fail;go_loopw [60] (fun iv wr=> ∃j:Nat,iv= .int .i64 (j:Int)/\j<=u/\Below w4.heap.size w4 wr/\Qp F ((sG (p+8) u).drop j)=r) (fun iv _=>u-(intOf iv).toNat)
 case atStart=>exact ⟨0,rfl,by omega,aG _ _,HR.out⟩
 case round=>
  obtain ⟨j,rfl,hj,U0,o⟩:=hrel;have U4:Below M.heap.size M wr:=oP.out.trans (U0.mono oP.out.size);have Qt:Below W.heap.size W wr:=H.out.1.trans (U4.mono H.out.1.size);have E:wr.heap[W.heap.size]? =some (.cells #[.bool false,.slice none 0 0,.int .i64 0] 39 (0,0)):=(U4.block _ H.out.2.2).trans H.out.2.1;have P:=ae (af U0 (af U4 (af Qt E)));by_cases Qu:j<u
  ·obtain ⟨x,hx⟩: ∃x:Int,2^j*(p+8)=x:=⟨_,rfl⟩
   have E0:x<=4096:=by
    have:=HF.out.2.1 j Qu;have:=R.out.2.2.2;omega
   have mT:0<=x:=by
    rw [<-hx];exact iU (cR (eE (by decide))) (by have:=R.out.1;omega)
   have rX:(sG (p+8) u).getD j 0=x:=by
    rw [<-hx,aD];simp [sG,Qu]
   have hdr:(sG (p+8) u).drop j=x::(sG (p+8) u).drop (j+1):=by
    have bA:j<(sG (p+8) u).length:=by rw [ZM];exact Qu
    rw [fU bA];rw [aD,aO bA] at rX;rw [show (sG (p+8) u)[j]=x from rX]
   rw [hdr] at o;obtain ⟨aa,cc,e1,G⟩:=Bb (oh (S:=fun _=>False) HO.out (Fr.iE U0) (fun _ _ e=>e));rw [ZM] at e1 G;cases e1;obtain ⟨g,rfl,c0⟩:=G j Qu;rw [rX] at c0;have hq:=HF.out.1 x mT E0;obtain ⟨y,hy⟩:=pS (F x);have o:(UY y).getD (Qp F ((sG (p+8) u).drop (j+1)))=r:=by rw [<-hy];exact o
   rw [hy] at hq;obtain ⟨l,C⟩:=y;have T:=ae (af hq (af o (af Qu hj)));have qF:=ae (hq.2.1 wr B p0 v m (HX.out.1.below Qt) (HX.out.2.1.below Qt) (Hu HX.out.2.2.1 Qt));have vL:=aj wr _ c0;have j0:(0:Int)<=(j:Int):=by omega
   have j1:(j:Int)<(u:Int):=by omega
   clear hq o hy rX hdr G hx U0 U4 Qt E;unfold ptr at qF;go_wp2_with fail;refine qF.out.mono ?_;rintro e A ⟨a5,k5,c5,b5,l5,d5,rfl,hIv,FL⟩;have HIv:=ae hIv;have I:=ae (show Below w4.heap.size w4 A/\Below M.heap.size M A/\Below W.heap.size W A from ⟨P.out.1.trans (FL.mono P.out.1.size),P.out.2.1.trans (FL.mono P.out.2.1.size),P.out.2.2.1.trans (FL.mono P.out.2.2.1.size)⟩);have E:A.heap[W.heap.size]? =some (.cells #[.bool false,.slice none 0 0,.int .i64 0] 39 (0,0)):=(I.out.2.1.block _ H.out.2.2).trans H.out.2.1;have xG:=ae E;rw [show H6 l a5 k5 c5 b5 l5 d5= .agg #[.bool (decide (l.m<0)),.slice a5 k5 c5,.int .i64 l.e,.bool (decide (l.n<0)),.slice b5 l5 d5,.int .i64 l.f] from rfl];clear hIv FL c0 vL qF;by_cases pJ:l.s=11
   ·have U5:r=(0,0,11):=by rw [<-T.out.2.1,UY,if_pos pJ];rfl
    obtain ⟨⟨x0,y0⟩,⟨x1,y1⟩,x2,y2⟩:(A.cell? ⟨W.heap.size,0,none⟩=some (.bool false)/\A.frozen? ⟨W.heap.size,0,none⟩=false)/\(A.cell? ⟨W.heap.size,1,none⟩=some (.slice none 0 0)/\A.frozen? ⟨W.heap.size,1,none⟩=false)/\A.cell? ⟨W.heap.size,2,none⟩=some (.int .i64 0)/\A.frozen? ⟨W.heap.size,2,none⟩=false:=⟨g5 E rfl,g5 E rfl,g5 E rfl⟩;have Bo:W.heap.size<A.heap.size:=(au.1 E).1;have J:=ae (ZO (b:=false) (a:=none) (k:=0) (d:=0) (x:=0) E);clear E;rw [pJ];go_wp2_with fail;generalize World.setCell _ _ _=wy at J⊢;subst U5;have U6:Fr (· =W.heap.size) A wy:=J.out.2;refine Qr (q:=W.heap.size) rfl rfl rfl ((dX _ _ _ (ax Bo U6.size)).trans J.out.1) (Nr _) ((Fr.iE (I.out.2.2.trans (U6.oe (fun k N e=>by omega) I.out.2.2.size))).alloc _)
   ·clear E
    go_wp2_with fail;have Ib:Below A.heap.size A (A.alloc (.cells #[.bool (decide (l.m<0)),.slice a5 k5 c5,.int .i64 l.e,.bool (decide (l.n<0)),.slice b5 l5 d5,.int .i64 l.f] 64)):=(aG _ _).alloc (ak _) _;have Y:(A.alloc (.cells #[.bool (decide (l.m<0)),.slice a5 k5 c5,.int .i64 l.e,.bool (decide (l.n<0)),.slice b5 l5 d5,.int .i64 l.f] 64)).heap[A.heap.size]? =some _:=heap_alloc_new A _;refine (aE9 T.out.1.2.2 (Hu HX.out.2.2.1 (I.out.2.2.trans (Ib.mono I.out.2.2.size))) (x:= .agg #[.bool (decide (l.m<0)),.slice a5 k5 c5,.int .i64 l.e,.bool (decide (l.n<0)),.slice b5 l5 d5,.int .i64 l.f]) (by
     obtain ⟨u1,u2,e,n1,n2⟩:=HIv.out;exact ⟨u1,u2,e,n1.below Ib,n2.below Ib⟩)).mono ?_
    rintro e D ⟨X,k6,c6,rfl,hn6,hB6⟩;have ZQ:=Ib.trans (hB6.mono Ib.size);have anh:=(hB6.block _ (au.1 Y).1).trans Y;have O:=ae (show Below w4.heap.size w4 D/\Below M.heap.size M D/\Below W.heap.size W D from ⟨I.out.1.trans (ZQ.mono I.out.1.size),I.out.2.1.trans (ZQ.mono I.out.2.1.size),I.out.2.2.trans (ZQ.mono I.out.2.2.size)⟩);have U:=ae (af anh hn6);clear Ib Y hn6 hB6 ZQ anh;by_cases Q:l.s=0/\C.b=true
    ·have U5:r=(C.m,C.e,0):=by rw [<-T.out.2.1,UY,if_neg pJ,if_pos Q];rfl
     rw [Q.1,Q.2];have hbm:bm<W.heap.size:=(au.1 HM.out).1;have ZR:Below D.heap.size D (D.alloc (.cells #[.bool (decide (C.m<0)),.slice X k6 c6,.int .i64 C.e] 39)).drew:=((aG _ _).alloc (ak _) _).drew;have ZT:Below W.heap.size W (D.alloc (.cells #[.bool (decide (C.m<0)),.slice X k6 c6,.int .i64 C.e] 39)).drew:=O.out.2.2.trans (ZR.mono O.out.2.2.size);obtain ⟨wC,iB,U7⟩:=aFh ((ZT.block _ hbm).trans HM.out) HID.out (.agg #[.int .i64 id,.int .i64 x,.bool (decide (l.m<0)),.slice a5 k5 c5,.int .i64 l.e,.bool (decide (l.n<0)),.slice b5 l5 d5,.int .i64 l.f]);have v0:=(g5 (k:=0) U.out.1 rfl).1;have v1:=(g5 (k:=1) U.out.1 rfl).1;have v2:=(g5 (k:=2) U.out.1 rfl).1;have v3:=(g5 (k:=3) U.out.1 rfl).1;have v4:=(g5 (k:=4) U.out.1 rfl).1;have v5:=(g5 (k:=5) U.out.1 rfl).1;have I9:A.heap.size<D.heap.size:=aj D _ v0;have hcB:D.cell? ⟨pc,0,none⟩=some (.map (some bm)):=(O.out.2.2.cell (p:=⟨pc,0,none⟩) ZP).trans hc;have hpB:pc<D.heap.size:=aj D _ hcB;have hdB:(D.alloc (.cells #[.bool (decide (C.m<0)),.slice X k6 c6,.int .i64 C.e] 39)).drew.heap[D.heap.size]? =some (.cells #[.bool (decide (C.m<0)),.slice X k6 c6,.int .i64 C.e] 39 (0,0)):=heap_alloc_new D _;have ZU:=(U7.block _ (au.1 hdB).1 (fun e=>by have:=O.out.2.2.size;omega)).trans hdB;have Z:(D.alloc (.cells #[.bool (decide (C.m<0)),.slice X k6 c6,.int .i64 C.e] 39)).drew.heap[W.heap.size]? =some (.cells #[.bool false,.slice none 0 0,.int .i64 0] 39 (0,0)):=(ZR.block _ (ax H.out.2.2 O.out.2.1.size)).trans ((O.out.2.1.block _ H.out.2.2).trans H.out.2.1);have Qv:=(U7.block _ (au.1 Z).1 (fun e=>by omega)).trans Z;have q0:=(g5 (k:=0) ZU rfl).1;have q1:=(g5 (k:=1) ZU rfl).1;have q2:=(g5 (k:=2) ZU rfl).1;obtain ⟨x0,y0⟩:=g5 (k:=0) Qv rfl;obtain ⟨x1,y1⟩:=g5 (k:=1) Qv rfl;obtain ⟨x2,y2⟩:=g5 (k:=2) Qv rfl;have aFl:W.heap.size<wC.heap.size:=aj wC _ x0;have aG8:D.heap.size<wC.heap.size:=aj wC _ q0;have J:=ae (ZO (b:=decide (C.m<0)) (a:=X) (k:=k6) (d:=c6) (x:=C.e) Qv);have hWC:Fr (· =bm) W wC:=(Fr.iE ZT).trans U7 (fun k N e=>e);have hnC:eD wC (.slice X k6 c6) C.m.natAbs:=by
      have n1:=U.out.2.below ZR;refine D6 (S:=(· =bm)) n1 (fun k N hS=>U7.block k N hS) (fun a z ha=> ?_);have e:=(ZT.block _ hbm).trans HM.out;intro c;have ha:a.block=bm:=ha;simp only [World.cell?,ha,e] at c;cases c
     have HN:=ae (af hWC (af hnC Qv));clear ZR ZT U7 hdB ZU Z Qv hWC hnC hbm Q;simp only at iB⊢;go_wp2_with fail;go_region
     all_goals
      go_wp2_with fail;generalize World.setCell _ _ _=wy at J⊢;subst U5;have U6:Fr (· =W.heap.size) wC wy:=J.out.2;refine Qr (q:=W.heap.size) rfl rfl rfl J.out.1 (D6 (S:=(· =W.heap.size)) HN.out.2.1 (fun k N hS=>U6.block k N hS) (fun a z ha=>aFi HN.out.2.2 a z ha)) (HN.out.1.trans U6 (fun k N e=>by omega))
    ·have o:Qp F ((sG (p+8) u).drop (j+1))=r:=by
      have q:=T.out.2.1;rw [UY,if_neg pJ,if_neg Q] at q;exact q
     have HEV:=ae o;clear o;obtain ⟨ss,Af⟩:=pS l.s;obtain ⟨bb,lN⟩:=pS C.b;rw [Af,lN] at Q;rw [Af] at pJ⊢;rw [lN];clear Af lN;by_cases h0:ss=0
     ·have hb:bb=false:=by cases bb;rfl;exact absurd ⟨h0,rfl⟩ Q
      subst h0;subst hb;clear Q pJ;go_wp2_with fail;go_roundw
      case rel=>exact ⟨j+1,by go_num,by have:=T.out.2.2.1;omega,O.out.1.alloc O.out.1.size _,HEV.out⟩
      case measure=>have:=T.out.2.2.1;simp [intOf];omega
     ·clear Q
      go_wp2_with fail;go_roundw
      case rel=>exact ⟨j+1,by go_num,by have:=T.out.2.2.1;omega,O.out.1.alloc O.out.1.size _,HEV.out⟩
      case measure=>have:=T.out.2.2.1;simp [intOf];omega
  ·have Hv:j=u:=by omega
   subst Hv;have U5:r=(0,0,12):=by
    rw [<-o,List.drop_eq_nil_of_le (by rw [ZM];omega)];rfl
   obtain ⟨⟨x0,y0⟩,⟨x1,y1⟩,x2,y2⟩:(wr.cell? ⟨W.heap.size,0,none⟩=some (.bool false)/\wr.frozen? ⟨W.heap.size,0,none⟩=false)/\(wr.cell? ⟨W.heap.size,1,none⟩=some (.slice none 0 0)/\wr.frozen? ⟨W.heap.size,1,none⟩=false)/\wr.cell? ⟨W.heap.size,2,none⟩=some (.int .i64 0)/\wr.frozen? ⟨W.heap.size,2,none⟩=false:=⟨g5 E rfl,g5 E rfl,g5 E rfl⟩;have Bo:W.heap.size<wr.heap.size:=(au.1 E).1;clear Qu hj o U0 U4 Qt E;have J:=ae (ZO (b:=false) (a:=none) (k:=0) (d:=0) (x:=0) P.out.2.2.2);go_wp2_with fail;generalize World.setCell _ _ _=wz at J⊢;subst U5;refine Qr (q:=W.heap.size) rfl rfl rfl J.out.1 (Nr wz) (Fr.iE (P.out.2.2.1.trans (J.out.2.oe (fun k N e=>by omega) P.out.2.2.1.size)))
def Qw (bm:Nat) {b:Bool} (J: ∀y,Below W.heap.size W y->Calls prog 25 #[ptr p0,.int .i64 i] y fun e T=>e= .returned (.bool b)/\Below y.heap.size y T) (h:b=false\/ ¬(0<=p/\p<=512)\/ ¬(0<=f/\f<=4096)):
 Calls prog 11 #[ptr pc,ptr p0,.int .i64 i,.int .i64 p,.int .i64 f] W (Qq W bm (0,0,1)):=by
 have H:=ae J;have R:=ae h;clear J h;unfold ptr at H⊢;go_enter func11,ntmps11;go_wp2_with fail;obtain ⟨A,C⟩:=pS (W.alloc (.cells #[.bool false,.slice none 0 0,.int .i64 0] 39));have I:Below W.heap.size W A:=by rw [<-C];exact (aG _ W).alloc (ak _) _
 have E:A.heap[W.heap.size]? =some (.cells #[.bool false,.slice none 0 0,.int .i64 0] 39 (0,0)):=by rw [<-C];exact heap_alloc_new W _
 have F:W.heap.size<A.heap.size:=(au.1 E).1;have l:=ae (af I (af E F));rw [C];clear I E F C;refine (H.out A l.out.1).mono ?_;rintro e P ⟨rfl,D⟩;have o:=(D.block _ l.out.2.2).trans l.out.2.1;have s:=l.out.1.trans (D.mono l.out.1.size);obtain ⟨X,y0⟩:=g5 (k:=0) o rfl;obtain ⟨Y,y1⟩:=g5 (k:=1) o rfl;obtain ⟨Z,y2⟩:=g5 (k:=2) o rfl;have S:W.heap.size<P.heap.size:=aj P _ X;have g:=ae (ZO (b:=false) (a:=none) (k:=0) (d:=0) (x:=0) o);have j:=ae s;clear D s o;cases b
 ·go_wp2_with fail
  generalize World.setCell _ _ _=u at g⊢;exact Qr (q:=W.heap.size) (r:=(0,0,1)) rfl rfl rfl g.out.1 (Nr u) (Fr.iE (j.out.trans (g.out.2.oe (fun k N e=>by omega) j.out.size)))
 ·obtain ⟨z,O⟩:=pS (decide (0<=p/\p<=512))
  have G:=ae O;go_wp2_with fail;refine (aFa p _).mono ?_;rintro e U ⟨rfl,rfl⟩;rw [G.out];clear O;cases z
  ·go_wp2_with fail
   generalize World.setCell _ _ _=u at g⊢;exact Qr (q:=W.heap.size) (r:=(0,0,1)) rfl rfl rfl g.out.1 (Nr u) (Fr.iE (j.out.trans (g.out.2.oe (fun k N e=>by omega) j.out.size)))
  ·have M:decide (0<=f/\f<=4096)=false:=by
    have:=of_decide_eq_true G.out;rcases R.out with h|h|h
    ·cases h
    ·exact absurd this h
    ·exact decide_eq_false h
   have Q:=ae M;clear M;go_wp2_with fail;refine (aFb f _).mono ?_;rintro e U ⟨rfl,rfl⟩;rw [Q.out];go_wp2_with fail;generalize World.setCell _ _ _=u at g⊢;exact Qr (q:=W.heap.size) (r:=(0,0,1)) rfl rfl rfl g.out.1 (Nr u) (Fr.iE (j.out.trans (g.out.2.oe (fun k N e=>by omega) j.out.size)))
def aFm (d:iR W B p0 v m L) (e:L.length<=4000) (hi:i<0\/(L.length:Int)<=i) (bm:Nat):
 Calls prog 11 #[ptr pc,ptr p0,.int .i64 i,.int .i64 p,.int .i64 f] W (Qq W bm (0,0,1)):=
 Qw bm (fun a h=>ang (W:=a) (d.below h) e hi) (.inl rfl)
end
section
open Go Go.RowKit Go.Ev
def aFn (a:Option Addr) (n c:Nat) (w:World) (d:n<=9223372036854775807):
 Calls Tryz.prog 5 #[.slice a n c] w fun e b=>e= .returned (.bool (decide (n<=120)))/\b=w:=by
 go_enter Tryz.func5,Tryz.ntmps5;go_wp2;go_ret;refine ⟨?_,rfl⟩;simp
 try omega
def aFo {w:World} :Calls Tryz.prog 8 #[] w fun e b=> ∃g a,e= .returned (ptr g)/\b.cell? ⟨g,0,none⟩=some (.map (some a))/\b.heap[a]? =some (.map #[] 0)/\w.heap.size<=a/\Below w.heap.size w b:=by
 have h:= @run_makeMap Tryz.prog;go_enter Tryz.func8,Tryz.ntmps8;go_wp2_with fail;go_ret;have d:Below w.heap.size w (w.alloc (.map #[] 0)):=(aG _ w).alloc (ak _) _;have f:=heap_alloc_new (w.alloc (.map #[] 0)) (.cells #[.map (some w.heap.size)] 61);refine ⟨_,w.heap.size,rfl,?_,(dX _ _ _ (by simp)).trans (heap_alloc_new w _),ak _,d.alloc d.size _⟩;rw [uv] at f;exact (g5 f rfl).1
def aFp {p f:Int} (l:0<=p): ∃k,Lk p f k:=by
 have h: ∃k:Nat,f<2^k*(p+8):=by
  refine ⟨f.toNat,?_⟩;have a:(f.toNat:Int)<2^f.toNat:=by
   have:=Nat.lt_two_pow_self (n:=f.toNat);exact_mod_cast this
  have i:(2:Int)^f.toNat*1<=2^f.toNat*(p+8):=fv (by omega) (cR (eE (by decide)));omega
 obtain ⟨k,b⟩:=h
 induction k with
 |zero=>exact ⟨0,fun j d=>by omega,b⟩
 |succ k g=>
  by_cases e:f<2^k*(p+8)
  ·exact g e
  ·refine ⟨k+1,fun j d=> ?_,b⟩
   have a:(2:Int)^j<=2^k:=by
    have:=aF (n:=2) (by decide) (show j<=k by omega);exact_mod_cast this
   have:=bO a (show 0<=p+8 by omega);omega
end
end Go.Proofs.YthleenhngcdgkaaGreatDoor
namespace Go.Proofs
section
open Go.RowKit Go.Maps Go.Sort Go.Shelf
def Tryz.sortsI (m:Nat):AnyZI.SortsIn Tryz.prog Tryz.sortedI_ren Fence.wide m:=
 ⟨fun blk b cap e W d f a=>callsIn_wide.2 (AnyM.slices_Sort_int Tryz.sortI blk b cap e W d f a),
  fun p cap W=>callsIn_wide.2 (AnyM.slices_Sort_int_none Tryz.sortI p cap W)⟩
def Tryz.mapsKeysI (a:Option Nat) (W:World):CallsIn Fence.wide 5 Tryz.prog 31 #[.map a] W fun e b=>e= .returned (.func (.func 59) #[] #[.pointer (some ⟨W.heap.size,0,none⟩)])/\b=W.alloc (.cells #[.map a] 59):=
 AnyZI.keys_in Tryz.keysI Fence.wide 5 trivial rfl a W
def Tryz.sortedKeysI {H:Type} (b k:Nat) (a:DataW H) (R:Value->Option (DataW H×List MemPlace)) (w:World) (j:w.ownsMap Tryz.prog 3 R b k a) (g:Maps.size a<=maxLen) (h:Maps.size a*8<=140737488355328):
 CallsIn Fence.wide 5 Tryz.prog 30 #[.func (.func 59) #[] #[.pointer (some ⟨w.heap.size,0,none⟩)]] (w.alloc (.cells #[.map (some b)] 59)) fun e l=> ∃(v:Value) (f:List Int),e= .returned v/\f.Perm (intKeys a)/\
  l.ownsRow (w.alloc (.cells #[.map (some b)] 59)).heap.size 3 1 v f.length ((f.mergeSort (fun x y=>decide (x<=y))).map encZ)/\(v= .slice none 0 0↔f= [])/\Below (w.alloc (.cells #[.map (some b)] 59)).heap.size (w.alloc (.cells #[.map (some b)] 59)) l:=by
 have t:=j.lt;have i:SeqGives Fence.wide 2 Tryz.prog 59 #[.pointer (some ⟨w.heap.size,0,none⟩)] encZ (fun f=>f.Perm (intKeys a)) (Maps.size a) (w.alloc (.cells #[.map (some b)] 59)):=
  AnyZI.keys_gives (ρ:=Tryz.keysI_ren) {Tryz.keysI with} Fence.wide _ trivial rfl (by omega) w.heap.size b k a _ (by simp) (by simp) (by
   obtain ⟨o,d,q,m,s,p⟩:=j;exact ⟨o,d,(dX _ _ b t).trans q,m,s,p⟩)
 exact AnyZI.sorted_in Tryz.sortedI Fence.wide 5 trivial trivial trivial trivial rfl (by omega) (Tryz.sortsI _) (enters_of Tryz.func58 (by kernel_rfl) rfl) 59 #[.pointer (some ⟨w.heap.size,0,none⟩)] trivial (enters_of Tryz.func59 (by kernel_rfl) rfl) _ _ g h _ i
def Tryz.mapsCloneI (b:Nat) (d:Array MapEntry) (a:Nat) (w:World) (f:w.heap[b]? =some (.map d a)):Calls Tryz.prog 24 #[.map (some b)] w fun e g=>e= .returned (.map (some w.heap.size))/\g=w.alloc (.map d a):=
 AnyW.maps_Clone Tryz.cloneM b d a w f
end
end Go.Proofs
namespace Go.Proofs.YthleenhngcdgkaaGreatDoor
section
open Go.Proofs.Tryz Go Go.RowKit Go.Ev Go.Maps
variable {w W:World} {pc bm B:Nat} {v m:Value} {L:List bI}
def aFq {b:Nat} (h:w.heap[b]? =some (.map #[] 0)):
 Calls prog 31 #[.map (some b)] w fun e d=>d=w.alloc (.cells #[.map (some b)] 59)/\ ∃v,e= .returned v/\
  Calls prog 30 #[v] d fun f i=>f= .returned (.slice none 0 0)/\Below w.heap.size w i:=by
 obtain ⟨D,a,_⟩:=aeQ h (fun _=>some (.lit (.int .i64 0),[]));have g:Maps.size D=0:=by have:=a.size_le;omega
 refine (callsIn_wide.1 (Tryz.mapsKeysI (some b) w)).mono ?_;rintro e d ⟨rfl,rfl⟩;refine ⟨rfl,_,rfl,?_⟩;refine (callsIn_wide.1 (Tryz.sortedKeysI b 0 D _ w a (by omega) (by rw [g];decide))).mono ?_;rintro f i ⟨v,p,rfl,o,_,l,j⟩;have k:p= []:=by
  refine b7 ?_;obtain ⟨q,rfl,_⟩:=World.ownsMap.keysOf a;rw [o.length_eq]
  simpa [intKeys,Maps.size] using g
 have:=l.2 k;subst this;exact ⟨rfl,((aG w.heap.size w).alloc (ak _) _).trans (j.mono (by simp))⟩
def aFr (hc:w.cell? ⟨pc,0,none⟩=some (.map (some bm))) (g:w.heap[bm]? =some (.map #[] 0)):
 Calls prog 9 #[ptr pc] w fun e a=> ∃b bd,e= .returned (ptr b)/\a.cell? ⟨b,0,none⟩=some (.map (some bd))/\a.heap[bd]? =some (.map #[] 0)/\w.heap.size<=bd/\w.heap.size<=b/\Below w.heap.size w a:=by
 have h:=ae (Tryz.mapsCloneI bm #[] 0 w g);have i:=aj w _ hc;clear g;unfold ptr;go_enter func9,ntmps9;go_wp2_with fail;refine h.out.mono ?_;rintro e a ⟨rfl,rfl⟩;go_wp2_with fail;go_ret;have d:Below w.heap.size w (w.alloc (.map #[] 0)):=(aG _ w).alloc (ak _) _;have f:=heap_alloc_new (w.alloc (.map #[] 0)) (.cells #[.map (some w.heap.size)] 61);refine ⟨_,w.heap.size,rfl,?_,(dX _ _ _ (by simp)).trans (heap_alloc_new w _),ak _,by simp,d.alloc d.size _⟩;rw [uv] at f;exact (g5 f rfl).1
def aFs (hc:w.cell? ⟨pc,0,none⟩=some (.map (some bm))) (d:w.heap[bm]? =some (.map #[] 0)):
 Calls prog 12 #[ptr pc] w fun e k=>e= .returned (.slice none 0 0)/\Below w.heap.size w k:=by
 have h:=ae (aFq d);have o:=aj w _ hc;clear d;unfold ptr;go_enter func12,ntmps12;go_wp2_with fail;refine h.out.mono ?_;rintro e p ⟨f,v,rfl,a⟩;have i:=ae a;clear a f;go_wp2_with fail;refine i.out.mono ?_;rintro e l ⟨rfl,b⟩;have g:=ae b;clear b;go_wp2_with fail;go_loopw [3,13] (fun j iv wr=>j= .slice none 0 0/\iv= .int .i64 0/\wr=l) (fun _ _ _=>0)
 case atStart=>exact ⟨rfl,rfl,rfl⟩
 case round=>
  obtain ⟨rfl,rfl,rfl⟩:=hrel;go_wp2_with fail;go_ret;exact ⟨rfl,g.out⟩
def aFt {q:Nat} (h:qj W B q v L) (k:GI L) (s:L.length<=1000) (j:om W):
 Calls prog 7 #[ptr q] W fun e l=> ∃p v d,e= .returned (ptr p)/\iR l W.heap.size p v d L/\Below W.heap.size W l:=by
 have b:=ae (af h (af k (af s j)));have f:=mD h.blk 0;simp only [bM,bB] at f;have u:q<W.heap.size:=aj W _ f;obtain ⟨a,c,rfl⟩:=h.iT.slice;clear h k j;unfold ptr;go_enter func7,ntmps7;go_wp2_with fail;refine (aD9 b.out.1.iT b.out.2.1 b.out.2.2.1 b.out.2.2.2).mono ?_;rintro e x ⟨p,t,d,rfl,g,i⟩;have o:=ae (af g i);clear g i;unfold ptr;go_wp2_with fail;go_ret;exact ⟨p,t,d,rfl,o.out⟩
open Classical in
def ani {p:Nat} (f:iR W B p v m L) (j:GI L) (g:L.length<=4000) (i:Int):
 ∃b,(b=true-> ∃id:Nat,i=id/\id<L.length/\Bi L id)/\ ∀a,Below W.heap.size W a->Calls prog 25 #[ptr p,.int .i64 i] a fun e k=>e= .returned (.bool b)/\Below a.heap.size a k:=by
 by_cases h:0<=i/\i<(L.length:Int)
 ·obtain ⟨id,rfl⟩: ∃id:Nat,i=(id:Int):=⟨i.toNat,by omega⟩
  exact ⟨decide (Bi L id),fun e=>⟨id,rfl,by omega,of_decide_eq_true e⟩,fun a d=>anf (f.below d) j g (by omega)⟩
 ·exact ⟨false,(fun e=>by cases e),fun a d=>ang (f.below d) g (by omega)⟩
def aFu {p0:Nat} (j:iR W B p0 v m L) (d:GI L) (e:L.length<=4000) (i:Int) (x:om W) (o:bw W) (hc:W.cell? ⟨pc,0,none⟩=some (.map (some bm))) (A:W.heap[bm]? =some (.map #[] 0)) {p f:Int} (a:0<=p:=by omega) (g:p<=512:=by omega) (q:0<=f:=by omega) (s:f<=4096:=by omega):
 ∃r,Calls prog 11 #[ptr pc,ptr p0,.int .i64 i,.int .i64 p,.int .i64 f] W (Qq W bm r):=by
 obtain ⟨b,y,t⟩:=ani j d e i;cases b
 ·exact ⟨_,Qw bm t (.inl rfl)⟩
 ·obtain ⟨id,rfl,l,h⟩:=y rfl
  obtain ⟨F,u⟩:=aE7 d h e l a g;obtain ⟨k,z⟩:=aFp (f:=f) a;exact ⟨_,aFj j d h e l x o hc A a g q s u z⟩
end
section
open Go Go.RowKit Go.Ev
variable {w3 wr w' W:World} {pd bd bm:Nat}
def FM (w3 wr:World) (pd bd:Nat):Prop:=Below w3.heap.size w3 wr/\wr.cell? ⟨pd,0,none⟩=some (.map (some bd))/\wr.heap[bd]? =some (.map #[] 0)
def FM.below (h:FM w3 wr pd bd) (a:Below wr.heap.size wr w'):FM w3 w' pd bd:=
 ⟨h.1.trans (a.mono h.1.size),(a.cell (aj wr _ h.2.1)).trans h.2.1,(a.block _ (au.1 h.2.2).1).trans h.2.2⟩
def FM.alloc (h:FM w3 wr pd bd) (o:Obj):FM w3 (wr.alloc o) pd bd:=h.below ((aG _ _).alloc (ak _) o)
def FM.fr (h:FM w3 wr pd bd) (a:Fr (· =bm) wr w') (f:w3.heap.size<=bm) (b:pd≠bm) (d:bd≠bm):FM w3 w' pd bd:=
 ⟨h.1.trans (a.oe (fun k g e=>by omega) h.1.size),(World.cell?_of_block (a.block _ (aj wr _ h.2.1) b)).trans h.2.1,(a.block _ (au.1 h.2.2).1 d).trans h.2.2⟩
def U8 {e:Ending} (h:Qq W bm (0,0,1) e w'): ∃a k c,e= .returned (.tuple #[.agg #[.bool false,.slice a k c,.int .i64 0],.int .i64 1])/\Fr (· =bm) W w':=by
 obtain ⟨a,k,c,rfl,_,b⟩:=h;exact ⟨a,k,c,rfl,b⟩
def aFv {a:Option Addr} {n c:Nat} (hv:n<=9223372036854775807) (C:n<=120->P9 W (.slice a n c) n) {i p f:Int} (hi: -9223372036854775808<=i) (hp: -9223372036854775808<=p) (hf: -9223372036854775808<=f) (hT:om W) (AH:bw W)
 (hA:Calls Tryz.prog 4 #[] W fun e w'=>e= .returned (.bool true)/\Below W.heap.size W w'):
 Calls Tryz.prog 3 #[.slice a n c,.int .i64 i,.int .i64 p,.int .i64 f] W fun e w'=>e= .returned (.bool true)/\Below W.heap.size W w':=by
 have u:=ae (af hv (af C (af hT (af AH (af hA (af hi (af hp hf)))))));clear hv C hT AH hA hi hp hf;go_enter Tryz.func3,Tryz.ntmps3;go_wp2_with fail;refine u.out.2.2.2.2.1.mono ?_;rintro e w1 ⟨rfl,bP⟩;have G:=ae bP;clear bP;go_wp2_with fail;refine (aFn a n c w1 u.out.1).mono ?_;rintro e w1' ⟨rfl,rfl⟩;by_cases C:n<=120
 ·rw [decide_eq_true C]
  have hN:P9 w1' (.slice a n c) n:=by
   obtain ⟨h1,a',c',e,h2⟩:=u.out.2.1 C;refine ⟨h1,a',c',e,fun j hj=> ?_⟩;obtain ⟨b,x,hb,t,hc⟩:=h2 j hj;exact ⟨b,x,hb,t,(G.out.cell (aj W _ hc)).trans hc⟩
  have HN:=ae (af hN (u.out.2.2.1.below G.out));clear hN C;go_wp2_with fail;refine (aDJ HN.out.1 HN.out.2).mono ?_;rintro e w2 ⟨q,v2,L,rfl,hr,hg,hl,hq,dz⟩;have s:=ae (af hr (af hg (af hl dz)));clear hr hg hl hq dz;unfold ptr;go_wp2_with fail;refine (aFt s.out.1 s.out.2.1 (by have:=s.out.2.2.1;omega) (HN.out.2.below s.out.2.2.2)).mono ?_;rintro e w3 ⟨pg,v3,mv,rfl,O,ke⟩;have ZW:Below W.heap.size W w3:=G.out.trans (s.out.2.2.2.mono G.out.size)|>.trans (ke.mono (by have:=G.out.size;have:=s.out.2.2.2.size;omega));have ka:=ae ZW;have T:=ae (af O (af (u.out.2.2.1.below ZW) (Hu u.out.2.2.2.1 ZW)));have z:=mD (s.out.1.below ke).blk 0;simp only [bM,bB] at z;obtain ⟨va,vc,S⟩:=s.out.1.iT.slice;rw [S] at z;obtain ⟨m,hm⟩:=pS L.length;rw [hm] at z;have Kp:=ae z;have HM:=ae hm;have aDK:m<=100:=by rw [<-hm];exact s.out.2.2.1
  clear O ke hm S ZW;unfold ptr;go_wp2_with fail;refine aFo.mono ?_;rintro e w6 ⟨pc,bm,rfl,M,Ec,Q,B4⟩;have A:=ae (af M (af Ec (af Q B4)));clear M Ec Q B4;unfold ptr;go_wp2_with fail;refine (aFr A.out.1 A.out.2.1).mono ?_;rintro e I ⟨pd,bd,rfl,N,R,hl7,aFw,Y⟩;have J:bm<w6.heap.size:=(au.1 A.out.2.1).1;have E:Below w3.heap.size w3 I:=A.out.2.2.2.trans (Y.mono A.out.2.2.2.size);have d:=ae (show FM w3 I pd bd from ⟨E,N,R⟩);have l:=ae (show w3.heap.size<=bm/\pd≠bm/\bd≠bm from ⟨A.out.2.2.1,by omega,by omega⟩);have Il:I.cell? ⟨pc,0,none⟩=some (.map (some bm)):=(Y.cell (aj w6 _ A.out.1)).trans A.out.1;have Nh:I.heap[bm]? =some (.map #[] 0):=(Y.block _ J).trans A.out.2.1;have UF:=ae (af Il Nh);have z:=(E.cell (aj w3 _ Kp.out)).trans Kp.out;have hq7:q<I.heap.size:=aj I _ z;clear N R hl7 aFw Y J E Il Nh;unfold ptr;have B:IntKind.i64.wrap ((m:Int)+1)=(m:Int)+1:=wrap_small _ (by omega) (by omega);go_wp2_with fail;refine (MQ i ((m:Int)+1) (by omega) (by omega) u.out.2.2.2.2.2.1 _).mono ?_;rintro e X ⟨rfl,rfl⟩;obtain ⟨H,P⟩:=pS (i % ((m:Int)+1));rw [P];obtain ⟨bb,_,hC⟩:=ani T.out.1 s.out.2.1 (by have:=s.out.2.2.1;omega) H;have Z:=ae hC;clear B z hq7 P hC;go_wp2_with fail;refine (MQ p 30 (by decide) (by decide) u.out.2.2.2.2.2.2.1 _).mono ?_;rintro e X ⟨rfl,rfl⟩;obtain ⟨r,hE⟩:=aFu (T.out.1.below d.out.1) s.out.2.1 (by have:=s.out.2.2.1;omega) H (T.out.2.1.below d.out.1) (Hu T.out.2.2 d.out.1) UF.out.1 UF.out.2 (p:=p % 30) (f:=200);have HE:=ae hE;clear hE;unfold ptr at HE;go_wp2_with fail;refine HE.out.mono ?_;rintro e U ⟨y,kE,cE,rfl,_,o⟩;replace d:=ae (d.out.fr o l.out.1 l.out.2.1 l.out.2.2);clear o HE UF;go_wp2_with fail;refine (MQ p 5 (by decide) (by decide) u.out.2.2.2.2.2.2.1 _).mono ?_;rintro e X ⟨rfl,rfl⟩;obtain ⟨x,t⟩:=pS (p % 5);have F:0<=x/\x<5:=by omega
  rw [t];have B:IntKind.i64.wrap (-1-x)= -1-x:=aB _ (by omega);have k:=ae (Qw (W:=_) (p0:=pg) (pc:=pc) (i:=H) (p:= -1-x) (f:=100) bm (fun D h=>Z.out D (d.out.1.trans (h.mono d.out.1.size))) (.inr (.inl (by omega))));unfold ptr at k;clear t F;go_wp2_with fail;clear B;refine k.out.mono ?_;intro e U g;obtain ⟨y,kE,cE,rfl,o⟩:=U8 g;replace d:=ae ((d.out.fr o l.out.1 l.out.2.1 l.out.2.2).alloc (.cells #[.bool false,.slice y kE cE,.int .i64 0] 39));clear o g k;go_wp2_with fail;refine (MQ p 5 (by decide) (by decide) u.out.2.2.2.2.2.2.1 _).mono ?_;rintro e X ⟨rfl,rfl⟩;obtain ⟨x,t⟩:=pS (p % 5);have F:0<=x/\x<5:=by omega
  rw [t];have B:IntKind.i64.wrap (513+x)=513+x:=wrap_small _ (by omega) (by omega);have k:=ae (Qw (W:=_) (p0:=pg) (pc:=pc) (i:=H) (p:=513+x) (f:=100) bm (fun D h=>Z.out D (d.out.1.trans (h.mono d.out.1.size))) (.inr (.inl (by omega))));unfold ptr at k;clear t F;go_wp2_with fail;clear B;refine k.out.mono ?_;intro e U g;obtain ⟨y,kE,cE,rfl,o⟩:=U8 g;replace d:=ae ((d.out.fr o l.out.1 l.out.2.1 l.out.2.2).alloc (.cells #[.bool false,.slice y kE cE,.int .i64 0] 39));clear o g k;go_wp2_with fail;refine (MQ f 5 (by decide) (by decide) u.out.2.2.2.2.2.2.2 _).mono ?_;rintro e X ⟨rfl,rfl⟩;obtain ⟨x,t⟩:=pS (f % 5);have F:0<=x/\x<5:=by omega
  rw [t];have B:IntKind.i64.wrap (-1-x)= -1-x:=aB _ (by omega);have k:=ae (Qw (W:=_) (p0:=pg) (pc:=pc) (i:=H) (p:=5) (f:= -1-x) bm (fun D h=>Z.out D (d.out.1.trans (h.mono d.out.1.size))) (.inr (.inr (by omega))));unfold ptr at k;clear t F;go_wp2_with fail;clear B;refine k.out.mono ?_;intro e U g;obtain ⟨y,kE,cE,rfl,o⟩:=U8 g;replace d:=ae ((d.out.fr o l.out.1 l.out.2.1 l.out.2.2).alloc (.cells #[.bool false,.slice y kE cE,.int .i64 0] 39));clear o g k;go_wp2_with fail;refine (MQ f 5 (by decide) (by decide) u.out.2.2.2.2.2.2.2 _).mono ?_;rintro e X ⟨rfl,rfl⟩;obtain ⟨x,t⟩:=pS (f % 5);have F:0<=x/\x<5:=by omega
  rw [t];have B:IntKind.i64.wrap (4097+x)=4097+x:=wrap_small _ (by omega) (by omega);have k:=ae (Qw (W:=_) (p0:=pg) (pc:=pc) (i:=H) (p:=5) (f:=4097+x) bm (fun D h=>Z.out D (d.out.1.trans (h.mono d.out.1.size))) (.inr (.inr (by omega))));unfold ptr at k;clear t F;go_wp2_with fail;clear B;refine k.out.mono ?_;intro e U g;obtain ⟨y,kE,cE,rfl,o⟩:=U8 g;replace d:=ae ((d.out.fr o l.out.1 l.out.2.1 l.out.2.2).alloc (.cells #[.bool false,.slice y kE cE,.int .i64 0] 39));clear o g k;have z:=(d.out.1.cell (aj w3 _ Kp.out)).trans Kp.out;have hqz:=aj _ _ z;have k:=ae (aFm (pc:=pc) (T.out.1.below d.out.1) (by have:=s.out.2.2.1;omega) (i:=(m:Int)) (.inr (by rw [HM.out];omega)) (p:=5) (f:=100) bm);unfold ptr at k;go_wp2_with fail;clear z hqz;refine k.out.mono ?_;intro e U g;obtain ⟨y,kE,cE,rfl,o⟩:=U8 g;replace d:=ae ((d.out.fr o l.out.1 l.out.2.1 l.out.2.2).alloc (.cells #[.bool false,.slice y kE cE,.int .i64 0] 39));clear o g k;go_wp2_with fail;refine (aFs d.out.2.1 d.out.2.2).mono ?_;rintro e wz ⟨rfl,Ij⟩;have HZ:=ae (ka.out.trans ((d.out.1.trans (Ij.mono d.out.1.size)).mono ka.out.size));clear Ij;go_wp2_with fail;go_ret;exact ⟨rfl,HZ.out⟩
 ·rw [decide_eq_false C]
  clear C;go_wp2_with fail;go_ret;exact ⟨rfl,G.out⟩
end
end Go.Proofs.YthleenhngcdgkaaGreatDoor
