/- refineFuel_proved. -/
import Derived.Test.YtnmpjdgobafdkaaGreatDoorPmbp
set_option maxRecDepth 100000
set_option maxHeartbeats 16000000
set_option linter.all false
noncomputable section
namespace Go.Proofs.YtnmpjdgobafdkaaGreatDoor
section
open Go.Proofs.Tryz Go Go.RowKit Go.Ev Go.Maps
variable {w W:World} {b q bm k B p0 pc:Nat} {i p f:Int} {t:TypeId} {b0:Bool} {v m:Value} {L:List b8}
def T5:Value:= .agg #[.int .i64 0,.int .i64 0,.bool false,.slice none 0 0,.int .i64 0,.bool false,.slice none 0 0,.int .i64 0]
def aD4 (w:World):(zeroValue 73).run prog w= .ok T5 w:=by kernel_rfl
open Classical in
def adY (z:Value) (v:Value):Option (DataW Nat×List MemPlace):=if v=z then some (.lit (.int .i64 0),[]) else none
def aml (h:w.heap[b]? =some (.map #[] 0)) (R:Value->Option (DataW Nat×List MemPlace)): ∃D:DataW Nat,w.ownsMap prog 3 R b 0 D/\ ∀k,has D k=false:=by
 obtain ⟨o,l,a,d,g,j⟩:=World.ownsMap_made (default:World) prog 3 R;have e:=heap_alloc_new (default:World) (.map #[] 0);rw [e] at a;cases a;exact ⟨_,⟨_,_,h,d,g,j⟩,fun k=>rfl⟩
open Classical in
def aD5 (h:w.heap[b]? =some (.map #[] 0)) (hi:(Lit.int .i64 i).wf=true):(Instr.lookup 65 (.map (some b)) (.int .i64 i) true).run prog w= .ok (.tuple #[T5,.bool false]) w:=by
 obtain ⟨D,g,j⟩:=aml h (adY T5);obtain ⟨v,l,d,a⟩:=g.look_ok TU underlying65 (aD4 w) (zd:= .lit (.int .i64 0)) (zp:= []) (by simp [adY]) (keyOf_int_mk underlying3 hi);rw [j] at d;have e:v=T5:=by
  unfold adY at a;split at a
  ·assumption
  ·cases a
 rw [e] at d;exact d
def aD6 (h:w.heap[b]? =some (.map #[] 0)) (hi:(Lit.int .i64 i).wf=true) (x:Value): ∃a,(Instr.mapUpdate 65 (.map (some b)) (.int .i64 i) x).run prog w= .ok () a/\Fr (· =b) w a:=by
 obtain ⟨D,d,l⟩:=aml h (fun _=>some (.lit (.int .i64 0),[]));obtain ⟨a,j,_,g⟩:=d.update TU underlying65 (by unfold maxLen;omega) (keyOf_int_mk underlying3 hi) rfl;exact ⟨a,j,(uN g).mono (fun k _ e=>by cases e;rfl)⟩
def aD7 {a k d x} (e:w.heap[q]? =some (.cells #[.bool b0,.slice a k d,.int .i64 x] t (0,0))) (p:Addr) (z:Int) (h:p.block=q):w.cell? p≠some (.int .u32 z):=by
 obtain ⟨k,o,j⟩:=p;have g:k=q:=h;subst g;intro c;simp only [World.cell?,e] at c;grind
def YY (W:World) (bm:Nat) (r:Int×Int×Int) (e:Ending) (w':World):Prop:= ∃a k c,e= .returned (.tuple #[.agg #[.bool (decide (r.1<0)),.slice a k c,.int .i64 r.2.1],.int .i64 r.2.2])/\dL w' (.slice a k c) r.1.natAbs/\Fr (· =bm) W w'
def YZ {b:Bool} {a0 k0 d0 x0 a k d x} (e:w.heap[q]? =some (.cells #[.bool b0,.slice a0 k0 d0,.int .i64 x0] t (0,0))):
 (((w.setCell ⟨q,0,none⟩ (.bool b)).setCell ⟨q,1,none⟩ (.slice a k d)).setCell ⟨q,2,none⟩ (.int .i64 x)).heap[q]? =some (.cells #[.bool b,.slice a k d,.int .i64 x] t (0,0))/\Fr (· =q) w (((w.setCell ⟨q,0,none⟩ (.bool b)).setCell ⟨q,1,none⟩ (.slice a k d)).setCell ⟨q,2,none⟩ (.int .i64 x)):=
 ⟨heap_set (heap_set (heap_set e)),(((Fr.refl (· =q) w).setCell (a:=⟨q,0,none⟩) _ (fun _=>rfl)).setCell (a:=⟨q,1,none⟩) _ (fun _=>rfl)).setCell (a:=⟨q,2,none⟩) _ (fun _=>rfl)⟩
def Y0 {e:World} {r:Int×Int×Int} {d:Act} {a:Option Addr} {c:Nat} (h:d.tmps.getD 10 undef= .pointer (some ⟨q,0,none⟩)) (j:d.tmps.getD 11 undef= .int .i64 r.2.2) (l:d.defers= []) (g:e.heap[q]? =some (.cells #[.bool (decide (r.1<0)),.slice a k c,.int .i64 r.2.1] t (0,0))) (s:dL e (.slice a k c) r.1.natAbs) (o:Fr (· =bm) W e):
 bodyPost prog f12 (YY W bm r) Exit.ret d e:=by
 rw [cR] at h j;have u:=(gA (k:=0) g rfl).1;have x:=(gA (k:=1) g rfl).1;have y:=(gA (k:=2) g rfl).1;refine bodyPost_ret (v:= .tuple #[.agg #[.bool (decide (r.1<0)),.slice a k c,.int .i64 r.2.1],.int .i64 r.2.2]) (by simp [results,results12,go_sem,h,j,u,x,y];try rfl) l ?_;exact ⟨a,k,c,rfl,s,o⟩
def aD8 (hg:iI W B p0 v m L) (hG:GI L) (hN:NN L) (hl:L.length<=4000) {id:Nat} (hi:id<L.length) (hT:pz W) (zT:bw W) (hc:W.cell? ⟨pc,0,none⟩=some (.map (some bm))) (hm:W.heap[bm]? =some (.map #[] 0)) (h1:0<=p) (h2:p<=512) (h3:0<=f) (h4:f<=4096)
 {F:Int->Oc×Dq} (hF: ∀w,0<=w->w<=4096->adW L id p w (F w)) (N:Lk p f k):
 Calls prog 12 #[ptr pc,ptr p0,.int .i64 id,.int .i64 p,.int .i64 f] W (YY W bm (pB F (lU (p+8) k))):=by
 have HX:=ae (af hg (af hT (af zT (af hG (af hN (af hl hi))))));have HF:=ae (af hF N);have JQ:=ae (fun W' h=>aD2 (W:=W') (hg.below h) hG hN hl hi);have HM:=ae hm;have hpc:pc<W.heap.size:=ak W _ hc;have hid:(Lit.int .i64 (id:Int)).wf=true:=JJ;have HID:=ae hid;have hp0:p0<W.heap.size:=(ax.1 hg.blk).1;have HL:=ae (fun w=>aDL p f w (by omega) (by omega) (by omega) (by omega));have HA:=ae (aD0 h1 h2);have HWK:=ae (aD1 h3 h4);have R:=ae (af h1 (af h2 (af h3 h4)));clear hg hG hN hl hi hT zT hF N hm hid h1 h2 h3 h4;obtain ⟨r,hr⟩:=pQ (pB F (lU (p+8) k));have HR:=ae hr;rw [hr];clear hr;unfold ptr at JQ⊢;go_enter func12,ntmps12;go_wp2_with fail;obtain ⟨M,tF⟩:=pQ (W.alloc (.cells #[.bool false,.slice none 0 0,.int .i64 0] 39));have bW:Below W.heap.size W M:=by rw [<-tF];exact (aH _ W).alloc (aq _) _
 have h6:M.heap[W.heap.size]? =some (.cells #[.bool false,.slice none 0 0,.int .i64 0] 39 (0,0)):=by rw [<-tF];exact heap_alloc_new W _
 have AE:W.heap.size<M.heap.size:=(ax.1 h6).1;have H:=ae (af bW (af h6 AE));rw [tF];clear bW h6 AE tF;refine (JQ.out M H.out.1).mono ?_;rintro e wa ⟨rfl,Pm⟩;have zc:=ae Pm;clear Pm;go_wp2_with fail;refine (HA.out _).mono ?_;rintro e w' ⟨rfl,rfl⟩;go_wp2_with fail;refine (HWK.out _).mono ?_;rintro e ET ⟨rfl,rfl⟩;have hcw:ET.cell? ⟨pc,0,none⟩=some (.map (some bm)):=((H.out.1.trans (zc.out.mono H.out.1.size)).cell (p:=⟨pc,0,none⟩) hpc).trans hc;have hmw:ET.heap[bm]? =some (.map #[] 0):=((H.out.1.trans (zc.out.mono H.out.1.size)).block _ (ax.1 HM.out).1).trans HM.out;have JC:=aD5 hmw HID.out;unfold T5 at JC;have aD9:pc<ET.heap.size:=ak ET _ hcw;clear hmw;go_wp2_with fail;refine (HL.out _).mono ?_;rintro e w4 ⟨v4,u,rfl,nf,eJ,hsp,_⟩;obtain rfl:u=k:=aDX (hsp ⟨R.out.1,R.out.2.1,R.out.2.2.1,R.out.2.2.2⟩) HF.out.2;obtain ⟨la,lc,rfl⟩:=O' eJ;have qk:=ae (zc.out.trans ((((aH _ _).alloc (aq _) _).trans (nf.mono (by rw [uS];omega))).mono zc.out.size));have HO:=ae (show w4.ownsRow _ 3 1 (.slice la u lc) (lU (p+8) u).length (ints (lU (p+8) u)) by rw [YX];exact eJ);have aFX:u<=20:=by
  rcases bV u 21 with h|h
  ·omega
  ·have h1:=HF.out.2.1 20 (by omega)
   have:=R.out.1;have:=R.out.2.2.2;omega
 clear nf eJ hsp hcw JC aD9;go_wp2_with fail;go_loopw [60] (fun iv wr=> ∃j:Nat,iv= .int .i64 (j:Int)/\j<=u/\Below w4.heap.size w4 wr/\pB F ((lU (p+8) u).drop j)=r) (fun iv _=>u-(intOf iv).toNat)
 case atStart=>exact ⟨0,rfl,by omega,aH _ _,HR.out⟩
 case round=>
  obtain ⟨j,rfl,hj,T6,o⟩:=hrel;have T7:Below M.heap.size M wr:=qk.out.trans (T6.mono qk.out.size);have Pn:Below W.heap.size W wr:=H.out.1.trans (T7.mono H.out.1.size);have E:wr.heap[W.heap.size]? =some (.cells #[.bool false,.slice none 0 0,.int .i64 0] 39 (0,0)):=(T7.block _ H.out.2.2).trans H.out.2.1;have P:=ae (af T6 (af T7 (af Pn E)));by_cases Po:j<u
  ·obtain ⟨x,hx⟩: ∃x:Int,2^j*(p+8)=x:=⟨_,rfl⟩
   have El:x<=4096:=by
    have:=HF.out.2.1 j Po;have:=R.out.2.2.2;omega
   have nP:0<=x:=by
    rw [<-hx];exact iW (cX (eC (by decide))) (by have:=R.out.1;omega)
   have ql:(lU (p+8) u).getD j 0=x:=by
    rw [<-hx,aD];simp [lU,Po]
   have hdr:(lU (p+8) u).drop j=x::(lU (p+8) u).drop (j+1):=by
    have bB:j<(lU (p+8) u).length:=by rw [YX];exact Po
    rw [gp bB];rw [aD,aM bB] at ql;rw [show (lU (p+8) u)[j]=x from ql]
   rw [hdr] at o;obtain ⟨aa,cc,e1,G⟩:=GK (qu (S:=fun _=>False) HO.out (Fr.jq T6) (fun _ _ e=>e));rw [YX] at e1 G;cases e1;obtain ⟨g,rfl,c0⟩:=G j Po;rw [ql] at c0;have hq:=HF.out.1 x nP El;obtain ⟨y,hy⟩:=pQ (F x);have o:(GY y).getD (pB F ((lU (p+8) u).drop (j+1)))=r:=by rw [<-hy];exact o
   rw [hy] at hq;obtain ⟨l,C⟩:=y;have T:=ae (af hq (af o (af Po hj)));have qx:=ae (hq.2.1 wr B p0 v m (HX.out.1.below Pn) (HX.out.2.1.below Pn) (GO HX.out.2.2.1 Pn));have yu:=ak wr _ c0;have j0:(0:Int)<=(j:Int):=by omega
   have j1:(j:Int)<(u:Int):=by omega
   clear hq o hy ql hdr G hx T6 T7 Pn E;unfold ptr at qx;go_wp2_with fail;refine qx.out.mono ?_;rintro e A ⟨a5,k5,c5,b5,l5,d5,rfl,hIv,E'⟩;have HIv:=ae hIv;have I:=ae (show Below w4.heap.size w4 A/\Below M.heap.size M A/\Below W.heap.size W A from ⟨P.out.1.trans (E'.mono P.out.1.size),P.out.2.1.trans (E'.mono P.out.2.1.size),P.out.2.2.1.trans (E'.mono P.out.2.2.1.size)⟩);have E:A.heap[W.heap.size]? =some (.cells #[.bool false,.slice none 0 0,.int .i64 0] 39 (0,0)):=(I.out.2.1.block _ H.out.2.2).trans H.out.2.1;have H10:=ae E;rw [show GV l a5 k5 c5 b5 l5 d5= .agg #[.bool (decide (l.m<0)),.slice a5 k5 c5,.int .i64 l.e,.bool (decide (l.n<0)),.slice b5 l5 d5,.int .i64 l.f] from rfl];clear hIv E' c0 yu qx;by_cases pn:l.s=11
   ·have T8:r=(0,0,11):=by rw [<-T.out.2.1,GY,if_pos pn];rfl
    obtain ⟨⟨x0,y0⟩,⟨x1,y1⟩,x2,y2⟩:(A.cell? ⟨W.heap.size,0,none⟩=some (.bool false)/\A.frozen? ⟨W.heap.size,0,none⟩=false)/\(A.cell? ⟨W.heap.size,1,none⟩=some (.slice none 0 0)/\A.frozen? ⟨W.heap.size,1,none⟩=false)/\A.cell? ⟨W.heap.size,2,none⟩=some (.int .i64 0)/\A.frozen? ⟨W.heap.size,2,none⟩=false:=⟨gA E rfl,gA E rfl,gA E rfl⟩;have AE:W.heap.size<A.heap.size:=(ax.1 E).1;have J:=ae (YZ (b:=false) (a:=none) (k:=0) (d:=0) (x:=0) E);clear E;rw [pn];go_wp2_with fail;generalize World.setCell _ _ _=wy at J⊢;subst T8;have T':Fr (· =W.heap.size) A wy:=J.out.2;refine Y0 (q:=W.heap.size) rfl rfl rfl ((dI _ _ _ (az AE T'.size)).trans J.out.1) (TW _) ((Fr.jq (I.out.2.2.trans (T'.nJ (fun k N e=>by omega) I.out.2.2.size))).alloc _)
   ·clear E
    go_wp2_with fail;have BZ:Below A.heap.size A (A.alloc (.cells #[.bool (decide (l.m<0)),.slice a5 k5 c5,.int .i64 l.e,.bool (decide (l.n<0)),.slice b5 l5 d5,.int .i64 l.f] 71)):=(aH _ _).alloc (aq _) _;have Z:(A.alloc (.cells #[.bool (decide (l.m<0)),.slice a5 k5 c5,.int .i64 l.e,.bool (decide (l.n<0)),.slice b5 l5 d5,.int .i64 l.f] 71)).heap[A.heap.size]? =some _:=heap_alloc_new A _;refine (aDZ T.out.1.2.2 (GO HX.out.2.2.1 (I.out.2.2.trans (BZ.mono I.out.2.2.size))) (x:= .agg #[.bool (decide (l.m<0)),.slice a5 k5 c5,.int .i64 l.e,.bool (decide (l.n<0)),.slice b5 l5 d5,.int .i64 l.f]) (by
     obtain ⟨u1,u2,e,n1,n2⟩:=HIv.out;exact ⟨u1,u2,e,n1.below BZ,n2.below BZ⟩)).mono ?_
    rintro e D ⟨X,k6,c6,rfl,hn6,hB6⟩;have Y1:=BZ.trans (hB6.mono BZ.size);have amm:=(hB6.block _ (ax.1 Z).1).trans Z;have O:=ae (show Below w4.heap.size w4 D/\Below M.heap.size M D/\Below W.heap.size W D from ⟨I.out.1.trans (Y1.mono I.out.1.size),I.out.2.1.trans (Y1.mono I.out.2.1.size),I.out.2.2.trans (Y1.mono I.out.2.2.size)⟩);have U:=ae (af amm hn6);clear BZ Z hn6 hB6 Y1 amm;by_cases Q:l.s=0/\C.b=true
    ·have T8:r=(C.m,C.e,0):=by rw [<-T.out.2.1,GY,if_neg pn,if_pos Q];rfl
     rw [Q.1,Q.2];have hbm:bm<W.heap.size:=(ax.1 HM.out).1;have Y2:Below D.heap.size D (D.alloc (.cells #[.bool (decide (C.m<0)),.slice X k6 c6,.int .i64 C.e] 39)).drew:=((aH _ _).alloc (aq _) _).drew;have Y3:Below W.heap.size W (D.alloc (.cells #[.bool (decide (C.m<0)),.slice X k6 c6,.int .i64 C.e] 39)).drew:=O.out.2.2.trans (Y2.mono O.out.2.2.size);obtain ⟨wC,iY,Ua⟩:=aD6 ((Y3.block _ hbm).trans HM.out) HID.out (.agg #[.int .i64 id,.int .i64 x,.bool (decide (l.m<0)),.slice a5 k5 c5,.int .i64 l.e,.bool (decide (l.n<0)),.slice b5 l5 d5,.int .i64 l.f]);have v0:=(gA (k:=0) U.out.1 rfl).1;have v1:=(gA (k:=1) U.out.1 rfl).1;have v2:=(gA (k:=2) U.out.1 rfl).1;have v3:=(gA (k:=3) U.out.1 rfl).1;have v4:=(gA (k:=4) U.out.1 rfl).1;have v5:=(gA (k:=5) U.out.1 rfl).1;have Ga:A.heap.size<D.heap.size:=ak D _ v0;have hcB:D.cell? ⟨pc,0,none⟩=some (.map (some bm)):=(O.out.2.2.cell (p:=⟨pc,0,none⟩) hpc).trans hc;have hpB:pc<D.heap.size:=ak D _ hcB;have hdB:(D.alloc (.cells #[.bool (decide (C.m<0)),.slice X k6 c6,.int .i64 C.e] 39)).drew.heap[D.heap.size]? =some (.cells #[.bool (decide (C.m<0)),.slice X k6 c6,.int .i64 C.e] 39 (0,0)):=heap_alloc_new D _;have Y4:=(Ua.block _ (ax.1 hdB).1 (fun e=>by have:=O.out.2.2.size;omega)).trans hdB;have Y:(D.alloc (.cells #[.bool (decide (C.m<0)),.slice X k6 c6,.int .i64 C.e] 39)).drew.heap[W.heap.size]? =some (.cells #[.bool false,.slice none 0 0,.int .i64 0] 39 (0,0)):=(Y2.block _ (az H.out.2.2 O.out.2.1.size)).trans ((O.out.2.1.block _ H.out.2.2).trans H.out.2.1);have Pp:=(Ua.block _ (ax.1 Y).1 (fun e=>by omega)).trans Y;have q0:=(gA (k:=0) Y4 rfl).1;have q1:=(gA (k:=1) Y4 rfl).1;have q2:=(gA (k:=2) Y4 rfl).1;obtain ⟨x0,y0⟩:=gA (k:=0) Pp rfl;obtain ⟨x1,y1⟩:=gA (k:=1) Pp rfl;obtain ⟨x2,y2⟩:=gA (k:=2) Pp rfl;have aEa:W.heap.size<wC.heap.size:=ak wC _ x0;have aFY:D.heap.size<wC.heap.size:=ak wC _ q0;have J:=ae (YZ (b:=decide (C.m<0)) (a:=X) (k:=k6) (d:=c6) (x:=C.e) Pp);have hWC:Fr (· =bm) W wC:=(Fr.jq Y3).trans Ua (fun k N e=>e);have hnC:dL wC (.slice X k6 c6) C.m.natAbs:=by
      have n1:=U.out.2.below Y2;refine BQ (S:=(· =bm)) n1 (fun k N hS=>Ua.block k N hS) (fun a z ha=> ?_);have e:=(Y3.block _ hbm).trans HM.out;intro c;have ha:a.block=bm:=ha;simp only [World.cell?,ha,e] at c;cases c
     have HN:=ae (af hWC (af hnC Pp));clear Y2 Y3 Ua hdB Y4 Y Pp hWC hnC hbm Q;simp only at iY⊢;go_wp2_with fail;go_region
     all_goals
      go_wp2_with fail;generalize World.setCell _ _ _=wy at J⊢;subst T8;have T':Fr (· =W.heap.size) wC wy:=J.out.2;refine Y0 (q:=W.heap.size) rfl rfl rfl J.out.1 (BQ (S:=(· =W.heap.size)) HN.out.2.1 (fun k N hS=>T'.block k N hS) (fun a z ha=>aD7 HN.out.2.2 a z ha)) (HN.out.1.trans T' (fun k N e=>by omega))
    ·have o:pB F ((lU (p+8) u).drop (j+1))=r:=by
      have q:=T.out.2.1;rw [GY,if_neg pn,if_neg Q] at q;exact q
     have HEV:=ae o;clear o;obtain ⟨ss,zo⟩:=pQ l.s;obtain ⟨bb,jU⟩:=pQ C.b;rw [zo,jU] at Q;rw [zo] at pn⊢;rw [jU];clear zo jU;by_cases h0:ss=0
     ·have hb:bb=false:=by cases bb;rfl;exact absurd ⟨h0,rfl⟩ Q
      subst h0;subst hb;clear Q pn;go_wp2_with fail;go_roundw
      case rel=>exact ⟨j+1,by go_num,by have:=T.out.2.2.1;omega,O.out.1.alloc O.out.1.size _,HEV.out⟩
      case measure=>have:=T.out.2.2.1;simp [intOf];omega
     ·clear Q
      go_wp2_with fail;go_roundw
      case rel=>exact ⟨j+1,by go_num,by have:=T.out.2.2.1;omega,O.out.1.alloc O.out.1.size _,HEV.out⟩
      case measure=>have:=T.out.2.2.1;simp [intOf];omega
  ·have hje:j=u:=by omega
   subst hje;have T8:r=(0,0,12):=by
    rw [<-o,List.drop_eq_nil_of_le (by rw [YX];omega)];rfl
   obtain ⟨⟨x0,y0⟩,⟨x1,y1⟩,x2,y2⟩:(wr.cell? ⟨W.heap.size,0,none⟩=some (.bool false)/\wr.frozen? ⟨W.heap.size,0,none⟩=false)/\(wr.cell? ⟨W.heap.size,1,none⟩=some (.slice none 0 0)/\wr.frozen? ⟨W.heap.size,1,none⟩=false)/\wr.cell? ⟨W.heap.size,2,none⟩=some (.int .i64 0)/\wr.frozen? ⟨W.heap.size,2,none⟩=false:=⟨gA E rfl,gA E rfl,gA E rfl⟩;have AE:W.heap.size<wr.heap.size:=(ax.1 E).1;clear Po hj o T6 T7 Pn E;have J:=ae (YZ (b:=false) (a:=none) (k:=0) (d:=0) (x:=0) P.out.2.2.2);go_wp2_with fail;generalize World.setCell _ _ _=wz at J⊢;subst T8;refine Y0 (q:=W.heap.size) rfl rfl rfl J.out.1 (TW wz) (Fr.jq (P.out.2.2.1.trans (J.out.2.nJ (fun k N e=>by omega) P.out.2.2.1.size)))
def aEb (F:iI W B p0 v m L) (G:L.length<=4000) (hi:i<0\/(L.length:Int)<=i) (bm:Nat):
 Calls prog 12 #[ptr pc,ptr p0,.int .i64 i,.int .i64 p,.int .i64 f] W (YY W bm (0,0,1)):=by
 have D:=ae (fun I h=>aD3 (W:=I) (F.below h) G hi);clear F G hi;unfold ptr at D⊢;go_enter func12,ntmps12;go_wp2_with fail;obtain ⟨o,s⟩:=pQ (W.alloc (.cells #[.bool false,.slice none 0 0,.int .i64 0] 39));have E:Below W.heap.size W o:=by rw [<-s];exact (aH _ W).alloc (aq _) _
 have z:o.heap[W.heap.size]? =some (.cells #[.bool false,.slice none 0 0,.int .i64 0] 39 (0,0)):=by rw [<-s];exact heap_alloc_new W _
 have A:W.heap.size<o.heap.size:=(ax.1 z).1;have g:=ae (af E (af z A));rw [s];clear E z A s;refine (D.out o g.out.1).mono ?_;rintro e H ⟨rfl,y⟩;have j:=(y.block _ g.out.2.2).trans g.out.2.1;have l:=g.out.1.trans (y.mono g.out.1.size);obtain ⟨N,R⟩:=gA (k:=0) j rfl;obtain ⟨P,S⟩:=gA (k:=1) j rfl;obtain ⟨Q,T⟩:=gA (k:=2) j rfl;have J:W.heap.size<H.heap.size:=ak H _ N;have u:=ae (YZ (b:=false) (a:=none) (k:=0) (d:=0) (x:=0) j);have C:=ae l;clear y l j;go_wp2_with fail;generalize World.setCell _ _ _=M at u⊢;exact Y0 (q:=W.heap.size) (r:=(0,0,1)) rfl rfl rfl u.out.1 (TW M) (Fr.jq (C.out.trans (u.out.2.nJ (fun k O e=>by omega) C.out.size)))
end
section
open Go.Proofs.Tryz Go Go.RowKit
variable {w:World} {v v':Value} {n:Nat} {l:List Nat} {b:Bool}
def amn: ∀ {l m:List Nat},j5 l->j5 m->l.length=m.length->val l=val m->l=m
 | [],[],_,_,_,_=>rfl
 | [],_::_,_,_,h,_=>by simp at h
 |_::_,[],_,_,h,_=>by simp at h
 |x::l,y::m,d,e,j,f=>by
  have k:=d x (aE ..);have o:=e y (aE ..);have f:x+4294967296*val l=y+4294967296*val m:=f;have g:x=y:=by omega
  have i:val l=val m:=by omega
  rw [g,amn (fun z a=>d z (aw _ a)) (fun z a=>e z (aw _ a)) (by simp_all) i]
def aEc {w':World} (h:dL w v n) (h':dL w' v' n): ∃l,g7 w v l/\g7 w' v' l:=by
 obtain ⟨l,f,g,a⟩:=h;obtain ⟨m,b1,i,d⟩:=h';have e:l=m:=amn f.2 b1.2 (Nat.le_antisymm (Nn g (a.trans d.symm) b1.2) (Nn i (d.trans a.symm) f.2)) (a.trans d.symm);grind
def amo (h:g7 w v l) {i:Nat} (hi:i<l.length):Calls prog 148 #[v,.int .i64 i] w fun e q=>e= .returned (.int .u64 ((l.getD i 0:Nat):Int))/\q=w:=by
 obtain ⟨⟨m,f⟩,g⟩:=h;rcases f with ⟨_,f⟩|⟨a,cap,rfl,p,y,k⟩
 ·omega
 ·obtain ⟨x,d⟩:=pQ (l.getD i 0)
  have hc:w.cell? (a.add i)=some (.int .u32 (x:Int)):=by
   refine k i _ ?_;rw [rb,dA,aM hi,<-d,aD,aM hi];rfl
  have o:x<4294967296:=by
   rw [<-d,aD,aM hi];exact g _ (eU hi)
  obtain ⟨n,j⟩:=pQ l.length;rw [d];rw [j] at hi p⊢;have t:(0:Int)<=(i:Int):=by omega
  have u:(i:Int)<(n:Int):=by omega
  have s:IntKind.u64.wrap (x:Int)=(x:Int):=by
   exact wraps_u64 _ (by omega) (by omega)
  clear m g k d j;go_enter func148,ntmps148;go_wp2_with fail;go_ret;exact ⟨rfl,rfl⟩
def aEd (h:g7 w v l) (h':g7 w v' l):Calls prog 96 #[v,v'] w fun e s=>e= .returned (.int .i64 0)/\s=w:=by
 have f:=ae (fun (i:Nat) j=>amo h (i:=i) j);have g:=ae (fun (i:Nat) j=>amo h' (i:=i) j);obtain ⟨a,c,_,rfl,_,_,p,_⟩:=h.form;obtain ⟨u,x,_,rfl,_,_,_,_⟩:=h'.form;obtain ⟨n,m⟩:=pQ l.length;have t:=ae m;rw [m] at p f g⊢;unfold maxLen at p;clear h h' m;go_enter func96,ntmps96;go_wp2_with fail;go_loopw [5] (fun iv wr=>wr=w/\ ∃i:Int,iv= .int .i64 i/\ -1<=i/\i<(n:Int)) (fun iv _=>(intOf iv+1).toNat)
 case atStart=>exact ⟨rfl,(n:Int)-1,by simp,by omega,by omega⟩
 case round=>
  obtain ⟨rfl,i,rfl,z,A⟩:=hrel;by_cases y:0<=i
  ·obtain ⟨k,rfl⟩: ∃k:Nat,i=(k:Int):=⟨i.toNat,by omega⟩
   have q:k<n:=by omega
   have d:=ae q;go_wp2_with fail;refine (f.out k d.out).mono ?_;rintro e o ⟨rfl,rfl⟩;go_wp2_with fail;refine (g.out k d.out).mono ?_;rintro e o ⟨rfl,rfl⟩;go_wp2_with fail;refine (f.out k d.out).mono ?_;rintro e o ⟨rfl,rfl⟩;go_wp2_with fail;refine (g.out k d.out).mono ?_;rintro e o ⟨rfl,rfl⟩;go_wp2_with fail;go_roundw
   case rel=>exact ⟨by trivial,(k:Int)-1,by first|rfl|go_num,by omega,by omega⟩
   case measure=>first|(simp [intOf];done)|(simp [intOf];omega)
  ·have:i= -1:=by omega
   subst this;go_wp2_with fail;go_ret;exact ⟨rfl,rfl⟩
def aEe (h:g7 w v l) (h':g7 w v' l):Calls prog 55 #[v,v'] w fun e f=>e= .returned (.bool true)/\f=w:=by
 have d:=ae (aEd h h');obtain ⟨a,c,_,rfl,_,_,_,_⟩:=h.form;obtain ⟨g,i,_,rfl,_,_,_,_⟩:=h'.form;clear h h';go_enter func55,ntmps55;go_wp2_with fail;refine d.out.mono ?_;rintro e j ⟨rfl,rfl⟩;go_wp2_with fail;go_ret;exact ⟨rfl,rfl⟩
def aEf (h:dL w v n) (h':dL w v' n):Calls prog 28 #[.agg #[.bool b,v],.agg #[.bool b,v']] w fun e d=>e= .returned (.bool true)/\Below w.heap.size w d:=by
 obtain ⟨l,f,g⟩:=aEc h h';have j:=ae (fun d i=>aEe (w:=d) (f.below i) (g.below i));obtain ⟨a,k,c,rfl,_⟩:=h.form;obtain ⟨m,p,o,rfl,_⟩:=h'.form;clear h h' f g;go_enter func28,ntmps28;go_wp2_with fail;refine (j.out _ (((aH _ _).alloc (aq _) _).alloc (by simp) _)).mono ?_;rintro e q ⟨rfl,rfl⟩;go_wp2_with fail;go_ret;exact ⟨rfl,((aH _ _).alloc (aq _) _).alloc (by simp) _⟩
def aEg {x:Int} (h:dL w v n) (h':dL w v' n):Calls prog 13 #[.agg #[.bool b,v,.int .i64 x],.agg #[.bool b,v',.int .i64 x]] w fun e f=>e= .returned (.bool true)/\Below w.heap.size w f:=by
 have i:=ae (fun f d=>aEf (w:=f) (b:=b) (h.below d) (h'.below d));obtain ⟨a,k,c,rfl,_⟩:=h.form;obtain ⟨j,o,m,rfl,_⟩:=h'.form;clear h h';go_enter func13,ntmps13;go_wp2_with fail;refine (i.out _ (((aH _ _).alloc (aq _) _).alloc (by simp) _)).mono ?_;rintro e p ⟨rfl,d⟩;have g:=ae ((((aH w.heap.size w).alloc (aq _) _).alloc (by simp) _).trans (d.mono (by simp;omega)));clear d;go_wp2_with fail;go_ret;exact ⟨rfl,g.out⟩
end
section
open Go.Proofs.Tryz Go Go.RowKit Go.Ev
variable {w w5:World} {p f P:Int} {B pg:Nat} {v m:Value} {L:List b8}
def aEh (a:Option Addr) (n c:Nat) (w:World) (d:n<=9223372036854775807):
 Calls prog 5 #[.slice a n c] w fun e b=>e= .returned (.bool (decide (n<=120)))/\b=w:=by
 go_enter func5,ntmps5;go_wp2;go_ret;refine ⟨?_,rfl⟩;simp
 try omega
def amp :Calls prog 11 #[] w fun e b=> ∃h a,e= .returned (ptr h)/\b.cell? ⟨h,0,none⟩=some (.map (some a))/\b.heap[a]? =some (.map #[] 0)/\w.heap.size<=a/\Below w.heap.size w b:=by
 have i:= @run_makeMap prog;go_enter func11,ntmps11;go_wp2_with fail;go_ret;have d:Below w.heap.size w (w.alloc (.map #[] 0)):=(aH _ w).alloc (aq _) _;have g:=heap_alloc_new (w.alloc (.map #[] 0)) (.cells #[.map (some w.heap.size)] 67);refine ⟨_,w.heap.size,rfl,?_,(dI _ _ _ (by simp)).trans (heap_alloc_new w _),aq _,d.alloc d.size _⟩;rw [uS] at g;exact (gA g rfl).1
def aEi {F:Int->Oc×Dq} {x:Int} {k a:Nat} (b:k<=a):(pB F (lU x k)=(0,0,12)/\((pB F (lU x a)).2.2=0\/(pB F (lU x a)).2.2=11\/(pB F (lU x a)).2.2=12))\/(pB F (lU x a)=pB F (lU x k)/\((pB F (lU x k)).2.2=0\/(pB F (lU x k)).2.2=11)):=by
 obtain ⟨l,d⟩:=aDW x b;rw [d];have e: ∀m,(pB F m).2.2=0\/(pB F m).2.2=11\/(pB F m).2.2=12:=fun m=>by
  rcases adX F m with h|h|h
  all_goals grind
 rcases amk F l (lU x k) with h|h
 ·simp_all
 ·rcases adX F (lU x k) with q|q|q
  all_goals grind
def Y5 (l:0<=p): ∃k,Lk p f k:=by
 have h: ∃k:Nat,f<2^k*(p+8):=by
  refine ⟨f.toNat,?_⟩;have a:(f.toNat:Int)<2^f.toNat:=by
   have:=Nat.lt_two_pow_self (n:=f.toNat);grind
  have i:(2:Int)^f.toNat*1<=2^f.toNat*(p+8):=fE (by omega) (cX (eC (by decide)));omega
 obtain ⟨k,b⟩:=h
 induction k with
 |zero=>exact ⟨0,fun j d=>by omega,b⟩
 |succ k g=>
  by_cases e:f<2^k*(p+8)
  ·exact g e
  ·refine ⟨k+1,fun j d=> ?_,b⟩
   have a:(2:Int)^j<=2^k:=by
    have:=aG (n:=2) (by decide) (show j<=k by omega);grind
   have:=bN a (show 0<=p+8 by omega);omega
def OkR (r a:Int×Int×Int):Prop:=(r=(0,0,12)/\(a.2.2=0\/a.2.2=11\/a.2.2=12))\/(a=r/\(r.2.2=0\/r.2.2=11\/r.2.2=1))
def ad1 (w5:World) (pg:Nat) (iv P:Int) (R:Int->Int×Int×Int):Prop:=(∀(b:World) (g e:Nat) (a:Int),Below w5.heap.size w5 b->b.cell? ⟨g,0,none⟩=some (.map (some e))->b.heap[e]? =some (.map #[] 0)->0<=a->a<=4096->
 Calls prog 12 #[ptr g,ptr pg,.int .i64 iv,.int .i64 P,.int .i64 a] b (YY b e (R a)))/\ ∀a d,0<=a->a<=d->d<=4096->OkR (R a) (R d)
def aEj (u:iI w5 B pg v m L) (i:GI L) (j:NN L) (k:L.length<=4000) {id:Nat} (hi:id<L.length) (t:pz w5) (z:bw w5) (a:0<=P) (l:P<=512:=by omega): ∃R,ad1 w5 pg id P R:=by
 obtain ⟨F,s⟩:=aDU i j k hi a l;refine ⟨fun b=>pB F (lU (P+8) (Classical.choose (Y5 (f:=b) a))),fun E D A b e hc y g d=> ?_,fun b o g d C=> ?_⟩
 ·exact aD8 (u.below e) i j k hi (t.below e) (GO z e) hc y a l g d s (eY (Y5 (f:=b) a))
 ·rcases aEi (F:=F) (x:=P+8) (aDY (eY (Y5 (f:=b) a)) (eY (Y5 (f:=o) a)) d) with h|h
  ·exact .inl h
  ·exact .inr ⟨h.1,h.2.imp (fun q=>q) .inl⟩
def aEk (d:iI w5 B pg v m L) (e:L.length<=4000) {i:Int} (hi:i<0\/(L.length:Int)<=i):ad1 w5 pg i P fun _=>(0,0,1):=
 ⟨fun _ _ a _ b _ _ _ _=>aEb (d.below b) e hi a,fun _ _ _ _ _=> .inr ⟨rfl,.inr (.inr rfl)⟩⟩
def aEl {b:Nat} {es cl} (h:w.heap[b]? =some (.map es cl)) (p:Addr) (x:Int) (a:p.block=b):w.cell? p≠some (.int .u32 x):=fun c=>by
 simp only [World.cell?,a,h] at c;cases c
def aEm (h:pz w): ∀g l,yY g=some l->g<w.heap.size:=fun g l b=>by
 obtain ⟨a,e,d,i⟩:=h g l b;grind
def aEn {W:World} {a:Option Addr} {n c:Nat} (hv:n<=9223372036854775807) (u:n<=120->TL W (.slice a n c) n) {m:Int} (hp: -9223372036854775808<=p) (hf: -9223372036854775808<=f) (hm: -9223372036854775808<=m) (hT:pz W) (zT:bw W)
 (hA:Calls prog 4 #[] W fun e w'=>e= .returned (.bool true)/\Below W.heap.size W w'):
 Calls prog 3 #[.slice a n c,.int .i64 p,.int .i64 f,.int .i64 m] W fun e w'=>e= .returned (.bool true)/\Below W.heap.size W w':=by
 have g:=ae (af hv (af u (af hT (af zT (af hA (af hp (af hf hm)))))));clear hv u hT zT hA hp hf hm;go_enter func3,ntmps3;go_wp2_with fail;refine g.out.2.2.2.2.1.mono ?_;rintro e w1 ⟨rfl,bW⟩;have dh:=ae bW;clear bW;go_wp2_with fail;refine (aEh a n c w1 g.out.1).mono ?_;rintro e O ⟨rfl,rfl⟩;by_cases u:n<=120
 ·rw [decide_eq_true u]
  have hN:TL O (.slice a n c) n:=by
   obtain ⟨H,a',c',e,d⟩:=g.out.2.1 u;refine ⟨H,a',c',e,fun j hj=> ?_⟩;obtain ⟨b,x,hb,hx,hc⟩:=d j hj;exact ⟨b,x,hb,hx,(dh.out.cell (ak W _ hc)).trans hc⟩
  have HN:=ae hN;clear hN u;go_wp2_with fail;refine (aBn rfl).mono ?_;rintro e w2 ⟨rfl,ht,lr⟩;have HM:=ae (show py O w2 O.heap.size (.slice a n c) n 0 from ⟨ht,HN.out.OX (aq _),aq _,lr.below⟩);clear ht lr;go_wp2_with fail;refine (aCr HM.out (by decide) (by decide) true).mono ?_;rintro e w3 ⟨lv,L,kk,rfl,J⟩;have qR:=J.row;rw [im] at qR;have U:=ae (af qR (af J.pos (show L.length<=15 by have:=J.len;omega)));have HK:=ae (show∀i,i<L.length->px (L.getD i fS)/\xS true i (L.getD i fS) from fun i hi=>⟨J.lz _ (by rw [aD,aM hi];exact eU hi),by have:=J.Jx i hi;rw [fo,cV] at this;exact this⟩);have N:=ae (dh.out.trans (J.E3.below.mono dh.out.size));obtain ⟨la,lc,rfl⟩:=qR.slice;clear J qR;go_wp2_with fail;refine alH.mono ?_;rintro e w4 ⟨pg,bg,rfl,g1,g2,g3,g4,nf⟩;have Z:=ae (af g1 (af g2 (af g3 g4)));have qk:=ae nf;have HT4:=ae (g.out.2.2.1.below (N.out.trans (nf.mono N.out.size)));clear g1 g2 g3 g4 nf;unfold ptr;go_wp2_with fail;refine (aC8 (G:= []) Z.out.1 Z.out.2.1 qk.out.size Z.out.2.2.1 Z.out.2.2.2 YL (by simp) (jE.frame (S:=fun _=>False) U.out.1 (Fr.jq qk.out) (fun _ _ e=>e)) (fun k hk=>LU U.out.1.own hk) U.out.2.1 (by have:=U.out.2.2;omega) HK.out HT4.out (aEm (g.out.2.2.1.below N.out))).mono ?_;intro e w5 h5;have amq:0<=p % 40/\p % 40<40:=by omega
  obtain ⟨iv,ev,R,rfl,y,hE⟩: ∃(iv ev:Int) (R:Int->Int×Int×Int),e= .returned (.tuple #[.int .i64 iv,.int .i64 ev])/\Below w3.heap.size w4 w5/\ad1 w5 pg iv (p % 40) R:=by
   rcases h5 with ⟨rfl,y⟩|⟨v5,rfl,L4,_,y⟩
   ·exact ⟨0,1,_,rfl,y.mono qk.out.size,aEk (Z.out.1.below y) (by simp) (.inr (by simp))⟩
   ·have hI:=TQ YL (adA rfl HK.out) L.length (aq _)
    have hN:=adz (G:= []) (o:=id) (n:=L.length) (fun i hi=>absurd hi (gJ _)) (fun j hj=>(HK.out j hj).2.nn rfl) L.length (aq _);have Ba:=hI.toX (L.length-1) (by have:=U.out.2.1;omega);simp only [id_eq] at Ba;have xV:=hI.hi;rw [fo,cV] at xV;have aEo:Below w3.heap.size w3 w5:=qk.out.trans y;have Uc:Below W.heap.size W w5:=N.out.trans (aEo.mono N.out.size);obtain ⟨R,hR⟩:=aEj L4 hI.gi hN (by have:=U.out.2.2;omega) (id:=((fF L [] id L.length).2 ((L.length-1:Nat):Int)).toNat) (by omega) (g.out.2.2.1.below Uc) (GO g.out.2.2.2.1 Uc) amq.1;rw [jX Ba.1] at hR;exact ⟨_,0,R,rfl,y,hR⟩
  have HE:=ae hE;have CG:=ae (N.out.trans ((qk.out.trans y).mono N.out.size));obtain ⟨P,hP⟩:=pQ (p % 40);obtain ⟨h,Rt⟩:=pQ (f % 150);obtain ⟨M,Rx⟩:=pQ (m % 150);rw [hP] at HE;have s:=ae (show 0<=h/\h<150/\0<=M/\M<150 by omega);have D:=ae (af hP (af Rt Rx));have Y6:=ae (HE.out.2 h (h+M) (by have:=s.out;omega) (by have:=s.out;omega) (by have:=s.out;omega));clear h5 amq y hE hP Rt Rx;go_wp2_with fail;refine (Yi p 40 (by decide) (by decide) g.out.2.2.2.2.2.1 w5).mono ?_;rintro e w5' ⟨rfl,rfl⟩;rw [D.out.1];go_wp2_with fail;refine (Yi f 150 (by decide) (by decide) g.out.2.2.2.2.2.2.1 w5').mono ?_;rintro e w5 ⟨rfl,rfl⟩;rw [D.out.2.1];go_wp2_with fail;refine amp.mono ?_;rintro e w6 ⟨pc,bm,rfl,hc6,JD,hl6,Bk⟩;have yy:=ae (af Bk hl6);have Y:=ae (af hc6 JD);clear hc6 JD hl6 Bk;unfold ptr;go_wp2_with fail;refine (HE.out.1 w6 pc bm h yy.out.1 Y.out.1 Y.out.2 s.out.1 (by have:=s.out;omega)).mono ?_;rintro e Q ⟨a7,k7,c7,rfl,Ud,RA⟩;have Ek:Below w5.heap.size w5 Q:=yy.out.1.trans (RA.nJ (fun k hk e=>by have:=yy.out.2;omega) yy.out.1.size);have Ue:=ae (af Ud Ek);clear Ud RA Ek;obtain ⟨r1,jd⟩:=pQ (R h);rw [jd] at Y6 Ue;rw [jd];obtain ⟨r2,Cb⟩:=pQ (R (h+M));rw [Cb] at Y6;have AQ:=ae Cb;clear jd Cb;obtain ⟨x1,y1,s1⟩:=r1;go_wp2_with fail;have l:=heap_alloc_new Q (.cells #[.bool (decide (x1<0)),.slice a7 k7 c7,.int .i64 y1] 39);have o7:Below Q.heap.size Q (Q.alloc (.cells #[.bool (decide (x1<0)),.slice a7 k7 c7,.int .i64 y1] 39)):=(aH _ _).alloc (aq _) _;refine amp.mono ?_;rintro e w8 ⟨pc2,F,rfl,hc8,hm8,I,pj⟩;have l:=(pj.block _ (ax.1 l).1).trans l;have E:=o7.trans (pj.mono o7.size);have t:=ae (af (Ue.out.2.trans (E.mono Ue.out.2.size)) (af (Ue.out.1.below E) (af l (show Q.heap.size+1<=F by rw [uS] at I;exact I))));have C:=ae (af hc8 hm8);clear l o7 E hc8 hm8 I pj;unfold ptr;go_wp2_with fail;refine (Yi m 150 (by decide) (by decide) g.out.2.2.2.2.2.2.2 w8).mono ?_;rintro e w8' ⟨rfl,rfl⟩;rw [D.out.2.2];have hfm:IntKind.i64.wrap (h+M)=h+M:=wrap_small _ (by have:=s.out;omega) (by have:=s.out;omega);go_wp2_with fail;refine (HE.out.1 w8' pc2 F (h+M) t.out.1 C.out.1 C.out.2 (by have:=s.out;omega) (by have:=s.out;omega)).mono ?_;rw [AQ.out];rintro e A ⟨a9,k9,c9,rfl,Dn,Ay⟩;have l:=(Ay.block _ (ax.1 t.out.2.2.1).1 (fun e=>by have:=t.out.2.2.2;omega)).trans t.out.2.2.1;have Ud:=BQ (S:=(· =F)) t.out.2.1 (fun k hk hS=>Ay.block k hk hS) (fun q z hq=>aEl C.out.2 q z hq);have Bl:Below w5.heap.size w5 A:=t.out.1.trans (Ay.nJ (fun k hk e=>by have:=t.out.2.2.2;have:=Ue.out.2.size;omega) t.out.1.size);have Uc:Below W.heap.size W A:=CG.out.trans (Bl.mono CG.out.size);have v0:=(gA (k:=0) l rfl).1;have v1:=(gA (k:=1) l rfl).1;have v2:=(gA (k:=2) l rfl).1;have Ga:Q.heap.size<A.heap.size:=ak A _ v0;have T:=ae (af Ud (af Dn Uc));clear l Ud Dn Bl Uc Ay hfm;obtain ⟨x2,y2,s2⟩:=r2;have j6:=Y6.out;clear Y6;rcases j6 with ⟨H,d⟩|⟨H,d⟩
  ·simp only [ke] at H
   obtain ⟨rfl,rfl,rfl⟩:=H;have Uf: ∀o,Below W.heap.size W (A.alloc o):=fun o=>T.out.2.2.alloc T.out.2.2.size o
   have X:=ae Uf;clear v0 v1 v2 Uf;rcases d with d|d|d
   all_goals
    obtain rfl:s2=_:=d;go_wp2_with fail;go_ret;exact ⟨rfl,X.out _⟩
  ·simp only [ke] at H
   obtain ⟨rfl,rfl,rfl⟩:=H;have Uf: ∀o,Below A.heap.size A (A.alloc o):=fun o=>(aH _ _).alloc (aq _) o
   have X:=ae Uf;clear Uf;rcases d with d|d|d
   all_goals
    obtain rfl:s2=_:=d;go_wp2_with fail;refine (aEg (T.out.1.below (X.out _)) (T.out.2.1.below (X.out _))).mono ?_;rintro e wz ⟨rfl,G7⟩;have HZ:=ae (T.out.2.2.trans (((X.out _).trans (G7.mono (X.out _).size)).mono T.out.2.2.size));clear G7;go_wp2_with fail;go_ret;exact ⟨rfl,HZ.out⟩
 ·rw [decide_eq_false u]
  clear u;go_wp2_with fail;go_ret;exact ⟨rfl,dh.out⟩
end
end Go.Proofs.YtnmpjdgobafdkaaGreatDoor
