/- refineFuel_proved. -/
import Derived.Test.YtnmpjdgobafdkaaGreatDoorPmbo
set_option maxRecDepth 100000
set_option maxHeartbeats 16000000
set_option linter.all false
noncomputable section
namespace Go.Proofs.YtnmpjdgobafdkaaGreatDoor
section
open Go Go.RowKit Go.Ev
variable {w wr Wb:World} {n g i B k q sc j d:Nat} {l:List Oc} {L:List b8} {sa a b:Option Addr} {v:Value} {o:Oc}
def adQ (L:List b8) (id:Nat) (w:Int) (o:Oc):Prop:= ∀(W:World) (B p:Nat) (v m:Value),iI W B p v m L->pz W->bw W->Calls Tryz.prog 27 #[ptr p,.int .i64 id,.int .i64 w] W fun e h=> ∃a k c b l d,e= .returned (.tuple #[GV o a k c b l d,.int .i64 o.s])/\nB o.m o.e o.n o.f h (GV o a k c b l d)/\Below W.heap.size W h
def YQ {S:Nat->Prop} (h:bw w) (p:Below w.heap.size w wr) (t: ∀k,S k->w.heap.size<=k):jh S wr bw:=fun u f j s=>by
 have m:=ak w _ (h j s);exact (World.cell?_of_block ((f _ (az m p.size) fun e=>by grind).trans (p.block _ m))).trans (h j s)
def aDz {l:List Rs} (h:w.ownsRow B 3 1 (.slice sa n sc) n (ints (l.map Rs.s))) (m:l.length=n) (hi:i<n): ∃f,sa=some ⟨f,0,none⟩/\w.cell? ⟨f,i,none⟩=some (.int .i64 (l.getD i eH).s):=by
 obtain ⟨f,c,e,_⟩:=OE h;cases e;refine ⟨f,rfl,?_⟩;rw [h.cellAt i (by omega),OH (by simp_all),aD,dA,aD,aM (by omega)];rfl
def amc: ∀(R:List Value),(∀j,j<R.length->(nK (R.getD j (.bool false))).length=3)-> ∀i,i<R.length-> ∀k,k<3->(R.flatMap nK)[i*3+k]? =(nK (R.getD i (.bool false)))[k]?
 | [],_,i,e,_,_=>by simp at e
 |x::R,h,0,_,k,f=>by
  grind
 |x::R,h,i+1,e,k,f=>by
  have m:=h 0 (by simp);have s:=amc R (fun j p=>h (j+1) (by simp_all)) i (by simp_all) k f;grind
def aDA {E:World} {N:List (Value×Int×Nat)} {R:List Value} {O:List Int} {C:Option Addr} {D:Nat} {l:List Rs} (h:oB E w N R O (.slice C n D) (.slice sa n sc) []) (G:R.length=n) (z: ∀j,j<R.length->(R.getD j (.bool false),(l.getD j eH).p,(l.getD j eH).q)∈N) (hi:i<n):
 ∃f m x c1 s y t,C=some ⟨f,0,none⟩/\(w.cell? ⟨f,i*3,none⟩=some (.bool (decide ((l.getD i eH).p<0)))/\w.cell? ⟨f,i*3+1,none⟩=some (.slice m x c1)/\w.cell? ⟨f,i*3+2,none⟩=some (.slice s y t))/\jh (TS (.slice C n D) (.slice sa n sc)) w fun P=>sI (l.getD i eH).p (l.getD i eH).q P (.agg #[.bool (decide ((l.getD i eH).p<0)),.slice m x c1,.slice s y t]):=by
 have A:=h.vD;rw [G] at A z;have F: ∀j,j<R.length->(nK (R.getD j (.bool false))).length=3:=fun j Q=>by
  obtain ⟨u,d,e,_⟩:=h.nat _ (z j (by omega)) w fun _ _ _=>rfl
  have e:R.getD j (.bool false)=_:=e;rw [e];rfl
 obtain ⟨f,c,e,_⟩:=OE A;cases e;have I:=h.nat _ (z i hi);obtain ⟨u,d,e,J,M⟩:=I w fun _ _ _=>rfl
 obtain ⟨m,x,c1,rfl,_⟩:=J.form;obtain ⟨s,y,t,rfl,_⟩:=M.form;have e:R.getD i (.bool false)=_:=e;have q: ∀k,k<3->w.cell? ⟨f,i*3+k,none⟩=(nK (R.getD i (.bool false)))[k]? :=fun k H=>(A.cellAt (i*3+k) (by omega)).trans (amc R F i (by omega) k H)
 rw [e] at q;refine ⟨f,m,x,c1,s,y,t,rfl,⟨q 0 (by omega),q 1 (by omega),q 2 (by omega)⟩,?_⟩;simp_all
def tE.at (h:tE Wb wr g n l i) (hi:i<n):
 (wr.cell? ⟨g,i*7,none⟩=some (.bool false)/\wr.cell? ⟨g,i*7+1,none⟩=some (.slice none 0 0)/\wr.cell? ⟨g,i*7+2,none⟩=some (.int .i64 0)/\wr.cell? ⟨g,i*7+3,none⟩=some (.bool false)/\wr.cell? ⟨g,i*7+4,none⟩=some (.slice none 0 0)/\wr.cell? ⟨g,i*7+5,none⟩=some (.int .i64 0)/\wr.cell? ⟨g,i*7+6,none⟩=some (.int .i64 0))/\
 wr.frozen? ⟨g,i*7,none⟩=false/\wr.frozen? ⟨g,i*7+1,none⟩=false/\wr.frozen? ⟨g,i*7+2,none⟩=false/\wr.frozen? ⟨g,i*7+3,none⟩=false/\wr.frozen? ⟨g,i*7+4,none⟩=false/\wr.frozen? ⟨g,i*7+5,none⟩=false/\wr.frozen? ⟨g,i*7+6,none⟩=false:=by
 obtain ⟨f,e,p,m,s⟩:=h.row;exact adP e (m i (aq _) hi)
def jE.B5 {m c:Nat} (h:jE w B v L) (s:g<B):jE (B5 w g k o a m c b j d) B v L:=by
 have f:Fr (· =g) w (Go.Proofs.YtnmpjdgobafdkaaGreatDoor.B5 w g k o a m c b j d):=(((((((Fr.refl (· =g) w).setCell (a:=⟨g,k,none⟩) _ (fun _=>rfl)).setCell (a:=⟨g,k+1,none⟩) _ (fun _=>rfl)).setCell (a:=⟨g,k+2,none⟩) _ (fun _=>rfl)).setCell (a:=⟨g,k+3,none⟩) _ (fun _=>rfl)).setCell (a:=⟨g,k+4,none⟩) _ (fun _=>rfl)).setCell (a:=⟨g,k+5,none⟩) _ (fun _=>rfl)).setCell (a:=⟨g,k+6,none⟩) _ (fun _=>rfl);exact h.frame f (fun k p e=>by have:=(h.own.lt k p).1;omega)
def TW (w:World):dL w (.slice none 0 0) 0:=⟨[],⟨⟨rfl,.inl ⟨rfl,rfl⟩⟩,fun u h=>by cases h⟩,rfl,rfl⟩
def tE.adR (h:tE Wb wr g n l i) (hi:i<n) (e:l.getD i lb=⟨0,0,0,0,11⟩):tE Wb (((((((wr.setCell ⟨g,i*7,none⟩ (.bool false)).setCell ⟨g,i*7+1,none⟩ (.slice none 0 0)).setCell ⟨g,i*7+2,none⟩ (.int .i64 0)).setCell ⟨g,i*7+3,none⟩ (.bool false)).setCell ⟨g,i*7+4,none⟩ (.slice none 0 0)).setCell ⟨g,i*7+5,none⟩ (.int .i64 0)).setCell ⟨g,i*7+6,none⟩ (.int .i64 11)) g n l (i+1):=by
 have q:=h.next hi (a:=none) (m:=0) (c:=0) (b:=none) (j:=0) (d:=0) (by rw [e];exact fun f _=>⟨_,_,rfl,TW f,TW f⟩);rw [e] at q;exact q
def jE.adR (h:jE w B v L) (e:g<B):jE (((((((w.setCell ⟨g,k,none⟩ (.bool false)).setCell ⟨g,k+1,none⟩ (.slice none 0 0)).setCell ⟨g,k+2,none⟩ (.int .i64 0)).setCell ⟨g,k+3,none⟩ (.bool false)).setCell ⟨g,k+4,none⟩ (.slice none 0 0)).setCell ⟨g,k+5,none⟩ (.int .i64 0)).setCell ⟨g,k+6,none⟩ (.int .i64 11)) B v L:=
 h.B5 (o:=⟨0,0,0,0,11⟩) (a:=none) (m:=0) (c:=0) (b:=none) (j:=0) (d:=0) e
def tE.dS {Wb wr:World} {g n i:Nat} {l:List Oc} (h:tE Wb wr g n l i): ∀p:List Int,(∀z∈p,0<=z/\z<(i:Int))-> ∃dS:List Value,dS.length=p.length/\ ∀j,j<p.length-> ∃(z:Nat) (a:Option Addr) (m c:Nat) (b:Option Addr) (k d:Nat),p.getD j 0=(z:Int)/\z<i/\dS.getD j (.bool false)=AB (l.getD z lb) a m c b k d/\(wr.cell? ⟨g,z*7,none⟩=some (.bool (decide ((l.getD z lb).m<0)))/\wr.cell? ⟨g,z*7+1,none⟩=some (.slice a m c)/\wr.cell? ⟨g,z*7+2,none⟩=some (.int .i64 (l.getD z lb).e)/\wr.cell? ⟨g,z*7+3,none⟩=some (.bool (decide ((l.getD z lb).n<0)))/\wr.cell? ⟨g,z*7+4,none⟩=some (.slice b k d)/\wr.cell? ⟨g,z*7+5,none⟩=some (.int .i64 (l.getD z lb).f)/\wr.cell? ⟨g,z*7+6,none⟩=some (.int .i64 (l.getD z lb).s))/\jh (· =g) wr fun G=>(l.getD (p.getD j 0).toNat lb).K G (dS.getD j (.bool false))
 | [],_=>⟨[],rfl,fun j t=>by simp at t⟩
 |x::p,u=>by
  obtain ⟨dS,D,J⟩:=tE.dS h p (fun z y=>u z (aw _ y));have M:=u x (aE ..);obtain ⟨A,e,H,I,C⟩:=h.row;obtain ⟨z,rfl⟩: ∃z:Nat,x=(z:Int):=⟨x.toNat,by omega⟩;obtain ⟨a,m,c,b,k,d,E,F⟩:=C z (by omega);refine ⟨AB (l.getD z lb) a m c b k d::dS,by simp [D],fun j t=> ?_⟩;cases j with
  |zero=>exact ⟨z,a,m,c,b,k,d,rfl,by omega,rfl,(adP e E).1,F⟩
  |succ j=>simp_all
def Mj.next {p f:World} {s cap:Nat} {u:List Int} {dS:List Value} {m:Value} {o:Obj} (h:Mj p wr g l u dS q m) (t:q<dS.length) {x:Value} (E:dS.getD q (.bool false)=x) (C:f.ownsRow p.heap.size 110 7 (.slice (some ⟨s,0,none⟩) (q+1) cap) (q+1) ((dS.take q).flatMap nK++nK x)) (A:Fr (fun k=>m.ownBlock=some k) (wr.alloc o) f):Mj p f g l u dS (q+1) (.slice (some ⟨s,0,none⟩) (q+1) cap):=by
 have y:Fr (fun k=>m.ownBlock=some k) wr f:=((Fr.refl _ wr).alloc o).trans A (fun _ _ e=>e);refine ⟨h.below.trans (y.nJ (fun k D e=>by have:=(h.row.lt k e).1;omega) h.below.size),?_,fun e=>by omega⟩;have z:(dS.take (q+1)).flatMap nK=(dS.take q).flatMap nK++nK (dS.getD q (.bool false)):=by
  rw [kD,oy,aM t,aD,aM t];simp
 simp_all
def amd {t:TypeId} {f b1:Bool} {a k d b l h x y} (e:w.heap[q]? =some (.cells #[.bool f,.slice a k d,.int .i64 x,.bool b1,.slice b l h,.int .i64 y] t (0,0))) (p:Addr) (z:Int) (s:p.block=q):w.cell? p≠some (.int .u32 z):=by
 obtain ⟨k,o,u⟩:=p;have m:k=q:=s;subst m;intro c;simp only [World.cell?,e] at c;grind
def aDB {l h:Nat} (e:wr.heap[q]? =some (.cells #[.bool false,.slice none 0 0,.int .i64 0,.bool false,.slice none 0 0,.int .i64 0] 71 (0,0))) (F:o.K wr (AB o a k d b l h)) (u:Obj):
 (((((((wr.setCell ⟨q,0,none⟩ (.bool (decide (o.m<0)))).setCell ⟨q,1,none⟩ (.slice a k d)).setCell ⟨q,2,none⟩ (.int .i64 o.e)).setCell ⟨q,3,none⟩ (.bool (decide (o.n<0)))).setCell ⟨q,4,none⟩ (.slice b l h)).setCell ⟨q,5,none⟩ (.int .i64 o.f)).alloc u).drew.heap[q]? =some (.cells #[.bool (decide (o.m<0)),.slice a k d,.int .i64 o.e,.bool (decide (o.n<0)),.slice b l h,.int .i64 o.f] 71 (0,0))/\nB o.m o.e o.n o.f (((((((wr.setCell ⟨q,0,none⟩ (.bool (decide (o.m<0)))).setCell ⟨q,1,none⟩ (.slice a k d)).setCell ⟨q,2,none⟩ (.int .i64 o.e)).setCell ⟨q,3,none⟩ (.bool (decide (o.n<0)))).setCell ⟨q,4,none⟩ (.slice b l h)).setCell ⟨q,5,none⟩ (.int .i64 o.f)).alloc u).drew (GV o a k d b l h)/\Below q wr (((((((wr.setCell ⟨q,0,none⟩ (.bool (decide (o.m<0)))).setCell ⟨q,1,none⟩ (.slice a k d)).setCell ⟨q,2,none⟩ (.int .i64 o.e)).setCell ⟨q,3,none⟩ (.bool (decide (o.n<0)))).setCell ⟨q,4,none⟩ (.slice b l h)).setCell ⟨q,5,none⟩ (.int .i64 o.f)).alloc u).drew:=by
 have H:=(ax.1 e).1;have D:Fr (· =q) wr ((((((wr.setCell ⟨q,0,none⟩ (.bool (decide (o.m<0)))).setCell ⟨q,1,none⟩ (.slice a k d)).setCell ⟨q,2,none⟩ (.int .i64 o.e)).setCell ⟨q,3,none⟩ (.bool (decide (o.n<0)))).setCell ⟨q,4,none⟩ (.slice b l h)).setCell ⟨q,5,none⟩ (.int .i64 o.f)):=((((((Fr.refl (· =q) wr).setCell (a:=⟨q,0,none⟩) _ (fun _=>rfl)).setCell (a:=⟨q,1,none⟩) _ (fun _=>rfl)).setCell (a:=⟨q,2,none⟩) _ (fun _=>rfl)).setCell (a:=⟨q,3,none⟩) _ (fun _=>rfl)).setCell (a:=⟨q,4,none⟩) _ (fun _=>rfl)).setCell (a:=⟨q,5,none⟩) _ (fun _=>rfl);have t:=(D.alloc u).drew;have G:((((((wr.setCell ⟨q,0,none⟩ (.bool (decide (o.m<0)))).setCell ⟨q,1,none⟩ (.slice a k d)).setCell ⟨q,2,none⟩ (.int .i64 o.e)).setCell ⟨q,3,none⟩ (.bool (decide (o.n<0)))).setCell ⟨q,4,none⟩ (.slice b l h)).setCell ⟨q,5,none⟩ (.int .i64 o.f)).heap[q]? =some (.cells #[.bool (decide (o.m<0)),.slice a k d,.int .i64 o.e,.bool (decide (o.n<0)),.slice b l h,.int .i64 o.f] 71 (0,0)):=heap_set (heap_set (heap_set (heap_set (heap_set (heap_set e)))));obtain ⟨x,y,E,I,J⟩:=F;cases E;refine ⟨(dI _ u q (az H D.size)).trans G,⟨_,_,rfl,BQ (S:=(· =q)) I (fun k s A=>t.block k s A) (fun p z C=>amd e p z C),BQ (S:=(· =q)) J (fun k s A=>t.block k s A) (fun p z C=>amd e p z C)⟩,t.nJ (fun k s e=>by omega) (by omega)⟩
def aDC (h:j<n):YP (madeCells #[.bool false,.slice none 0 0,.int .i64 0,.bool false,.slice none 0 0,.int .i64 0,.int .i64 0] (n*7)) (j*7) lb none 0 0 none 0 0:=by
 have e: ∀k,k<n*7->(madeCells #[.bool false,.slice none 0 0,.int .i64 0,.bool false,.slice none 0 0,.int .i64 0,.int .i64 0] (n*7))[k]? =some ((#[.bool false,.slice none 0 0,.int .i64 0,.bool false,.slice none 0 0,.int .i64 0,.int .i64 0]:Array Value)[k % 7]!):=fun k f=>by
  unfold madeCells;rw [Array.getElem?_map,Array.getElem?_range,if_pos f];rfl
 refine ⟨?_,?_,?_,?_,?_,?_,?_⟩
 ·rw [e _ (by omega),show j*7 % 7=0 by omega];rfl
 ·grind
 ·rw [e _ (by omega),show (j*7+2) % 7=2 by omega];rfl
 ·rw [e _ (by omega),show (j*7+3) % 7=3 by omega];rfl
 ·grind
 ·rw [e _ (by omega),show (j*7+5) % 7=5 by omega];rfl
 ·rw [e _ (by omega),show (j*7+6) % 7=6 by omega];rfl
def aDE {W f:World} (s:0<n) (z:f.ownsRow W.heap.size 110 7 (.slice (some ⟨W.heap.size,0,none⟩) n n) n (madeCells (Value.agg #[.bool false,.slice none 0 0,.int .i64 0,.bool false,.slice none 0 0,.int .i64 0,.int .i64 0]).cells (n*7)).toList) (y:W.grownBy f none):
 tE W f W.heap.size n l 0:=by
 have x:Below W.heap.size W f:=(uN y).nJ (fun k _ e=>by cases e) (aq _);rcases z.2 with ⟨e,_⟩|⟨g,cap,cur,e,D,hc,A,C,h,m⟩
 ·cases e
 ·cases e
  have t:cur.toList=(madeCells #[.bool false,.slice none 0 0,.int .i64 0,.bool false,.slice none 0 0,.int .i64 0,.int .i64 0] (n*7)).toList:=by
   rw [mS (by simp [h])] at m;exact m
  have u:cur=madeCells #[.bool false,.slice none 0 0,.int .i64 0,.bool false,.slice none 0 0,.int .i64 0,.int .i64 0] (n*7):=Array.toList_inj.1 t;subst u;exact ⟨x,aq _,_,hc,h,fun j _ p=>aDC p,fun j p=>by omega⟩
def aDF (hG:GI L) (hN:NN L) (hl:L.length<=4000) {id:Nat} (hi:id<L.length) {w:Int} (w0:0<=w) (w1:w<=4096) {l l2:List Rs} {lo:List Oc} (T:Th ((ub L id).map yX) l) (EV:l.length=(ub L id).length) (h2:adB l l2) (pC:lo.length=(ub L id).length) (hO:al7 ((ub L id).map yX) l2 w lo):
 adQ L id w (lo.getD ((ub L id).length-1) lb):=fun W B p v m hg hT zT=>by
 have hp:=alW hG hN hi;have HX:=ae (af hg (af hT (af zT (af hG (af hN (af hl hi))))));have Y:=ae (af T (af EV (af h2 (af pC hO))));have HP:=ae hp;obtain ⟨L',lZ⟩:=pQ (ub L id);obtain ⟨n,hn⟩:=pQ L'.length;have TX:=ae lZ;rw [lZ] at Y HP⊢;have M:=ae hn;rw [hn] at Y HP⊢;obtain ⟨Q,Ph⟩:=pQ (lo.getD (n-1) lb);have HOZ:=ae Ph;rw [Ph];have HPC:=ae (fun W' h=>aDm (W:=W') (hg.below h) hG hl hi (hT.below h));have qx:=ae (fun W' h=>OM (w:=W') (hg.below h) hi (by omega) rfl);have TY:=ae (fun W' h=>alJ (W:=W') (hg.below h) hG.ahead (fun i hi=>⟨(hG.nd i hi).k1,(hG.nd i hi).k2,hN i hi⟩) (by omega) hi);obtain ⟨x,hx⟩:=pQ (L.getD id fS);rw [hx] at qx;have n0:0<n:=by have:=HP.out.2.2.2;omega
 have nl:n<=4000:=by have:=HP.out.2.2.1;omega
 clear hG hN hl hi T EV h2 pC hO hp lZ hn Ph hg hT zT hx;obtain ⟨k,xa,xb,xn,t⟩:=x;rw [show ig ⟨k,xa,xb,xn,t⟩= .agg #[.int .i64 k,.int .i64 xa,.int .i64 xb,.int .i64 xn,.string t] from rfl] at qx;unfold ptr at HPC qx TY⊢;go_enter Tryz.func27,Tryz.ntmps27;go_wp2_with fail;obtain ⟨W1,tF⟩:=pQ (W.alloc (.cells #[.bool false,.slice none 0 0,.int .i64 0,.bool false,.slice none 0 0,.int .i64 0] 71));have bW:Below W.heap.size W W1:=by rw [<-tF];exact (aH _ W).alloc (aq _) _
 have h6:W1.heap[W.heap.size]? =some (.cells #[.bool false,.slice none 0 0,.int .i64 0,.bool false,.slice none 0 0,.int .i64 0] 71 (0,0)):=by rw [<-tF];exact heap_alloc_new W _
 have AE:W.heap.size<W1.heap.size:=(ax.1 h6).1;have H:=ae (af bW (af h6 AE));rw [tF];clear bW h6 AE tF;refine (qx.out W1 H.out.1).mono ?_;rintro e wa ⟨rfl,hf⟩;have zc:=ae (hf.below.alloc hf.size (.cells #[.int .i64 k,.int .i64 xa,.int .i64 xb,.int .i64 xn,.string t] 60));clear hf;go_wp2_with fail;refine (TY.out _ (H.out.1.trans (zc.out.mono H.out.1.size))).mono ?_;rintro e wb ⟨rfl,hb⟩;have TZ:=ae (zc.out.trans (hb.mono zc.out.size));clear hb;go_wp2_with fail;refine (HPC.out wb (H.out.1.trans (TZ.out.mono H.out.1.size))).mono ?_;rintro e wc ⟨p',b',v',rfl,Bi,hb⟩;rw [TX.out] at Bi;have HBc:=ae (TZ.out.trans (hb.mono TZ.out.size));have HG:=ae Bi;have HTc:=ae (GO HX.out.2.2.1 (H.out.1.trans (HBc.out.mono H.out.1.size)));clear hb Bi;go_wp2_with fail;refine (aDi HG.out Y.out.1 (by rw [M.out];exact Y.out.2.1) Y.out.2.2.1 (by rw [M.out];exact n0) (by rw [M.out];omega) HTc.out).mono ?_;rintro e wd ⟨vv,sv,rfl,Wt,N,R,ow,BW,hRl,hRN⟩;have uo:l2.length=n:=by rw [Y.out.2.2.1.1,Y.out.2.1]
 have hRn:R.length=n:=by rw [hRl,uo]
 have Pa:(l2.map Rs.s).length=n:=by rw [iz,uo]
 have YR:=BW.vD;have I:=BW.lI;rw [hRn] at YR;rw [Pa] at I;obtain ⟨va,vc,rfl⟩:=O' YR;obtain ⟨sa,sc,rfl⟩:=O' I;have zM:=ow.trans (BW.below.mono ow.size);have T0:=ae (HBc.out.trans (zM.mono HBc.out.size));have HGd:=ae (HG.out.below zM);have T1:=ae (af BW (af hRn (af hRN (af uo (af YR I)))));clear BW hRn hRN hRl uo Pa YR I ow zM;go_wp2_with fail;refine (aCQ HGd.out (by rw [M.out];omega)).mono ?_;rintro e we ⟨rfl,hwe⟩;subst hwe;rw [M.out];obtain ⟨i0,fq,ff,fH,eV⟩:=info_parts ama;have ame:i0.bytes*n<=281474976710656:=by rw [eV];omega
 go_wp2_with (refine wpList_make_full we rfl (.tmp 55) (.tmp 55) 106 rfl we.heap.size 110 i0 _ 7 Tryz.underlying106 fq ff fH _ _ _ _ n rfl rfl rfl rfl ame (by unfold maxLen;omega) (aq _) ?_;intro wf ho hg;have HO:=ae (aDE (l:=lo) n0 ho hg);clear ho hg);refine (alI (HGd.out.below HO.out.below) (by rw [M.out];omega)).mono ?_;rintro e wg ⟨vn,rfl,vU,lA⟩;obtain ⟨na,nc,rfl⟩:=vU.slice;have Gc:=ae (af (HO.out.later lA) vU);have HTe:=ae (GO HX.out.2.2.1 (H.out.1.trans (T0.out.mono H.out.1.size)));have hfg:we.heap.size<wf.heap.size:=HO.out.blt;have YS:=ae hfg;obtain ⟨g,ph⟩:=pQ we.heap.size;have YT:=ae ph;rw [ph] at Gc YS;rw [ph,M.out];clear vU lA ame fq ff fH eV hfg ph;go_wp2_with fail;go_loopw [60] (fun iv wr=> ∃i:Nat,iv= .int .i64 (i:Int)/\i<=n/\tE we wr g n lo i/\jE wr wf.heap.size (.slice na L'.length nc) L') (fun iv _=>n-(intOf iv).toNat)
 case atStart=>exact ⟨0,rfl,by omega,Gc.out.1,Gc.out.2⟩
 case round=>
  obtain ⟨i,rfl,hi,P,vU⟩:=hrel;have C:=ae (af P vU);by_cases bz:i<n
  ·obtain ⟨y,hy⟩:=pQ (L'.getD i fS)
   obtain ⟨gv,cv,ev,c0,c1,c2,c3,c4⟩:=vU.form (by rw [M.out];exact bz) hy;rw [M.out] at ev;cases ev;obtain ⟨k2,a2,b2,m2,t2⟩:=y;simp only at c0 c1 c2 c3 c4;have hY:adO (yX ⟨k2,a2,b2,m2,t2⟩) (l2.getD i eH) (lo.take i) w (lo.getD i lb):=by
    have q:=Y.out.2.2.2.2.2 i (by rw [Y.out.2.2.2.1];exact bz);have hN:(L'.map yX).getD i BP=yX (L'.getD i fS):=by
     rw [aD,aD,dA,aM (by rw [M.out];exact bz)];rfl
    rw [hN,hy] at q;exact q
   have A:=ae (af hY (af bz (af hi hy)));obtain ⟨gs,rfl,cs⟩:=aDz T1.out.2.2.2.2.2 T1.out.2.2.2.1 bz;have E:wr.cell? ⟨gs,i,none⟩=some (.int .i64 (l2.getD i eH).s):=(P.below.cell (p:=⟨gs,i,none⟩) (ak we _ cs)).trans cs;obtain ⟨gx,a1,k1,e1,a3,k3,e3,rfl,⟨v0,v1,v2⟩,hvs⟩:=aDA T1.out.1 T1.out.2.1 T1.out.2.2.1 bz;have KV:=ak we _ v0;have HVS:=ae (GS (S':=(· =g)) hvs (Fr.jq P.below) (fun k hk e=>by have:=YT.out;omega));have Pk:=(P.below.cell (p:=⟨gx,i*3,none⟩) KV).trans v0;have v1':=(P.below.cell (p:=⟨gx,i*3+1,none⟩) KV).trans v1;have v2':=(P.below.cell (p:=⟨gx,i*3+2,none⟩) KV).trans v2;have hgv:=ak wr _ c0;have amf:=ak wr _ E;have adS:=ak wr _ Pk;have i0:(0:Int)<=(i:Int):=by omega
   have i1:(i:Int)<(n:Int):=by omega
   obtain ⟨r,hr⟩:=pQ (l2.getD i eH);rw [hr] at A HVS E Pk;have I:r.s=0\/r.s=1\/r.s=2:=by
    have q:=Y.out.2.2.1.2 i (by rw [Y.out.2.1];exact bz);rw [hr] at q;have:=q.1.s0;have:=q.1.s2;omega
   obtain ⟨D,eR⟩:=pQ (lo.getD i lb);rw [eR] at A;obtain ⟨neg,adT⟩:=pQ (decide (r.p<0));rw [adT] at Pk HVS;have T2:=ae eR;have aDG:=ae adT;clear P vU hY hy cs v0 v1 v2 hvs KV hr eR adT bz hi;rcases I with I|I|I
   ·rw [I] at E
    clear Pk v1' v2' adS;have hC:=A.out.1.2.2 (by omega) (by omega);have hC:Mh (.agg #[.int .i64 k2,.int .i64 a2,.int .i64 b2,.int .i64 m2,.string t2]) (args ⟨k2,a2,b2,m2,t2⟩) (lo.take i) w D:=hC;have HC:=ae hC;clear hC;obtain ⟨wo,rfl⟩:=pT wr;have JK:=HP.out.1.nd i (by rw [M.out];exact A.out.2.1);have KG:=(HP.out.1.fit i (by rw [M.out];exact A.out.2.1)).args;rw [A.out.2.2.2] at JK KG;have HK:=ae (af JK.k1 JK.k2);obtain ⟨zs,yz⟩:=pQ (args ⟨k2,a2,b2,m2,t2⟩);have eV:zs.length<=2:=by rw [<-yz];exact xP _
    rw [yz] at KG HC;obtain ⟨dS,Ga,amg⟩:=C.out.1.dS zs KG;have Ry:=ae yz;have HV:=ae (af Ga amg);have J:=C.out.1.blt;have YI:=ae J;clear JK KG amg Ga yz;go_wp2_with fail;refine (Yj (x:=⟨k2,a2,b2,m2,t2⟩) HK.out.1 HK.out.2 _).mono ?_;rintro e wz ⟨av0,rfl,ha⟩;obtain ⟨PN,ux⟩:=ha;rw [Ry.out] at ux;have ux:wz.ownsRow _ 3 1 av0 zs.length (ints zs):=ux;obtain ⟨aa,ac,rfl⟩:=vw ux;have pj:Below (wo.heap.size+1) (wo.alloc (.cells ⟨jD ⟨k2,a2,b2,m2,t2⟩⟩ 60)) wz:=by rw [<-uS wo];exact PN
    have U:=ae (af (uR pj) (af (wM pj) ux));have HA0:=ae (⟨aH _ _,World.ownsRow_nil _ _ _ _,fun _=>rfl⟩:Mj wz wz g lo zs dS 0 (.slice none 0 0));obtain ⟨an,kg⟩:=pQ zs.length;have rX:=ae kg;rw [kg] at eV;rw [kg];clear PN ux pj kg c0 c1 c2 c3 c4 E hgv amf;go_wp2_with fail;go_loopw [16,72] (fun av kv wr=> ∃q:Nat,kv= .int .i64 (q:Int)/\q<=an/\Mj wz wr g lo zs dS q av) (fun _ kv _=>an-(intOf kv).toNat)
    case atStart=>exact ⟨0,rfl,by omega,HA0.out⟩
    case round=>
     obtain ⟨q,rfl,hq,F⟩:=hrel;have HA:=ae F;obtain ⟨aa5,ac5,rfl⟩:=O' F.row;by_cases Dr:q<an
     ·obtain ⟨z,a4,m4,c4,b4,k4,O,YU,hzi,hvq,⟨o0,o1,o2,o3,o4,o5,o6⟩,_⟩:=HV.out.2 q (by rw [rX.out];exact Dr)
      have X:Below wo.heap.size wo wr:=U.out.1.trans (F.below.mono U.out.1.size);have aFU:=J;obtain ⟨a6,c6,e6,amh⟩:=GK (qu (S:=fun _=>False) U.out.2.2 (Fr.jq F.below) (fun _ _ e=>e));rw [rX.out] at e6;cases e6;obtain ⟨g6,rfl,r0⟩:=amh q (by rw [rX.out];exact Dr);rw [YU] at r0;obtain ⟨cc,PJ⟩:=pQ (lo.getD z lb);rw [PJ] at o0 o2 o3 o5 o6 hvq;have o0:=(X.cell (p:=⟨g,z*7,none⟩) J).trans o0;have o1:=(X.cell (p:=⟨g,z*7+1,none⟩) J).trans o1;have o2:=(X.cell (p:=⟨g,z*7+2,none⟩) J).trans o2;have o3:=(X.cell (p:=⟨g,z*7+3,none⟩) J).trans o3;have o4:=(X.cell (p:=⟨g,z*7+4,none⟩) J).trans o4;have o5:=(X.cell (p:=⟨g,z*7+5,none⟩) J).trans o5;have o6:=(X.cell (p:=⟨g,z*7+6,none⟩) J).trans o6;have aFV:g<wr.heap.size:=ak wr _ o0;have aFW:g6<wr.heap.size:=ak wr _ r0;have q0:(0:Int)<=(q:Int):=by omega
      have q1:(q:Int)<(an:Int):=by omega
      have zz0:(0:Int)<=(z:Int):=by omega
      have zz1:(z:Int)<(n:Int):=by have:=A.out.2.1;omega
      have HQ:=ae (af Dr hvq);clear F X amh YU hzi hvq PJ hq Dr J;go_wp2_with (at_builtin;refine aDx rfl _ _ rfl wz.heap.size (E7 _ HA.out.below.size) (.slice aa5 q ac5) q ((dS.take q).flatMap nK) rfl (HA.out.row.alloc _) _ (c:=cc) (a1:=a4) (k1:=m4) (c1:=c4) (a2:=b4) (k2:=k4) (c2:=O) rfl (heap_alloc_new wr _) (by omega) ?_;intro gg lu wC eJ kC;have lq:=ae (HA.out.next (by rw [HV.out.1,rX.out];exact HQ.out.1) HQ.out.2 eJ kC);clear eJ kC);go_roundw
      case rel=>exact ⟨q+1,by go_num,by have:=HQ.out.1;omega,lq.out⟩
      case measure=>have:=HQ.out.1;simp [intOf];omega
     ·have hqe:q=an:=by omega
      subst hqe;clear Dr hq;have X:Below wo.heap.size wo wr:=U.out.1.trans (F.below.mono U.out.1.size);obtain ⟨d0,d1,d2,d3,O⟩:=mF (x:=⟨k2,a2,b2,m2,t2⟩) ((F.below.block _ (ax.1 U.out.2.1).1).trans U.out.2.1);simp only at d0 d1 d2 d3 O;have hs:wo.heap.size<wr.heap.size:=ak wr _ d0;have HBW:=ae X;clear F X;go_wp2_with fail;have eX: ∀j,j<zs.length->jh (fun k=>k=g\/wz.heap.size<=k) wr fun w'=>((lo.take i).getD (zs.getD j 0).toNat lb).K w' (dS.getD j (.bool false)):=fun j hj=>by
       obtain ⟨z,_,_,_,_,_,_,YU,hzi,_,_,vy⟩:=HV.out.2 j hj;rw [YU] at vy⊢;have e5:(lo.take i).getD ((z:Int)).toNat lb=lo.getD ((z:Int)).toNat lb:=by
        rw [aD,aD,List.getElem?_take_of_lt (by omega)]
       rw [e5];exact GS vy (Fr.jq HBW.out) (fun k hk e=>e.resolve_right (by have:=U.out.1.size;omega))
      have BZ:Mj wz wr g (lo.take i) zs dS dS.length (.slice aa5 q ac5):=by
       have e5:dS.length=q:=by rw [HV.out.1,rX.out]
       rw [e5];exact ⟨HA.out.below,HA.out.row,HA.out.nil⟩
      refine (aDy HC.out (YQ HTe.out (C.out.1.below.trans (HBW.out.mono C.out.1.below.size)) (fun k e=>by have:=YT.out;have:=U.out.1.size;have:=C.out.1.below.size;omega)) (az J U.out.1.size) HV.out.1 BZ eX).mono ?_;rintro e wB ⟨Z,k5,d5,b5,l5,h5,rfl,vy,E'⟩;have Mm:Below wo.heap.size wo wB:=HBW.out.trans (E'.mono U.out.1.size);have Mn:=C.out.1.later Mm;have uc:=ae (af Mn trivial);have lq:=ae (show tE we (B5 wB g (i*7) D Z k5 d5 b5 l5 h5) g n lo (i+1)/\jE (B5 wB g (i*7) D Z k5 d5 b5 l5 h5) wf.heap.size (.slice (some ⟨gv,0,none⟩) L'.length nc) L' from ⟨by
       have q:=Mn.next A.out.2.1 (a:=Z) (m:=k5) (c:=d5) (b:=b5) (j:=l5) (d:=h5) (by rw [T2.out];exact vy);rw [T2.out] at q;exact q,(C.out.2.frame (S:=fun _=>False) (Fr.jq Mm) (fun _ _ e=>e)).B5 YS.out⟩)
      rw [show AB D Z k5 d5 b5 l5 h5= .agg #[.bool (decide (D.m<0)),.slice Z k5 d5,.int .i64 D.e,.bool (decide (D.n<0)),.slice b5 l5 h5,.int .i64 D.f,.int .i64 D.s] from rfl];clear vy E' Mm Mn eX BZ d0 d1 d2 d3 O hs
      ·skip
       obtain ⟨⟨z0,z1,z2,z3,z4,z5,z6⟩,y0,y1,y2,y3,y4,y5,y6⟩:=uc.out.1.at A.out.2.1;have yu:=uc.out.1.blt;go_wp2_with fail;go_roundw
       case rel=>exact ⟨i+1,by go_num,by have:=A.out.2.1;omega,lq.out.1,lq.out.2⟩
       case measure=>have:=A.out.2.1;simp [intOf];omega
   ·obtain ⟨c,hC1,RE⟩:=A.out.1.2.1 I
    have HC:=ae (af hC1 RE);rw [I] at E;clear hC1 RE;go_wp2_with fail;have F:Below wr.heap.size wr (wr.alloc (.cells #[.int .i64 k2,.int .i64 a2,.int .i64 b2,.int .i64 m2,.string t2] 60)):=(aH _ _).alloc (aq _) _;have HA:=ae F;have J:=C.out.1.blt;have hxs:=GS HVS.out (Fr.jq F) (S':=(· =g)) (fun _ _ e=>e);rw [<-aDG.out] at hxs⊢;refine (aDv HC.out.1 (YQ HTe.out (C.out.1.below.trans (F.mono C.out.1.below.size)) (fun k e=>by have:=YT.out;omega)) (by rw [uS];omega) hxs).mono ?_;rintro e wA ⟨a4,k4,O,b4,l4,h4,rfl,yZ,hB4⟩;have YW:=ae (F.trans (hB4.mono F.size));have V8:=ae yZ;clear yZ hB4 F c0 c1 c2 c3 c4 Pk v1' v2' E hgv amf adS hxs;rw [show GV c a4 k4 O b4 l4 h4= .agg #[.bool (decide (c.m<0)),.slice a4 k4 O,.int .i64 c.e,.bool (decide (c.n<0)),.slice b4 l4 h4,.int .i64 c.f] from rfl];go_wp2_with fail;refine (aDw HC.out.2 (YQ HTe.out (C.out.1.below.trans (YW.out.mono C.out.1.below.size)) (fun k e=>by have:=YT.out;omega)) (az J YW.out.size) V8.out).mono ?_;rintro e wB ⟨Z,k5,d5,b5,l5,h5,rfl,vy,E'⟩;have Mm:=YW.out.trans (E'.mono YW.out.size);have Mn:=C.out.1.later Mm;have uc:=ae (af Mn trivial);have lq:=ae (show tE we (B5 wB g (i*7) D Z k5 d5 b5 l5 h5) g n lo (i+1)/\jE (B5 wB g (i*7) D Z k5 d5 b5 l5 h5) wf.heap.size (.slice (some ⟨gv,0,none⟩) L'.length nc) L' from ⟨by
     have q:=Mn.next A.out.2.1 (a:=Z) (m:=k5) (c:=d5) (b:=b5) (j:=l5) (d:=h5) (by rw [T2.out];exact vy);rw [T2.out] at q;exact q,(C.out.2.frame (S:=fun _=>False) (Fr.jq Mm) (fun _ _ e=>e)).B5 YS.out⟩)
    rw [show AB D Z k5 d5 b5 l5 h5= .agg #[.bool (decide (D.m<0)),.slice Z k5 d5,.int .i64 D.e,.bool (decide (D.n<0)),.slice b5 l5 h5,.int .i64 D.f,.int .i64 D.s] from rfl];clear vy E' Mm Mn
    ·skip
     obtain ⟨⟨z0,z1,z2,z3,z4,z5,z6⟩,y0,y1,y2,y3,y4,y5,y6⟩:=uc.out.1.at A.out.2.1;have yu:=uc.out.1.blt;go_wp2_with fail;go_roundw
     case rel=>exact ⟨i+1,by go_num,by have:=A.out.2.1;omega,lq.out.1,lq.out.2⟩
     case measure=>have:=A.out.2.1;simp [intOf];omega
   ·have pf:=A.out.1.1 I
    rw [I] at E;clear Pk v1' v2' adS;have uc:=ae (af C.out.1 trivial);have o7: ∀w:World,Below w.heap.size w (w.alloc (.cells #[.int .i64 k2,.int .i64 a2,.int .i64 b2,.int .i64 m2,.string t2] 60)):=fun w=>(aH _ _).alloc (aq _) _
    have lq:=ae (af ((C.out.1.adR A.out.2.1 (by rw [T2.out];exact pf)).later (o7 _)) ((C.out.2.adR (k:=i*7) YS.out).frame (S:=fun _=>False) (Fr.jq (o7 _)) (fun _ _ e=>e)));clear o7 pf
    ·skip
     obtain ⟨⟨z0,z1,z2,z3,z4,z5,z6⟩,y0,y1,y2,y3,y4,y5,y6⟩:=uc.out.1.at A.out.2.1;have yu:=uc.out.1.blt;go_wp2_with fail;go_roundw
     case rel=>exact ⟨i+1,by go_num,by have:=A.out.2.1;omega,lq.out.1,lq.out.2⟩
     case measure=>have:=A.out.2.1;simp [intOf];omega
  ·have GQ:i=n:=by omega
   subst GQ;obtain ⟨arr,ea,_,_,e4⟩:=P.row;obtain ⟨m',rfl⟩: ∃m',i=m'+1:=⟨i-1,by omega⟩;obtain ⟨a4,k4,O,b4,l4,h4,q1,q2⟩:=e4 m' (by omega);have Ph:lo.getD m' lb=Q:=HOZ.out;rw [Ph] at q1 q2;have HK:=ae (q2 wr fun _ _ _=>rfl);obtain ⟨⟨o0,o1,o2,o3,o4,o5,o6⟩,_⟩:=adP ea q1;have Bk:wr.heap[W.heap.size]? =some (.cells #[.bool false,.slice none 0 0,.int .i64 0,.bool false,.slice none 0 0,.int .i64 0] 71 (0,0)):=(P.below.block _ (az H.out.2.2 T0.out.size)).trans ((T0.out.block _ H.out.2.2).trans H.out.2.1);have yu:=P.blt;have AE:W.heap.size<wr.heap.size:=(ax.1 Bk).1;have G: ∀j u,(#[.bool false,.slice none 0 0,.int .i64 0,.bool false,.slice none 0 0,.int .i64 0]:Array Value)[j]? =some u->wr.cell? ⟨W.heap.size,j,none⟩=some u/\wr.frozen? ⟨W.heap.size,j,none⟩=false:=fun j u hu=>gA Bk hu
   obtain ⟨x0,y0⟩:=G 0 _ rfl;obtain ⟨x1,y1⟩:=G 1 _ rfl;obtain ⟨x2,y2⟩:=G 2 _ rfl;obtain ⟨x3,y3⟩:=G 3 _ rfl;obtain ⟨x4,y4⟩:=G 4 _ rfl;obtain ⟨x5,y5⟩:=G 5 _ rfl;have yy:=ae (af Bk (H.out.1.trans ((T0.out.trans (P.below.mono T0.out.size)).mono H.out.1.size)));have m0:(0:Int)<=(m':Int):=by omega
   have m1:(m':Int)<((m'+1:Nat):Int):=by omega
   clear P vU bz hi e4 ea q1 q2 Ph Bk G;go_wp2_with fail;go_region
   all_goals
    go_wp2_with fail;have HE:=ae (aDB yy.out.1 HK.out (.cells #[.bool (decide (Q.m<0)),.slice a4 k4 O,.int .i64 Q.e,.bool (decide (Q.n<0)),.slice b4 l4 h4,.int .i64 Q.f,.int .i64 Q.s] 110));clear x0 x1 x2 x3 x4 x5 y0 y1 y2 y3 y4 y5 o0 o1 o2 o3 o4 o5 o6 yu AE;generalize (World.alloc _ _).drew=wz at HE⊢;have G: ∀j u,(#[.bool (decide (Q.m<0)),.slice a4 k4 O,.int .i64 Q.e,.bool (decide (Q.n<0)),.slice b4 l4 h4,.int .i64 Q.f]:Array Value)[j]? =some u->wz.cell? ⟨W.heap.size,j,none⟩=some u:=fun j u hu=>(gA HE.out.1 hu).1
    have x0:=G 0 _ rfl;have x1:=G 1 _ rfl;have x2:=G 2 _ rfl;have x3:=G 3 _ rfl;have x4:=G 4 _ rfl;have x5:=G 5 _ rfl;clear G;refine bodyPost_ret (v:= .tuple #[GV Q a4 k4 O b4 l4 h4,.int .i64 Q.s]) (by unfold GV;simp [results,Tryz.results27,go_sem,x0,x1,x2,x3,x4,x5];try rfl) rfl ?_;exact ⟨a4,k4,O,b4,l4,h4,rfl,HE.out.2.1,yy.out.2.trans HE.out.2.2⟩
def aDH (h:GI L) (m:NN L) (y:L.length<=4000) {id:Nat} (hi:id<L.length) {w:Int} (w0:0<=w) (u:w<=4096): ∃o:Oc,o.Ok/\adQ L id w o:=by
 obtain ⟨A,C,D,E⟩:=alW h m hi;have s:=aDu A C;have p:((ub L id).map yX).length=(ub L id).length:=iz _;obtain ⟨l,e,T⟩:=akW s (by omega) (ub L id).length (by omega);obtain ⟨l2,c⟩:=alS T.1;obtain ⟨z,x,O⟩:=al8 (l2:=l2) s (by omega) (fun i hi=>by
  have q:=c.2 i (by omega);have t:=(T.2 i (by omega)).1;simp_all) w0 u (ub L id).length (by omega)
 refine ⟨_,?_,aDF h m y hi w0 u T e c x O⟩;have f:(ub L id).length-1<z.length:=by omega
 rw [aD,aM f];exact O.1 _ (eU f)
end
section
open Go Go.RowKit
variable {w:World} {p f x:Int} {k:Nat} {v:Value}
def lU (x:Int) (k:Nat):List Int:=(List.range k).map fun j=>2^j*x
def ami (x:Int) (k:Nat):lU x (k+1)=lU x k++ [2^k*x]:=by simp [lU,List.range_succ]
def YX (x:Int) (k:Nat):(lU x k).length=k:=by simp [lU]
def adU (p f:Int):Prop:=0<=p/\p<=512/\0<=f/\f<=4096
def amj (w:World) (p f:Int) (e:Ending) (w':World):Prop:=
 ∃v k,e= .returned v/\Below w.heap.size w w'/\w'.ownsRow w.heap.size 3 1 v k ((lU (p+8) k).map (Value.int .i64))/\
  (adU p f->(∀j,j<k->2^j*(p+8)<=f)/\f<2^k*(p+8))/\(¬adU p f->k=0)
def adV (w wr:World) (p f:Int) (v:Value) (i:Value):Prop:=
 ∃k:Nat,i= .int .i64 (2^k*(p+8))/\wr.ownsRow w.heap.size 3 1 v k ((lU (p+8) k).map (Value.int .i64))/\Below w.heap.size w wr/\(∀j,j<k->2^j*(p+8)<=f)/\2^k*(p+8)<=10000/\8<=2^k*(p+8)/\k<=20
def aDI (a:0<=p) (b:p<=512):adV w w p f (.slice none 0 0) (.int .i64 (p+8)):=
 ⟨0,by simp,World.ownsRow_nil _ _ _ _,aH _ _,fun j d=>by omega,by simp;omega,by simp;omega,by omega⟩
def aDJ {a:World} (o:0<=p) (g:x=2^k*(p+8)) (e: ∀j,j<k->2^j*(p+8)<=f) (q:8<=x) (h:x<=f) (l:f<=4096)
 (i:a.ownsRow w.heap.size 3 1 v (k+1) ((lU (p+8) k).map (Value.int .i64)++ [.int .i64 x])) (d:Below w.heap.size w a):adV w a p f v (.int .i64 (2*x)):=by
 have b:(2:Int)^(k+1)*(p+8)=2*x:=by grind
 refine ⟨k+1,by rw [b],?_,d,fun j m=> ?_,by omega,by omega,?_⟩
 ·rw [ami,mh,<-g];grind
 all_goals grind
def aDK {wr:World} (i:x=2^k*(p+8)) (a: ∀j,j<k->2^j*(p+8)<=f) (g:f<x)
 (b:wr.ownsRow w.heap.size 3 1 v k ((lU (p+8) k).map (Value.int .i64))) (d:Below w.heap.size w wr) (e:adU p f):amj w p f (.returned v) wr:=
 ⟨v,k,rfl,d,b,fun _=>⟨a,by omega⟩,fun h=>absurd e h⟩
def aDL (p f:Int) (w:World) (l: ¬p<0) (s: ¬512<p) (G: ¬f<0) (t: ¬4096<f):Calls Tryz.prog 17 #[.int .i64 p,.int .i64 f] w (amj w p f):=by
 obtain ⟨J,I,F,E,D⟩:=info_parts Tryz.info3;go_enter Tryz.func17,Tryz.ntmps17;go_wp2_with go_in
 ·exfalso
  have H:(!decide (f<=4096))=true:=by assumption
  simp at H;omega
 go_loopw [5,6] (fun v i wr=>adV w wr p f v i) (fun _ i _=>(10000-intOf i).toNat)
 case atStart=>exact aDI l s
 case round=>
  obtain ⟨k,rfl,b,d,e,C,A,M⟩:=hrel;obtain ⟨x,m⟩:=pT (2^k*(p+8));rw [<-m] at C A⊢;have q:=ae m;have B:=ae e;clear m e;go_wp2_with (at_builtin;refine wpList_append_own _ rfl _ _ 22 rfl w.heap.size 3 J (.int .i64 0) 1 8 Tryz.underlying22 I F E D rfl (by decide) _ _ _ rfl (b.alloc _) ⟨wr.heap.size,0,none⟩ 1 1 [.int .i64 x] rfl rfl ?c1 ?c2 ?c3 ?c4 ?c5 ?_)
  case c1=>
   intro j u a
   match j,a with
   |0,a=>simp at a;subst a;simp [Addr.add]
  case c2=>intro u y;simp at y;subst y;rfl
  case c3=>unfold maxLen;omega
  case c4=>omega
  case c5=>have:=d.size;simp;omega
  ·intro N O o z _
   have h:x<=f:=by assumption
   have R:=aDJ (w:=w) l q.out B.out A h t o ((d.alloc d.size _).grown z (by have:=d.size;simp;omega) (fun j a=>(b.lt j a).1));have g:=ae R;clear R o z b;go_wp2;go_roundw
   case rel=>first|exact g.out|(rw [Int.mul_comm];exact g.out)
   case measure=>simp [intOf];omega
  ·have h:f<x:=by assumption
   have R:=aDK q.out B.out h b d ⟨l,s,G,t⟩;have g:=ae R;clear R b;go_ret;exact g.out
end
section
open Go.RowKit Go.Ev
def aDM:bo:=IW [Jo,acO] [] 0 72 [zz 65536,eb,zz 65536,eb] [] [kd 0,kd 2] (dK [zz 65536,eb,.i 0 3] (.t (kd 4) (ki 6))) (sM 0 [mD 2,j4 3]::sM 1 [mD 0,j4 1,mD 4,j4 3]::uJ 0 [mD 5,j4 6,j4 7]:: []) (fun V=>by kernel_rfl)
def aDN:bo:=IW [acN] [] 0 78 [zz 65536,eb] [] [kd 0,.i (.l (-1))] (dK [zz 65536,eb,.i 0 3] (.t (kd 2) (ki 4))) (NdA .add 1 (-1)::sM 0 [mD 0,j4 2]::uJ 0 [mD 3,j4 4,j4 5]:: []) (fun V=>by kernel_rfl)
def aDO:bo:=IW [aDM] [] 0 43 [zz 65536,eb,zz 65536,eb] [] [lF 0 1 2 3] (dK [zz 65536,eb,.i 0 3] (.t (kd 4) (ki 6))) (sM 0 [mD 2,j4 3,mD 0,j4 1]::uJ 0 [mD 4,j4 5,j4 6]:: []) (fun V=>by kernel_rfl)
def aDP:bo:=IW [acO,aDN] [] 0 45 [zz 65536,eb,zz 65536,eb] [] [lF 0 1 2 3] (dK [zz 65536,eb,.i 0 3] (.t (kd 4) (ki 6))) (sM 0 [mD 0,j4 1,mD 2,j4 3]::Lb .neq 6 0::uJ 0 [Lc,CZ 0,j4 6]::sM 1 [mD 4,j4 5]::uJ 0 [mD 7,j4 8,j4 9]:: []) (fun V=>by kernel_rfl)
def aDQ:bo:=IW [ajW,sR,S7,ajX,Sw,aco,Xv] [81,82] 8 46 [zz 65536,eb,.i 0 512] [] [kd 0,ki 2] (dK [zz 65536,eb,.i 0 3] (.t (kd 3) (ki 5))) (sM 0 [mD 0,j4 1,j4 2]::sM 1 [mD 0,j4 1]::uJ 0 [mD 3,j4 4,j4 5]::sM 2 [j4 2]::NdB .add 1 2::NdA .add 3 1::sM 3 [mD 0,j4 4]::sM 4 [CZ 1]::sM 5 [mD 5,mD 6]::sM 6 [mD 7,CZ 1]::NdG 2::sM 1 [mD 8,j4 9]::uJ 0 [mD 10,j4 11,j4 12]::uJ 0 [Lc,CZ 0,CZ 1]:: []) (fun V=>by kernel_rfl)
def aDR:bo:=IW [] [] 0 24 [m64] [] [ki 0] (b1 (fun _ b=> .b b) [(0,.i 0 512)] [] 0) (Lb .geq 0 0::Lb .leq 0 512::uJ 0 []::uJ 1 []::uJ 1 []:: []) (fun V=>by kernel_rfl)
def aDS:bo:=IW [aDR,xL,Sw,aDO,acK,aDP,aDQ] [] 0 26 [zz 65536,eb,zz 65536,eb,m64] [] [lF 0 1 2 3,ki 4] [⟨[zz 65536,eb],[],[],.t (kd 5) (.b true)⟩,⟨[zz 65536,eb],[],[],.t (kd 5) (.b false)⟩] (sM 0 [j4 4]::sM 1 [mD 0,j4 1,mD 2,j4 3]::sM 2 [CZ 1]::NdG 4::NdA .sub 6 1::sM 3 [mD 0,j4 1,mD 2,j4 3]::Lb .neq 10 0::uJ 1 [Lc,CZ 0]::sM 4 [mD 8,j4 9,mD 5,j4 7]::Lb .gtr 11 0::sM 5 [mD 0,j4 1,mD 2,j4 3]::Lb .neq 14 0::uJ 1 [Lc,CZ 0]::sM 6 [mD 12,j4 13,j4 4]::Lb .eql 17 0::uJ 0 [mD 15,j4 16]::uJ 1 [mD 15,j4 16]::uJ 1 [Lc,CZ 0]::uJ 1 [Lc,CZ 0]::uJ 1 [Lc,CZ 0]:: []) (fun V=>by kernel_rfl)
end
section
open Go.Proofs.Tryz Go Go.RowKit Go.Ev Go.Maps
variable {p f:Int} {L:List b8} {k k' B:Nat} {o:Oc} {W:World} {v m:Value}
structure Dq where
 m:Int
 e:Int
 b:Bool
def adW (L:List b8) (id:Nat) (p w:Int) (x:Oc×Dq):Prop:=x.1.Ok/\adQ L id w x.1/\bJ prog bw 26 [nB x.1.m x.1.e x.1.n x.1.f,bj (.int .i64 p)] (o9 (iR x.2.m x.2.e) (bj (.bool x.2.b)))
def aDT (h:o.Ok) (l:0<=p) (q:p<=512): ∃d:Dq,bJ prog bw 26 [nB o.m o.e o.n o.f,bj (.int .i64 p)] (o9 (iR d.m d.e) (bj (.bool d.b))):=by
 obtain ⟨a,j,M,g,_,_,hc⟩:=aDS.h [] rfl [.z o.m,.i o.e,.z o.n,.i o.f,.i p] (pS sQ h.hm (oU h.e0 h.e1 (pS sQ h.hn (oU h.f0 h.f1 (YM (xN (by omega) (by omega)) gH))))) iG;rcases bu.1 j with rfl|j
 ·obtain ⟨m,M,rfl,_,_,g⟩:=m5 g
  obtain ⟨e,M,rfl,_,_,g⟩:=qq g;obtain rfl:M= []:=g;exact ⟨⟨m,e,true⟩,hc _ rfl⟩
 ·obtain rfl:=b7.1 j
  obtain ⟨m,M,rfl,_,_,g⟩:=m5 g;obtain ⟨e,M,rfl,_,_,g⟩:=qq g;obtain rfl:M= []:=g;exact ⟨⟨m,e,false⟩,hc _ rfl⟩
def aDU (j:GI L) (l:NN L) (q:L.length<=4000) {id:Nat} (hi:id<L.length) (s:0<=p) (t:p<=512): ∃F:Int->Oc×Dq,∀w,0<=w->w<=4096->adW L id p w (F w):=by
 have h: ∀w:Int,∃x:Oc×Dq,0<=w->w<=4096->adW L id p w x:=fun w=>by
  by_cases b:0<=w/\w<=4096
  ·obtain ⟨o,a,g⟩:=aDH j l q hi b.1 b.2
   obtain ⟨d,i⟩:=aDT a s t;exact ⟨(o,d),fun _ _=>⟨a,g,i⟩⟩
  ·exact ⟨(lb,⟨0,0,false⟩),fun e a=>absurd ⟨e,a⟩ b⟩
 exact ⟨fun w=>Classical.choose (h w),fun w=>eY (h w)⟩
def GY (x:Oc×Dq):Option (Int×Int×Int):=if x.1.s=11 then some (0,0,11) else if x.1.s=0/\x.2.b=true then some (x.2.m,x.2.e,0) else none
def pB (F:Int->Oc×Dq):List Int->Int×Int×Int
 | []=>(0,0,12)
 |w::l=>(GY (F w)).getD (pB F l)
def aDV {x:Oc×Dq} {r:Int×Int×Int} (h:GY x=some r):r.2.2=0\/r=(0,0,11):=by
 unfold GY at h;grind
def adX (F:Int->Oc×Dq): ∀l,(pB F l).2.2=0\/pB F l=(0,0,11)\/pB F l=(0,0,12)
 | []=> .inr (.inr rfl)
 |w::l=>by
  unfold pB;cases h:GY (F w) with
  |none=>exact adX F l
  |some r=>exact (aDV h).imp id .inl
def amk (F:Int->Oc×Dq) (a:List Int): ∀l,pB F l=(0,0,12)\/pB F (l++a)=pB F l
 | []=> .inl rfl
 |w::l=>by
  rw [List.cons_append];unfold pB;cases GY (F w) with
  |none=>exact amk F a l
  |some r=>simp_all
def aDW (x:Int) (h:k<=k'): ∃l,lU x k'=lU x k++l:=by
 obtain ⟨d,rfl⟩: ∃d,k'=k+d:=⟨k'-k,by omega⟩
 induction d with
 |zero=>simp_all
 |succ d b=>
  obtain ⟨l,a⟩:=b (by omega);exact ⟨l++ [2^(k+d)*x],by rw [<-eK,ami,a,dR]⟩
def Lk (p f:Int) (k:Nat):Prop:=(∀j,j<k->2^j*(p+8)<=f)/\f<2^k*(p+8)
def aDX (h:Lk p f k) (h':Lk p f k'):k=k':=by
 rcases gj k k' with a|a|a
 ·have:=h'.1 k a;have:=h.2;omega
 ·exact a
 ·have:=h.1 k' a;have:=h'.2;omega
def aDY {a:Int} (h:Lk p f k) (h':Lk p a k') (d:f<=a):k<=k':=by
 rcases bV k' k with b|b
 ·have:=h.1 k' b;have:=h'.2;omega
 omega
def aDZ {d:Dq} {w0:World} (l:bJ prog bw 26 [nB o.m o.e o.n o.f,bj (.int .i64 p)] (o9 (iR d.m d.e) (bj (.bool d.b)))) (q:bw w0) {x:Value} (A:nB o.m o.e o.n o.f w0 x):
 Calls prog 26 #[x,.int .i64 p] w0 fun e h=> ∃a k c,e= .returned (.tuple #[.agg #[.bool (decide (d.m<0)),.slice a k c,.int .i64 d.e],.bool d.b])/\dL h (.slice a k c) d.m.natAbs/\Below w0.heap.size w0 h:=by
 refine (l (fun _=>False) w0 [x,.int .i64 p] (fun b t=>t.elim) (YQ q (aH _ _) (fun k e=>e.elim)) (fun h g=>⟨_,_,rfl,?_,_,_,rfl,rfl,rfl⟩)).mono ?_
 ·obtain ⟨a,b,e,i,C⟩:=A
  exact ⟨a,b,e,BQ (S:=fun _=>False) i g (fun _ _ e=>e.elim),BQ (S:=fun _=>False) C g (fun _ _ e=>e.elim)⟩
 ·rintro e h ⟨v,rfl,z,j⟩
  obtain ⟨u,s,rfl,⟨y,rfl,i⟩,rfl⟩:=z h fun _ _ _=>rfl
  obtain ⟨a,k,c,rfl,_⟩:=i.form;exact ⟨a,k,c,rfl,i,j⟩
def aD0 (b:0<=p) (d:p<=512) (w:World):Calls prog 24 #[.int .i64 p] w fun e a=>e= .returned (.bool true)/\a=w:=by
 go_enter func24,ntmps24;go_wp2_with fail;go_ret;exact ⟨by simp,rfl⟩
def aD1 (b:0<=f) (d:f<=4096) (w:World):Calls prog 25 #[.int .i64 f] w fun e a=>e= .returned (.bool true)/\a=w:=by
 go_enter func25,ntmps25;go_wp2_with fail;go_ret;exact ⟨by simp,rfl⟩
def aD2 {p:Nat} (g:iI W B p v m L) (a:GI L) (y:NN L) (E:L.length<=4000) {id:Nat} (hi:id<L.length):
 Calls prog 23 #[ptr p,.int .i64 id] W fun e F=>e= .returned (.bool true)/\Below W.heap.size W F:=by
 have b:=ae (OM g hi (by omega) rfl);have u:=ae (fun D h=>alJ (W:=D) (g.below h) a.ahead (fun i hi=>⟨(a.nd i hi).k1,(a.nd i hi).k2,y i hi⟩) (by omega) hi);obtain ⟨x,A⟩:=pQ (L.getD id fS);rw [A] at b;clear g a y E hi A;obtain ⟨k,j,l,q,t⟩:=x;rw [show ig ⟨k,j,l,q,t⟩= .agg #[.int .i64 k,.int .i64 j,.int .i64 l,.int .i64 q,.string t] from rfl] at b;unfold ptr at b u⊢;go_enter func23,ntmps23;go_wp2_with fail;refine b.out.mono ?_;rintro e G ⟨rfl,d⟩;have s:=ae (d.below.alloc d.size (.cells #[.int .i64 k,.int .i64 j,.int .i64 l,.int .i64 q,.string t] 60));clear d;go_wp2_with fail;refine (u.out _ s.out).mono ?_;rintro e H ⟨rfl,z⟩;have C:=ae (s.out.trans (z.mono s.out.size));clear z;go_wp2_with fail;go_ret;exact ⟨rfl,C.out⟩
def aD3 {p:Nat} (d:iI W B p v m L) (g:L.length<=4000) {i:Int} (hi:i<0\/(L.length:Int)<=i):
 Calls prog 23 #[ptr p,.int .i64 i] W fun e h=>e= .returned (.bool false)/\Below W.heap.size W h:=by
 have b:=ae (aBK d hi (by omega));clear d g hi;rw [show ig fS= .agg #[.int .i64 0,.int .i64 0,.int .i64 0,.int .i64 0,.string ByteArray.empty] from rfl] at b;unfold ptr at b⊢;go_enter func23,ntmps23;go_wp2_with fail;refine b.out.mono ?_;rintro e l ⟨rfl,a⟩;have j:=ae (a.below.alloc a.size (.cells #[.int .i64 0,.int .i64 0,.int .i64 0,.int .i64 0,.string ByteArray.empty] 60));clear a;go_wp2_with fail;go_ret;exact ⟨rfl,j.out⟩
end
end Go.Proofs.YtnmpjdgobafdkaaGreatDoor
