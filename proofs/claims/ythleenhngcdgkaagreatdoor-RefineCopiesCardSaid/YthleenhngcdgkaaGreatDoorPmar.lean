/- refineCopies_proved. -/
import Derived.Test.YthleenhngcdgkaaGreatDoorPmaq
set_option maxRecDepth 100000
set_option maxHeartbeats 16000000
set_option linter.all false
noncomputable section
namespace Go.Proofs.YthleenhngcdgkaaGreatDoor
section
open Go.RowKit Go.Ev
inductive SD where
 |z (z:Int)|n (n:Nat)|i (x:Int)|u (x:Nat)|o|zs (z:Int) (b:Bool) (h:decide (z<0)=b)|ra (R:World->Value->Prop) (h: ∀w v,R w v->v.oneCell'=true)
def SD.slot:SD->Slot
 | .z x=>iS x
 | .n x=>nS x
 | .i x=>dF (dC .i64 x)
 | .u x=>dF (dC .u32 (x:Int))
 | .o=>ahF
 | .zs x _ _=>iS x
 | .ra R h=>⟨R,h,default,default,default,false,fun e=>by cases e⟩
def aU:List SD->Nat->SD
 | [],_=> .o
 |d::_,0=>d
 |_::l,n+1=>aU l n
def Du: ∀(L:List SD) (j:Nat),kX (L.map SD.slot) j=(aU L j).slot
 | [],_=>rfl
 |_::_,0=>rfl
 |_::l,n+1=>Du l n
def SD.zv:SD->Int
 | .z x=>x
 | .zs x _ _=>x
 |_=>0
def SD.nv:SD->Nat
 | .n x=>x
 | .z x=>x.natAbs
 | .zs x _ _=>x.natAbs
 |_=>0
def SD.iv:SD->Int
 | .i x=>x
 | .u x=>x
 |_=>0
def SD.sh:SD->Bool
 | .z _=>true
 | .zs _ _ _=>true
 |_=>false
def SD.sg:SD->Bool->Bool
 | .zs _ true _,c=>c
 | .zs _ false _,c=> !c
 |_,_=>false
def SD.B6:SD->Bool
 | .ra _ _=>true
 |_=>false
def SD.ar:SD->World->Value->Prop
 | .ra R _=>R
 |_=>fun _ _=>False
def SD.B7:SD->Bool
 | .n _=>true
 |_=>false
def SD.XK:SD->Bool
 | .i _=>true
 |_=>false
def SD.isU:SD->Bool
 | .u _=>true
 |_=>false
inductive KZ where
 |z (j:Nat)|o|s (b:Bool) (j:Nat)
inductive KN where
 |n (j:Nat)|m (j:Nat)|o
inductive KI where
 |i (j:Nat)|l (k:Int)|u (j:Nat)|k (d:IntKind) (v:Int)|len (j:Nat)
def KZ.c0:KZ->ai
 | .z j=>s0 j
 | .o=> .bool false
 | .s x _=> .bool x
def KZ.c1:KZ->ai
 | .z j=>sA j
 | .o=> .j7
 | .s _ j=>sA j
def KZ.val (L:List SD):KZ->Int
 | .z j=>(aU L j).zv
 | .o=>0
 | .s _ j=>(aU L j).zv
def KZ.ok (L:List SD) (a:Bool):KZ->Bool
 | .z j=>(aU L j).sh
 | .o=> !a
 | .s x j=>(aU L j).sg x
def KN.pat:KN->ai
 | .n j=>sA j
 | .m j=>sA j
 | .o=> .j7
def KN.val (L:List SD):KN->Nat
 | .n j=>(aU L j).nv
 | .m j=>(aU L j).nv
 | .o=>0
def KN.ok (L:List SD) (a:Bool):KN->Bool
 | .n j=>(aU L j).B7
 | .m j=>(aU L j).sh
 | .o=> !a
def KI.pat:KI->ai
 | .i j=>s0 j
 | .l y=> .int .i64 y
 | .u j=>s0 j
 | .k d v=> .int d v
 | .len j=>s2 j
def KI.kd:KI->IntKind
 | .u _=> .u32
 | .k d _=>d
 |_=> .i64
def KI.val (L:List SD):KI->Int
 | .i j=>(aU L j).iv
 | .l y=>y
 | .u j=>(aU L j).iv
 | .k _ v=>v
 | .len j=>(m6 (aU L j).nv:Nat)
def KI.ok (L:List SD):KI->Bool
 | .i j=>(aU L j).XK
 | .u j=>(aU L j).isU
 | .len j=>(aU L j).B7||(aU L j).sh
 |_=>true
def KI.w:KI->Bool
 | .i _=>true
 | .l _=>true
 |_=>false
inductive Kd where
 |z (a:KZ)|n (a:KN)|i (a:KI)|b (b:Bool)|d (a:KZ) (e:KI)|r (a:KZ) (q:KN)|v (a:KZ) (e:KI) (c:KZ) (f:KI)|s (a b:KZ)|t (a b:Kd)|t3 (a b c:Kd)|lit (l:List ai)
 |nd (k:Int) (a b n:KI) (t:List UInt8)|res (a:KZ) (q:KN) (s:KI)|out (a:KZ) (e:KI) (c:KZ) (f:KI) (s:KI)
 |cat (a b:Kd)|nil|ra (j:Nat)|fc (f:FuncId) (j:Nat)|lv (v:ai)
def aK(j:Nat):Kd:=.z (.z j)
def aA(j:Nat):Kd:=.i (.i j)
def gN(k:Int):Kd:=.i (.l k)
def cV(j:Nat):Kd:=.n (.n j)
def ah(i j:Nat):Kd:=.s (.z i) (.z j)
def eO(i j:Nat):Kd:=.d (.z i) (.i j)
def IA (p:Int) (q:Nat) (s:Int):World->Value->Prop:=fun w v=> ∃u d,v= .agg #[.bool (decide (p<0)),u,d,.int .i64 s]/\eD w u p.natAbs/\eD w d q
def XL (m e n f s:Int):World->Value->Prop:=fun w x=> ∃a b,x= .agg #[.bool (decide (m<0)),a,.int .i64 e,.bool (decide (n<0)),b,.int .i64 f,.int .i64 s]/\eD w a m.natAbs/\eD w b n.natAbs
def isLit:ai->Bool
 | .bool _=>true
 | .j7=>true
 | .int _ _=>true
 |_=>false
def G6:ai->Value
 | .bool x=> .bool x
 | .j7=> .slice none 0 0
 | .int k x=> .int k x
 |_=> .bool false
def isW:ai->Bool
 | .str _=>true
 |v=>isLit v
def aiS:ai->Value
 | .str s=> .string ⟨⟨s⟩⟩
 |v=>G6 v
def Ji:List ai->Bool
 | []=>true
 |a::l=>isLit a&&Ji l
def Kd.cells:Kd->List ai
 | .z a=> [a.c0,a.c1]
 | .d a e=> [a.c0,a.c1,e.pat]
 | .r a q=> [a.c0,a.c1,q.pat]
 | .v a e c f=> [a.c0,a.c1,e.pat,c.c0,c.c1,f.pat]
 | .s a y=> [a.c0,a.c1,y.c0,y.c1]
 | .lit l=>l
 | .res a x y=> [a.c0,a.c1,x.pat,y.pat]
 | .out a e c f y=> [a.c0,a.c1,e.pat,c.c0,c.c1,f.pat,y.pat]
 | .cat a y=>a.cells++y.cells
 |_=> []
def Kd.ui:Kd->Bool
 | .z _=>true
 | .d _ _=>true
 | .r _ _=>true
 | .v _ _ _ _=>true
 | .s _ _=>true
 | .lit _=>true
 | .res _ _ _=>true
 | .out _ _ _ _ _=>true
 | .cat a y=>a.ui&&y.ui
 |_=>false
def acw (d e:World->Value->Prop):World->Value->Prop:=fun w v=> ∃a b,v= .agg ⟨a++b⟩/\d w (.agg ⟨a⟩)/\e w (.agg ⟨b⟩)
def Kd.pat:Kd->ai
 | .z a=> .agg [a.c0,a.c1]
 | .n a=>a.pat
 | .i a=>a.pat
 | .b x=> .bool x
 | .d a e=> .agg [a.c0,a.c1,e.pat]
 | .r a q=> .agg [a.c0,a.c1,q.pat]
 | .v a e c f=> .agg [a.c0,a.c1,e.pat,c.c0,c.c1,f.pat]
 | .s a y=> .agg [a.c0,a.c1,y.c0,y.c1]
 | .t a y=> .fm [a.pat,y.pat]
 | .t3 a y x=> .fm [a.pat,y.pat,x.pat]
 | .lit l=> .agg l
 | .nd k a y x l=> .agg [.int .i64 k,a.pat,y.pat,x.pat,.str l]
 | .res a x y=> .agg [a.c0,a.c1,x.pat,y.pat]
 | .out a e c f y=> .agg [a.c0,a.c1,e.pat,c.c0,c.c1,f.pat,y.pat]
 | .cat a y=> .agg (a.cells++y.cells)
 | .nil=> .j7
 | .ra j=>sA j
 | .fc f j=> .func (.func f) [] [sA j]
 | .lv g=>g
def Kd.rel (L:List SD):Kd->World->Value->Prop
 | .z a=>dU (a.val L)
 | .n a=>fD (a.val L)
 | .i a=>bj (.int a.kd (a.val L))
 | .b x=>bj (.bool x)
 | .d a e=>i9 (a.val L) (e.val L)
 | .r a q=>sU (a.val L) (q.val L)
 | .v a e c f=>nU (a.val L) (e.val L) (c.val L) (f.val L)
 | .s a y=>cG (a.val L) (y.val L)
 | .t a y=>pF (a.rel L) (y.rel L)
 | .t3 a y x=>EV (a.rel L) (y.rel L) (x.rel L)
 | .lit l=>bj (.agg ⟨l.map G6⟩)
 | .nd k a y x l=>bj (.agg #[.int .i64 k,.int .i64 (a.val L),.int .i64 (y.val L),.int .i64 (x.val L),.string ⟨⟨l⟩⟩])
 | .res a x y=>IA (a.val L) (x.val L) (y.val L)
 | .out a e c f y=>XL (a.val L) (e.val L) (c.val L) (f.val L) (y.val L)
 | .cat a y=>acw (a.rel L) (y.rel L)
 | .nil=>bj (.slice none 0 0)
 | .ra j=>(aU L j).ar
 | .fc f j=>fun w v=> ∃p,v= .func (.func f) #[] #[p]/\(aU L j).ar w p
 | .lv g=>bj (aiS g)
def Kd.ok (L:List SD) (p:Bool):Kd->Bool
 | .z a=>a.ok L p
 | .n a=>a.ok L p
 | .i a=>a.ok L
 | .b _=>true
 | .d a e=>a.ok L p&&(e.ok L&&e.w)
 | .r a q=>a.ok L p&&q.ok L p
 | .v a e c f=>a.ok L p&&(e.ok L&&e.w)&&(c.ok L p&&(f.ok L&&f.w))
 | .s a y=>a.ok L p&&y.ok L p
 | .t a y=>a.ok L p&&y.ok L p
 | .t3 a y x=>a.ok L p&&(y.ok L p&&x.ok L p)
 | .lit l=>Ji l
 | .nd _ a y x _=>(a.ok L&&a.w)&&((y.ok L&&y.w)&&(x.ok L&&x.w))
 | .res a x y=>a.ok L p&&(x.ok L p&&(y.ok L&&y.w))
 | .out a e c f y=>(a.ok L p&&(e.ok L&&e.w))&&((c.ok L p&&(f.ok L&&f.w))&&(y.ok L&&y.w))
 | .cat a y=>(a.ok L p&&a.ui)&&(y.ok L p&&y.ui)
 | .nil=>true
 | .ra j=>(aU L j).B6
 | .fc _ j=>(aU L j).B6
 | .lv g=>isW g
section
variable {L:List SD} {A:World->Prop}
def acx {d:SD} (h:d.sh=true):d.slot=iS d.zv:=by cases d<;>first|rfl|cases h
def XM {d:SD} {b:Bool} (h:d.sg b=true):d.slot=iS d.zv/\decide (d.zv<0)=b/\d.sh=true:=by
 cases d with
 |zs x c hc=>cases c<;>cases b<;>first|exact ⟨rfl,hc,rfl⟩|cases h
 |_=>cases h
def atq {d:SD} (h:d.B7=true):d= .n d.nv:=by cases d<;>first|rfl|cases h
def SY {d:SD} (h:d.sh=true):d.nv=d.zv.natAbs:=by cases d<;>first|rfl|cases h
def KZ.into {a:KZ} (h:a.ok L true=true): @fq ⟨cP (L.map SD.slot)⟩ (fC A (L.map SD.slot)) (dU (a.val L)) (.agg [a.c0,a.c1]):=by
 cases a with
 |z j=>exact kN (by rw [Du,acx h];rfl)
 |o=>cases h
 |s b j=>exact oB (XM h).2.1 (by rw [Du,(XM h).1];rfl)
def KZ.qX {a:KZ} (h:a.ok L false=true): @fB ⟨cP (L.map SD.slot)⟩ (fC A (L.map SD.slot)) (.agg [a.c0,a.c1]) (dU (a.val L)):=by
 cases a with
 |z j=>exact jW (by rw [Du,acx h];rfl)
 |o=>exact @atm ⟨cP (L.map SD.slot)⟩ _
 |s b j=>exact ahR (XM h).2.1 (by rw [Du,(XM h).1];rfl)
def acy {j:Nat} (h:(aU L j).sh=true):kX (L.map SD.slot) j=GM (aU L j).nv (ahI (decide ((aU L j).zv<0))) default:=by
 rw [Du,SY h,acx h];rfl
def acz {j:Nat} (h:(aU L j).B7=true):kX (L.map SD.slot) j=GM (aU L j).nv default default:=by
 rw [Du]
 conv=>lhs;rw [atq h]
 rfl
def KN.into {a:KN} (h:a.ok L true=true): @fq ⟨cP (L.map SD.slot)⟩ (fC A (L.map SD.slot)) (fD (a.val L)) a.pat:=by
 cases a with
 |n j=>exact j' (acz h)
 |m j=>exact j' (acy h)
 |o=>cases h
def KN.qX {a:KN} (h:a.ok L false=true): @fB ⟨cP (L.map SD.slot)⟩ (fC A (L.map SD.slot)) a.pat (fD (a.val L)):=by
 cases a with
 |n j=>exact eC (acz h)
 |m j=>exact eC (acy h)
 |o=>exact @atn ⟨cP (L.map SD.slot)⟩ _
def KI.zk {a:KI} (h:a.ok L=true): ∀m:Mp,@γ ⟨cP (L.map SD.slot)⟩ m a.pat= .int a.kd (a.val L):=by
 cases a with
 |i j=>exact dp (by rw [Du];simp only [KI.val];revert h;simp only [KI.ok];cases aU L j<;>intro h<;>first|rfl|cases h)
 |l k=>exact fun m=>rfl
 |u j=>exact dp (by rw [Du];simp only [KI.val];revert h;simp only [KI.ok];cases aU L j<;>intro h<;>first|rfl|cases h)
 |k d v=>exact fun m=>rfl
 |len j=>
  refine BV ?_;simp only [KI.ok,cX] at h;rcases h with h|h
  ·rw [acz h];rfl
  ·rw [acy h];rfl
def aiT {b:aJ} {G:gI} {p:ai} {x:Value} (a:x9 p=true) (h: ∀m:Mp,γ m p=x):fq G (bj x) p/\fB G p (bj x):=by
 cases p<;>first|exact ⟨fun w v e=>e.trans (h Og).symm,fun w v e=>(show _=_ from e).trans (h Og)⟩|cases a
def KI.plain (a:KI):x9 a.pat=true:=by cases a<;>rfl
def KI.into {a:KI} (h:a.ok L=true): @fq ⟨cP (L.map SD.slot)⟩ (fC A (L.map SD.slot)) (bj (.int a.kd (a.val L))) a.pat:=(@aiT ⟨cP (L.map SD.slot)⟩ _ _ _ a.plain (KI.zk h)).1
def KI.qX {a:KI} (h:a.ok L=true): @fB ⟨cP (L.map SD.slot)⟩ (fC A (L.map SD.slot)) a.pat (bj (.int a.kd (a.val L))):=(@aiT ⟨cP (L.map SD.slot)⟩ _ _ _ a.plain (KI.zk h)).2
def KI.acA {a:KI} (h:a.w=true):a.kd= .i64:=by cases a<;>first|rfl|cases h
def KI.E8 {a:KI} (h:(a.ok L&&a.w)=true): @fq ⟨cP (L.map SD.slot)⟩ (fC A (L.map SD.slot)) (bj (.int .i64 (a.val L))) a.pat:=by
 rw [aq] at h;have:=KI.into (A:=A) h.1
 rwa [KI.acA h.2] at this
def KI.E9 {a:KI} (h:(a.ok L&&a.w)=true): @fB ⟨cP (L.map SD.slot)⟩ (fC A (L.map SD.slot)) a.pat (bj (.int .i64 (a.val L))):=by
 rw [aq] at h;have:=KI.qX (A:=A) h.1
 rwa [KI.acA h.2] at this
def aiU {b:aJ} {G:gI} {w:World} {a:ai} (h:isLit a=true): ∀v,Mt G w a v↔v=G6 a:=fun v=>by
 cases a<;>first|exact jY|cases h
def XN {g:aJ} {G:gI} {w:World} : ∀(l:List ai),Ji l=true-> ∀b,pZ G w l b↔b=l.map G6
 | [],_,b=>jY
 |a::l,h,b=>by
  simp only [Ji,aq] at h;constructor
  ·rintro ⟨v,f,rfl,d,e⟩
   rw [(aiU h.1 v).1 d,(XN l h.2 f).1 e];rfl
  ·rintro rfl
   exact ⟨_,_,rfl,(aiU h.1 _).2 rfl,(XN l h.2 _).2 rfl⟩
def atr {a:aJ} {G:gI} {l:List ai} (h:Ji l=true):fq G (bj (.agg ⟨l.map G6⟩)) (.agg l):=fun w v e=>
 ⟨l.map G6,e,(XN l h _).2 rfl⟩
def ats {d:aJ} {G:gI} {l:List ai} (h:Ji l=true):fB G (.agg l) (bj (.agg ⟨l.map G6⟩)):=fun w v e=>by
 obtain ⟨b,rfl,a⟩:=e;rw [(XN l h b).1 a];rfl
def att {h:aJ} {G:gI} {k x y z:Int} {a b c:ai} {t:List UInt8} (d:fq G (bj (.int .i64 x)) a) (f:fq G (bj (.int .i64 y)) b) (g:fq G (bj (.int .i64 z)) c):fq G (bj (.agg #[.int .i64 k,.int .i64 x,.int .i64 y,.int .i64 z,.string ⟨⟨t⟩⟩])) (.agg [.int .i64 k,a,b,c,.str t]):=by
 rintro w v e;rw [show v=_ from e];exact ⟨_,rfl,_,_,rfl,rfl,_,_,rfl,d w _ rfl,_,_,rfl,f w _ rfl,_,_,rfl,g w _ rfl,_,_,rfl,rfl,rfl⟩
def atu {u:aJ} {G:gI} {k x y z:Int} {a b c:ai} {t:List UInt8} (i:fB G a (bj (.int .i64 x))) (j:fB G b (bj (.int .i64 y))) (l:fB G c (bj (.int .i64 z))):fB G (.agg [.int .i64 k,a,b,c,.str t]) (bj (.agg #[.int .i64 k,.int .i64 x,.int .i64 y,.int .i64 z,.string ⟨⟨t⟩⟩])):=by
 rintro w v ⟨B,rfl,m,_,rfl,d,o,_,rfl,e,p,_,rfl,f,q,_,rfl,g,s,_,rfl,h,rfl⟩;rw [show m=_ from d,show o=_ from i w _ e,show p=_ from j w _ f,show q=_ from l w _ g,show s=_ from h];rfl
def atv {p:aJ} {G:gI} {m s:Int} {q:Nat} {a b x y:ai} (h:fq G (dU m) (.agg [a,b])) (j:fq G (fD q) x) (l:fq G (bj (.int .i64 s)) y):fq G (IA m q s) (.agg [a,b,x,y]):=by
 rintro w v ⟨r,d,rfl,k,i⟩;obtain ⟨t,e,o,_,rfl,f,b1,_,rfl,g,rfl⟩:=h w (.agg #[.bool (decide (m<0)),r]) ⟨r,rfl,k⟩;cases e;exact ⟨_,rfl,_,_,rfl,f,_,_,rfl,g,_,_,rfl,j w _ i,_,_,rfl,l w _ rfl,rfl⟩
def atw {t:aJ} {G:gI} {m s:Int} {q:Nat} {a b x y:ai} (h:fB G (.agg [a,b]) (dU m)) (k:fB G x (fD q)) (o:fB G y (bj (.int .i64 s))):fB G (.agg [a,b,x,y]) (IA m q s):=by
 rintro w v ⟨u,rfl,d,_,rfl,f,b1,_,rfl,g,c1,_,rfl,i,p,_,rfl,j,rfl⟩;obtain ⟨r,e,l⟩:=h w (.agg #[d,b1]) ⟨_,rfl,_,_,rfl,f,_,_,rfl,g,rfl⟩;cases e;have:=o w _ j;subst this;exact ⟨_,c1,rfl,l,k w _ i⟩
def atx {F:aJ} {G:gI} {m e n f s:Int} {a b x c d y z:ai} (h:fq G (i9 m e) (.agg [a,b,x])) (h':fq G (i9 n f) (.agg [c,d,y])) (B:fq G (bj (.int .i64 s)) z):fq G (XL m e n f s) (.agg [a,b,x,c,d,y,z]):=by
 rintro w v ⟨r,t,rfl,u,C⟩;obtain ⟨D,g,i,_,rfl,j,b1,_,rfl,k,E,_,rfl,p,rfl⟩:=h w (.agg #[.bool (decide (m<0)),r,.int .i64 e]) ⟨r,rfl,u⟩;cases g;obtain ⟨D,g,i,_,rfl,l,b1,_,rfl,o,E,_,rfl,q,rfl⟩:=h' w (.agg #[.bool (decide (n<0)),t,.int .i64 f]) ⟨t,rfl,C⟩;cases g;exact ⟨_,rfl,_,_,rfl,j,_,_,rfl,k,_,_,rfl,p,_,_,rfl,l,_,_,rfl,o,_,_,rfl,q,_,_,rfl,B w _ rfl,rfl⟩
def aty {I:aJ} {G:gI} {m e n f s:Int} {a b x c d y z:ai} (h:fB G (.agg [a,b,x]) (i9 m e)) (h':fB G (.agg [c,d,y]) (i9 n f)) (D:fB G z (bj (.int .i64 s))):fB G (.agg [a,b,x,c,d,y,z]) (XL m e n f s):=by
 rintro w v ⟨J,rfl,i,_,rfl,k,b1,_,rfl,l,F,_,rfl,q,c1,_,rfl,o,j,_,rfl,p,H,_,rfl,u,M,_,rfl,B,rfl⟩;obtain ⟨r,g,C⟩:=h w (.agg #[i,b1,F]) ⟨_,rfl,_,_,rfl,k,_,_,rfl,l,_,_,rfl,q,rfl⟩;cases g;obtain ⟨t,g,E⟩:=h' w (.agg #[c1,j,H]) ⟨_,rfl,_,_,rfl,o,_,_,rfl,p,_,_,rfl,u,rfl⟩;cases g;have:=D w _ B;subst this;exact ⟨_,_,rfl,C,E⟩
def G7 {k:Kd} (h:k.ui=true):k.pat= .agg k.cells:=by cases k<;>first|rfl|cases h
def XO {p:aJ} {G:gI} {w:World} : ∀(l m:List ai) (f:List Value),pZ G w (l++m) f↔ ∃a b,f=a++b/\pZ G w l a/\pZ G w m b
 | [],m,f=>⟨fun h=>⟨[],f,rfl,rfl,h⟩,fun ⟨a,b,e,d,k⟩=>by
   rw [show a= [] from d] at e;simp_all⟩
 |x::l,m,f=>by
  constructor
  ·rintro ⟨v,o,rfl,d,k⟩
   obtain ⟨a,b,rfl,g,i⟩:=(XO l m o).1 k;exact ⟨v::a,b,rfl,⟨v,a,rfl,d,g⟩,i⟩
  ·rintro ⟨a,b,rfl,⟨v,j,rfl,d,g⟩,i⟩
   exact ⟨v,j++b,rfl,d,(XO l m _).2 ⟨j,b,rfl,g,i⟩⟩
def atz {q:aJ} {G:gI} {d e:World->Value->Prop} {l m:List ai} (h:fq G d (.agg l)) (i:fq G e (.agg m)):fq G (acw d e) (.agg (l++m)):=by
 rintro w v ⟨a,b,rfl,o,p⟩;obtain ⟨x,f,j⟩:=h w _ o;obtain ⟨y,g,k⟩:=i w _ p;cases f;cases g;exact ⟨a++b,rfl,(XO l m _).2 ⟨a,b,rfl,j,k⟩⟩
def atA {o:aJ} {G:gI} {d e:World->Value->Prop} {l m:List ai} (f:fB G (.agg l) d) (g:fB G (.agg m) e):fB G (.agg (l++m)) (acw d e):=by
 rintro w v ⟨k,rfl,h⟩;obtain ⟨a,b,rfl,i,j⟩:=(XO l m k).1 h;exact ⟨a,b,rfl,f w _ ⟨a,rfl,i⟩,g w _ ⟨b,rfl,j⟩⟩
def aiV {d:SD} (h:d.B6=true):d.slot.jt=d.ar:=by cases d<;>first|rfl|cases h
def aiW {j:Nat} (h:(aU L j).B6=true): @fq ⟨cP (L.map SD.slot)⟩ (fC A (L.map SD.slot)) ((aU L j).ar) (sA j):=ahJ (by rw [Du];exact aiV h)
def aiX {j:Nat} (h:(aU L j).B6=true): @fB ⟨cP (L.map SD.slot)⟩ (fC A (L.map SD.slot)) (sA j) ((aU L j).ar):=ahK (by rw [Du];exact aiV h)
def aiY {b:aJ} {G:gI} {w:World} {a:ai} (h:isW a=true): ∀v,Mt G w a v↔v=aiS a:=fun v=>by
 cases a<;>first|exact jY|cases h
def Kd.into: ∀ {a:Kd},a.ok L true=true-> @fq ⟨cP (L.map SD.slot)⟩ (fC A (L.map SD.slot)) (a.rel L) a.pat:=fun {a} h=>by
 letI:aJ:=⟨cP (L.map SD.slot)⟩
 induction a with
 |z a=>exact KZ.into h
 |n a=>exact KN.into h
 |i a=>exact KI.into h
 |b b=>exact pk
 |d a e=>simp only [Kd.ok,aq (a.ok L true)] at h;exact SV (KZ.into h.1) (KI.E8 h.2)
 |r a q=>simp only [Kd.ok,aq] at h;exact atg (KZ.into h.1) (KN.into h.2)
 |v a e c f=>
  have g:=(aq _ _▸h:(a.ok L true&&(e.ok L&&e.w))=true/\(c.ok L true&&(f.ok L&&f.w))=true);have m:=(aq _ _▸g.1:a.ok L true=true/\(e.ok L&&e.w)=true);have o:=(aq _ _▸g.2:c.ok L true=true/\(f.ok L&&f.w)=true);exact atk (SV (KZ.into m.1) (KI.E8 m.2)) (SV (KZ.into o.1) (KI.E8 o.2))
 |s a b=>simp only [Kd.ok,aq] at h;exact ati (KZ.into h.1) (KZ.into h.2)
 |t a b u B=>simp only [Kd.ok,aq] at h;exact R8 (u h.1) (B h.2)
 |t3 a b c u B E=>simp only [Kd.ok,aq] at h;exact BS (u h.1) (B h.2.1) (E h.2.2)
 |lit l=>exact atr h
 |nd k a b n t=>
  have g:=(aq _ _▸h:(a.ok L&&a.w)=true/\((b.ok L&&b.w)&&(n.ok L&&n.w))=true);have m:=(aq _ _▸g.2:(b.ok L&&b.w)=true/\(n.ok L&&n.w)=true);exact att (KI.E8 g.1) (KI.E8 m.1) (KI.E8 m.2)
 |res a x y=>
  have g:=(aq _ _▸h:a.ok L true=true/\(x.ok L true&&(y.ok L&&y.w))=true);have m:=(aq _ _▸g.2:x.ok L true=true/\(y.ok L&&y.w)=true);exact atv (KZ.into g.1) (KN.into m.1) (KI.E8 m.2)
 |out a e c f y=>
  have g:=(aq _ _▸h:(a.ok L true&&(e.ok L&&e.w))=true/\((c.ok L true&&(f.ok L&&f.w))&&(y.ok L&&y.w))=true);have m:=(aq _ _▸g.1:a.ok L true=true/\(e.ok L&&e.w)=true);have o:=(aq _ _▸g.2:(c.ok L true&&(f.ok L&&f.w))=true/\(y.ok L&&y.w)=true);have C:=(aq _ _▸o.1:c.ok L true=true/\(f.ok L&&f.w)=true);exact atx (SV (KZ.into m.1) (KI.E8 m.2)) (SV (KZ.into C.1) (KI.E8 C.2)) (KI.E8 o.2)
 |cat a y u F=>
  have g:=(aq _ _▸h:(a.ok L true&&a.ui)=true/\(y.ok L true&&y.ui)=true);have m:=(aq _ _▸g.1:a.ok L true=true/\a.ui=true);have o:=(aq _ _▸g.2:y.ok L true=true/\y.ui=true);exact atz (G7 m.2▸u m.1) (G7 o.2▸F o.1)
 |nil=>exact fun _ _ e=>e
 |ra j=>exact aiW h
 |fc f j=>
  rintro w v ⟨p,rfl,D⟩;exact ⟨[p],rfl,p,[],rfl,aiW h w p D,rfl⟩
 |lv v=>exact fun w x e=>(aiY h x).2 e
def Kd.qX: ∀ {a:Kd},a.ok L false=true-> @fB ⟨cP (L.map SD.slot)⟩ (fC A (L.map SD.slot)) a.pat (a.rel L):=fun {a} h=>by
 letI:aJ:=⟨cP (L.map SD.slot)⟩
 induction a with
 |z a=>exact KZ.qX h
 |n a=>exact KN.qX h
 |i a=>exact KI.qX h
 |b b=>exact jS
 |d a e=>simp only [Kd.ok,aq (a.ok L false)] at h;exact SW (KZ.qX h.1) (KI.E9 h.2)
 |r a q=>simp only [Kd.ok,aq] at h;exact ath (KZ.qX h.1) (KN.qX h.2)
 |v a e c f=>
  have g:=(aq _ _▸h:(a.ok L false&&(e.ok L&&e.w))=true/\(c.ok L false&&(f.ok L&&f.w))=true);have m:=(aq _ _▸g.1:a.ok L false=true/\(e.ok L&&e.w)=true);have o:=(aq _ _▸g.2:c.ok L false=true/\(f.ok L&&f.w)=true);exact atl (SW (KZ.qX m.1) (KI.E9 m.2)) (SW (KZ.qX o.1) (KI.E9 o.2))
 |s a b=>simp only [Kd.ok,aq] at h;exact atj (KZ.qX h.1) (KZ.qX h.2)
 |t a b u B=>simp only [Kd.ok,aq] at h;exact EU (u h.1) (B h.2)
 |t3 a b c u B E=>simp only [Kd.ok,aq] at h;exact EW (u h.1) (B h.2.1) (E h.2.2)
 |lit l=>exact ats h
 |nd k a b n t=>
  have g:=(aq _ _▸h:(a.ok L&&a.w)=true/\((b.ok L&&b.w)&&(n.ok L&&n.w))=true);have m:=(aq _ _▸g.2:(b.ok L&&b.w)=true/\(n.ok L&&n.w)=true);exact atu (KI.E9 g.1) (KI.E9 m.1) (KI.E9 m.2)
 |res a x y=>
  have g:=(aq _ _▸h:a.ok L false=true/\(x.ok L false&&(y.ok L&&y.w))=true);have m:=(aq _ _▸g.2:x.ok L false=true/\(y.ok L&&y.w)=true);exact atw (KZ.qX g.1) (KN.qX m.1) (KI.E9 m.2)
 |out a e c f y=>
  have g:=(aq _ _▸h:(a.ok L false&&(e.ok L&&e.w))=true/\((c.ok L false&&(f.ok L&&f.w))&&(y.ok L&&y.w))=true);have m:=(aq _ _▸g.1:a.ok L false=true/\(e.ok L&&e.w)=true);have o:=(aq _ _▸g.2:(c.ok L false&&(f.ok L&&f.w))=true/\(y.ok L&&y.w)=true);have C:=(aq _ _▸o.1:c.ok L false=true/\(f.ok L&&f.w)=true);exact aty (SW (KZ.qX m.1) (KI.E9 m.2)) (SW (KZ.qX C.1) (KI.E9 C.2)) (KI.E9 o.2)
 |cat a y u F=>
  have g:=(aq _ _▸h:(a.ok L false&&a.ui)=true/\(y.ok L false&&y.ui)=true);have m:=(aq _ _▸g.1:a.ok L false=true/\a.ui=true);have o:=(aq _ _▸g.2:y.ok L false=true/\y.ui=true);exact atA (G7 m.2▸u m.1) (G7 o.2▸F o.1)
 |nil=>exact fun _ _ e=>e
 |ra j=>exact aiX h
 |fc f j=>
  rintro w v ⟨H,rfl,p,G,rfl,D,e⟩;rw [show G= [] from e];exact ⟨p,rfl,aiX h w p D⟩
 |lv v=>exact fun w x e=>(aiY h x).1 e
end
inductive KF where
 |ar (op:BinOp) (a b c:KI)|cm (op:BinOp) (a b:KI) (r:Bool)|ng (a c:KI)|cv (a c:KI)|mx (g:Bool) (a b c:KI)
def KF.fact:KF->Fact
 | .ar d a b c=>⟨.bin d,a.pat,b.pat,c.pat⟩
 | .cm d a b r=>⟨.bin d,a.pat,b.pat,.bool r⟩
 | .ng a c=>⟨.neg,a.pat,a.pat,c.pat⟩
 | .cv a c=>⟨.conv c.kd,a.pat,a.pat,c.pat⟩
 | .mx g a b c=>⟨.mx g,a.pat,b.pat,c.pat⟩
def XP (k:IntKind) (a:BinOp) (x y z:Int):Prop:=match a with
 | .add=>k.wrap (x+y)=z
 | .sub=>k.wrap (x-y)=z
 | .mul=>k.wrap (x*y)=z
 | .quo=>y≠0/\k.wrap (x.tdiv y)=z
 | .rem=>y≠0/\x.tmod y=z
 |_=>False
def cmP (a:BinOp) (x y:Int) (r:Bool):Prop:=match a with
 | .lss=>decide (x<y)=r
 | .gtr=>decide (y<x)=r
 | .leq=>decide (x<=y)=r
 | .geq=>decide (y<=x)=r
 | .eql=>decide (x=y)=r
 | .neq=>decide (x≠y)=r
 |_=>False
def KF.prop (L:List SD):KF->Prop
 | .ar d a b c=>XP a.kd d (a.val L) (b.val L) (c.val L)
 | .cm d a b r=>cmP d (a.val L) (b.val L) r
 | .ng a c=>a.kd.wrap (-a.val L)=c.val L
 | .cv a c=>c.kd.wrap (a.val L)=c.val L
 | .mx g a b c=>cond g (Max.max (a.val L) (b.val L)) (Min.min (a.val L) (b.val L))=c.val L
def Jk (a b:KI):Bool:=nM a.kd b.kd
def KF.ok (L:List SD):KF->Bool
 | .ar _ a b c=>(a.ok L&&b.ok L)&&(c.ok L&&(Jk a b&&Jk a c))
 | .cm _ a b _=>(a.ok L&&b.ok L)&&Jk a b
 | .ng a c=>(a.ok L&&c.ok L)&&Jk a c
 | .cv a c=>a.ok L&&c.ok L
 | .mx _ a b c=>(a.ok L&&b.ok L)&&(c.ok L&&(Jk a b&&Jk a c))
inductive xd (L:List SD):List KF->Prop where
 |nil:xd L []
 |k {f:KF} {l:List KF} (h:f.prop L) (t:xd L l):xd L (f::l)
structure KE where
 f:FuncId
 a:List Kd
 r:Kd
def KE.E' (e:KE):rT:=⟨e.f,e.a.map Kd.pat,e.r.pat⟩
inductive uW (L:List SD):List KE->Prop where
 |nil:uW L []
 |k {e:KE} {l:List KE} (h:bH Tryz.prog bw e.f (e.a.map (Kd.rel L)) (e.r.rel L)) (t:uW L l):uW L (e::l)
def qY (L:List SD) (p:Bool):List Kd->Bool
 | []=>true
 |k::l=>k.ok L p&&qY L p l
def tI (L:List SD):List KE->Bool
 | []=>true
 |e::l=>(qY L false e.a&&(e.r.ok L true))&&tI L l
def okF (L:List SD):List KF->Bool
 | []=>true
 |f::l=>f.ok L&&okF L l
section
variable {L:List SD}
def KF.atB {f:KF} (h:f.ok L=true) (e:f.prop L): @mZ ⟨cP (L.map SD.slot)⟩ f.fact:=by
 letI:aJ:=⟨cP (L.map SD.slot)⟩
 have o: ∀ {a b:KI},Jk a b=true->b.kd=a.kd:=fun {a b} h=>by
  unfold Jk at h;revert h;cases a.kd<;>cases b.kd<;>intro h<;>first|rfl|cases h
 cases f with
 |ar s a b c=>
  simp only [KF.ok,aq] at h;obtain ⟨⟨k,l⟩,p,m,q⟩:=h;have i:=KI.zk k;have d:=KI.zk l;have j:=KI.zk p;rw [o m] at d;rw [o q] at j;cases s<;>first
   |exact Oj (KI.plain c) i d j e
   |exact abR (KI.plain c) i d j e
   |exact aq7 (KI.plain c) i d j e
   |exact aq9 (KI.plain c) i d j e.1 e.2
   |exact aq8 (KI.plain c) i d j e.1 e.2
   |exact e.elim
 |cm s a b r=>
  simp only [KF.ok,aq] at h;obtain ⟨⟨k,l⟩,m⟩:=h;have i:=KI.zk k;have d:=KI.zk l;rw [o m] at d;cases s<;>first
   |exact BT i d e
   |exact GL i d e
   |exact EX i d e
   |exact Sa i d e
   |exact ud i d e
   |exact BU i d e
   |exact e.elim
 |ng a c=>
  simp only [KF.ok,aq] at h;obtain ⟨⟨k,l⟩,m⟩:=h;have i:=KI.zk k;have d:=KI.zk l;rw [o m] at d;exact WI (KI.plain c) i d e
 |cv a c=>
  simp only [KF.ok,aq] at h;exact WJ (KI.plain c) (KI.zk h.1) (KI.zk h.2) e
 |mx g a b c=>
  simp only [KF.ok,aq] at h;obtain ⟨⟨k,l⟩,p,m,q⟩:=h;have i:=KI.zk k;have d:=KI.zk l;have j:=KI.zk p;rw [o m] at d;rw [o q] at j;cases g
  ·exact ahE (KI.plain c) i d j e
  ·exact ara (KI.plain c) i d j e
def xd.ok {F:List KF} (a:xd L F) (h:okF L F=true): ∀f∈F.map KF.fact,@mZ ⟨cP (L.map SD.slot)⟩ f:=by
 induction a with
 |nil=>simp_all
 |k b _ d=>
  simp only [okF,aq] at h;exact @eZ ⟨cP (L.map SD.slot)⟩ _ _ (KF.atB h.1 b) (d h.2)
def aiZ {A:World->Prop} : ∀(l:List Kd),qY L false l=true-> ∀w a,@pZ ⟨cP (L.map SD.slot)⟩ (fC A (L.map SD.slot)) w (l.map Kd.pat) a->wW (l.map (Kd.rel L)) w a
 | [],_=> @db ⟨cP (L.map SD.slot)⟩ _
 |k::l,h=>by
  simp only [qY,aq] at h;exact @bN ⟨cP (L.map SD.slot)⟩ _ _ _ _ _ (Kd.qX h.1) (aiZ l h.2)
def ai0 {A:World->Prop} : ∀(l:List Kd),qY L true l=true-> ∀w a,wW (l.map (Kd.rel L)) w a-> @pZ ⟨cP (L.map SD.slot)⟩ (fC A (L.map SD.slot)) w (l.map Kd.pat) a
 | [],_=> @jN ⟨cP (L.map SD.slot)⟩ _
 |k::l,h=>by
  simp only [qY,aq] at h;exact @fF ⟨cP (L.map SD.slot)⟩ _ _ _ _ _ (Kd.into h.1) (ai0 l h.2)
def KI.Jl (a:KI):oN a.pat=true:=by cases a<;>rfl
def ai1: ∀ {l:List ai},Ji l=true->jo l=true
 | [],_=>rfl
 |a::l,h=>by
  simp only [Ji,aq] at h;show (oN a&&jo l)=true;rw [ai1 h.2];obtain ⟨b,_⟩:=h;cases a<;>first|rfl|cases b
def Kd.Jl: ∀ {k:Kd} {p:Bool},k.ok L p=true->oN k.pat=true:=fun {k p} h=>by
 induction k with
 |z a=>cases a<;>rfl
 |n a=>cases a<;>rfl
 |i a=>exact a.Jl
 |b b=>rfl
 |d a e=>cases a<;>cases e<;>rfl
 |r a q=>cases a<;>cases q<;>rfl
 |v a e c f=>cases a<;>cases e<;>cases c<;>cases f<;>rfl
 |s a b=>cases a<;>cases b<;>rfl
 |t a b g B=>simp only [Kd.ok,aq] at h;simp only [Kd.pat,oN,jo,g h.1,B h.2];rfl
 |t3 a b c g B F=>simp only [Kd.ok,aq] at h;simp only [Kd.pat,oN,jo,g h.1,B h.2.1,F h.2.2];rfl
 |lit l=>exact ai1 h
 |nd k a b n t=>cases a<;>cases b<;>cases n<;>rfl
 |res a x y=>cases a<;>cases x<;>cases y<;>rfl
 |out a e c f y=>cases a<;>cases e<;>cases c<;>cases f<;>cases y<;>rfl
 |cat a y g C=>
  have m:=(aq _ _▸h:(a.ok L p&&a.ui)=true/\(y.ok L p&&y.ui)=true);have o:=(aq _ _▸m.1:a.ok L p=true/\a.ui=true);have u:=(aq _ _▸m.2:y.ok L p=true/\y.ui=true);have D:jo a.cells=true:=by have:=g o.1;rw [G7 o.2] at this;exact this
  have E:jo y.cells=true:=by have:=C u.1;rw [G7 u.2] at this;exact this
  show jo (a.cells++y.cells)=true;generalize a.cells=G at*;generalize y.cells=H at*;clear g C h m o u
  induction G with
  |nil=>exact E
  |cons x l J=>
   have I:=(aq _ _▸D:oN x=true/\jo l=true);show (oN x&&jo (l++H))=true;simp_all
 |nil=>rfl
 |ra j=>rfl
 |fc f j=>rfl
 |lv v=>simp only [Kd.ok] at h;cases v<;>first|rfl|cases h
def acB {p:Bool} : ∀(l:List Kd),qY L p l=true->jo (l.map Kd.pat)=true
 | [],_=>rfl
 |k::l,h=>by
  simp only [qY,aq] at h;show (oN k.pat&&jo (l.map Kd.pat))=true;rw [Kd.Jl h.1,acB l h.2];rfl
def uW.ok {T:List KE} (a:uW L T) (h:tI L T=true): ∀e∈T.map KE.E',@ub ⟨cP (L.map SD.slot)⟩ Tryz.prog (fC bw (L.map SD.slot)) e/\jo e.args=true:=by
 induction a with
 |nil=>simp_all
 |@k e l hc _ b=>
  simp only [tI,aq] at h;exact @dh ⟨cP (L.map SD.slot)⟩ _ _ _ _ (di hc (aiZ e.a h.1.1) (Kd.into h.1.2)) (acB e.a h.1.1) (b h.2)
def fR (L:List SD) (I:List FuncId) (a:Nat) (F:List KF) (T:List KE) {f:FuncId} (ks:List Kd) (r:Kd)
 (h:(SU (Env.sy Tryz.prog (fC bw (L.map SD.slot)) (F.map KF.fact)) (T.map KE.E') I a f (ks.map Kd.pat) r.pat&&((okF L F&&tI L T)&&(qY L true ks&&r.ok L false)))=true)
 (j:xd L F) (k:uW L T):bH Tryz.prog bw f (ks.map (Kd.rel L)) (r.rel L):=by
 simp only [aq] at h;obtain ⟨e,⟨g,i⟩,b,d⟩:=h;exact atb (L.map SD.slot) mix I a e (j.ok g) (k.ok i) (by rw [acB ks b,Kd.Jl d];rfl) (ai0 ks b) (Kd.qX d)
end
def mP {N:Nat} {s t:Int} (b:Bool) (h:Zb N s) (h':Zb N t):Zb N (cond b s t):=by grind
end
section
open Go.Proofs.Tryz Go.RowKit Go.Ev
variable {a b n c d:Int} {i j k l:Nat}
def OT (x: -4611686018427387904<=n/\n<=4611686018427387904:=by omega): ∃z,Bz 63 z/\z=n/\bH prog bw 37 [bj (.int .i64 n)] (dU z):=by
 by_cases g:n<0
 ·refine ⟨n,by unfold Bz;omega,rfl,?_⟩
  have c0:=decide_eq_true g;obtain ⟨m,u,f,e⟩:=LC (n:=n.natAbs) (by omega);subst f;have h:=aB (n+1) (by omega);have o:IntKind.i64.wrap (-(n+1))= -(n+1):=aB _ (by omega);have p:IntKind.u64.wrap (-(n+1))= -(n+1):=IntWalk.u64_in _ (by omega);have q:IntKind.u64.wrap (-(n+1)+1)=((n.natAbs:Nat):Int):=by rw [IntWalk.u64_in _ (by omega)];omega
  exact jV [dF (dC .i64 n),dF (dC .i64 (n+1)),dF (dC .i64 (-(n+1))),dF (dC .u64 (-(n+1))),dF (dC .u64 ((n.natAbs:Nat):Int)),nS n.natAbs] mix (F:= [⟨.bin .lss,s0 0,.int .i64 0,.bool true⟩,⟨.bin .add,s0 0,.int .i64 1,s0 1⟩,⟨.neg,s0 1,s0 1,s0 2⟩,⟨.conv .u64,s0 2,s0 2,s0 3⟩,⟨.bin .add,s0 3,.int .u64 1,s0 4⟩]) (T:= [⟨68,[s0 4],sA 5⟩]) (pats:= [s0 0]) (res:=nC true 5) (by kernel_rfl)
   (eZ (BT (dp rfl) (fun _=>rfl) c0) (eZ (Oj rfl (dp rfl) (fun _=>rfl) (dp rfl) h) (eZ (WI rfl (dp rfl) (dp rfl) o) (eZ (WJ rfl (dp rfl) (dp rfl) p) (eZ (Oj rfl (dp rfl) (fun _=>rfl) (dp rfl) q) jT))))) (dh (di e (bN (tA rfl) db) (j' rfl)) rfl jU) rfl (fF (iQ rfl) jN) (ahR c0 rfl)
 ·obtain ⟨z,y,t,s⟩:=GP (n:=n.toNat) (by omega)
  grind
def ai2 (p:Bz i a) (B:0<=n/\n<=1048576:=by omega) (hi:i<=5000000:=by omega): ∃x,Bz i x/\x= -(-a/2^n.toNat)/\bH prog bw 381 [dU a,bj (.int .i64 n)] (dU x):=by
 obtain ⟨t,m,y,f⟩:=BW p;obtain ⟨u,o,A,g⟩:=Oo (s:=(n).toNat) m (by omega:(n:Int)=(((n).toNat:Nat):Int));obtain ⟨e,h,C,q⟩:=BW o;refine ⟨e,h,by simp_all,?_⟩;exact fR [.z a,.z t,.i n,.z u,.z e] [] 0 [] [⟨155,[aK 0],aK 1⟩,⟨91,[aK 1,aA 2],aK 3⟩,⟨155,[aK 3],aK 4⟩] [aK 0,aA 2] (aK 4) (by kernel_rfl) .nil (.k f (.k g (.k q .nil)))
def OU {x:Int} :bH prog bw 320 [dU x] (cG x x):=by
 exact fR [.z x] [] 0 [] [] [aK 0] (ah 0 0) (by kernel_rfl) .nil .nil
def uX (t:Bz i a) (u:Bz j b) (B:0<=n/\n<=1048576:=by omega) (hi:i<=5000000:=by omega) (A:j<=5000000:=by omega): ∃x y,Bz i x/\Bz j y/\(x=a/2^n.toNat/\y= -(-b/2^n.toNat))/\bH prog bw 358 [cG a b,bj (.int .i64 n)] (cG x y):=by
 obtain ⟨e,p,m,g⟩:=Oo (s:=(n).toNat) t (by omega:(n:Int)=(((n).toNat:Nat):Int));obtain ⟨f,q,o,h⟩:=ai2 (n:=n) u;refine ⟨e,f,p.mono (by omega),q.mono (by omega),⟨m,o⟩,?_⟩;exact fR [.z a,.i n,.z e,.z b,.z f] [] 0 [] [⟨91,[aK 0,aA 1],aK 2⟩,⟨381,[aK 3,aA 1],aK 4⟩] [ah 0 3,aA 1] (ah 2 4) (by kernel_rfl) .nil (.k g (.k h .nil))
def XQ (t:Bz i a) (u:Bz j b) {c:Nat} (B:0<=n/\n<=(c:Int):=by omega) (hc:c<=1048576:=by omega) (hi:i<=5000000:=by omega) (A:j<=5000000:=by omega): ∃x y,Bz (i+c) x/\Bz (j+c) y/\(x=a*2^n.toNat/\y=b*2^n.toNat)/\bH prog bw 369 [cG a b,bj (.int .i64 n)] (cG x y):=by
 obtain ⟨e,p,m,g⟩:=AM (s:=(n).toNat) (c:=c) t (by omega:(n:Int)=(((n).toNat:Nat):Int));obtain ⟨f,q,o,h⟩:=AM (s:=(n).toNat) (c:=c) u (by omega:(n:Int)=(((n).toNat:Nat):Int));refine ⟨e,f,p.mono (by omega),q.mono (by omega),⟨m,o⟩,?_⟩;exact fR [.z a,.i n,.z e,.z b,.z f] [] 0 [] [⟨136,[aK 0,aA 1],aK 2⟩,⟨136,[aK 3,aA 1],aK 4⟩] [ah 0 3,aA 1] (ah 2 4) (by kernel_rfl) .nil (.k g (.k h .nil))
def B8 (s:Bz i a) (t:Bz j b) (hi:i<=5000000:=by omega) (u:j<=5000000:=by omega): ∃x y,Bz j x/\Bz i y/\(x= -b/\y= -a)/\bH prog bw 360 [cG a b] (cG x y):=by
 obtain ⟨e,p,m,g⟩:=BW t;obtain ⟨f,q,o,h⟩:=BW s;refine ⟨e,f,p.mono (by omega),q.mono (by omega),⟨m,o⟩,?_⟩;exact fR [.z b,.z e,.z a,.z f] [] 0 [] [⟨155,[aK 0],aK 1⟩,⟨155,[aK 2],aK 3⟩] [ah 2 0] (ah 1 3) (by kernel_rfl) .nil (.k g (.k h .nil))
def Fa (s:Bz i a) (t:Bz j b) (hc:Bz k c) (u:Bz l d) (hi:i<=3000000:=by omega) (A:j<=3000000:=by omega) (B:k<=3000000:=by omega) (C:l<=3000000:=by omega): ∃x y,Bz (max i k+1) x/\Bz (max j l+1) y/\(x=a+c/\y=b+d)/\bH prog bw 359 [cG a b,cG c d] (cG x y):=by
 obtain ⟨e,p,m,g⟩:=yf s hc;obtain ⟨f,q,o,h⟩:=yf t u;refine ⟨e,f,p.mono (by omega),q.mono (by omega),⟨m,o⟩,?_⟩;exact fR [.z a,.z c,.z e,.z b,.z d,.z f] [] 0 [] [⟨89,[aK 0,aK 1],aK 2⟩,⟨89,[aK 3,aK 4],aK 5⟩] [ah 0 3,ah 1 4] (ah 2 5) (by kernel_rfl) .nil (.k g (.k h .nil))
def Jm (q:Bz i a) (s:Bz j b) (hc:Bz k c) (t:Bz l d) (hi:i<=3000000:=by omega) (D:j<=3000000:=by omega) (E:k<=3000000:=by omega) (F:l<=3000000:=by omega): ∃x y,Bz (max i l+1) x/\Bz (max j k+1) y/\(x=a-d/\y=b-c)/\bH prog bw 319 [cG a b,cG c d] (cG x y):=by
 obtain ⟨A,B,m,o,C,g⟩:=B8 hc t;obtain ⟨e,f,p,h,G,u⟩:=Fa q s m o;refine ⟨e,f,p.mono (by omega),h.mono (by omega),⟨by omega,by omega⟩,?_⟩;exact fR [.z c,.z d,.z A,.z B,.z a,.z b,.z e,.z f] [] 0 [] [⟨360,[ah 0 1],ah 2 3⟩,⟨359,[ah 4 5,ah 2 3],ah 6 7⟩] [ah 4 5,ah 0 1] (ah 6 7) (by kernel_rfl) .nil (.k g (.k u .nil))
def OV (s:Bz i a) (t:Bz j b) (hc:Bz k c) (hi:i<=3000000:=by omega) (u:j<=3000000:=by omega) (A:k<=3000000:=by omega): ∃x y,Bz (max i k+1) x/\Bz (max j k+1) y/\(x=a-c/\y=b+c)/\bH prog bw 321 [cG a b,dU c] (cG x y):=by
 obtain ⟨e,p,m,g⟩:=SI s hc;obtain ⟨f,q,o,h⟩:=yf t hc;refine ⟨e,f,p.mono (by omega),q.mono (by omega),⟨m,o⟩,?_⟩;exact fR [.z a,.z c,.z e,.z b,.z f] [] 0 [] [⟨361,[aK 0,aK 1],aK 2⟩,⟨89,[aK 3,aK 1],aK 4⟩] [ah 0 3,aK 1] (ah 2 4) (by kernel_rfl) .nil (.k g (.k h .nil))
def Fb (A:Bz i a) (B:Bz j b) (hc:Bz k c) (C:Bz l d) (O:0<=n/\n<=1048576:=by omega) (hi:i<=2000000:=by omega) (J:j<=2000000:=by omega) (M:k<=2000000:=by omega) (N:l<=2000000:=by omega): ∃x y,Bz (i+k) x/\Bz (j+l) y/\(x=a*c/2^n.toNat/\y= -(-(b*d)/2^n.toNat))/\bH prog bw 384 [cG a b,cG c d,bj (.int .i64 n)] (cG x y):=by
 obtain ⟨H,t,o,h⟩:=LP A hc;obtain ⟨f,u,p,m⟩:=Oo (s:=(n).toNat) t (by omega:(n:Int)=(((n).toNat:Nat):Int));obtain ⟨I,q,E,F⟩:=LP B C;obtain ⟨e,D,g,G⟩:=ai2 (n:=n) q;refine ⟨f,e,u.mono (by omega),D.mono (by omega),⟨by rw [p,o],by rw [g,E]⟩,?_⟩;exact fR [.z a,.z c,.z H,.i n,.z f,.z b,.z d,.z I,.z e] [] 0 [] [⟨339,[aK 0,aK 1],aK 2⟩,⟨91,[aK 2,aA 3],aK 4⟩,⟨339,[aK 5,aK 6],aK 7⟩,⟨381,[aK 7,aA 3],aK 8⟩] [ah 0 5,ah 1 6,aA 3] (ah 4 8) (by kernel_rfl) .nil (.k h (.k m (.k F (.k G .nil))))
def Jn (C:Bz i a) (D:Bz j b) (G: -4611686018427387904<=n/\n<=4611686018427387904:=by omega) (hi:i<=5000000:=by omega) (F:j<=5000000:=by omega): ∃x y,Bz (max i j+63) x/\Bz (max i j+63) y/\(0<=n/\x=a*n/\y=b*n\/n<0/\x=b*n/\y=a*n)/\bH prog bw 318 [cG a b,bj (.int .i64 n)] (cG x y):=by
 obtain ⟨E,m,h,B⟩:=OT (n:=n);by_cases q:n<0
 ·have e:=decide_eq_true q
  obtain ⟨g,s,p,o⟩:=LP D m;obtain ⟨f,t,u,A⟩:=LP C m;refine ⟨g,f,s.mono (by omega),t.mono (by omega),.inr ⟨q,by rw [p,h],by rw [u,h]⟩,?_⟩;exact fR [.i n,.z E,.z b,.z g,.z a,.z f] [] 0 [.cm .lss (.i 0) (.l 0) true] [⟨37,[aA 0],aK 1⟩,⟨339,[aK 2,aK 1],aK 3⟩,⟨339,[aK 4,aK 1],aK 5⟩] [ah 4 2,aA 0] (ah 3 5) (by kernel_rfl) (.k e .nil) (.k B (.k o (.k A .nil)))
 ·have e:=decide_eq_false q
  obtain ⟨g,s,p,o⟩:=LP C m;obtain ⟨f,t,u,A⟩:=LP D m;refine ⟨g,f,s.mono (by omega),t.mono (by omega),.inl ⟨by omega,by rw [p,h],by rw [u,h]⟩,?_⟩;exact fR [.i n,.z E,.z a,.z g,.z b,.z f] [] 0 [.cm .lss (.i 0) (.l 0) false] [⟨37,[aA 0],aK 1⟩,⟨339,[aK 2,aK 1],aK 3⟩,⟨339,[aK 4,aK 1],aK 5⟩] [ah 2 4,aA 0] (ah 3 5) (by kernel_rfl) (.k e .nil) (.k B (.k o (.k A .nil)))
def ai3 (m:Bz i a) (o:Bz j b) (hi:i<=5000000:=by omega) (p:j<=5000000:=by omega): ∃z,Bz (max j i+1) z/\z=b-a/\bH prog bw 357 [cG a b] (dU z):=by
 obtain ⟨e,h,g,f⟩:=SI o m;refine ⟨e,h,g,?_⟩;exact fR [.z b,.z a,.z e] [] 0 [] [⟨361,[aK 0,aK 1],aK 2⟩] [ah 1 0] (aK 2) (by kernel_rfl) .nil (.k f .nil)
def ai4 (n:Nat):eW n<=3↔n<8:=by
 have h:=E6 n;constructor
 ·intro e
  exact ax h (aF (by decide) e)
 ·intro f
  exact Om (k:=3) f
def atC (f:Bz i a) (hi:i<=10000000):bH prog bw 393 [dU a] (bj (.bool (decide (a.natAbs<8)))):=by
 obtain ⟨b1,o,g,e⟩:=GN f.abs;by_cases h:a.natAbs<8
 ·have hc:decide ((b1:Int)<=3)=true:=decide_eq_true (by have:=(ai4 a.natAbs).2 h;omega)
  rw [decide_eq_true h];exact fR [.z a,.i (b1:Nat)] [] 0 [.cm .leq (.i 1) (.l 3) true] [⟨135,[.n (.m 0)],aA 1⟩] [aK 0] (.b true) (by kernel_rfl) (.k hc .nil) (.k e .nil)
 ·have hc:decide ((b1:Int)<=3)=false:=decide_eq_false (by have:=mt (ai4 a.natAbs).1 h;omega)
  rw [decide_eq_false h];exact fR [.z a,.i (b1:Nat)] [] 0 [.cm .leq (.i 1) (.l 3) false] [⟨135,[.n (.m 0)],aA 1⟩] [aK 0] (.b false) (by kernel_rfl) (.k hc .nil) (.k e .nil)
def S1 (e:Bz j b) (f:j<=10000000:=by omega):bH prog bw 385 [cG a b] (bj (.bool (decide (b.natAbs<8)))):=by
 have c1:=atC e f;cases h:decide (b.natAbs<8)<;>rw [h] at c1
 ·exact fR [.z b,.z a] [] 0 [] [⟨393,[aK 0],.b false⟩] [ah 1 0] (.b false) (by kernel_rfl) .nil (.k c1 .nil)
 ·exact fR [.z b,.z a] [] 0 [] [⟨393,[aK 0],.b true⟩] [ah 1 0] (.b true) (by kernel_rfl) .nil (.k c1 .nil)
def S2 {c:Nat} (u:0<=n/\n<=(c:Int):=by omega) (hc:c<=1048576:=by omega): ∃z,Bz (63+c) z/\z=2^n.toNat/\bH prog bw 365 [bj (.int .i64 n)] (cG z z):=by
 obtain ⟨p,m,q,f⟩:=GP (n:=1);obtain ⟨e,o,t,g⟩:=AM (s:=(n).toNat) (c:=c) m (by omega:(n:Int)=(((n).toNat:Nat):Int));have h:=OU (x:=e);refine ⟨e,o.mono (by omega),by simp_all,?_⟩;exact fR [.z p,.i n,.z e] [] 0 [] [⟨37,[gN 1],aK 0⟩,⟨136,[aK 0,aA 1],aK 2⟩,⟨320,[aK 2],ah 2 2⟩] [aA 1] (ah 2 2) (by kernel_rfl) .nil (.k f (.k g (.k h .nil)))
end
section
open Go.RowKit Go.Ev
variable {i j k g:Nat} {a b n:Int}
def ai5 (a k:Nat) (e:0<a) (l:0<k): ∀f x,x<=f->0<x->0<zi a k f x/\zi a k f x<=zh a k (zi a k f x)
 |0,x,h,d=>absurd d (by omega)
 |f+1,x,h,d=>by
  unfold zi;split
  ·omega
  ·rename_i m;exact ai5 a k e l f _ (by omega) (acd e l d)
def ai6 {a m:Nat} (o:m*m<=a) (l:0<a): ∀f x,0<x->m<=x->m<=zi a 2 f x
 |0,x,_,h=>h
 |f+1,x,e,h=>by
  unfold zi;split
  ·exact h
  ·refine ai6 o l f _ (acd l (by decide) e) ?_
   unfold zh;rw [cK (by decide),show 2-1=1 from rfl,fw,mi,dt];have q:m*m/x<=a/x:=ef o
   suffices s:2*m-x<=m*m/x by omega
   rw [cK e];obtain ⟨d,rfl⟩: ∃d,x=m+d:=⟨x-m,by omega⟩;rcases Nat.le_total d m with p|p
   ·obtain ⟨g,rfl⟩: ∃g,m=d+g:=⟨m-d,by omega⟩
    rw [show 2*(d+g)-(d+g+d)=g by omega];grind
   grind
def atD {a:Nat} (l:0<a:=by omega):tD a 2*tD a 2<=a/\a<(tD a 2+1)*(tD a 2+1):=by
 have e:0<tC a 2:=aM (by decide);have d:=ai5 a 2 l (by decide) (tC a 2) (tC a 2) (ak _) e;have q:=fun m (s:m*m<=a)=>ai6 s l (tC a 2) (tC a 2) e
 change 0<tD a 2/\tD a 2<=zh a 2 (tD a 2) at d;refine ⟨?_,Nat.lt_of_not_le fun h=> ?_⟩
 ·have f:=d.2
  unfold zh at f;rw [cK (by decide),show 2-1=1 from rfl,fw,mi,dt] at f;have o:tD a 2<=a/tD a 2:=by omega
  exact (cK d.1).1 o
 ·have p:tD a 2+1<=tC a 2:=by
   refine dH fun t=> ?_
   have u:tC a 2*tC a 2<=tD a 2*tD a 2:=bJ (by omega) (by omega);have x:a<tC a 2*tC a 2:=by
    unfold tC;rw [<-bC];exact ax (E6 a) (aF (by decide) (by omega))
   grind
  have y:tD a 2+1<=tD a 2:=q _ h p;omega
def XR {n:Nat} (p:Bn k n) (G:k<=900000:=by omega): ∃r e,Bn (k+1) r/\Bn k e/\r*r<=n/\n<(r+1)*(r+1)/\e=n-r*r/\bH Tryz.prog bw 355 [fD n] (pF (fD r) (fD e)):=by
 have c1:=ais p;by_cases q:n=0
 ·have f:decide ((m6 (n):Int)=0)=true:=(Sb (n)).trans (by rw [q];rfl)
  refine ⟨0,0,aM (by decide),aM (by decide),by omega,by omega,by omega,?_⟩;exact fR [.n n] [] 0 [.cm .eql (.len 0) (.l 0) true] [⟨119,[cV 0],cV 0⟩] [cV 0] (.t (.n (.o)) (.n (.o))) (by kernel_rfl) (.k f .nil) (.k c1 .nil)
 ·have f:decide ((m6 (n):Int)=0)=false:=(Sb (n)).trans (decide_eq_false q)
  obtain ⟨u,s,B,A⟩:=asD (n:=n) (k:=2) (by omega) p;have m:=atD (a:=n);rw [<-B] at m;obtain ⟨x,D,C,F⟩:=asy s;have E:x<=n:=by omega
  obtain ⟨d,y,h,z⟩:=aip p D (by omega) (by omega) E;refine ⟨u,d,s,y,m.1,m.2,by rw [h,C],?_⟩;exact fR [.n n,.n u,.n x,.n d] [] 0 [.cm .eql (.len 0) (.l 0) false] [⟨119,[cV 0],cV 0⟩,⟨380,[cV 0,gN 2],cV 1⟩,⟨353,[cV 1],cV 2⟩,⟨144,[cV 0,cV 2],.t (cV 3) (.b true)⟩] [cV 0] (.t (cV 1) (cV 3)) (by kernel_rfl) (.k f .nil) (.k c1 (.k A (.k F (.k z .nil))))
def S3 {d:Nat} (Z:Bz i a) (hb:Bz j b) (hi:i<=5000000:=by omega) (hj:j<=5000000:=by omega) (N:0<d:=by omega) (P:d<4294967296:=by omega): ∃x y,Bz i x/\Bz (max j 64+1) y/\(x=((a.natAbs/d:Nat):Int)/\0<=y/\y.natAbs<=b.natAbs/d+1/\b.natAbs/d<=y.natAbs)/\bH Tryz.prog bw 386 [cG a b,bj (.int .u32 (d:Int))] (cG x y):=by
 obtain ⟨Q,S,O,J,e5,h6,I⟩:=GO (d:=d) Z.abs (by omega) N P;obtain ⟨R,D,M,p,nV,qz,H⟩:=GO (d:=d) hb.abs (by omega) N P;by_cases G:((D:Nat):Int)≠0
 ·have e:=decide_eq_true G
  obtain ⟨B,E,q,A⟩:=LC (n:=1);obtain ⟨C,s,f,F⟩:=Sd M E;obtain ⟨l,ym,X,W⟩:=nR (b:=false) O;obtain ⟨o,U,t,Y⟩:=nR (b:=false) s;refine ⟨l,o,ym,U.mono (by omega),⟨by rw [X,J];rfl,by rw [t];exact eV _,by rw [t];rw [wX,f,q,p];omega,by rw [t];rw [wX,f,q,p];omega⟩,?_⟩;exact fR [.z a,.u d,.n Q,.u S,.z b,.n R,.u D,.n B,.n C,.z l,.z o] [] 0 [.cm .neq (.u 6) (.k .u32 0) true] [⟨120,[.n (.m 0),.i (.u 1)],.t3 (cV 2) (.i (.u 3)) (.b true)⟩,⟨120,[.n (.m 4),.i (.u 1)],.t3 (cV 5) (.i (.u 6)) (.b true)⟩,⟨68,[.i (.k .u64 1)],cV 7⟩,⟨143,[cV 5,cV 7],cV 8⟩,⟨141,[.b false,cV 2],aK 9⟩,⟨141,[.b false,cV 8],aK 10⟩] [ah 0 4,.i (.u 1)] (ah 9 10) (by kernel_rfl) (.k e .nil) (.k I (.k H (.k A (.k F (.k W (.k Y .nil))))))
 ·have e:=decide_eq_false G
  obtain ⟨T,E,q,A⟩:=nR (b:=false) O;obtain ⟨h,s,f,F⟩:=nR (b:=false) M;refine ⟨T,h,E,s.mono (by omega),⟨by rw [q,J];rfl,by rw [f];exact eV _,by rw [f];rw [wX,p];omega,by rw [f];rw [wX,p];omega⟩,?_⟩;exact fR [.z a,.u d,.n Q,.u S,.z b,.n R,.u D,.z T,.z h] [] 0 [.cm .neq (.u 6) (.k .u32 0) false] [⟨120,[.n (.m 0),.i (.u 1)],.t3 (cV 2) (.i (.u 3)) (.b true)⟩,⟨120,[.n (.m 4),.i (.u 1)],.t3 (cV 5) (.i (.u 6)) (.b true)⟩,⟨141,[.b false,cV 2],aK 7⟩,⟨141,[.b false,cV 5],aK 8⟩] [ah 0 4,.i (.u 1)] (ah 7 8) (by kernel_rfl) (.k e .nil) (.k I (.k H (.k A (.k F .nil))))
def acD (b:Bool) (x y:Nat):GX b x y<=x/y+1/\x/y<=GX b x y:=by
 unfold GX;grind
def XT (a:Int) (n:Nat):(a*2^n).natAbs=a.natAbs*2^n:=by rw [dK,mQ];rfl
def acE {l:Nat} {c d:Int} (O:Bz i a) (P:Bz j b) (hc:Bz k c) (Q:Bz l d) (I:c≠0:=by omega) (J:d≠0:=by omega) (hn:0<=n/\n<=(g:Int):=by omega) (hg:g<=1048576:=by omega) (hi:i<=3000000:=by omega) (hj:j<=3000000:=by omega) (hk:k<=3000000:=by omega) (hl:l<=3000000:=by omega): ∃x y,Bz (i+g+1) x/\Bz (j+g+1) y/\(x.natAbs<=a.natAbs*2^n.toNat/d.natAbs+1/\y.natAbs<=b.natAbs*2^n.toNat/c.natAbs+1)/\bH Tryz.prog bw 368 [cG a b,cG c d,bj (.int .i64 n)] (cG x y):=by
 obtain ⟨U,M,G,F⟩:=AM (s:=(n).toNat) (c:=g) O (by omega:(n:Int)=(((n).toNat:Nat):Int));obtain ⟨q,W,N,h8,H,OX,D⟩:=OA M Q (by omega) (by omega) J;obtain ⟨o,S,t,u⟩:=AM (s:=(n).toNat) (c:=g) P (by omega:(n:Int)=(((n).toNat:Nat):Int));obtain ⟨p,T,qA,R⟩:=BW S;obtain ⟨m,E,A,Y,B,Z,C⟩:=OA T hc (by omega) (by omega) I;obtain ⟨e,X,h,f⟩:=BW A;refine ⟨q,e,N,X,⟨by rw [H,wX,<-XT,<-G];exact (acD _ _ _).1,by rw [h,iM,B,wX,<-XT,<-t,show o.natAbs=p.natAbs by omega];exact (acD _ _ _).1⟩,?_⟩;exact fR [.z a,.i n,.z U,.z d,.z q,.z W,.z b,.z o,.z p,.z c,.z m,.z E,.z e] [] 0 [] [⟨136,[aK 0,aA 1],aK 2⟩,⟨154,[aK 2,aK 3],.t3 (aK 4) (aK 5) (.b true)⟩,⟨136,[aK 6,aA 1],aK 7⟩,⟨155,[aK 7],aK 8⟩,⟨154,[aK 8,aK 9],.t3 (aK 10) (aK 11) (.b true)⟩,⟨155,[aK 10],aK 12⟩] [ah 0 6,ah 9 3,aA 1] (ah 4 12) (by kernel_rfl) .nil (.k F (.k D (.k u (.k R (.k C (.k f .nil))))))
def atE (ha:Bz i a) (hb:Bz j b) (hn:0<=n/\n<=(g:Int):=by omega) (hg:g<=200000:=by omega) (hi:i<=400000:=by omega) (hj:j<=400000:=by omega): ∃x y,Bz (i+g+1) x/\Bz (max (j+g+1) 64+1) y/\(0<=x/\ ∀m:Nat,m*m<=a.natAbs*2^n.toNat->m<=x.natAbs)/\(0<=y/\ ∀m:Nat,m*m<=b.natAbs*2^n.toNat->m<=y.natAbs)/\bH Tryz.prog bw 388 [cG a b,bj (.int .i64 n)] (cG x y):=by
 obtain ⟨X,h2,e3,U⟩:=Sc (s:=(n).toNat) (c:=g) ha.abs (by omega:(n:Int)=(((n).toNat:Nat):Int));obtain ⟨h,Y,W,h8,h9,ff,kG,Z⟩:=XR h2;obtain ⟨A,oC,Dx,sW⟩:=Sc (s:=(n).toNat) (c:=g) hb.abs (by omega:(n:Int)=(((n).toNat:Nat):Int));obtain ⟨e,d,u,Ce,A0,Cc,Jq,o⟩:=XR oC;by_cases ym:d=0
 ·have f:decide (0<(m6 (d):Int))=false:=(I7 (d)).trans (by rw [ym];rfl)
  obtain ⟨B,I,G,M⟩:=nR (b:=false) W;obtain ⟨C,H,F,J⟩:=nR (b:=false) u;refine ⟨B,C,I.mono (by omega),H.mono (by omega),⟨by rw [G];exact eV _,fun m R=> ?_⟩,⟨by rw [F];exact eV _,fun m R=> ?_⟩,?_⟩
  ·rw [G,wX]
   refine dH fun N=> ?_
   have P:(h+1)*(h+1)<=m*m:=bJ (by omega) (by omega);omega
  ·rw [F,wX]
   refine dH fun N=> ?_
   have P:(e+1)*(e+1)<=m*m:=bJ (by omega) (by omega);omega
  exact fR [.z a,.i n,.n X,.n h,.n Y,.z b,.n A,.n e,.n d,.z B,.z C] [] 0 [.cm .gtr (.len 8) (.l 0) false] [⟨153,[.n (.m 0),aA 1],cV 2⟩,⟨355,[cV 2],.t (cV 3) (cV 4)⟩,⟨153,[.n (.m 5),aA 1],cV 6⟩,⟨355,[cV 6],.t (cV 7) (cV 8)⟩,⟨141,[.b false,cV 3],aK 9⟩,⟨141,[.b false,cV 7],aK 10⟩] [ah 0 5,aA 1] (ah 9 10) (by kernel_rfl) (.k f .nil) (.k U (.k Z (.k sW (.k o (.k M (.k J .nil))))))
 ·have f:decide (0<(m6 (d):Int))=true:=(I7 (d)).trans (decide_eq_true ym)
  obtain ⟨S,I,G,M⟩:=LC (n:=1);obtain ⟨T,H,F,J⟩:=Sd u I;obtain ⟨D,OY,p,O⟩:=nR (b:=false) W;obtain ⟨E,Q,q,S5⟩:=nR (b:=false) H;refine ⟨D,E,OY.mono (by omega),Q.mono (by omega),⟨by rw [p];exact eV _,fun m R=> ?_⟩,⟨by rw [q];exact eV _,fun m R=> ?_⟩,?_⟩
  ·rw [p,wX]
   refine dH fun N=> ?_
   have P:(h+1)*(h+1)<=m*m:=bJ (by omega) (by omega);omega
  ·rw [q,wX,F,G]
   refine dH fun N=> ?_
   have P:(e+1)*(e+1)<=m*m:=bJ (by omega) (by omega);omega
  exact fR [.z a,.i n,.n X,.n h,.n Y,.z b,.n A,.n e,.n d,.n S,.n T,.z D,.z E] [] 0 [.cm .gtr (.len 8) (.l 0) true] [⟨153,[.n (.m 0),aA 1],cV 2⟩,⟨355,[cV 2],.t (cV 3) (cV 4)⟩,⟨153,[.n (.m 5),aA 1],cV 6⟩,⟨355,[cV 6],.t (cV 7) (cV 8)⟩,⟨68,[.i (.k .u64 1)],cV 9⟩,⟨143,[cV 7,cV 9],cV 10⟩,⟨141,[.b false,cV 3],aK 11⟩,⟨141,[.b false,cV 10],aK 12⟩] [ah 0 5,aA 1] (ah 11 12) (by kernel_rfl) (.k f .nil) (.k U (.k Z (.k sW (.k o (.k M (.k J (.k O (.k S5 .nil))))))))
def OZ {m e s:Int} (h:DV m e) (Q:0<=s/\s<=100000:=by omega): ∃x y,Zb 300000 x/\Zb 300000 y/\(0<=e+s/\x=m*2^(e+s).toNat/\y=m*2^(e+s).toNat\/e+s<0/\x=m/2^(-(e+s)).toNat/\y= -(-m/2^(-(e+s)).toNat))/\bH Tryz.prog bw 366 [i9 m e,bj (.int .i64 s)] (cG x y):=by
 obtain ⟨k,P,o,J⟩:=h;unfold EB at J;obtain ⟨C,O⟩: ∃C:Nat,C=170000:=⟨_,rfl⟩;have A:=aB (e+s) (by omega);by_cases t:0<=(e+s)
 ·have f:=decide_eq_true t
  obtain ⟨d,u,p,F⟩:=AM (s:=((e+s)).toNat) (c:=C) o (by omega:((e+s):Int)=((((e+s)).toNat:Nat):Int));have G:=OU (x:=d);refine ⟨d,d,⟨_,by omega,u⟩,⟨_,by omega,u⟩,.inl ⟨by omega,p,p⟩,?_⟩;exact fR [.i e,.i s,.i (e+s),.z m,.z d] [] 0 [.ar .add (.i 0) (.i 1) (.i 2),.cm .geq (.i 2) (.l 0) true] [⟨136,[aK 3,aA 2],aK 4⟩,⟨320,[aK 4],ah 4 4⟩] [eO 3 0,aA 1] (ah 4 4) (by kernel_rfl) (.k A (.k f .nil)) (.k F (.k G .nil))
 ·have f:=decide_eq_false t
  have E:=OU (x:=m);have M:IntKind.i64.wrap (-(e+s))= -(e+s):=aB _ (by omega);obtain ⟨B,D,H,I,q,N⟩:=uX (n:=(-(e+s))) o o;refine ⟨B,D,⟨_,by omega,H⟩,⟨_,by omega,I⟩,.inr ⟨by omega,q.1,q.2⟩,?_⟩;exact fR [.i e,.i s,.i (e+s),.z m,.i (-(e+s)),.z B,.z D] [] 0 [.ar .add (.i 0) (.i 1) (.i 2),.cm .geq (.i 2) (.l 0) false,.ng (.i 2) (.i 4)] [⟨320,[aK 3],ah 3 3⟩,⟨358,[ah 3 3,aA 4],ah 5 6⟩] [eO 3 0,aA 1] (ah 5 6) (by kernel_rfl) (.k A (.k f (.k M .nil))) (.k E (.k N .nil))
end
section
open Go.Proofs.Tryz Go.RowKit Go.Ev
def later:List Ev.Way->List Ev.Way->Bool
 | .l::_,.r::_=>true
 | .l::p,.l::q=>later p q
 | .r::p,.r::q=>later p q
 | .k::p,.k::q=>later p q
 |_,_=>false
def S7:List Ev.Way->List Ev.Way->List Ev.Way
 | .l::p,.l::q=> .l::S7 p q
 | .r::p,.r::q=>S7 p q
 | .k::p,.k::q=> .k::S7 p q
 |_,q=>q
section
variable [aJ] {P:Program} {E:Env}
def atF (ok:eN P E) (M:IY P E) {cf:FuncId->List ai->aP->VR} (O:tr P E cf) (nt:Nat) {sub Js:Code} {out:Out} : ∀(p q:List Ev.Way) (c:Code) (s:Tm) (h:aP) (u:Tm) (i:aP),later p q=true->ni p c=some sub->ni q c=some Js->
 (gA E nt (AU (S7 p q) (uh (uR out) p c))).f cf s h= .ok .normal u i-> ∀(S:Nat->Prop) (m:Mp) (a:Act) (w:World) (Q:Exit->Act->World->Prop),bV E.gl S m h w->TR m h nt s a->
 (∀D G F,bV E.gl S D i F->TR D i nt u G->Goes m h w D i F->Js.wp P (sV P q c Q) G F)->sV P p c Q (vI out) a w:=by
 intro p
 induction p with
 |nil=>intro q c s h u i d;cases q<;>cases d
 |cons b p I=>
  intro q c s h u i d j g e S m a w Q r t H;cases b with
  |l=>
   obtain ⟨x,y,rfl,j⟩:=Xo j;cases q with
   |nil=>cases d
   |cons B q=>
    cases B with
    |l=>
     obtain ⟨J,T,z,g⟩:=Xo g;cases z;exact I q x s h u i d j g e S m a w _ r t H
    |r=>
     obtain ⟨J,T,z,g⟩:=SL g;cases z;have C:(gA E nt (.seq (uh (uR out) p x) (AU q y))).f cf s h= .ok .normal u i:=e;simp only [gA] at C;cases N:(gA E nt (uh (uR out) p x)).f cf s h with
     |fail=>simp_all
     |ok o t1 Y=>
      rw [N] at C;show sV P p x _ _ _ _;refine aiy ok M O nt p x s h o t1 Y j N S m a w _ r t fun m1 U w1 R m5 X=> ?_
      cases o with
      |normal=>exact aix ok M O nt q y _ _ _ _ g C S m1 U w1 Q R m5 fun D G F r' t' W=>H D G F r' t' (Goes.trans r R X W)
      |ret=>cases C
      |exit id=>cases C
    |k=>cases d
  |r=>
   obtain ⟨x,y,rfl,j⟩:=SL j;cases q with
   |nil=>cases d
   |cons B q=>
    cases B with
    |r=>
     obtain ⟨J,T,z,g⟩:=SL g;cases z;exact I q y s h u i d j g e S m a w Q r t H
    |l=>cases d
    |k=>cases d
  |k=>
   obtain ⟨id,x,rfl,j⟩:=Xp j;cases q with
   |nil=>cases d
   |cons B q=>
    cases B with
    |k=>
     obtain ⟨Z,J,z,g⟩:=Xp g;cases z;exact I q x s h u i d j g e S m a w _ r t H
    |l=>cases d
    |r=>cases d
end
section
variable {nt:Nat} {c sub Js:Code} {p q:List Ev.Way} {fr se:Fr} {out:Out}
def qB (nt:Nat) (c:Code) (fr:Fr) (out:Out) (se:Fr):Prop:= ∀S base e a w Q,pn bw S base e nt fr a w->(∀b d,pn bw S base e nt se b d->Q (vI out) b d)->c.wp prog Q a w
def Cg (nt:Nat) (p:List Ev.Way) (c sub:Code) (fr se:Fr):Prop:= ∀S base e a w Q,pn bw S base e nt fr a w->(∀b d,pn bw S base e nt se b d->sub.wp prog (sV prog p c Q) b d)->c.wp prog Q a w
def S8 (nt:Nat) (p:List Ev.Way) (out:Out) (q:List Ev.Way) (c Js:Code) (fr se:Fr):Prop:= ∀S base e a w Q,pn bw S base e nt fr a w->(∀b d,pn bw S base e nt se b d->Js.wp prog (sV prog q c Q) b d)->sV prog p c Q (vI out) a w
def yn (nt:Nat) (p:List Ev.Way) (out:Out) (c:Code) (d:Func) (fr:Fr) (R:World->Value->Prop):Prop:= ∀S base b a w,pn bw S base b nt fr a w->sV prog p c (LV prog d S base b R) (vI out) a w
def Jt {X O:Type} (I:X->Fr) (μ:X->Nat) (Ok:X->Prop) (J:O->Fr) (b:X->O->Prop)
 (step: ∀x,Ok x->(∃y,Ok y/\μ y<μ x/\(∀o,b y o->b x o)/\qB nt c (I x) .normal (I y))\/(∃o,b x o/\out≠ .normal/\qB nt c (I x) out (J o))):
 ∀x,Ok x-> ∃o,b x o/\qB nt (.loop c) (I x) out (J o):=by
 have m: ∀n x,μ x<n->Ok x-> ∃o,b x o/\ ∀S base d a w Q,pn bw S base d nt (I x) a w->(∀e f,pn bw S base d nt (J o) e f->Q (vI out) e f)->Code.rounds prog c Q n a w:=by
  intro n
  induction n with
  |zero=>omega
  |succ n B=>
   intro x D l;rcases step x l with ⟨y,z,C,t,k⟩|⟨o,i,u,k⟩
   ·obtain ⟨o,i,j⟩:=B y (by omega) z
    refine ⟨o,t o i,fun S base d a w Q h g=> ?_⟩;rw [rounds_succ];exact k S base d a w _ h fun e f s=>j S base d e f Q s g
   ·refine ⟨o,i,fun S base d a w Q h g=> ?_⟩
    rw [rounds_succ];refine k S base d a w _ h fun e f s=> ?_
    have:=g e f s;cases out with
    |normal=>simp_all
    |ret=>exact this
    |exit id=>exact this
 intro x l;obtain ⟨o,i,j⟩:=m (μ x+1) x (ji _) l;exact ⟨o,i,fun S base d a w Q h g=>wp_loop_rounds _ (j S base d a w Q h g)⟩
def S9 {f:FuncId} {d:Func} {Rs:List (World->Value->Prop)} {R:World->Value->Prop} {b:Code} (s:prog.funcs[f]? =some d) (m:d.body=some c) (e:Rs.length<=d.ntmps)
 (u:Cg d.ntmps p c (.loop b) ⟨[],AX Rs 0⟩ fr) (t:qB d.ntmps (.loop b) fr out se) (o:yn d.ntmps p out c d se R):bH prog bw f Rs R:=
 acu s m e fun S base g a w h=>u S base g a w _ h fun i x k=>t S base g i x _ k fun j y l=>o S base g j y l
end
structure KB where
 t:Nat
 e:TypeId
 s:Nat
 k:Kd
structure rb where
 b:List KB
 t:List (Nat×Kd)
def KB.fb (L:List SD) (b:KB):FB:=⟨b.t,b.e,b.s,b.k.rel L⟩
def KB.pb (b:KB):PB:=⟨b.t,b.e,b.s,b.k.cells⟩
def rb.fr (L:List SD) (x:rb):Fr:=⟨x.b.map (KB.fb L),x.t.map fun y=>(y.1,y.2.rel L)⟩
def rb.fp (x:rb):Fp:=⟨x.b.map KB.pb,x.t.map fun y=>(y.1,y.2.pat)⟩
def okB (L:List SD) (p:Bool):List KB->Bool
 | []=>true
 |b::l=>(b.k.ok L p&&b.k.ui)&&okB L p l
def L5 (L:List SD) (p:Bool):List (Nat×Kd)->Bool
 | []=>true
 |x::l=>x.2.ok L p&&L5 L p l
def rb.ok (L:List SD) (p:Bool) (x:rb):Bool:=okB L p x.b&&L5 L p x.t
section
variable {L:List SD} {A:World->Prop}
def ai7 {k:Kd} {p:Bool} (h:k.ok L p=true) (a:k.ui=true):jo k.cells=true:=by
 have:=Kd.Jl h;rw [G7 a] at this;exact this
def Ta: ∀(l:List KB),okB L true l=true-> @AV ⟨cP (L.map SD.slot)⟩ (fC A (L.map SD.slot)) (l.map (KB.fb L)) (l.map KB.pb)
 | [],_=>rfl
 |b::l,h=>by
  simp only [okB,aq] at h;have a: @fq ⟨cP (L.map SD.slot)⟩ (fC A (L.map SD.slot)) (b.k.rel L) (.agg b.k.cells):=G7 h.1.2▸Kd.into h.1.1;exact @as3 ⟨cP (L.map SD.slot)⟩ _ _ _ _ _ _ _ _ (ai7 h.1.1 h.1.2) a (Ta l h.2)
def Tb: ∀(l:List (Nat×Kd)),L5 L true l=true-> @AW ⟨cP (L.map SD.slot)⟩ (fC A (L.map SD.slot)) (l.map fun y=>(y.1,y.2.rel L)) (l.map fun y=>(y.1,y.2.pat))
 | [],_=>rfl
 |x::l,h=>by
  simp only [L5,aq] at h;exact @as4 ⟨cP (L.map SD.slot)⟩ _ _ _ _ _ _ (Kd.Jl h.1) (Kd.into h.1) (Tb l h.2)
def XV: ∀(l:List KB),okB L false l=true-> @E3 ⟨cP (L.map SD.slot)⟩ (fC A (L.map SD.slot)) (l.map KB.pb) (l.map (KB.fb L))
 | [],_=>rfl
 |b::l,h=>by
  simp only [okB,aq] at h;have a: @fB ⟨cP (L.map SD.slot)⟩ (fC A (L.map SD.slot)) (.agg b.k.cells) (b.k.rel L):=G7 h.1.2▸Kd.qX h.1.1;exact @as5 ⟨cP (L.map SD.slot)⟩ _ _ _ _ _ _ _ _ (ai7 h.1.1 h.1.2) a (XV l h.2)
def XW: ∀(l:List (Nat×Kd)),L5 L false l=true-> @E4 ⟨cP (L.map SD.slot)⟩ (fC A (L.map SD.slot)) (l.map fun y=>(y.1,y.2.pat)) (l.map fun y=>(y.1,y.2.rel L))
 | [],_=>rfl
 |x::l,h=>by
  simp only [L5,aq] at h;exact @as6 ⟨cP (L.map SD.slot)⟩ _ _ _ _ _ _ (Kd.Jl h.1) (Kd.qX h.1) (XW l h.2)
end
section
variable {nt:Nat} {c sub Js:Code} {p q:List Ev.Way} {out:Out}
def Ju (L:List SD) (F:List KF):Env:=Env.sy prog (fC bw (L.map SD.slot)) (F.map KF.fact)
def tJ (L:List SD) (I:List FuncId) (b:Nat) (F:List KF) (T:List KE) (x y:rb)
 (e: ∀d,(E5 (Ju L F) (T.map KE.E') I b nt c out x.fp y.fp d&&((okF L F&&tI L T)&&(x.ok L true&&y.ok L false)))=true)
 (m:xd L F) (s:uW L T):qB nt c (x.fr L) out (y.fr L):=fun S base u a w Q t o=>by
 have f:=e fun _=> .bool false
 simp only [aq,rb.ok] at f;obtain ⟨_,⟨g,h⟩,⟨i,j⟩,k,l⟩:=f;exact as7 (L.map SD.slot) mix (fun d=>by have:=e d;simp only [aq] at this;exact this.1) (m.ok g) (s.ok h) (Ta _ i) (Tb _ j) (XV _ k) (XW _ l) t o
def L6 (L:List SD) (I:List FuncId) (b:Nat) (F:List KF) (T:List KE) (x y:rb) (u:ni p c=some sub)
 (e: ∀d,(E5 (Ju L F) (T.map KE.E') I b nt (AU p c) .normal x.fp y.fp d&&((okF L F&&tI L T)&&(x.ok L true&&y.ok L false)))=true)
 (m:xd L F) (s:uW L T):Cg nt p c sub (x.fr L) (y.fr L):=fun S base z a w Q t o=>by
 have f:=e fun _=> .bool false
 simp only [aq,rb.ok] at f;obtain ⟨_,⟨g,h⟩,⟨i,j⟩,k,l⟩:=f;exact as8 (L.map SD.slot) mix u (fun d=>by have:=e d;simp only [aq] at this;exact this.1) (m.ok g) (s.ok h) (Ta _ i) (Tb _ j) (XV _ k) (XW _ l) t o
def G' (L:List SD) (I:List FuncId) (b:Nat) (F:List KF) (T:List KE) (x:rb) (r:Kd) {g:Func} (t:ni p c=some sub)
 (e: ∀d,(OJ (Ju L F) (T.map KE.E') I b nt g.results.toList (uh (uR out) p c) x.fp r.pat d&&((okF L F&&tI L T)&&(x.ok L true&&r.ok L false)))=true)
 (m:xd L F) (o:uW L T):yn nt p out c g (x.fr L) (r.rel L):=fun S base u a w s=>by
 have f:=e fun _=> .bool false
 simp only [aq,rb.ok] at f;obtain ⟨_,⟨i,j⟩,⟨k,l⟩,h⟩:=f;exact as9 (L.map SD.slot) mix t (fun d=>by have:=e d;simp only [aq] at this;exact this.1) (Kd.Jl h) (m.ok i) (o.ok j) (Ta _ k) (Tb _ l) (Kd.qX h) s
def ai8 (L:List SD) (I:List FuncId) (b:Nat) (F:List KF) (T:List KE) (x y:rb) (U:later p q=true) (W:ni p c=some sub) (X:ni q c=some Js)
 (e: ∀d,(E5 (Ju L F) (T.map KE.E') I b nt (AU (S7 p q) (uh (uR out) p c)) .normal x.fp y.fp d&&((okF L F&&tI L T)&&(x.ok L true&&y.ok L false)))=true)
 (N:xd L F) (R:uW L T):S8 nt p out q c Js (x.fr L) (y.fr L):=fun S base w0 a w Q f O=>by
 have g:=e fun _=> .bool false
 simp only [aq,rb.ok] at g;obtain ⟨_,⟨C,D⟩,⟨G,H⟩,J,M⟩:=g
 letI:aJ:=⟨cP (L.map SD.slot)⟩
 have s:=XG (A:=bw) (L.map SD.slot) mix (N.ok C) (R.ok D);have i:=e fun t=>tH (a.tmps.getD t undef)
 simp only [aq] at i;obtain ⟨tm,h,j,l,o⟩:=acs i.1;obtain ⟨B,m,r,t,Y⟩:=XE (fp:=x.fp) s f (Ta _ G) (Tb _ H);refine atF s.env (GG s.mix s.env) (s.cf I b) nt p q c _ _ _ _ U W X j _ m a w _ r t fun m' u w' r' k z=> ?_
 obtain ⟨Z,q2,q3,q4⟩:=XF f r t Y k z (XD _ j);exact O u w' (acq (fun w v h=>(s.OK w v).1 h) Z r' k q2 f.lim q3 q4 l o (XV _ J) (XW _ M))
end
def zS:List ai:= [.bool false,.j7,.bool false,.j7]
def ZS:World->Value->Prop:=bj (.agg ⟨zS.map G6⟩)
def nW (f:Func):Code:=f.body.getD .skip
def atG:Code->Code
 | .loop b=>b
 |c=>c
def kH (p:List Ev.Way) (f:Func):Code:=atG ((ni p (nW f)).getD .skip)
end
end Go.Proofs.YthleenhngcdgkaaGreatDoor
