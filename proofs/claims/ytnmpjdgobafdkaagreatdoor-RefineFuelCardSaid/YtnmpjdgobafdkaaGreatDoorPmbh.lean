/- refineFuel_proved. -/
import Derived.Test.YtnmpjdgobafdkaaGreatDoorPmbg
set_option maxRecDepth 100000
set_option maxHeartbeats 16000000
set_option linter.all false
noncomputable section
namespace Go.Proofs.YtnmpjdgobafdkaaGreatDoor
section
open Go.Proofs.Tryz Go Go.RowKit
variable {W wr w' w5 w w6:World} {L:List b8} {dv hv v' tZ v av m jF:Value} {D H l' H2 D' E:List Int} {q n B i g p dn k:Nat} {o:Obj} {y:b8}
structure Dm (W wr:World) (q:Nat) (L:List b8) (id:Int) (hv dv:Value) (H D:List Int):Prop where
 heap:iH wr W.heap.size q hv H
 ho:HO H
 down:wr.ownsRow W.heap.size 3 1 dv D.length (ints D)
 q0:W.heap.size<=q
 apart: ∀k,hv.ownBlock=some k->dv.ownBlock≠some k
 qd:dv.ownBlock≠some q
 inv:GL L id H D
 below:Below W.heap.size W wr
 len:H.length<=2*D.length+1
def aBT (x:Int): ∀w:World,Sem.run prog (Instr.typeAssert (.iface 3 (.int .i64 x)) 20 3 false) w= .ok (.int .i64 x) w:=fun w=>ak3 x w
def iI.below (h:iI w B p v m L) (a:Below w.heap.size w w'):iI w' B p v m L:=
 ⟨(a.block p (ax.1 h.blk).1).trans h.blk,h.lz.frame (Fr.jq (S:=fun _=>False) a) (fun _ _ e=>e)⟩
def ald:Value->Nat
 | .slice _ n _=>n
 |_=>0
def GM (q:Nat) (dv:Value) (wr:World):Nat:=3*(5000-ald dv)+ald ((wr.cell? ⟨q,0,none⟩).getD undef)
def vw {xs:List Value} (h:w.ownsRow B 3 1 v n xs): ∃a c,v= .slice a n c:=by
 rcases h.2 with ⟨rfl,e⟩|⟨g,c,_,rfl,_⟩
 all_goals grind
def Dm.measure {id:Int} (h:Dm W wr q L id hv dv H D):GM q dv wr=3*(5000-D.length)+H.length:=by
 obtain ⟨a,c,rfl⟩:=vw h.down;have:=h.heap.cell;obtain ⟨b,d,rfl⟩:=h.heap.slice;unfold GM;rw [this];rfl
def aBU {w1:World} (hb:Below W.heap.size W w1):
 Dm W (((w1.alloc o).alloc (.cells #[.int .i64 i] 3)).alloc (.cells #[.slice (some ⟨w1.heap.size+1,0,none⟩) 1 1] 195)) (w1.heap.size+1+1) L i (.slice (some ⟨w1.heap.size+1,0,none⟩) 1 1) (.slice none 0 0) [(i:Int)] [] where
 heap:=by
  have hs:=hb.size;refine ⟨?_,?_,?_⟩
  ·show ((((w1.heap.push o).push _).push _))[w1.heap.size+1+1]? =_
   grind
  ·have:=World.ownsRow_lit (base:=W.heap.size) (e:=3) (size:=1) (w1.alloc o) #[.int .i64 i] 1 (by simp;omega) (by unfold maxLen;omega) rfl
   simpa [ints] using this.alloc _
  ·simp [Value.ownBlock]
 ho:=fun i h0 h1=>by simp_all
 down:=World.ownsRow_nil _ _ _ _
 q0:=by have:=hb.size;omega
 apart:=fun k _=>by simp [Value.ownBlock]
 qd:=by simp [Value.ownBlock]
 inv:=aBO L i
 below:=by
  have hs:=hb.size;exact ((hb.alloc hs _).alloc (by simp;omega) _).alloc (by simp;omega) _
 len:=by simp
structure L3 (W wr w':World) (q:Nat) (L:List b8) (id:Int) (hv dv v':Value) (H D l':List Int) (n:Nat):Prop where
 old:Dm W wr q L id hv dv H D
 heap:iH w' W.heap.size q v' l'
 ho:HO l'
 len:l'.length=n
 mem: ∀y,y∈l'->y∈H
 adk: ∀y,y∈H->y∈l'\/y=H.getD 0 0
 own:v'.ownBlock=hv.ownBlock
 down:w'.ownsRow W.heap.size 3 1 dv D.length (ints D)
 below:Below W.heap.size W w'
 hn:H.length=n+1
def aBV {id:Int} (h:Dm W wr q L id hv dv H D) (hn:H.length=n+1)
 (p:iH w' W.heap.size q v' l'/\HO l'/\l'.length=n/\(∀y,y∈l'->y∈H)/\(∀y,y∈H->y∈l'\/y=H.getD 0 0)/\v'.ownBlock=hv.ownBlock/\Fr (fun k=>k=q\/hv.ownBlock=some k) wr w'):L3 W wr w' q L id hv dv v' H D l' n where
 old:=h
 heap:=p.1
 ho:=p.2.1
 len:=p.2.2.1
 mem:=p.2.2.2.1
 adk:=p.2.2.2.2.1
 own:=p.2.2.2.2.2.1
 down:=qu h.down p.2.2.2.2.2.2 fun k hk e=>by
  rcases e with rfl|e
  ·exact h.qd hk
  ·exact h.apart k e hk
 below:=h.below.trans (p.2.2.2.2.2.2.nJ (fun k hk e=>by
  rcases e with rfl|e
  ·have:=h.q0;omega
  ·have:=(h.heap.own.lt k e).1;omega) h.below.size)
 hn:=hn
def L3.ale {id:Int} (h:L3 W wr w' q L id hv dv v' H D l' n):H.getD 0 0∈H:=
 GJ.2 ⟨0,by have:=h.hn;omega,rfl⟩
def L3.dup {id:Int} (h:L3 W wr w' q L id hv dv v' H D l' n) (hm:H.getD 0 0∈D):Dm W w' q L id v' dv l' D where
 heap:=h.heap
 ho:=h.ho
 down:=h.down
 q0:=h.old.q0
 apart:=fun k hk=>h.old.apart k (by rw [<-h.own];omega)
 qd:=h.old.qd
 inv:=aBP h.old.inv hm h.mem h.adk
 below:=h.below
 len:=by have:=h.old.len;have:=h.len;have:=h.hn;omega
def alf {d:Array Oper} {b:List Oper} {o:Oper} {a:Act} {Q:Exit->Act->World->Prop} (S:o.guard=none) (s x:Operand) (M:o.op= .call {callee:= .builtin .append,args:= #[s,x],argTypes:= #[22,22]})
 (base:Nat) (R:base<=w.heap.size) (v:Value) (n:Nat) (xs:List Value) (N:a.eval s=v) (j:w.ownsRow base 3 1 v n xs) (B:Nat) (p:Value) (O:a.eval x= .slice (some ⟨B,0,none⟩) 1 1)
 (J:w.heap[B]? =some (.cells #[p] 3 (0,0))) (C:p.oneCell'=true) (T:n<=100000)
 (h: ∀g cap w',w'.ownsRow base 3 1 (.slice (some ⟨g,0,none⟩) (n+1) cap) (n+1) (xs++ [p])->Fr (fun k=>v.ownBlock=some k) w w'->(v.ownBlock=some g\/w.heap.size<=g)->
  wpList prog d Q b (a.put o.dst (.slice (some ⟨g,0,none⟩) (n+1) cap)) w'):wpList prog d Q (o::b) a w:=by
 obtain ⟨P,A,z,t,l⟩:=info_parts Tryz.info3;refine wpList_append_lies w S s x 22 M base 3 P _ 1 8 underlying22 A z t l rfl (by omega) v n xs N j ⟨B,0,none⟩ 1 1 [p] O rfl (World.news_of_block (cs:= #[p]) J)
  (by intro u f;simp at f;rw [f];exact C) (by omega) (by unfold maxLen;omega) (by omega) R w.heap.size rfl ?_
 intro g cap w' F G I _;exact h g cap w' F (uN G) (I.imp id (fun e=>by omega))
structure OP (W wr w5:World) (q:Nat) (L:List b8) (id:Int) (hv dv v' tZ:Value) (H D l':List Int) (n:Nat):Prop where
 pop: ∃w4,L3 W wr w4 q L id hv dv v' H D l' n
 heap:iH w5 W.heap.size q v' l'
 ho:HO l'
 down:w5.ownsRow W.heap.size 3 1 tZ (D.length+1) (ints (D++ [H.getD 0 0]))
 apart: ∀k,v'.ownBlock=some k->tZ.ownBlock≠some k
 qd:tZ.ownBlock≠some q
 below:Below W.heap.size W w5
def alg {b:World} {cap:Nat} {id t:Int} (h:L3 W wr b q L id hv dv v' H D l' n) (u:H.getD 0 0=t) (x:D.length=dn)
 (A:w5.ownsRow W.heap.size 3 1 (.slice (some ⟨g,0,none⟩) (dn+1) cap) (dn+1) (ints D++ [.int .i64 t])) (l:Fr (fun k=>dv.ownBlock=some k) (b.alloc o) w5) (a:dv.ownBlock=some g\/(b.alloc o).heap.size<=g):
 OP W wr w5 q L id hv dv v' (.slice (some ⟨g,0,none⟩) (dn+1) cap) H D l' n:=by
 subst x;have s:(b.alloc o).heap.size=b.heap.size+1:=by simp
 have z:=h.heap.lt;have j:Fr (fun k=>dv.ownBlock=some k) b w5:=((Fr.refl (fun k=>dv.ownBlock=some k) b).alloc o).trans l (fun _ _ e=>e);refine ⟨⟨_,h⟩,h.heap.frame j h.old.qd (fun k f e=> ?_),h.ho,?_,fun k f e=> ?_,fun e=> ?_,h.below.trans (j.nJ (fun k f e=>by have:=(h.down.lt k e).1;omega) h.below.size)⟩
 ·exact h.old.apart k (by rw [<-h.own];omega) e
 ·rw [u]
  have:ints (D++ [t])=ints D++ [.int .i64 t]:=by simp [ints]
  simp_all
 ·have d:g=k:=by simpa [Value.ownBlock] using e
  subst d;rcases a with a|a
  ·exact h.old.apart g (by rw [<-h.own];omega) a
  ·have:=(h.heap.own.lt g f).2;omega
 ·have d:g=q:=by simpa [Value.ownBlock] using e
  subst d;rcases a with a|a
  ·exact h.old.qd a
  omega
def OP.quiet {id:Int} (h:OP W wr w5 q L id hv dv v' tZ H D l' n) (hf:Fr (fun _=>False) w5 w6):OP W wr w6 q L id hv dv v' tZ H D l' n where
 pop:=h.pop
 heap:=h.heap.quiet hf
 ho:=h.ho
 down:=qu h.down hf (fun _ _ e=>e)
 apart:=h.apart
 qd:=h.qd
 below:=h.below.trans (hf.below.mono h.below.size)
structure OQ (W wr:World) (q:Nat) (tZ av jF:Value) (l' H2 zs D':List Int) (k:Nat):Prop where
 heap:iH wr W.heap.size q jF H2
 ho:HO H2
 len:H2.length=l'.length+k
 mem: ∀y,y∈H2↔y∈l'\/y∈zs.take k
 down:wr.ownsRow W.heap.size 3 1 tZ D'.length (ints D')
 row: ∃B,wr.ownsRow B 3 1 av zs.length (ints zs)
 apart: ∀k,jF.ownBlock=some k->tZ.ownBlock≠some k/\av.ownBlock≠some k
 qd:tZ.ownBlock≠some q
 qa:av.ownBlock≠some q
 below:Below W.heap.size W wr
def alh {w8:World} {id:Int} (h:OP W wr w6 q L id hv dv v' tZ H D l' n) (ha:OG w6 y av w8):OQ W w8 q tZ av v' l' l' (args y) (D++ [H.getD 0 0]) 0 where
 heap:=h.heap.frame (S:=fun _=>False) (Fr.jq ha.1) (fun e=>e) (fun _ _ e=>e)
 ho:=h.ho
 len:=rfl
 mem:=fun y=>by simp
 down:=by
  have:=qu (S:=fun _=>False) h.down (Fr.jq ha.1) (fun _ _ e=>e);simp_all
 row:=⟨_,ha.2⟩
 apart:=fun k hk=>⟨h.apart k hk,fun e=>by have:=(ha.2.lt k e).1;have:=(h.heap.own.lt k hk).2;omega⟩
 qd:=h.qd
 qa:=fun e=>by have:=(ha.2.lt q e).1;have:=h.heap.lt;omega
 below:=h.below.trans (ha.1.mono h.below.size)
def ali {f:Value} {b d:List Int} (h:OQ W wr q tZ av jF l' H2 d D' k) (C:k<d.length)
 (p:iH w' W.heap.size q f b/\HO b/\b.length=H2.length+1/\(∀y,y∈b↔y=d.getD k 0\/y∈H2)/\(∀k,f.ownBlock=some k->jF.ownBlock=some k\/wr.heap.size<=k)/\Fr (fun k=>k=q\/jF.ownBlock=some k) wr w')
 (F:W.heap.size<=q):OQ W w' q tZ av f l' b d D' (k+1):=by
 obtain ⟨u,x,G,z,A,s⟩:=p;obtain ⟨B,t⟩:=h.row;refine ⟨u,x,by have:=h.len;omega,fun y=> ?_,qu h.down s fun j a e=> ?_,⟨B,qu t s fun j a e=> ?_⟩,fun j a=> ?_,h.qd,h.qa,h.below.trans (s.nJ (fun j a e=> ?_) h.below.size)⟩
 ·rw [z y,h.mem y,kD,bZ]
  grind
 ·rcases e with rfl|e
  ·exact h.qd a
  ·exact (h.apart j e).1 a
 ·rcases e with rfl|e
  ·exact h.qa a
  ·exact (h.apart j e).2 a
 ·rcases A j a with e|e
  ·exact h.apart j e
  ·exact ⟨fun l=>by have:=(h.down.lt j l).2;omega,fun l=>by have:=(t.lt j l).2;omega⟩
 ·rcases e with rfl|e
  ·omega
  ·have:=(h.heap.own.lt j e).1;omega
def adl {a:World} {id:Int} {d:Value} {b:List Int} (h:Dm W wr q L id hv dv H D) (h':Dm W a q L id d tZ b D') (c:3*(5000-D'.length)+b.length<3*(5000-D.length)+H.length):GM q tZ a<GM q dv wr:=by
 rw [h.measure,h'.measure];exact c
def xP (x:b8):(args x).length<=2:=by unfold args;split;simp;split<;>simp
def alj {id:Int} (t:Dl L) (l:0<=id) (s:id<L.length)
 (h:OP W wr w5 q L id hv dv v' tZ H D l' n) (x: ∀z,D.getLast? =some z->z≠H.getD 0 0) (j:Ju L (H.getD 0 0)=y) (b:OQ W w' q tZ av jF l' H2 (args y) (D++ [H.getD 0 0]) (args y).length):
 Dm W w' q L id jF tZ H2 (D++ [H.getD 0 0]):=by
 obtain ⟨J,a⟩:=h.pop;have d:=b.mem;rw [lY] at d;exact {
  heap:=b.heap
  ho:=b.ho
  down:=b.down
  q0:=a.old.q0
  apart:=fun k u=>(b.apart k u).1
  qd:=b.qd
  inv:=aBR t l s a.old.inv a.ale (fun y j=>aBI a.old.ho j) x
   (fun z f=>((d z).1 f).imp (a.mem z) (fun e=>by simp_all))
   (fun z f=>(a.adk z f).imp (fun e=>(d z).2 (.inl e)) (fun e=>e))
   (fun z f=>(d z).2 (.inr (by simp_all)))
  below:=b.below
  len:=by
   have A:=b.len;have C:=a.len;have F:=a.hn;have G:=a.old.len;have I:=xP y;grind}
structure OS (W wr:World) (g:Nat) (dv:Value) (D E:List Int) (k:Nat):Prop where
 row:wr.ownsRow W.heap.size 3 1 (.slice (some ⟨g,0,none⟩) D.length D.length) D.length (ints E)
 len:E.length=D.length
 done: ∀j,j<k->E.getD (D.length-1-j) 0=D.getD j 0
 down:wr.ownsRow W.heap.size 3 1 dv D.length (ints D)
 ne:dv.ownBlock≠some g
 g0:W.heap.size<=g
 below:Below W.heap.size W wr
def aBW {l:List Int} (hi:i<l.length) (x:Int) (j:Nat):(l.set i x).getD j 0=if i=j then x else l.getD j 0:=by
 grind
def aBX (h:OS W wr g dv D E k) (hk:k<D.length):OS W (wr.setCell ⟨g,D.length-1-k,none⟩ (.int .i64 (D.getD k 0))) g dv D (E.set (D.length-1-k) (D.getD k 0)) (k+1) where
 row:=by rw [ints_set];exact (h.row.stored _ _).1
 len:=by rw [bA];exact h.len
 done:=fun j hj=>by
  rw [aBW (by have:=h.len;omega)];by_cases e:j=k
  ·simp_all
  ·rw [if_neg (by omega)];exact h.done j (by omega)
 down:=qu (S:=fun k=>k=g) h.down ((Fr.refl _ wr).setCell _ (fun _=>rfl)) (fun k hk e=>h.ne (by rw [hk,e]))
 ne:=h.ne
 g0:=h.g0
 below:=h.below.setCell (by exact h.g0) _
def aBY (h:OS W wr g dv D E D.length):E=D.reverse:=by
 apply kp;intro i;by_cases b:i<D.length
 ·have a:=h.done (D.length-1-i) (by omega)
  rw [show D.length-1-(D.length-1-i)=i by omega] at a;rw [aM (by have:=h.len;omega),List.getElem?_reverse b,aM (by omega)];grind
 ·rw [bQ (by have:=h.len;omega),bQ (by simp;omega)]
def aBZ {w3:World} {id:Int} (h:Dm W w3 q L id hv dv H D) (mU:D.length=dn)
 (h1:w5.ownsRow W.heap.size 3 1 (.slice (some ⟨w3.heap.size,0,none⟩) dn dn) dn (madeCells (Value.int .i64 0).cells (dn*1)).toList) (h2:w3.grownBy w5 none):OS W w5 w3.heap.size dv D (List.replicate D.length 0) 0 where
 row:=by
  subst mU;have e:(madeCells (Value.int .i64 0).cells (D.length*1)).toList=ints (List.replicate D.length 0):=by
   show (madeCells #[.int .i64 0] (D.length*1)).toList=_;rw [toList_madeCells_one,fk];simp [ints]
  simp_all
 len:=by simp
 done:=fun j hj=>by omega
 down:=qu h.down (uN h2) (fun k _ e=>by cases e)
 ne:=fun e=>by have:=(h.down.lt _ e).2;omega
 g0:=h.below.size
 below:=h.below.trans ((uN h2).nJ (fun k _ e=>by cases e) h.below.size)
def aB0 (hg:iI W B p v m L) (hL:Dl L) (J: ∀i,i<L.length->1<=(L.getD i fS).k/\(L.getD i fS).k<=16) (hl:L.length<=4096) (hi:i<L.length):
 Calls prog 86 #[ptr p,.int .i64 i] W fun e w'=> ∃ov,e= .returned ov/\w'.ownsRow W.heap.size 3 1 ov (partsOf L i).length (ints (partsOf L i))/\Below W.heap.size W w':=by
 have G:=ae (af hg (af hL (af J (af hl hi))));have hp:p<W.heap.size:=(ax.1 hg.blk).1;clear hg hL J hl hi;unfold ptr;go_enter func86,ntmps86;go_wp2_with fail;refine (OM G.out.1 G.out.2.2.2.2 (by have:=G.out.2.2.2.1;omega) rfl).mono ?_;rintro e w1 ⟨rfl,ny⟩;unfold ig;generalize L.getD i fS=x;have lJ:=ae ny.below;clear ny;go_wp2_with fail;have R:=aBU (L:=L) (i:=i) (o:= .cells #[.int .i64 x.k,.int .i64 x.a,.int .i64 x.b,.int .i64 x.n,.string x.t] 60) lJ.out;obtain ⟨q,hq⟩:=pQ (w1.heap.size+1+1);rw [hq] at R⊢;generalize ((w1.alloc (.cells #[.int .i64 x.k,.int .i64 x.a,.int .i64 x.b,.int .i64 x.n,.string x.t] 60)).alloc (.cells #[.int .i64 i] 3)).alloc (.cells #[.slice (some ⟨w1.heap.size+1,0,none⟩) 1 1] 195)=w2 at R⊢;have Gc:=ae R;clear R hq;go_loopw [8] (fun dv wr=> ∃hv H D,Dm W wr q L i hv dv H D) (fun dv wr=>GM q dv wr)
 case atStart=>exact ⟨_,_,_,Gc.out⟩
 case round=>
  obtain ⟨hv,H,D,R⟩:=hrel;obtain ⟨da,dc,rfl⟩:=vw R.down;have HO:=ae R;clear R Gc lJ;go_wp2_with fail;refine (ac9 HO.out.heap).mono ?_;rintro e w3 ⟨rfl,rfl⟩;by_cases h0:H.length=0
  ·rw [h0]
   obtain ⟨i0,fq,ff,fH,eV⟩:=info_parts Tryz.info3;obtain ⟨dn,mU⟩:=pQ D.length;have T:dn<=4096:=by
    have f:=Tu G.out.2.1 (id:=(i:Int)) (by omega) (by have:=G.out.2.2.2.2;omega) HO.out.inv;have:=G.out.2.2.2.1;omega
   have P:=ae (af mU h0);rw [mU];clear mU h0;go_wp2_with (refine wpList_make_full w3 rfl (.tmp 72) (.tmp 72) 22 rfl W.heap.size 3 i0 _ 1 underlying22 fq ff fH _ _ _ _ dn rfl rfl rfl rfl (by rw [eV];omega) (by unfold maxLen;omega) HO.out.below.size ?_;intro w5 OT L4;have Yn:=ae (aBZ HO.out P.out.1 OT L4);clear OT L4);obtain ⟨g,ph⟩:=pQ w3.heap.size;rw [ph] at Yn⊢;clear ph fq ff fH eV;go_loopw [76] (fun M wr=> ∃(k:Nat) (E:List Int),M= .int .i64 (k:Int)/\k<=dn/\OS W wr g (.slice da D.length dc) D E k) (fun M _=>dn-(intOf M).toNat)
   case atStart=>exact ⟨0,_,rfl,by omega,Yn.out⟩
   case round=>
    obtain ⟨k,E,rfl,J,l⟩:=hrel;have Uv:=ae l;by_cases C:k<dn
    ·obtain ⟨a4,c4,e4,yx⟩:=GK l.down
     obtain ⟨g4,e5,CH⟩:=yx k (by rw [P.out.1];exact C);cases e4;subst e5;obtain ⟨z,hz⟩:=pQ (D.getD k 0);rw [hz] at CH;obtain ⟨b,hb⟩:=pQ (dn-1-k);have oh:b<E.length:=by have:=l.len;have:=P.out.1;omega
     have hcb:wr.cell? ⟨g,b,none⟩=some (.int .i64 (E.getD b 0)):=by
      have f:=l.row;rw [<-l.len] at f;have Q:=f.cellAt b (by omega);rw [Q,OH oh]
     have hfb:=l.row.frozenAt b;obtain ⟨u,hu⟩:=pQ (E.getD b 0);rw [hu] at hcb;obtain ⟨m2,lV⟩: ∃m2:Int,(dn:Int)-1=m2:=⟨_,rfl⟩;have Tq:IntKind.i64.wrap ((dn:Int)-1)=m2:=by rw [<-lV];exact aC _ ⟨by omega,by omega⟩
     have iM:IntKind.i64.wrap (m2-(k:Int))=(b:Int):=by rw [<-lV,aC _ ⟨by omega,by omega⟩];omega
     have jx:(0:Int)<=(k:Int):=by omega
     have Gd:(k:Int)<(dn:Int):=by omega
     have vK:(0:Int)<=(b:Int):=by omega
     have bW:(b:Int)<(dn:Int):=by omega
     have lq:=ae (by have f:=aBX l (by rw [P.out.1];exact C);rw [show D.length-1-k=b by rw [P.out.1];exact hb,hz] at f;exact f:OS W (wr.setCell ⟨g,b,none⟩ (.int .i64 z)) g (.slice (some ⟨g4,0,none⟩) D.length dc) D (E.set b z) (k+1));have I:=ae C;clear l Uv yx hz hb oh hu lV C J Yn HO;go_wp2_with fail;go_roundw
     case rel=>exact ⟨k+1,_,by go_num,by have:=I.out;omega,lq.out⟩
     case measure=>have:=I.out;simp [intOf];omega
    ·have EZ:k=dn:=by omega
     have O:D.reverse=partsOf L i:=by
      have f:=HO.out.inv;rw [cJ P.out.2] at f;exact aBS G.out.2.1 (by omega) (by have:=G.out.2.2.2.2;omega) f
     have Cc:wr.ownsRow W.heap.size 3 1 (.slice (some ⟨g,0,none⟩) dn dn) (partsOf L i).length (ints (partsOf L i))/\Below W.heap.size W wr:=by
      rw [EZ,<-P.out.1] at l;have f:=aBY l;have Q:=l.row;rw [f] at Q;rw [<-P.out.1];refine ⟨?_,l.below⟩;rw [<-O,List.length_reverse];exact Q
     have G9:=ae Cc;subst EZ;clear l Uv O Cc J Yn HO;go_wp2_with fail;go_ret;exact ⟨_,rfl,G9.out⟩
  ·obtain ⟨n,hn⟩: ∃n,H.length=n+1:=⟨H.length-1,by omega⟩
   rw [hn];have HN:=ae hn;have Qr:(0:Int)<((n+1:Nat):Int):=by omega
   have S:n<=9000:=by
    have f:=Tu G.out.2.1 (id:=(i:Int)) (by omega) (by have:=G.out.2.2.2.2;omega) HO.out.inv;have:=G.out.2.2.2.1;have:=HO.out.len;omega
   have vI:=ae S;clear h0 hn S;go_wp2_with fail;refine (aBJ HO.out.heap n HN.out vI.out HO.out.ho).mono ?_;rintro e w4 ⟨rfl,v',l',Cu⟩;have j:=ae (aBV HO.out HN.out Cu);clear Cu;have hrb:=(j.out.old.inv.rh _ j.out.ale).bound G.out.2.1 (by omega) (by have:=G.out.2.2.2.2;omega);obtain ⟨t,ht⟩: ∃t:Nat,H.getD 0 0=(t:Int):=⟨(H.getD 0 0).toNat,by omega⟩;rw [ht];have JY:t<L.length:=by have:=G.out.2.2.2.2;omega
   have HT:=ae ht;have vJ:=ae JY;clear ht Qr hrb JY;have ta:=aBT (t:Int);have T:=j.out.down;rcases List.eq_nil_or_concat D with rfl|⟨D0,z,hD⟩
   ·have HD:=ae T
    clear T;go_wp2_with (at_builtin;refine alf rfl _ _ rfl W.heap.size (by have:=j.out.below.size;simp;omega) _ _ _ rfl (HD.out.alloc _) w4.heap.size _ rfl (heap_alloc_new w4 _) (by simp [Value.oneCell']) (by simp) ?_;intro gg lu w5 nW rV tA;have Tx:=ae (alg j.out HT.out rfl nW rV tA);clear nW rV tA);refine (OM (G.out.1.below Tx.out.below) vJ.out (by have:=G.out.2.2.2.1;omega) rfl).mono ?_;rintro e w6 ⟨rfl,Ir⟩;obtain ⟨y,hy⟩:=pQ (L.getD t fS);rw [hy];have X:=ae hy;have Ty:=ae (Tx.out.quiet Ir);clear Ir hy;unfold ig;go_wp2_with fail;refine (Yj (x:=y) (by rw [<-X.out];exact (G.out.2.2.1 t vJ.out).1) (by rw [<-X.out];exact (G.out.2.2.1 t vJ.out).2) _).mono ?_;rintro e w8 ⟨av,rfl,ha⟩;have PS:=alh (Ty.out.quiet ((Fr.refl (fun _=>False) w6).alloc _)) ha;obtain ⟨aa,ac,rfl⟩:=vw ha.2;obtain ⟨s,kg⟩:=pQ ((args y).length);have A:=ae kg;have U:=ae PS;clear PS ha;rw [kg];clear kg;go_wp2_with fail;go_loopw [61] (fun M Je=> ∃(k:Nat) (jF:Value) (H2:List Int),M= .int .i64 (k:Int)/\k<=s/\OQ W Je q (.slice (some ⟨gg,0,none⟩) (([]:List Int).length+1) lu) (.slice aa (args y).length ac) jF l' H2 (args y) (([]:List Int)++ [H.getD 0 0]) k) (fun M _=>s-(intOf M).toNat)
    case atStart=>exact ⟨0,_,_,rfl,by omega,U.out⟩
    case round=>
     obtain ⟨k,jF,H2,rfl,J,TA⟩:=hrel;have h:=ae TA;have jx:(0:Int)<=(k:Int):=by omega
     clear TA;by_cases C:k<s
     ·have aB1:(k:Int)<(s:Int):=by omega
      have om:s<=2:=by rw [<-A.out];exact xP y
      have hk3:k<2:=by omega
      obtain ⟨B2,qR⟩:=h.out.row;obtain ⟨a3,c3,e3,d⟩:=GK qR;obtain ⟨g3,e4,TB⟩:=d k (by rw [A.out];exact C);cases e3;subst e4;obtain ⟨z3,Z⟩:=pQ ((args y).getD k 0);rw [Z] at TB;have Y:=ae Z;have I:=ae (af C J);clear qR d Z C J;go_wp2_with fail;refine (ak8 h.out.heap h.out.below.size (by have f:=h.out.len;have Q:=j.out.len;have h3:=vI.out;have h4:=xP y;have h5:=I.out;have h6:=A.out;omega) h.out.ho z3).mono ?_;rintro e w9 ⟨rfl,Tv,H3,Ki⟩;have uO:=ae (ali h.out (by rw [A.out];exact I.out.1) (by rw [Y.out];exact Ki) j.out.old.q0);clear Ki;go_wp2_with fail;go_roundw
      case rel=>exact ⟨k+1,_,_,by go_num,by have:=I.out.1;omega,uO.out⟩
      case measure=>have:=I.out.1;simp [intOf];omega
     ·have EZ:k=s:=by omega
      subst EZ;have O:=alj (y:=y) G.out.2.1 (by omega) (by have:=G.out.2.2.2.2;omega) Ty.out (fun z hz=>by simp at hz) (by unfold Ju;rw [HT.out];exact X.out) (by rw [A.out];exact h.out);have N:=adl HO.out O (by
       have f:=h.out.len;have Q:=j.out.len;have h3:=HN.out;have h4:=xP y;have h6:=A.out;have h7:=Tu G.out.2.1 (by omega) (by have:=G.out.2.2.2.2;omega) HO.out.inv;have h8:=G.out.2.2.2.1;simp only [aX,jk,fo] at*;omega)
      have TC:=ae O;have TD:=ae N;clear O N;go_wp2_with fail;go_roundw
      case rel=>exact ⟨_,_,_,TC.out⟩
      case measure=>exact TD.out
   ·rw [List.concat_eq_append] at hD
    obtain ⟨F,rq⟩: ∃F,D.length=F+1:=⟨D0.length,by rw [hD];simp⟩;have ff:D.getD F 0=z:=by
     have:F=D0.length:=by rw [hD] at rq;simp at rq;omega
     rw [hD,this];simp
    have zR:D.getLast? =some z:=by rw [hD];simp
    have TE:F<=5000:=by
     have f:=Tu G.out.2.1 (id:=(i:Int)) (by omega) (by have:=G.out.2.2.2.2;omega) HO.out.inv;have:=G.out.2.2.2.1;omega
    obtain ⟨a4,c4,e4,yx⟩:=GK T;obtain ⟨g4,e5,CH⟩:=yx F (by omega);rw [ff] at CH;cases e4;subst e5;have hzD:z∈D:=by rw [hD];simp
    have OU:=ae (af zR rq);have HML:=ae TE;have HZD:=ae hzD;have HD:=ae (by rw [rq] at T;exact T:w4.ownsRow W.heap.size 3 1 (.slice (some ⟨g4,0,none⟩) (F+1) dc) (F+1) (ints D));rw [rq];have hwm:IntKind.i64.wrap (F:Int)=(F:Int):=aC _ ⟨by omega,by omega⟩;have m00:(0:Int)<=(F:Int):=by omega
    clear hD rq ff zR yx hzD T;by_cases TF:z=(t:Int)
    ·have Yp:=j.out.dup (by rw [HT.out,<-TF];exact HZD.out)
     have N:=adl HO.out Yp (by have:=j.out.len;have:=HN.out;omega);rw [OU.out.2] at Yp N;have TC:=ae Yp;have TD:=ae N;clear Yp N;subst TF;go_wp2_with fail;go_roundw
     case rel=>exact ⟨_,_,_,TC.out⟩
     case measure=>
      show GM q _ w4<GM q (.slice (some ⟨g4,0,none⟩) D.length dc) w3;rw [OU.out.2];exact TD.out
    ·have PE:(z==(t:Int))=false:=by simpa using TF
     have HZT:=ae TF;clear TF;go_wp2_with (at_builtin;refine alf rfl _ _ rfl W.heap.size (by have:=j.out.below.size;simp;omega) _ _ _ rfl (HD.out.alloc _) w4.heap.size _ rfl (heap_alloc_new w4 _) (by simp [Value.oneCell']) (by have:=HML.out;omega) ?_;intro gg lu w5 nW rV tA;have Tx:=ae (alg j.out HT.out OU.out.2 nW rV tA);clear nW rV tA);refine (OM (G.out.1.below Tx.out.below) vJ.out (by have:=G.out.2.2.2.1;omega) rfl).mono ?_;rintro e w6 ⟨rfl,Ir⟩;obtain ⟨y,hy⟩:=pQ (L.getD t fS);rw [hy];have X:=ae hy;have Ty:=ae (Tx.out.quiet Ir);clear Ir hy;unfold ig;go_wp2_with fail;refine (Yj (x:=y) (by rw [<-X.out];exact (G.out.2.2.1 t vJ.out).1) (by rw [<-X.out];exact (G.out.2.2.1 t vJ.out).2) _).mono ?_;rintro e w8 ⟨av,rfl,ha⟩;have PS:=alh (Ty.out.quiet ((Fr.refl (fun _=>False) w6).alloc _)) ha;obtain ⟨aa,ac,rfl⟩:=vw ha.2;obtain ⟨s,kg⟩:=pQ ((args y).length);have A:=ae kg;have U:=ae PS;clear PS ha;rw [kg];clear kg;go_wp2_with fail;go_loopw [61] (fun M Je=> ∃(k:Nat) (jF:Value) (H2:List Int),M= .int .i64 (k:Int)/\k<=s/\OQ W Je q (.slice (some ⟨gg,0,none⟩) (F+1+1) lu) (.slice aa (args y).length ac) jF l' H2 (args y) (D++ [H.getD 0 0]) k) (fun M _=>s-(intOf M).toNat)
     case atStart=>exact ⟨0,_,_,rfl,by omega,U.out⟩
     case round=>
      obtain ⟨k,jF,H2,rfl,J,TA⟩:=hrel;have h:=ae TA;have jx:(0:Int)<=(k:Int):=by omega
      clear TA;by_cases C:k<s
      ·have aB1:(k:Int)<(s:Int):=by omega
       have om:s<=2:=by rw [<-A.out];exact xP y
       have hk3:k<2:=by omega
       obtain ⟨B2,qR⟩:=h.out.row;obtain ⟨a3,c3,e3,d⟩:=GK qR;obtain ⟨g3,e4,TB⟩:=d k (by rw [A.out];exact C);cases e3;subst e4;obtain ⟨z3,Z⟩:=pQ ((args y).getD k 0);rw [Z] at TB;have Y:=ae Z;have I:=ae (af C J);clear qR d Z C J;go_wp2_with fail;refine (ak8 h.out.heap h.out.below.size (by have f:=h.out.len;have Q:=j.out.len;have h3:=vI.out;have h4:=xP y;have h5:=I.out;have h6:=A.out;omega) h.out.ho z3).mono ?_;rintro e w9 ⟨rfl,Tv,H3,Ki⟩;have uO:=ae (ali h.out (by rw [A.out];exact I.out.1) (by rw [Y.out];exact Ki) j.out.old.q0);clear Ki;go_wp2_with fail;go_roundw
       case rel=>exact ⟨k+1,_,_,by go_num,by have:=I.out.1;omega,uO.out⟩
       case measure=>have:=I.out.1;simp [intOf];omega
      ·have EZ:k=s:=by omega
       subst EZ;have O:=alj (y:=y) G.out.2.1 (by omega) (by have:=G.out.2.2.2.2;omega) Ty.out (fun z' EY=>by rw [OU.out.1] at EY;cases EY;rw [HT.out];exact HZT.out) (by unfold Ju;rw [HT.out];exact X.out) (by rw [A.out];exact h.out);have N:=adl HO.out O (by
        have f:=h.out.len;have Q:=j.out.len;have h3:=HN.out;have h4:=xP y;have h6:=A.out;have h7:=Tu G.out.2.1 (by omega) (by have:=G.out.2.2.2.2;omega) HO.out.inv;have h8:=G.out.2.2.2.1;simp only [aX,jk,fo] at*;omega)
       rw [OU.out.2] at N;have TC:=ae O;have TD:=ae N;clear O N;go_wp2_with fail;go_roundw
       case rel=>exact ⟨_,_,_,TC.out⟩
       case measure=>
        show GM q _ wr<GM q (.slice (some ⟨g4,0,none⟩) D.length dc) w3;rw [OU.out.2];exact TD.out
end
section
open Go Go.RowKit
def OV (M:List Bool) (j:Nat):Bool:=M.getD j false
end
section
open Go Go.RowKit
variable {M:List Bool} {W wr:World} {g i:Nat}
def Jw (M:List Bool):List Value:=M.map .bool
def aB2 (h:i<M.length):(Jw M)[i]? =some (.bool (OV M i)):=by
 unfold Jw OV;simp_all
def aB3 (M:List Bool) (i:Nat) (b:Bool):Jw (M.set i b)=(Jw M).set i (.bool b):=by simp [Jw,oD]
structure E1 (W wr:World) (g:Nat) (M:List Bool):Prop where
 row:wr.ownsRow W.heap.size 4 1 (.slice (some ⟨g,0,none⟩) M.length M.length) M.length (Jw M)
 below:Below W.heap.size W wr
def E1.cell (h:E1 W wr g M) (hi:i<M.length):wr.cell? ⟨g,i,none⟩=some (.bool (OV M i)):=by
 rw [h.row.cellAt i (by omega),aB2 hi]
def E1.set (h:E1 W wr g M) (i:Nat) (b:Bool) (a:W.heap.size<=g):E1 W (wr.setCell ⟨g,i,none⟩ (.bool b)) g (M.set i b):=
 ⟨by rw [aB3,bA];exact (h.row.stored _ _).1,h.below.setCell a _⟩
def E1.later {w':World} (h:E1 W wr g M) (a:Below wr.heap.size wr w'):E1 W w' g M:=
 ⟨qu (S:=fun _=>False) h.row (Fr.jq a) (fun _ _ e=>e),h.below.trans (a.mono h.below.size)⟩
def Tryz.info4:(Tryz.prog.info? 4).map (fun i=>(i.zero,i.size,i.bytes))=some (some (.bool false),1,1):=by kernel_rfl
def aB4 (n:Nat):(madeCells (Value.bool false).cells (n*1)).toList=Jw (List.replicate n false):=by
 show (madeCells #[.bool false] (n*1)).toList=_;rw [toList_madeCells_one,fk];simp [Jw]
end
section
open Go Go.RowKit
def xR:List ByteArray:= [⟨#[48]⟩,⟨#[49]⟩,⟨#[50]⟩,⟨#[51]⟩,⟨#[48,46,53]⟩,⟨#[49,46,50,53]⟩,⟨#[55]⟩,⟨#[49,48]⟩,⟨#[48,46,49]⟩,⟨#[49,50,46,55,53]⟩,⟨#[49,48,48]⟩,⟨#[51,46,49,52]⟩,⟨#[54,52]⟩,⟨#[48,46,48,48,49]⟩]
def E2:List ByteArray:= [⟨#[97]⟩,⟨#[98]⟩,⟨#[99]⟩,⟨#[120,49]⟩,⟨#[89,95,50]⟩]
def aB5 (l:List ByteArray) (w:World) (p:Nat) (v:Value) (n k:Nat) (e:Ending) (w':World):Prop:=
 ∃(s:ByteArray) (a:Nat),e= .returned (.string s)/\s∈l/\k<=a/\(k<n->a=k+1)/\(k<=n->a<=n)/\sS w' p v a/\Fr (· =p) w w'
def alk (w:World):Calls Tryz.prog 34 #[] w fun e a=>e= .returned (.slice (some ⟨w.heap.size,0,none⟩) 5 5)/\a=w.alloc (.cells ⟨E2.map .string⟩ 9):=by
 go_enter Tryz.func34,Tryz.ntmps34;go_wp2_with fail;go_ret;exact ⟨rfl,rfl⟩
def alm {w':World} {l:List ByteArray} {g i:Nat} (h:w'.heap[g]? =some (.cells ⟨l.map .string⟩ 9 (0,0))) (hi:i<l.length):w'.cell? ⟨g,i,none⟩=some (.string (l.getD i ByteArray.empty)):=by
 rw [qv h];grind
def aln {l:List ByteArray} {i:Nat} (hi:i<l.length):l.getD i ByteArray.empty∈l:=by
 simp_all
def aB6 {w:World} {p n k:Nat} {v:Value} (d:sS w p v k) (o:EU w p v n):
 Calls Tryz.prog 35 #[ptr p] w (aB5 xR w p v n k):=by
 have a:Fr (fun _=>False) w (w.alloc (.cells ⟨xR.map .string⟩ 9)):=(Fr.refl _ w).alloc _;have m:(w.alloc (.cells ⟨xR.map .string⟩ 9)).heap[w.heap.size]? =some (.cells ⟨xR.map .string⟩ 9 (0,0)):=by
  show (w.heap.push _)[w.heap.size]? =_;simp
 have H:=ae (af (d.frame a (fun e=>e)) (af (o.frame a (fun _ e=>e.elim)) (af m (af a d.lt))));clear a m d o;unfold ptr;go_enter Tryz.func35,Tryz.ntmps35;go_wp2_with fail;refine (ac8 (p:=p) (n:=n) (k:=k) (v:=v) H.out.1 H.out.2.1 14 (by omega) (by omega)).mono ?_;rintro e u ⟨r,t,rfl,y,x,f,g,h,j,b⟩;obtain ⟨i,rfl⟩: ∃i:Nat,r=(i:Int):=⟨r.toNat,by omega⟩;have hc:u.cell? ⟨w.heap.size,i,none⟩=some (.string (xR.getD i ByteArray.empty)):=
  alm ((b.block _ (by simp) (fun e=>by have:=H.out.2.2.2.2;omega)).trans H.out.2.2.1) (show i<14 by omega)
 have q:=aln (l:=xR) (i:=i) (show i<14 by omega);have K:=ae (af f (af g (af h (af j (af b q)))));generalize xR.getD i ByteArray.empty=s at hc K;clear f g h j b q;go_wp2_with fail;go_ret;exact ⟨s,t,rfl,K.out.2.2.2.2.2,K.out.1,K.out.2.1,K.out.2.2.1,K.out.2.2.2.1,(H.out.2.2.2.1.mono (fun _ _ e=>e.elim)).trans K.out.2.2.2.2.1 (fun _ _ e=>e)⟩
end
section
open Go.Proofs.Tryz Go Go.RowKit
variable {w W0 w' w1 w2:World} {p k n m k' d:Nat} {v vt:Value} {cl:Bool} {L:List b8} {t:ByteArray} {S:Nat->Prop} {a:Int}
structure px (x:b8):Prop where
 k1:1<=x.k
 k2:x.k<=16
 ES:x.k=1->x.t∈xR
 nam:x.k=2->x.t∈E2
 qt:x.k≠1->x.k≠2->x.t=ByteArray.empty
 pow:x.k=10-> -3<=x.n/\x.n<=4
 lH:x.k≠10->x.n=0
def alo (L:List b8) (x:b8):Di (L++ [x])=Di L++jD x:=by simp [Di]
def Tryz.infoNode:(prog.info? 60).map (fun i=>(i.zero,i.size,i.bytes))=some (some (.agg #[.int .i64 0,.int .i64 0,.int .i64 0,.int .i64 0,.string ByteArray.empty]),5,48):=by kernel_rfl
def adm {f:Array Oper} {b:List Oper} {o:Oper} {a:Act} {Q:Exit->Act->World->Prop} (N:o.guard=none) (s x:Operand) (G:o.op= .call {callee:= .builtin .append,args:= #[s,x],argTypes:= #[25,25]})
 (base:Nat) (M:base<=w.heap.size) (v:Value) (L:List b8) (H:a.eval s=v) (j:jE w base v L) (B:Nat) (y:b8) (I:a.eval x= .slice (some ⟨B,0,none⟩) 1 1)
 (F:w.heap[B]? =some (.cells ⟨jD y⟩ 60 (0,0))) (O:L.length<=100000)
 (h: ∀g cap w',jE w' base (.slice (some ⟨g,0,none⟩) (L.length+1) cap) (L++ [y])->Fr (fun k=>v.ownBlock=some k) w w'->(v.ownBlock=some g\/w.heap.size<=g)->
  wpList prog f Q b (a.put o.dst (.slice (some ⟨g,0,none⟩) (L.length+1) cap)) w'):wpList prog f Q (o::b) a w:=by
 obtain ⟨J,A,z,q,l⟩:=info_parts Tryz.infoNode;refine wpList_append_lies w N s x 25 G base 60 J _ 5 48 underlying25 A z q l rfl (by omega) v L.length (Di L) H j.own ⟨B,0,none⟩ 1 1 (jD y) I rfl (World.news_of_block (cs:=⟨jD y⟩) F)
  (by intro u i;simp [jD] at i;rcases i with rfl|rfl|rfl|rfl|rfl<;>rfl) (by omega) (by unfold maxLen;omega) (by omega) M w.heap.size rfl ?_
 intro g cap w' C D E _;refine h g cap w' ⟨?_⟩ (uN D) (E.imp id (fun e=>by omega));rw [alo,aX];exact C
structure py (W0 w:World) (p:Nat) (v:Value) (n k:Nat):Prop where
 tape:sS w p v k
 list:EU W0 p v n
 p0:W0.heap.size<=p
 below:Below W0.heap.size W0 w
def py.OX (h:py W0 w p v n k):EU w p v n:=
 h.list.frame (S:=fun _=>False) (Fr.jq h.below) (fun _ e=>e.elim)
def py.go (h:py W0 w p v n k) (f:sS w' p v k') (b:Fr S w w') (g: ∀j,S j->W0.heap.size<=j):py W0 w' p v n k':=
 ⟨f,h.list,h.p0,h.below.trans (b.nJ (fun j i e=>by grind) h.below.size)⟩
def py.stay (h:py W0 w p v n k) (b:Fr S w w') (e: ∀j,S j->W0.heap.size<=j) (f: ¬S p):py W0 w' p v n k:=
 h.go (h.tape.frame b f) b e
def alp {B:Nat} {b:Value} (f:sS w p v k) (h:jE w B b L):b.ownBlock≠some p:=fun e=>by
 obtain ⟨cur,hc⟩:=Dg h.own e;rw [f] at hc;grind
def py.next (h:py W0 w p v n k) (m:Int) (x:1<=m) (y:m<=1000000):
 Calls prog 33 #[.pointer (some ⟨p,0,none⟩),.int .i64 m] w fun e w'=> ∃(r:Int) (k':Nat),e= .returned (.int .i64 r)/\0<=r/\r<m/\k<=k'/\(k<n->k<k')/\(k<=n->k'<=n)/\py W0 w' p v n k'/\Fr (· =p) w w':=
 (ac8 h.tape h.OX m x y).mono fun e w' ⟨r,k',f,g,i,l,o,s,u,b⟩=>⟨r,k',f,g,i,l,fun q=>by have:=o q;omega,s,h.go u b (fun j e=>by have:=h.p0;omega),b⟩
def py.range (h:py W0 w p v n k) (lo hi:Int) (i: -1000<=lo) (b:lo<=hi) (f:hi<=1000):
 Calls prog 36 #[.pointer (some ⟨p,0,none⟩),.int .i64 lo,.int .i64 hi] w fun e w'=> ∃(r:Int) (k':Nat),e= .returned (.int .i64 r)/\lo<=r/\r<=hi/\k<=k'/\(k<n->k<k')/\(k<=n->k'<=n)/\py W0 w' p v n k'/\Fr (· =p) w w':=
 (aBm h.tape h.OX lo hi i b f).mono fun e w' ⟨r,k',b,f,x,l,o,s,u,g⟩=>⟨r,k',b,f,by omega,l,fun q=>by have:=o q;omega,s,h.go u g (fun j e=>by have:=h.p0;omega),g⟩
def py.number (h:py W0 w p v n k):
 Calls prog 35 #[.pointer (some ⟨p,0,none⟩)] w fun e w'=> ∃(s:ByteArray) (k':Nat),e= .returned (.string s)/\s∈xR/\k<=k'/\(k<n->k<k')/\(k<=n->k'<=n)/\py W0 w' p v n k'/\Fr (· =p) w w':=
 (aB6 h.tape h.OX).mono fun e w' ⟨s,k',f,g,i,l,o,u,b⟩=>⟨s,k',f,g,i,fun q=>by have:=l q;omega,o,h.go u b (fun j e=>by have:=h.p0;omega),b⟩
def py.more (h:py W0 w p v n k):
 Calls prog 32 #[.pointer (some ⟨p,0,none⟩)] w fun e w'=>e= .returned (.bool (decide (k<n)))/\py W0 w' p v n k/\Fr (fun _=>False) w w':=
 (aBl h.tape h.OX).mono fun _ _ ⟨f,b⟩=>⟨f,h.stay b (fun _ e=>e.elim) (fun e=>e),b⟩
structure qU (n:Nat) (x:b8):Prop where
 args: ∀a∈args x,0<=a/\a<(n:Int)
 a0:arity x.k=0->x.a=0
 b0:arity x.k<2->x.b=0
structure xS (cl:Bool) (m:Nat) (x:b8):Prop where
 nn:cl=true->x.k≠2
 fit:qU m x
def aB7 {k:Int} (h:cl=true->k≠2) (f:k<=4:=by omega):xS cl m ⟨k,0,0,0,t⟩:=by
 have e:arity k=0:=by unfold arity;simp_all
 refine ⟨h,⟨fun a b=> ?_,fun _=>rfl,fun _=>rfl⟩⟩;unfold args at b;simp_all
def aB8 {k n:Int} (h:arity k=1) (i:0<=a/\a<(m:Int):=by omega):xS cl m ⟨k,a,0,n,t⟩:=by
 have g: ¬k<=4:=fun e=>by unfold arity at h;rw [if_pos e] at h;cases h
 refine ⟨fun _ e=>g (by simp_all),⟨fun b f=> ?_,fun e=>by simp_all,fun _=>rfl⟩⟩;unfold args at f;simp_all
def aB9 {k b n:Int} (h:arity k=2) (i:0<=a/\a<(m:Int):=by omega) (j:0<=b/\b<(m:Int):=by omega):xS cl m ⟨k,a,b,n,t⟩:=by
 have g: ¬k<=4:=fun e=>by unfold arity at h;rw [if_pos e] at h;cases h
 refine ⟨fun _ e=>g (by simp_all),⟨fun c f=> ?_,fun e=>by simp_all,fun e=>by simp_all⟩⟩;unfold args at f;grind
def alq {M N:List b8} (h: ∀i,i<M.length->xS cl (L.length+i) (M.getD i ⟨0,0,0,0,ByteArray.empty⟩)) (h': ∀i,i<N.length->xS cl ((L++M).length+i) (N.getD i ⟨0,0,0,0,ByteArray.empty⟩)): ∀i,i<(M++N).length->xS cl (L.length+i) ((M++N).getD i ⟨0,0,0,0,ByteArray.empty⟩):=fun i b=>by
 grind
structure BT (cl:Bool) (W0 w:World) (p:Nat) (vt:Value) (n k:Nat) (v:Value) (L:List b8) (d:Nat) (v':Value) (L2:List b8) (k':Nat) (w':World):Prop where
 E3:py W0 w' p vt n k'
 row:jE w' W0.heap.size v' (L++L2)
 lz: ∀x∈L2,px x
 Jx: ∀i,i<L2.length->xS cl (L.length+i) (L2.getD i ⟨0,0,0,0,ByteArray.empty⟩)
 pos:0<L2.length
 len:L2.length+1<=2^d
 k0:k<=k'
 k1:k<n->k<k'
 k2:k<=n->k'<=n
 own: ∀j,v'.ownBlock=some j->v.ownBlock=some j\/w.heap.size<=j
 fr:Fr (fun j=>j=p\/v.ownBlock=some j) w w'
def adn (cl:Bool) (W0 w:World) (p:Nat) (vt:Value) (n k:Nat) (v:Value) (L:List b8) (d:Nat) (e:Ending) (w':World):Prop:=
 ∃b f k',e= .returned b/\BT cl W0 w p vt n k v L d b f k' w'
def aCa {g cap:Nat} {y:b8} (hM:py W0 w1 p vt n k') (hL:jE w W0.heap.size v L) (hF:Fr (· =p) w w1) (uP:Fr (fun _=>False) w1 w2)
 (h1:jE w' W0.heap.size (.slice (some ⟨g,0,none⟩) (L.length+1) cap) (L++ [y])) (h2:Fr (fun j=>v.ownBlock=some j) w2 w') (h3:v.ownBlock=some g\/w2.heap.size<=g) (hp:v.ownBlock≠some p) (hy:px y) (hk:xS cl L.length y) (hd:1<=d)
 (k0:k<=k') (k1:k<n->k<k') (k2:k<=n->k'<=n):BT cl W0 w p vt n k v L d (.slice (some ⟨g,0,none⟩) (L.length+1) cap) [y] k' w' where
 E3:=by
  have wL:=hM.stay uP (fun _ e=>e.elim) (fun e=>e);exact wL.stay h2 (fun j e=>(hL.own.lt j e).1) hp
 row:=h1
 lz:=fun x hx=>by simp_all
 Jx:=fun i hi=>by
  simp_all
 pos:=by simp
 len:=by
  grind
 k0:=k0
 k1:=k1
 k2:=k2
 own:=fun j e=>by
  have e1:g=j:=by simpa [Value.ownBlock] using e
  subst e1;have:=hF.size;have:=uP.size;grind
 fr:=((hF.mono (fun _ _ e=> .inl e)).trans uP (fun _ _ e=>e.elim)).trans h2 (fun _ _ e=> .inr e)
def BT.then {k1 k2:Nat} {i f:Value} {b g:List b8} (h:BT cl W0 w p vt n k v L d i b k1 w1) (h':BT cl W0 w1 p vt n k1 i (L++b) d f g k2 w2):
 jE w2 W0.heap.size f (L++(b++g))/\(∀j,f.ownBlock=some j->v.ownBlock=some j\/w.heap.size<=j)/\Fr (fun j=>j=p\/v.ownBlock=some j) w w2:=by
 refine ⟨by rw [<-dR];exact h'.row,fun j e=> ?_,h.fr.trans h'.fr fun j l e=> ?_⟩
 ·have:=h.fr.size
  rcases h'.own j e with e|e
  ·exact h.own j e
  omega
 ·rcases e with e|e
  ·exact .inl e
  ·rcases h.own j e with e|e
   all_goals grind
end
end Go.Proofs.YtnmpjdgobafdkaaGreatDoor
