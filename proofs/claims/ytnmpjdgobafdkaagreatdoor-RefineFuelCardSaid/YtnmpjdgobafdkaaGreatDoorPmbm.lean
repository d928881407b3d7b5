/- refineFuel_proved. -/
import Derived.Test.YtnmpjdgobafdkaaGreatDoorPmbl
set_option maxRecDepth 100000
set_option maxHeartbeats 16000000
set_option linter.all false
noncomputable section
namespace Go.Proofs.YtnmpjdgobafdkaaGreatDoor
section
open Go Go.RowKit
variable {w W w5 w1:World} {m g cap i B b:Nat} {A S:List (Int×Int)} {o:Obj} {y:Int×Int} {cs:Array Value} {t:TypeId}
def wN.YA {f:World} {l:Value} {a:Option Addr} {j d:Nat} (h:wN W f l (.slice a j d) A S i) (z:oA w5 W.heap.size (.slice (some ⟨g,0,none⟩) (m+1) cap) (S.take m++ [y]))
 (u:Fr (fun k=>(Value.slice a m d).ownBlock=some k) (f.alloc o).drew w5) (s:(Value.slice a m d).ownBlock=some g\/(f.alloc o).drew.heap.size<=g):
 Below W.heap.size W w5/\oA w5 W.heap.size l A/\(∀k,l.ownBlock=some k->k≠g)/\Fr (fun k=>(Value.slice a j d).ownBlock=some k) f w5:=by
 have x:(Value.slice a m d).ownBlock=(Value.slice a j d).ownBlock:=by cases a<;>rfl
 rw [x] at u s;have p:Fr (fun k=>(Value.slice a j d).ownBlock=some k) f w5:=((Fr.refl _ f).alloc o).drew.trans u (fun _ _ e=>e);refine ⟨h.below.trans (p.nJ (fun k C e=>by have:=(h.lI.own.lt k e).1;omega) h.below.size),h.TP.frame p (fun k e=>h.ne k e),fun k e=> ?_,p⟩;rintro rfl;rcases s with q|q
 ·exact h.ne k e q
 ·have:=(h.TP.own.lt k e).2
  simp at q;omega
def wN.YB {j:World} {d:Option Addr} {a f h l:Nat} (x:Below W.heap.size W w5) (F:oA w5 W.heap.size (.slice d a f) A) (u:oA w5 W.heap.size (.slice (some ⟨g,0,none⟩) (m+1) cap) (S++ [y])) (ne: ∀k,(Value.slice d a f).ownBlock=some k->k≠g)
 (D:oA j W.heap.size (.slice (some ⟨h,0,none⟩) (a+1) l) (A++ [y])) (G:Fr (fun k=>(Value.slice d a f).ownBlock=some k) (w5.alloc o) j) (E:(Value.slice d a f).ownBlock=some h\/(w5.alloc o).heap.size<=h) (al:A.length=i) (C:BX i A) (H:BX i S) (z:(0<=y.1/\y.1<(i:Int)+1)/\1<=y.2/\y.2<=(i:Int)+1):
 wN W j (.slice (some ⟨h,0,none⟩) (a+1) l) (.slice (some ⟨g,0,none⟩) (m+1) cap) (A++ [y]) (S++ [y]) (i+1):=by
 have s:Fr (fun k=>(Value.slice d a f).ownBlock=some k) w5 j:=((Fr.refl _ w5).alloc o).trans G (fun _ _ e=>e);refine ⟨x.trans (s.nJ (fun k I e=>by have:=(F.own.lt k e).1;omega) x.size),D,u.frame s (fun k e p=> ?_),fun k e p=> ?_,by simp_all,C.snoc z,H.snoc z⟩
 ·simp [Value.ownBlock] at e
  simp_all
 ·simp [Value.ownBlock] at e p
  subst e;rcases E with q|q
  ·simp_all
  ·have:=(u.own.lt g rfl).2
   simp at q;omega
def O6 (d:Below (w.heap.size+1) (w.alloc (.cells cs t)) w1) (j:Nat) {u:Value} (e:cs[j]? =some u):w1.cell? ⟨w.heap.size,j,none⟩=some u:=by
 have a:w1.heap[w.heap.size]? =some (.cells cs t (0,0)):=(d.block _ (by omega)).trans (heap_alloc_new w _);simp [World.cell?,a,e]
def adt (a:Below (w.heap.size+1) (w.alloc (.cells cs t)) w1):Below w.heap.size w w1:=((aH w.heap.size w).alloc (aq _) _).trans (a.mono (by omega))
def oA.form {n c:Nat} {a:Option Addr} {l:List (Int×Int)} (h:oA w B (.slice a n c) l):(a=none/\n=0/\c=0)\/ ∃g,a=some ⟨g,0,none⟩:=by
 rcases h.own.2 with ⟨e,_⟩|⟨g,cap,cur,e,_⟩
 all_goals grind
def YC (h:b<w.heap.size) (A B C:Obj) (j:Nat):(((w.alloc A).alloc B).alloc C).cell? ⟨b,j,none⟩=w.cell? ⟨b,j,none⟩:=
 World.cell?_of_block ((dI _ _ _ (by simp;omega)).trans ((dI _ _ _ (by simp;omega)).trans (dI _ _ _ h)))
def adu (h:Below W.heap.size W w) (A B C:Obj):Below W.heap.size W (((w.alloc A).alloc B).alloc C):=
 h.trans (((((aH w.heap.size w).alloc (aq _) A).alloc (by simp) B).alloc (by simp;omega) C).mono h.size)
def aCZ (h:b<w.heap.size) (A B C D:Obj) (j:Nat):((((w.alloc A).alloc B).alloc C).alloc D).cell? ⟨b,j,none⟩=w.cell? ⟨b,j,none⟩:=
 (World.cell?_of_block (dI _ _ _ (by simp;omega))).trans (YC h A B C j)
def alR (h:Below W.heap.size W w) (A B C D:Obj):Below W.heap.size W ((((w.alloc A).alloc B).alloc C).alloc D):=
 (adu h A B C).alloc (adu h A B C).size D
def aC0 (W:World) (n:Nat) (e:Ending) (w':World):Prop:=Below W.heap.size W w'/\ ∃d o,e= .returned (.tuple #[d,.int .i64 o])/\(o=0\/ ∃A,oA w' W.heap.size d A/\A.length=n)/\ ∃a k c,d= .slice a k c
def aC1 {v:Value} {L:List b8} (h:jE W B v L) (hl:L.length<=1000) (hm: ∀i,i<L.length->px (L.getD i fS)/\xS true i (L.getD i fS)) (hT:pz W):
 Calls Tryz.prog 38 #[v] W (aC0 W L.length):=by
 have HX:=ae (af h (af hl (af hm hT)));obtain ⟨va,vc,rfl⟩:=h.slice;obtain ⟨n,hn⟩:=pQ L.length;have HN:=ae hn;rw [hn] at hl⊢;clear h hm hT hn;go_enter Tryz.func38,Tryz.ntmps38;go_wp2_with fail;go_loopw [4,5,15] (fun av sv iv wr=> ∃A S,∃i:Nat,iv= .int .i64 (i:Int)/\i<=n/\wN W wr av sv A S i) (fun _ _ iv _=>n-(intOf iv).toNat)
 case atStart=>exact ⟨[],[],0,rfl,by omega,wN.start W⟩
 case round=>
  obtain ⟨A,S,i,rfl,hi,hW⟩:=hrel;obtain ⟨aa,ac,rfl,hac⟩:=hW.TP.slice;obtain ⟨sa,sc,rfl,hsc⟩:=hW.lI.slice;obtain ⟨an,kg⟩:=pQ A.length;obtain ⟨E,DH⟩:=pQ S.length;have HW:=ae (by rw [<-kg,<-DH];exact hW:wN W wr (.slice aa an ac) (.slice sa E sc) A S i);have HA:=ae kg;have D:=ae DH;have nZ:E<=1000:=by have:=hW.si.len;omega
  have PN:an<=1000:=by have:=hW.ai.len;omega
  rw [DH] at hsc;rw [DH,kg];by_cases bz:i<n
  ·clear hW DH kg hac
   obtain ⟨y,hy⟩:=pQ (L.getD i fS);obtain ⟨gv,cv,ev,c0,c1,c2,c3,c4⟩:=(HX.out.1.frame (S:=fun _=>False) (Fr.jq HW.out.below) (fun _ _ e=>e)).form (by rw [HN.out];exact bz) hy;rw [HN.out] at ev;cases ev;obtain ⟨k,a,bb,m,t⟩:=y;simp only at c0 c1 c2 c3 c4;have hk:=HX.out.2.2.1 i (by rw [HN.out];exact bz);rw [hy] at hk;have I:=ae (af hk bz);have h1:=hk.1.k1;have h2:=hk.1.k2;have h3:=hk.2.nn rfl;simp only at h1 h2 h3;clear hy hk bz;have i0:(0:Int)<=(i:Int):=by omega
   have i1:(i:Int)<(n:Int):=by have:=I.out.2;omega
   have yu:gv<wr.heap.size:=ak wr _ c0;go_wp2_with fail;refine (aCW h1 h2 _).mono ?_;rintro e w1 ⟨rfl,Tq⟩;have bW:Below (wr.heap.size+1) (wr.alloc (.cells ⟨jD ⟨k,a,bb,m,t⟩⟩ 60)) w1:=by rw [Tq];exact aH _ _
   obtain ⟨Z,d1,d2,d3,d4⟩:=mF (wM bW);simp only at Z d1 d2 d3 d4;have hs:wr.heap.size<w1.heap.size:=ak w1 _ Z;have dh:=ae bW;have HW1:=ae (HW.out.later (uR bW));have aC2:=ae (af h1 (af h2 h3));clear bW Tq h1 h2 h3 c0 c1 c2 c3 c4 yu;obtain ⟨q,hq⟩:=pQ (arity k);have AL:q=0\/q=1\/q=2:=by rw [<-hq];exact L6 k
   have HQ:=ae hq;rw [hq];clear hq;by_cases hqs:q<=E
   ·go_wp2_with fail
    refine (aCX (x:=⟨k,a,bb,m,t⟩) I.out.1.1 aC2.out.2.2 ((HX.out.2.2.2.below HW1.out.below))).mono ?_;rintro e d ⟨rfl,fM⟩;have iX:=ae (dh.out.trans (fM.mono (by omega)));clear Z d1 d2 d3 d4 hs fM;obtain ⟨Z,d1,d2,d3,d4⟩:=mF (wM iX.out);simp only at Z d1 d2 d3 d4;have hs:wr.heap.size<d.heap.size:=ak d _ Z;have z:=ae (HW.out.later (uR iX.out));rcases AL with rfl|rfl|rfl
    ·have ea:=I.out.1.2.fit.a0 HQ.out
     have eb:=I.out.1.2.fit.b0 (by rw [show arity _=0 from HQ.out];omega);simp only at ea eb;subst ea;subst eb;go_wp2_with fail;have qQ:Below (d.heap.size+1) (d.alloc (.cells #[.int .i64 (i:Int),.int .i64 1] 92)) ((d.alloc (.cells #[.int .i64 (i:Int),.int .i64 1] 92)).alloc (.cells #[.int .i64 k,.int .i64 0,.int .i64 0,.int .i64 m,.string t] 60)):=(aH _ _).alloc (by simp) _;have H:=ae qQ;clear Z d1 d2 d3 d4 hs qQ;generalize (d.alloc (.cells #[.int .i64 (i:Int),.int .i64 1] 92)).alloc (.cells #[.int .i64 k,.int .i64 0,.int .i64 0,.int .i64 m,.string t] 60)=u at H⊢;have J:u.cell? ⟨d.heap.size,0,none⟩=some (.int .i64 (i:Int)):=O6 H.out 0 rfl;have U:u.cell? ⟨d.heap.size,1,none⟩=some (.int .i64 1):=O6 H.out 1 rfl;have s:=ae (z.out.later (adt H.out));have M:d.heap.size<u.heap.size:=ak u _ J;have z0:(0:Int)<=(E:Int):=by omega
     have z1:(E:Int)<=(sc:Int):=by omega
     have XA:IntKind.i64.wrap 0=0:=by decide
     have XB:IntKind.i64.wrap (E:Int)=(E:Int):=wrap_small _ (by omega) (by omega);rcases s.out.lI.form with ⟨rfl,rfl,rfl⟩|⟨g0,rfl⟩
     ·go_region_law (refine Yz (by rfl) _ _ (by rfl) W.heap.size (E7 _ s.out.below.size) (.slice none 0 0) (S.take 0) (by rfl) (((s.out.lI.pop (m:=0) (by rw [D.out];exact aq _)).frame ((Fr.refl (fun _=>False) u).alloc _).drew (fun _ _ e=>e))) u.heap.size ((i:Int),1) (by rfl) (heap_alloc_new u _) (by rw [bM];omega) ?_;intro gg lu w5 C R T;rw [show (S.take 0).length=0 by rw [bM,D.out];exact dV (aq _)] at C⊢;have p:=ae (s.out.YA C R T);have Md:=ae C;clear C R T)
      all_goals
       have Me:w5.cell? ⟨d.heap.size,0,none⟩=some (.int .i64 (i:Int)):=p.out.2.2.2.cell J (fun e=>by have h9:d.heap.size<d.heap.size:=(z.out.lI.own.lt _ e).2;omega);have Qt:w5.cell? ⟨d.heap.size,1,none⟩=some (.int .i64 1):=p.out.2.2.2.cell U (fun e=>by have h9:d.heap.size<d.heap.size:=(z.out.lI.own.lt _ e).2;omega);have adv:d.heap.size<w5.heap.size:=ak w5 _ Me;clear J U M;go_wp2_with (at_builtin;refine Yy rfl _ _ rfl W.heap.size (E7 _ p.out.1.size) (.slice aa an ac) A rfl (p.out.2.1.frame ((Fr.refl (fun _=>False) w5).alloc _) (fun _ _ e=>e)) w5.heap.size ((i:Int),1) rfl (heap_alloc_new w5 _) (by rw [HA.out];omega) ?_;intro g2 O5 w6 G N O;rw [HA.out] at G⊢;have Mf:=ae (wN.YB p.out.1 p.out.2.1 Md.out p.out.2.2.1 G N O s.out.al s.out.ai s.out.si.take ⟨⟨by omega,by show (i:Int)<(i:Int)+1;omega⟩,by show (1:Int)<=1;omega,by show (1:Int)<=(i:Int)+1;omega⟩);clear G N O);go_roundw
       case rel=>exact ⟨_,_,i+1,by go_num,by have:=I.out.2;omega,Mf.out⟩
       case measure=>have:=I.out.2;simp [intOf];omega
     ·go_region_law (refine Yz (by rfl) _ _ (by rfl) W.heap.size (E7 _ s.out.below.size) (.slice (some ⟨g0,0,none⟩) E sc) (S.take E) (by rfl) (((s.out.lI.pop (m:=E) (by rw [D.out];exact aq _)).frame ((Fr.refl (fun _=>False) u).alloc _).drew (fun _ _ e=>e))) u.heap.size ((i:Int),1) (by rfl) (heap_alloc_new u _) (by rw [bM];omega) ?_;intro gg lu w5 C R T;rw [show (S.take E).length=E by rw [bM,D.out];exact dV (aq _)] at C⊢;have p:=ae (s.out.YA C R T);have Md:=ae C;clear C R T)
      all_goals
       have Me:w5.cell? ⟨d.heap.size,0,none⟩=some (.int .i64 (i:Int)):=p.out.2.2.2.cell J (fun e=>by have h9:d.heap.size<d.heap.size:=(z.out.lI.own.lt _ e).2;omega);have Qt:w5.cell? ⟨d.heap.size,1,none⟩=some (.int .i64 1):=p.out.2.2.2.cell U (fun e=>by have h9:d.heap.size<d.heap.size:=(z.out.lI.own.lt _ e).2;omega);have adv:d.heap.size<w5.heap.size:=ak w5 _ Me;clear J U M;go_wp2_with (at_builtin;refine Yy rfl _ _ rfl W.heap.size (E7 _ p.out.1.size) (.slice aa an ac) A rfl (p.out.2.1.frame ((Fr.refl (fun _=>False) w5).alloc _) (fun _ _ e=>e)) w5.heap.size ((i:Int),1) rfl (heap_alloc_new w5 _) (by rw [HA.out];omega) ?_;intro g2 O5 w6 G N O;rw [HA.out] at G⊢;have Mf:=ae (wN.YB p.out.1 p.out.2.1 Md.out p.out.2.2.1 G N O s.out.al s.out.ai s.out.si.take ⟨⟨by omega,by show (i:Int)<(i:Int)+1;omega⟩,by show (1:Int)<=1;omega,by show (1:Int)<=(i:Int)+1;omega⟩);clear G N O);go_roundw
       case rel=>exact ⟨_,_,i+1,by go_num,by have:=I.out.2;omega,Mf.out⟩
       case measure=>have:=I.out.2;simp [intOf];omega
    ·have eb:=I.out.1.2.fit.b0 (by rw [show arity _=1 from HQ.out];omega)
     simp only at eb;subst eb;obtain ⟨l,rfl⟩: ∃l,E=l+1:=⟨E-1,by omega⟩;obtain ⟨gs,cs,es,s0,s1⟩:=z.out.lI.cell (j:=l) (by rw [D.out];omega);rw [D.out] at es;cases es;have Y:=z.out.si.get (j:=l) (by rw [D.out];omega);have P:=ae Y;generalize (S.getD l (0,0)).1=f at s0 Y P;generalize (S.getD l (0,0)).2=F at s1 Y P;obtain ⟨⟨f0,f1⟩,f2,f3⟩:=Y;have hi9:(i:Int)<=1000:=by omega
     have Np:gs<d.heap.size:=ak d _ s0;have k0:(0:Int)<=(l:Int):=by omega
     by_cases ha:a=(i:Int)-1
     ·subst ha
      have al3:=YC hs;go_wp2_with fail;have qQ:Below (d.heap.size+1) (d.alloc (.cells #[.int .i64 f,.int .i64 (F+1)] 92)) (((d.alloc (.cells #[.int .i64 f,.int .i64 (F+1)] 92)).alloc (.cells #[.int .i64 k,.int .i64 ((i:Int)-1),.int .i64 0,.int .i64 m,.string t] 60)).alloc (.cells #[.int .i64 f,.int .i64 F] 92)):=((aH _ _).alloc (by simp) _).alloc (by simp<;>omega) _;have H:=ae qQ;clear Z d1 d2 d3 d4 hs qQ al3 s0 s1;generalize ((d.alloc (.cells #[.int .i64 f,.int .i64 (F+1)] 92)).alloc (.cells #[.int .i64 k,.int .i64 ((i:Int)-1),.int .i64 0,.int .i64 m,.string t] 60)).alloc (.cells #[.int .i64 f,.int .i64 F] 92)=u at H⊢;have J:u.cell? ⟨d.heap.size,0,none⟩=some (.int .i64 f):=O6 H.out 0 rfl;have U:u.cell? ⟨d.heap.size,1,none⟩=some (.int .i64 (F+1)):=O6 H.out 1 rfl;have s:=ae (z.out.later (adt H.out));have M:d.heap.size<u.heap.size:=ak u _ J;have z1:(l:Int)<=(sc:Int):=by omega
      have XA:IntKind.i64.wrap 0=0:=by decide
      have XB:IntKind.i64.wrap (l:Int)=(l:Int):=wrap_small _ (by omega) (by omega)
      go_region_law (refine Yz (by rfl) _ _ (by rfl) W.heap.size (E7 _ s.out.below.size) (.slice (some ⟨gs,0,none⟩) l sc) (S.take l) (by rfl) (((s.out.lI.pop (m:=l) (by have:=D.out;omega)).frame ((Fr.refl (fun _=>False) u).alloc _).drew (fun _ _ e=>e))) u.heap.size (f,F+1) (by rfl) (heap_alloc_new u _) (by rw [bM];omega) ?_;intro gg lu w5 C R T;rw [show (S.take l).length=l by rw [bM,D.out];exact dV (by omega)] at C⊢;have p:=ae (s.out.YA C R T);have Md:=ae C;clear C R T)
      all_goals
       have Me:w5.cell? ⟨d.heap.size,0,none⟩=some (.int .i64 f):=p.out.2.2.2.cell J (fun e=>by have h9:d.heap.size<d.heap.size:=(z.out.lI.own.lt _ e).2;omega);have Qt:w5.cell? ⟨d.heap.size,1,none⟩=some (.int .i64 (F+1)):=p.out.2.2.2.cell U (fun e=>by have h9:d.heap.size<d.heap.size:=(z.out.lI.own.lt _ e).2;omega);have adv:d.heap.size<w5.heap.size:=ak w5 _ Me;clear J U M;go_wp2_with (at_builtin;refine Yy rfl _ _ rfl W.heap.size (E7 _ p.out.1.size) (.slice aa an ac) A rfl (p.out.2.1.frame ((Fr.refl (fun _=>False) w5).alloc _) (fun _ _ e=>e)) w5.heap.size (f,F+1) rfl (heap_alloc_new w5 _) (by rw [HA.out];omega) ?_;intro g2 O5 w6 G N O;rw [HA.out] at G⊢;have Mf:=ae (wN.YB p.out.1 p.out.2.1 Md.out p.out.2.2.1 G N O s.out.al s.out.ai s.out.si.take ⟨⟨P.out.1.1,by have:=P.out.1.2;show f<(i:Int)+1;omega⟩,by have:=P.out.2.1;show (1:Int)<=F+1;omega,by have:=P.out.2.2;show F+1<=(i:Int)+1;omega⟩);clear G N O);go_roundw
       case rel=>exact ⟨_,_,i+1,by go_num,by have:=I.out.2;omega,Mf.out⟩
       case measure=>have:=I.out.2;simp [intOf];omega
     ·have al3:=YC hs
      go_wp2_with fail;go_ret2;exact ⟨adu z.out.below _ _ _,_,_,rfl,.inl rfl,_,_,_,rfl⟩
    ·obtain ⟨l,rfl⟩: ∃l,E=l+2:=⟨E-2,by omega⟩
     obtain ⟨gs,cs,es,s0,s1⟩:=z.out.lI.cell (j:=l+1) (by rw [D.out];omega);rw [D.out] at es;cases es;obtain ⟨gs',cs',es,r0,r1⟩:=z.out.lI.cell (j:=l) (by rw [D.out];omega);rw [D.out] at es;cases es;have Y:=z.out.si.get (j:=l+1) (by rw [D.out];omega);generalize (S.getD (l+1) (0,0)).1=f at s0 Y;generalize (S.getD (l+1) (0,0)).2=F at s1 Y;have YD:=z.out.si.get (j:=l) (by rw [D.out];omega);have P:=ae (af Y YD);generalize (S.getD l (0,0)).1=X at r0 YD P;generalize (S.getD l (0,0)).2=de at r1 YD P;obtain ⟨⟨f0,f1⟩,f2,f3⟩:=Y;obtain ⟨⟨f4,f5⟩,f6,f7⟩:=YD;have hi9:(i:Int)<=1000:=by omega
     have Np:gs<d.heap.size:=ak d _ s0;have k0:(0:Int)<=(l:Int):=by omega
     have al4:=aCZ hs;have aC3:=YC Np;by_cases ha:a=f-1
     ·subst ha
      by_cases hb:bb=(i:Int)-1
      ·subst hb
       go_wp2_with fail;obtain ⟨Q,Mc⟩:=pQ (max F de);have HMM:=ae (show 1<=Q/\Q<=(i:Int) by omega);rw [Mc];clear Mc;have qQ:Below (d.heap.size+1) (d.alloc (.cells #[.int .i64 X,.int .i64 (Q+1)] 92)) ((((d.alloc (.cells #[.int .i64 X,.int .i64 (Q+1)] 92)).alloc (.cells #[.int .i64 k,.int .i64 (f-1),.int .i64 ((i:Int)-1),.int .i64 m,.string t] 60)).alloc (.cells #[.int .i64 f,.int .i64 F] 92)).alloc (.cells #[.int .i64 X,.int .i64 de] 92)):=(((aH _ _).alloc (by simp) _).alloc (by simp<;>omega) _).alloc (by simp<;>omega) _;have H:=ae qQ;clear Z d1 d2 d3 d4 hs qQ al4 aC3 s0 s1 r0 r1;generalize (((d.alloc (.cells #[.int .i64 X,.int .i64 (Q+1)] 92)).alloc (.cells #[.int .i64 k,.int .i64 (f-1),.int .i64 ((i:Int)-1),.int .i64 m,.string t] 60)).alloc (.cells #[.int .i64 f,.int .i64 F] 92)).alloc (.cells #[.int .i64 X,.int .i64 de] 92)=u at H⊢;have J:u.cell? ⟨d.heap.size,0,none⟩=some (.int .i64 X):=O6 H.out 0 rfl;have U:u.cell? ⟨d.heap.size,1,none⟩=some (.int .i64 (Q+1)):=O6 H.out 1 rfl;have s:=ae (z.out.later (adt H.out));have M:d.heap.size<u.heap.size:=ak u _ J;have z1:(l:Int)<=(sc:Int):=by omega
       have XA:IntKind.i64.wrap 0=0:=by decide
       have XB:IntKind.i64.wrap (l:Int)=(l:Int):=wrap_small _ (by omega) (by omega)
       go_region_law (refine Yz (by rfl) _ _ (by rfl) W.heap.size (E7 _ s.out.below.size) (.slice (some ⟨gs,0,none⟩) l sc) (S.take l) (by rfl) (((s.out.lI.pop (m:=l) (by have:=D.out;omega)).frame ((Fr.refl (fun _=>False) u).alloc _).drew (fun _ _ e=>e))) u.heap.size (X,Q+1) (by rfl) (heap_alloc_new u _) (by rw [bM];omega) ?_;intro gg lu w5 C R T;rw [show (S.take l).length=l by rw [bM,D.out];exact dV (by omega)] at C⊢;have p:=ae (s.out.YA C R T);have Md:=ae C;clear C R T)
       all_goals
        have Me:w5.cell? ⟨d.heap.size,0,none⟩=some (.int .i64 X):=p.out.2.2.2.cell J (fun e=>by have h9:d.heap.size<d.heap.size:=(z.out.lI.own.lt _ e).2;omega);have Qt:w5.cell? ⟨d.heap.size,1,none⟩=some (.int .i64 (Q+1)):=p.out.2.2.2.cell U (fun e=>by have h9:d.heap.size<d.heap.size:=(z.out.lI.own.lt _ e).2;omega);have adv:d.heap.size<w5.heap.size:=ak w5 _ Me;clear J U M;go_wp2_with (at_builtin;refine Yy rfl _ _ rfl W.heap.size (E7 _ p.out.1.size) (.slice aa an ac) A rfl (p.out.2.1.frame ((Fr.refl (fun _=>False) w5).alloc _) (fun _ _ e=>e)) w5.heap.size (X,Q+1) rfl (heap_alloc_new w5 _) (by rw [HA.out];omega) ?_;intro g2 O5 w6 G N O;rw [HA.out] at G⊢;have Mf:=ae (wN.YB p.out.1 p.out.2.1 Md.out p.out.2.2.1 G N O s.out.al s.out.ai s.out.si.take ⟨⟨P.out.2.1.1,by have:=P.out.2.1.2;show X<(i:Int)+1;omega⟩,by have:=HMM.out.1;show (1:Int)<=Q+1;omega,by have:=HMM.out.2;show Q+1<=(i:Int)+1;omega⟩);clear G N O);go_roundw
        case rel=>exact ⟨_,_,i+1,by go_num,by have:=I.out.2;omega,Mf.out⟩
        case measure=>have:=I.out.2;simp [intOf];omega
      ·go_wp2_with fail
       all_goals go_ret2
       all_goals exact ⟨alR z.out.below _ _ _ _,_,_,rfl,.inl rfl,_,_,_,rfl⟩
     ·go_wp2_with fail
      all_goals go_ret2
      all_goals exact ⟨alR z.out.below _ _ _ _,_,_,rfl,.inl rfl,_,_,_,rfl⟩
   ·go_wp2_with fail
    go_ret2;exact ⟨HW1.out.below,_,_,rfl,.inl rfl,_,_,_,rfl⟩
  ·have GQ:i=n:=by omega
   subst GQ;clear bz hi hW;go_wp2_with fail;go_ret2;exact ⟨HW.out.below,_,_,rfl,.inr ⟨A,by have:=HW.out.TP;exact this,HW.out.al⟩,_,_,_,rfl⟩
end
section
open Go Go.RowKit
variable {x:b8} {L:List b8} {f:Int->Int} {n:Nat}
open Classical in
def wO (L:List b8) (x:b8):Nat:=L.findIdx fun y=>decide (y=x)
def wQ (L:List b8) (x:b8):List b8:=if wO L x<L.length then L else L++ [x]
open Classical in
def adw (h:x∈L):wO L x<L.length/\L.getD (wO L x) fS=x:=by
 have a:wO L x<L.length:=List.findIdx_lt_length.2 ⟨x,h,by simp⟩;have b:=List.findIdx_getElem (p:=fun y=>decide (y=x)) (xs:=L) (w:=a);refine ⟨a,?_⟩;rw [aD,aM a];exact of_decide_eq_true b
open Classical in
def adx (h:x∉L):wO L x=L.length:=List.findIdx_eq_length.2 fun y a=>decide_eq_false fun e=>h (e▸a)
def YE (h:x∈L):wQ L x=L:=if_pos (adw h).1
def YF (h:x∉L):wQ L x=L++ [x]:=if_neg (by rw [adx h];omega)
def Mg (L:List b8) (x:b8):wO L x<(wQ L x).length/\L.length<=(wQ L x).length/\(wQ L x).length<=L.length+1:=by
 by_cases h:x∈L
 ·rw [YE h];have:=(adw h).1;omega
 ·rw [YF h,adx h,aX];simp
def NN (L:List b8):Prop:= ∀i,i<L.length->(L.getD i fS).k≠2
def NN.put (h:NN L) (d:x.k≠2):NN (wQ L x):=by
 by_cases a:x∈L
 ·rw [YE a];exact h
 ·rw [YF a]
  intro i b;rw [aX] at b;rw [adp];split
  ·rename_i q;exact h i q
  omega
def GI.put (h:GI L) (d:px x) (b:qU L.length x):GI (wQ L x):=by
 by_cases a:x∈L
 ·rw [YE a];exact h
 ·rw [YF a];exact h.snoc d b a
def ren (f:Int->Int) (x:b8):b8:=⟨x.k,if arity x.k=0 then x.a else f x.a,if arity x.k=2 then f x.b else x.b,x.n,x.t⟩
def aC4 (h:px x):px (ren f x):=⟨h.k1,h.k2,h.ES,h.nam,h.qt,h.pow,h.lH⟩
def aC5 {m:Nat} (h:qU m x) (d: ∀a∈args x,0<=f a/\f a<(n:Int)):qU n (ren f x):=by
 obtain ⟨k,a,b,c,t⟩:=x;refine ⟨fun z g=> ?_,fun e=> ?_,fun e=> ?_⟩
 ·simp only [args,ren] at g d
  rcases L6 k with e|e|e<;>simp [e] at g d
  all_goals grind
 ·have e:arity k=0:=e
  simp only [ren,e,if_true];exact h.a0 e
 ·have e:arity k<2:=e
  simp only [ren,if_neg (show¬arity k=2 by omega)];exact h.b0 e
def fF (L G:List b8) (o:Nat->Nat):Nat->List b8×(Int->Int)
 |0=>(G,fun _=>0)
 |j+1=>(wQ (fF L G o j).1 (ren (fF L G o j).2 (L.getD (o j) fS)),fun z=>if z=(o j:Int) then (wO (fF L G o j).1 (ren (fF L G o j).2 (L.getD (o j) fS)):Int) else (fF L G o j).2 z)
structure YG (L:List b8) (o:Nat->Nat) (n:Nat):Prop where
 nd: ∀j,j<n->px (L.getD (o j) fS)
 fit: ∀j,j<n-> ∃m,qU m (L.getD (o j) fS)
 ahead: ∀j,j<n-> ∀a∈args (L.getD (o j) fS),∃i,i<j/\a=(o i:Int)
structure ady (L G:List b8) (o:Nat->Nat) (j:Nat):Prop where
 gi:GI (fF L G o j).1
 lo:G.length<=(fF L G o j).1.length
 hi:(fF L G o j).1.length<=G.length+j
 toX: ∀i,i<j->0<=(fF L G o j).2 (o i)/\(fF L G o j).2 (o i)<((fF L G o j).1.length:Int)
 zero: ∀z,(∀i,i<j->z≠(o i:Int))->(fF L G o j).2 z=0
def ady.node {G:List b8} {o:Nat->Nat} {j:Nat} (h:ady L G o j) (d:YG L o n) (b:j<n):px (ren (fF L G o j).2 (L.getD (o j) fS))/\qU (fF L G o j).1.length (ren (fF L G o j).2 (L.getD (o j) fS)):=by
 obtain ⟨m,k⟩:=d.fit j b;refine ⟨aC4 (d.nd j b),aC5 k fun a e=> ?_⟩;obtain ⟨i,g,rfl⟩:=d.ahead j b a e;exact h.toX i g
def TQ {L G:List b8} {o:Nat->Nat} {n:Nat} (a:GI G) (b:YG L o n): ∀j,j<=n->ady L G o j
 |0,_=>⟨a,aq _,aq _,fun i h=>by omega,fun _ _=>rfl⟩
 |j+1,m=>by
  have h:=TQ a b j (by omega);obtain ⟨k,l⟩:=h.node b (by omega);have p:=Mg (fF L G o j).1 (ren (fF L G o j).2 (L.getD (o j) fS));refine ⟨h.gi.put k l,?_,?_,fun i e=> ?_,fun z d=> ?_⟩
  ·have:=h.lo;show _<=(wQ _ _).length;omega
  ·have:=h.hi;show (wQ _ _).length<=_;omega
  ·show 0<=(if (o i:Int)=(o j:Int) then _ else _)/\(if (o i:Int)=(o j:Int) then _ else _)<((wQ _ _).length:Int)
   split
   ·omega
   ·rename_i g
    have:=h.toX i (by grind);omega
  ·show (if z=(o j:Int) then _ else _)=(0:Int)
   rw [if_neg (d j (by omega))];exact h.zero z fun i e=>d i (by omega)
def adz {L G:List b8} {o:Nat->Nat} {n:Nat} (a:NN G) (b: ∀j,j<n->(L.getD (o j) fS).k≠2): ∀j,j<=n->NN (fF L G o j).1
 |0,_=>a
 |j+1,d=>(adz a b j (by omega)).put (x:=ren _ _) (b j (by omega))
end
section
open Go.Proofs.Tryz Go Go.RowKit
variable {B n g p b i j:Nat} {L G:List b8} {v:Value} {W w wr w':World} {f:Int->Int} {x:b8}
def O7 (h:iI w B p v (.map (some b)) L) (hi:pA w b L) (y:B<=w.heap.size) (q:px x) (m:qU L.length x) (o:L.length<=4000) (l:pz w):
 Calls prog 21 #[ptr p,ig x] w fun e w'=> ∃k,e= .returned (.tuple #[.int .i64 (wO L x),.int .i64 0])/\iI w' B p k (.map (some b)) (wQ L x)/\pA w' b (wQ L x)/\Fr (fun j=>j=p\/j=b\/v.ownBlock=some j) w w':=by
 by_cases a:x∈L
 ·obtain ⟨z,A⟩:=adw a
  refine (aCV h hi q m z A o l).mono ?_;rintro e w' ⟨rfl,d⟩;rw [YE a];exact ⟨v,rfl,h.below d,hi.frame (S:=fun _=>False) (Fr.jq d) (fun e=>e),Fr.jq d⟩
 ·refine (aCM h hi y q m a o l).mono ?_
  rintro e w' ⟨k,rfl,s,t,u⟩;rw [YF a,adx a];exact ⟨k,rfl,s,t,u⟩
def aC6 (e:Ending):Prop:= ∃r:Bool,e= .returned (.bool r)
def aC7 (h:jE W B v L) (F:0<L.length) (C:L.length<=1000) (D: ∀i,i<L.length->px (L.getD i fS)/\xS true i (L.getD i fS)) (y:pz W):
 Calls prog 19 #[v] W fun e w'=>Below W.heap.size W w'/\aC6 e:=by
 have t:=ae (aC1 h C D y);obtain ⟨S,T,rfl⟩:=h.slice;obtain ⟨n,E⟩:=pQ L.length;rw [E] at C F t⊢;clear h D y E;have R: ¬(n:Int)<1:=by omega
 go_enter func19,ntmps19;by_cases O:n<=200
 ·go_wp2_with fail
  refine t.out.mono ?_;rintro e l ⟨z,N,o,rfl,a,M,Q,c1,rfl⟩;have s:=ae z;clear z;by_cases H:o=1
  ·subst H
   rcases a with a|⟨A,a,q⟩
   ·exact absurd a (by decide)
   ·obtain ⟨g,c,u,I,k⟩:=a.cell (j:=n-1) (by omega)
    rw [q] at u;cases u;generalize (A.getD (n-1) (0,0)).2=d at k;obtain ⟨m,rfl⟩: ∃m,n=m+1:=⟨n-1,by omega⟩;have J:l.cell? ⟨g,m*2+1,none⟩=some (.int .i64 d):=k;have P:g<l.heap.size:=ak l _ J;clear I k a q;go_wp2_with fail;go_ret;exact ⟨s.out,_,rfl⟩
  ·clear a
   go_wp2_with fail;go_ret;exact ⟨s.out,_,rfl⟩
 ·go_wp2_with fail
  go_ret;exact ⟨aH _ _,_,rfl⟩
structure B3 (w:World) (B g n:Nat) (f:Int->Int):Prop where
 ex: ∃E:List Int,E.length=n/\w.ownsRow B 3 1 (.slice (some ⟨g,0,none⟩) n n) n (ints E)/\ ∀j:Nat,j<n->E.getD j 0=f j
def B3.made {a:World} (d:a.ownsRow B 3 1 (.slice (some ⟨g,0,none⟩) n n) n (madeCells (Value.int .i64 0).cells (n*1)).toList):B3 a B g n fun _=>0:=by
 have e:(madeCells (Value.int .i64 0).cells (n*1)).toList=ints (List.replicate n 0):=by
  show (madeCells #[.int .i64 0] (n*1)).toList=_;rw [toList_madeCells_one,fk];simp [ints]
 exact ⟨List.replicate n 0,by simp,by simp_all,fun j h=>by simp_all⟩
def B3.frame {S:Nat->Prop} (h:B3 w B g n f) (m:Fr S w w') (q: ¬S g):B3 w' B g n f:=by
 obtain ⟨E,a,d,l⟩:=h.ex;exact ⟨E,a,qu d m (fun k o e=>by simp [Value.ownBlock] at o;simp_all),l⟩
def B3.set (h:B3 w B g n f) (x:Int) (hi:i<n):B3 (w.setCell ⟨g,i,none⟩ (.int .i64 x)) B g n (fun z=>if z=(i:Int) then x else f z):=by
 obtain ⟨E,a,d,e⟩:=h.ex;refine ⟨E.set i x,by simp [a],by rw [ints_set];exact (d.stored _ _).1,fun j k=> ?_⟩;grind
def B3.at (h:B3 w B g n f) (e:j<n):w.cell? ⟨g,j,none⟩=some (.int .i64 (f j))/\w.frozen? ⟨g,j,none⟩=false/\g<w.heap.size/\B<=g:=by
 obtain ⟨E,k,a,d⟩:=h.ex;have hc:w.cell? ⟨g,j,none⟩=some (.int .i64 (f j)):=by rw [a.cellAt j (by omega),OH,d j e]
 exact ⟨hc,a.frozenAt j,ak w _ hc,(a.lt g rfl).1⟩
structure tD (W wr:World) (B p b g n:Nat) (L G:List b8) (i:Nat) (v:Value):Prop where
 gr:iI wr B p v (.map (some b)) (fF L G id i).1
 ix:pA wr b (fF L G id i).1
 row:B3 wr W.heap.size g n (fF L G id i).2
 base:B<=W.heap.size
 below:Below B W wr
def tD.ne (h:tD W wr B p b g n L G i v):v.ownBlock≠some g:=fun e=>by
 obtain ⟨E,d,a,k⟩:=h.row.ex;exact Yh h.gr.lz.own a (by decide) e rfl rfl
def tD.later (h:tD W wr B p b g n L G i v) (a:Below wr.heap.size wr w'):tD W w' B p b g n L G i v:=
 ⟨h.gr.below a,h.ix.frame (Fr.jq (S:=fun _=>False) a) (fun e=>e),h.row.frame (Fr.jq (S:=fun _=>False) a) (fun e=>e),h.base,h.below.trans (a.mono (aK h.base h.below.size))⟩
def tD.next {o:Value} (h:tD W wr B p b g n L G i v) (I:p<W.heap.size) (H:b<W.heap.size) (M:B<=p) (A:B<=b) (hi:i<n)
 (q:iI w' B p o (.map (some b)) (fF L G id (i+1)).1) (t:pA w' b (fF L G id (i+1)).1) (d:Fr (fun j=>j=p\/j=b\/v.ownBlock=some j) wr w') {x:Int} (y:x=(wO (fF L G id i).1 (ren (fF L G id i).2 (L.getD i fS)):Int)):
 tD W (w'.setCell ⟨g,i,none⟩ (.int .i64 x)) B p b g n L G (i+1) o:=by
 obtain ⟨c1,C,D,F⟩:=h.row.at (j:=i) hi;have s:=h.row.frame d (fun e=>by rcases e with e|e|e<;>first|omega|exact h.ne e);have a:Fr (fun k=>k=g) w' (w'.setCell ⟨g,i,none⟩ (.int .i64 x)):=(Fr.refl _ w').setCell _ (fun _=>rfl);have m:o.ownBlock≠some g:=fun e=>by
  obtain ⟨E,N,z,O⟩:=s.ex;exact Yh q.lz.own z (by decide) e rfl rfl
 have u:=h.below.size;have J:=h.base;refine ⟨q.frame a (by omega) (fun k l e=>m (by rw [l,e])),t.frame a (by omega),?_,h.base,?_⟩
 ·have:=s.set x hi
  rw [y] at this⊢;exact this
 ·refine (h.below.trans (d.nJ (fun k l e=> ?_) (by omega))).trans (a.nJ (fun k l e=>by omega) (by have:=d.size;omega))
  rcases e with e|e|e
  ·omega
  ·omega
  ·have:=(h.gr.lz.own.lt k e).1;omega
def YH (h:pz W) (o: ∀g l,yY g=some l->g<B) (q:Below B W w):pz w:=fun g l d=>by
 obtain ⟨a,e,k,m⟩:=h g l d;exact ⟨a,e,k,(q.block g (o g l d)).trans m⟩
def tD.box {a:World} {c:Nat} {u:Value} (l:tD W wr B p b g n L G i v) (h:tD W a B p b g n L G i v) (o:0<n) (y:p<W.heap.size) (s:b<W.heap.size) (hc:wr.heap.size<=c):tD W (a.setCell ⟨c,j,none⟩ u) B p b g n L G i v:=by
 have d:Fr (fun k=>k=c) a (a.setCell ⟨c,j,none⟩ u):=(Fr.refl _ a).setCell _ (fun _=>rfl);have q:=l.below.size;have t:=(l.row.at (j:=0) o).2.2.1;refine ⟨h.gr.frame d (by omega) (fun k m e=>by have:=LU l.gr.lz.own m;omega),h.ix.frame d (by omega),h.row.frame d (by omega),h.base,h.below.trans (d.nJ (fun k m e=> ?_) ?_)⟩
 ·have:=h.base;omega
 ·have:=h.base;have:=h.below.size;omega
def tD.off (h:tD W wr B p b g n L G i v) (d:p<W.heap.size) (a:b<W.heap.size) (hi:i<n): ¬(g=p\/g=b\/v.ownBlock=some g):=fun e=>by
 have:=(h.row.at hi).2.2.2;rcases e with e|e|e
 ·omega
 ·omega
 ·exact h.ne e
def JF {o:Nat->Nat} {y:b8} (a:L.getD (o j) fS=x) (d:ren (fF L G o j).2 x=y):(fF L G o (j+1)).1=wQ (fF L G o j).1 y:=by
 rw [<-d,<-a];rfl
def adA (l:L.length=n) (d: ∀i,i<L.length->px (L.getD i fS)/\xS true i (L.getD i fS)):YG L id n:=
 ⟨fun j e=>(d j (by omega)).1,fun j e=>⟨j,(d j (by omega)).2.fit⟩,fun j e a k=>by
  have h:=(d j (by omega)).2.fit.args a k;exact ⟨a.toNat,by omega,by grind⟩⟩
def aC8 {C:Nat} {lv:Value} (hg:iI W B p v (.map (some b)) G) (hi:pA W b G) (hB:B<=W.heap.size) (p0:B<=p) (b0:B<=b) (hG:GI G) (hG1:G.length<=2000) (hl:jE W C lv L) (hlB: ∀k,lv.ownBlock=some k->k<B)
 (h0:0<L.length) (Bj:L.length<=1000) (hm: ∀i,i<L.length->px (L.getD i fS)/\xS true i (L.getD i fS)) (hT:pz W) (hTB: ∀g l,yY g=some l->g<B):
 Calls prog 9 #[ptr p,lv] W fun e w'=>(e= .returned (.tuple #[.int .i64 0,.int .i64 1])/\Below W.heap.size W w')\/ ∃v',e= .returned (.tuple #[.int .i64 ((fF L G id L.length).2 ((L.length-1:Nat):Int)),.int .i64 0])/\iI w' B p v' (.map (some b)) (fF L G id L.length).1/\pA w' b (fF L G id L.length).1/\Below B W w':=by
 have I:=ae (af hg (af hi (af hl (af hlB (af hT (af hTB hm))))));have HPV:=ae (aC7 hl h0 Bj hm hT);obtain ⟨va,vc,rfl⟩:=hl.slice;have hp:p<W.heap.size:=(ax.1 hg.blk).1;have jU:b<W.heap.size:=by obtain ⟨es,cl,q⟩:=hi.blk;exact (ax.1 q).1
 have HI:=ae (TQ hG (adA rfl hm));have HO:=ae (adA rfl hm);obtain ⟨Z,vc0,rfl⟩:=hg.lz.slice;obtain ⟨gn,X⟩:=pQ G.length;obtain ⟨n,hn⟩:=pQ L.length;have HN:=ae hn;have h:=ae (af hB (af p0 (af b0 (af hp jU))));have YI:=ae hG1;have Rf:=ae (by rw [<-X];exact hg:iI W B p (.slice Z gn vc0) (.map (some b)) G);rw [hn] at Bj h0 HPV HI HO⊢;have H0:=ae h0;obtain ⟨z,hz⟩:=pQ ((fF L G id n).2 ((n-1:Nat):Int));have HZ:=ae hz;rw [hz];clear hz;obtain ⟨i0,fq,ff,fH,eV⟩:=info_parts Tryz.info3;have c0:=qv hg.blk 0;simp only [cS,bX,X] at c0;clear hg hi hB p0 b0 hG hG1 hl hlB hm hT hTB hn jU X;unfold ptr;go_enter func9,ntmps9;go_wp2_with fail;refine HPV.out.mono ?_;rintro e w1 ⟨bW,r,rfl⟩;have dh:=ae bW;have Tp:w1.cell? ⟨p,0,none⟩=some (.slice Z gn vc0):=(bW.cell (p:=⟨p,0,none⟩) hp).trans c0;clear bW c0;cases r
 ·go_wp2_with fail
  go_ret2;exact .inl ⟨rfl,dh.out⟩
 ·have D4:p<w1.heap.size:=ak w1 _ Tp
  go_wp2_with (refine wpList_make_full w1 rfl (.tmp 23) (.tmp 23) 22 rfl W.heap.size 3 i0 _ 1 underlying22 fq ff fH _ _ _ _ n rfl rfl rfl rfl (by rw [eV];omega) (by unfold maxLen;omega) dh.out.size ?_;intro w2 ho Bi;have iX:=ae (dh.out.trans (((uN Bi).nJ (fun k _ e=>by cases e) (aq _)).mono dh.out.size));have HA:=ae (⟨Rf.out.below iX.out,I.out.2.1.frame (Fr.jq (S:=fun _=>False) iX.out) (fun e=>e),B3.made ho,h.out.1,iX.out.mono h.out.1⟩:tD W w2 B p b w1.heap.size n L G 0 (.slice Z gn vc0));clear ho Bi);obtain ⟨g,ph⟩:=pQ w1.heap.size;rw [ph] at HA⊢;clear fq ff fH eV Tp D4 ph iX;go_loopw [27] (fun iv wr=> ∃(i:Nat) (v:Value),i<=n/\iv= .int .i64 (i:Int)/\tD W wr B p b g n L G i v) (fun iv _=>n-(intOf iv).toNat)
  case atStart=>exact ⟨0,_,by omega,rfl,HA.out⟩
  case round=>
   obtain ⟨i,v,hi,rfl,hD⟩:=hrel;have D:=ae hD;clear hD HA;by_cases U:i<n
   ·obtain ⟨x,hx⟩:=pQ (L.getD i fS)
    have kb:Fr (fun k=>B<=k) W wr:=⟨D.out.below.os,D.out.below.tape,D.out.below.output,D.out.below.size,fun k hk hs=>D.out.below.block k (by omega)⟩;obtain ⟨g4,c4,e4,c0,c1,c2,c3,c5⟩:=(I.out.2.2.1.frame kb (fun k hk e=>by have:=I.out.2.2.2.1 k hk;omega)).form (by rw [HN.out];exact U) hx;rw [HN.out] at e4;cases e4;have hk:=I.out.2.2.2.2.2.2 i (by rw [HN.out];exact U);have FP:=HI.out i (by omega);have JG:=FP.node HO.out U;have Ba:=FP.toX;have pC:=FP.hi;have JH:=HO.out.ahead i U;simp only [id_eq] at JG Ba JH;rw [hx] at hk JG JH;have MZ:pz wr:=YH I.out.2.2.2.2.1 I.out.2.2.2.2.2.1 D.out.below;have d:=ae (af hk (af U (af hx (af JG (af pC MZ)))));obtain ⟨k,H,A,m,t⟩:=x;simp only at c0 c1 c2 c3 c5;have hg4:g4<wr.heap.size:=ak wr _ c0;have i0:(0:Int)<=(i:Int):=by omega
    have i1:(i:Int)<(n:Int):=by omega
    clear hx hk FP JG pC MZ kb U hi;go_wp2_with fail;refine (Jr (x:=⟨k,H,A,m,t⟩) d.out.1.1.k1 d.out.1.1.k2 _).mono ?_;rintro e w8 ⟨av,rfl,ha⟩;obtain ⟨aa,ac,rfl⟩:=vw ha.2;have pj:Below (wr.heap.size+1) (wr.alloc (.cells ⟨jD ⟨k,H,A,m,t⟩⟩ 60)) w8:=by rw [<-uS wr];exact ha.1
    obtain ⟨d0,d1,d2,d3,d4⟩:=mF (wM pj);simp only at d0 d1 d2 d3 d4;have hs:wr.heap.size<w8.heap.size:=ak w8 _ d0;have E:=ae (D.out.later (uR pj));have CM:=ae pj;have f1:=Au (wM pj) 1;have f2:=Au (wM pj) 2;have PK:=(E.out.row.at d.out.2.1).2.2.2;have T: ∀a∈args ⟨k,H,A,m,t⟩,∃j:Nat,j<i/\a=(j:Int)/\w8.cell? ⟨g,j,none⟩=some (.int .i64 ((fF L G id i).2 a)):=fun a ha=>by
     obtain ⟨j,hj,rfl⟩:=JH a ha;exact ⟨j,hj,rfl,(E.out.row.at (j:=j) (by have:=d.out.2.1;omega)).1⟩
    have hg8:g<w8.heap.size:=(E.out.row.at d.out.2.1).2.2.1;clear pj ha JH Ba c0 c1 c2 c3 c5 hg4;rcases L6 k with J|J|J
    ·have O:args ⟨k,H,A,m,t⟩= []:=by simp [args,J]
     have P: ∀f,ren f ⟨k,H,A,m,t⟩=⟨k,H,A,m,t⟩:=fun f=>by simp [ren,J]
     have o:=ae P;rw [O];clear T O P J;go_wp2_with fail;refine (O7 (x:=⟨k,H,A,m,t⟩) (E.out).gr (E.out).ix (aK (E.out).base (E.out).below.size) (by have:=d.out.2.2.2.1.1;rw [o.out] at this;exact this) (by have:=d.out.2.2.2.1.2;rw [o.out] at this;exact this) (by have:=d.out.2.2.2.2.1;have:=YI.out;have:=d.out.2.1;omega) (YH I.out.2.2.2.2.1 I.out.2.2.2.2.2.1 (E.out).below)).mono ?_;rintro e wA ⟨vA,rfl,R,Q,M⟩;obtain ⟨qX,N⟩:=pQ (wO (fF L G id i).1 ⟨k,H,A,m,t⟩);have lq:=ae ((E.out).next (x:=(qX:Int)) h.out.2.2.2.1 h.out.2.2.2.2 h.out.2.1 h.out.2.2.1 d.out.2.1 (by rw [JF d.out.2.2.1 (o.out _)];exact R) (by rw [JF d.out.2.2.1 (o.out _)];exact Q) M (by rw [d.out.2.2.1,o.out,N]));rw [N];have F:=((E.out).row.frame M (E.out.off h.out.2.2.2.1 h.out.2.2.2.2 d.out.2.1)).at d.out.2.1;have r1:=F.1;have r2:=F.2.1;have r3:=F.2.2.1;clear R Q M F N;go_wp2_with fail;go_roundw
     case rel=>exact ⟨i+1,vA,by have:=d.out.2.1;omega,by go_num,lq.out⟩
     case measure=>have:=d.out.2.1;simp [intOf];omega
    ·have O:args ⟨k,H,A,m,t⟩= [H]:=by simp [args,J]
     rw [O] at T;obtain ⟨j,hj,rfl,hc⟩:=T H (by simp);obtain ⟨y,Y⟩:=pQ ((fF L G id i).2 (j:Int));have P:ren (fF L G id i).2 ⟨k,(j:Int),A,m,t⟩=⟨k,y,A,m,t⟩:=by simp [ren,J,Y]
     have o:=ae P;rw [Y] at hc;rw [O];have j0:(0:Int)<=(j:Int):=by omega
     have j1:(j:Int)<(n:Int):=by omega
     have s:=ae (tD.box (c:=wr.heap.size) (j:=1) (u:= .int .i64 y) D.out E.out H0.out h.out.2.2.2.1 h.out.2.2.2.2 (aq _));clear T O P J Y hj;go_wp2_with fail;refine (O7 (x:=⟨k,y,A,m,t⟩) (s.out).gr (s.out).ix (aK (s.out).base (s.out).below.size) (by have:=d.out.2.2.2.1.1;rw [o.out] at this;exact this) (by have:=d.out.2.2.2.1.2;rw [o.out] at this;exact this) (by have:=d.out.2.2.2.2.1;have:=YI.out;have:=d.out.2.1;omega) (YH I.out.2.2.2.2.1 I.out.2.2.2.2.2.1 (s.out).below)).mono ?_;rintro e wA ⟨vA,rfl,R,Q,M⟩;obtain ⟨qX,N⟩:=pQ (wO (fF L G id i).1 ⟨k,y,A,m,t⟩);have lq:=ae ((s.out).next (x:=(qX:Int)) h.out.2.2.2.1 h.out.2.2.2.2 h.out.2.1 h.out.2.2.1 d.out.2.1 (by rw [JF d.out.2.2.1 (o.out)];exact R) (by rw [JF d.out.2.2.1 (o.out)];exact Q) M (by rw [d.out.2.2.1,o.out,N]));rw [N];have F:=((s.out).row.frame M (s.out.off h.out.2.2.2.1 h.out.2.2.2.2 d.out.2.1)).at d.out.2.1;have r1:=F.1;have r2:=F.2.1;have r3:=F.2.2.1;clear R Q M F N;go_wp2_with fail;go_roundw
     case rel=>exact ⟨i+1,vA,by have:=d.out.2.1;omega,by go_num,lq.out⟩
     case measure=>have:=d.out.2.1;simp [intOf];omega
    ·have O:args ⟨k,H,A,m,t⟩= [H,A]:=by simp [args,J]
     rw [O] at T;obtain ⟨j,hj,rfl,hc⟩:=T H (by simp);obtain ⟨j',hj',rfl,vG⟩:=T A (by simp);obtain ⟨y,Y⟩:=pQ ((fF L G id i).2 (j:Int));obtain ⟨y',ER⟩:=pQ ((fF L G id i).2 (j':Int));have P:ren (fF L G id i).2 ⟨k,(j:Int),(j':Int),m,t⟩=⟨k,y,y',m,t⟩:=by simp [ren,J,Y,ER]
     have o:=ae P;rw [Y] at hc;rw [ER] at vG;rw [O];have j0:(0:Int)<=(j:Int):=by omega
     have j1:(j:Int)<(n:Int):=by omega
     have j0':(0:Int)<=(j':Int):=by omega
     have j1':(j':Int)<(n:Int):=by omega
     have xA:(w8.setCell ⟨wr.heap.size,1,none⟩ (.int .i64 y)).cell? ⟨g,j',none⟩=some (.int .i64 y'):=by rw [<-ER];exact ((tD.box (c:=wr.heap.size) (j:=1) (u:= .int .i64 y) D.out E.out H0.out h.out.2.2.2.1 h.out.2.2.2.2 (aq _)).row.at (j:=j') (by omega)).1
     have s:=ae (tD.box (c:=wr.heap.size) (j:=2) (u:= .int .i64 y') D.out (tD.box (c:=wr.heap.size) (j:=1) (u:= .int .i64 y) D.out E.out H0.out h.out.2.2.2.1 h.out.2.2.2.2 (aq _)) H0.out h.out.2.2.2.1 h.out.2.2.2.2 (aq _));clear T O P J Y hj ER hj';go_wp2_with fail;refine (O7 (x:=⟨k,y,y',m,t⟩) (s.out).gr (s.out).ix (aK (s.out).base (s.out).below.size) (by have:=d.out.2.2.2.1.1;rw [o.out] at this;exact this) (by have:=d.out.2.2.2.1.2;rw [o.out] at this;exact this) (by have:=d.out.2.2.2.2.1;have:=YI.out;have:=d.out.2.1;omega) (YH I.out.2.2.2.2.1 I.out.2.2.2.2.2.1 (s.out).below)).mono ?_;rintro e wA ⟨vA,rfl,R,Q,M⟩;obtain ⟨qX,N⟩:=pQ (wO (fF L G id i).1 ⟨k,y,y',m,t⟩);have lq:=ae ((s.out).next (x:=(qX:Int)) h.out.2.2.2.1 h.out.2.2.2.2 h.out.2.1 h.out.2.2.1 d.out.2.1 (by rw [JF d.out.2.2.1 (o.out)];exact R) (by rw [JF d.out.2.2.1 (o.out)];exact Q) M (by rw [d.out.2.2.1,o.out,N]));rw [N];have F:=((s.out).row.frame M (s.out.off h.out.2.2.2.1 h.out.2.2.2.2 d.out.2.1)).at d.out.2.1;have r1:=F.1;have r2:=F.2.1;have r3:=F.2.2.1;clear R Q M F N;go_wp2_with fail;go_roundw
     case rel=>exact ⟨i+1,vA,by have:=d.out.2.1;omega,by go_num,lq.out⟩
     case measure=>have:=d.out.2.1;simp [intOf];omega
   ·have GQ:i=n:=by omega
    subst GQ;clear hi U;obtain ⟨q1,q2,q3,q4⟩:=D.out.row.at (j:=i-1) (by have:=H0.out;omega);obtain ⟨m,rfl⟩: ∃m,i=m+1:=⟨i-1,by have:=H0.out;omega⟩;have q1:wr.cell? ⟨g,m,none⟩=some (.int .i64 z):=by rw [<-HZ.out];exact q1
    clear q2 q4;go_wp2_with fail;go_ret2;exact .inr ⟨v,rfl,D.out.gr,D.out.ix,D.out.below⟩
end
end Go.Proofs.YtnmpjdgobafdkaaGreatDoor
