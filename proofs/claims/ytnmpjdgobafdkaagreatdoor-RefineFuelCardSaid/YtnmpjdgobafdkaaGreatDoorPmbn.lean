/- refineFuel_proved. -/
import Derived.Test.YtnmpjdgobafdkaaGreatDoorPmbm
import Derived.Deep.AppendLies
set_option maxRecDepth 100000
set_option maxHeartbeats 16000000
set_option linter.all false
noncomputable section
namespace Go.Proofs.YtnmpjdgobafdkaaGreatDoor
section
open Go.Proofs.Tryz Go Go.RowKit Go.Ev
def aC9 {r:Rs} (h:r.Ok): ∃x:Rs,x.Ok/\x.s=r.s/\bJ prog bw 89 [sI r.p r.q] (sI x.p x.q):=by
 by_cases g:r.s=1
 ·have d:=h.pos g
  obtain ⟨a,i,M,b,_,_,hc⟩:=awQ.h [] rfl [.z r.p,.n r.q] (pS sQ h.hp (xK (fun _=>d) h.hq gH)) iG;obtain rfl:=b7.1 i;obtain ⟨p,j,rfl,_,f,b⟩:=m5 b;obtain rfl:j= []:=b;exact ⟨⟨p,r.q,1⟩,⟨by simp_all,by simp_all,f,h.hq,fun _=>d,fun h=>absurd rfl h⟩,g.symm,hc _ rfl⟩
 ·obtain ⟨l,m⟩:=h.no g
  obtain ⟨a,i,M,b,_,_,hc⟩:=awR.h [] rfl [.z r.p,.n r.q] (by rw [l,m];exact pS ⟨fun h=>absurd h (by decide),fun _=>rfl,fun h=>absurd h (by decide)⟩ (show (0:Int).natAbs<1 by decide) (xK (fun e=>by cases e) (show 0<1 by decide) gH)) iG;obtain rfl:=b7.1 i;obtain ⟨p,j,rfl,_,f,b⟩:=m5 b;obtain ⟨q,k,rfl,_,d,b⟩:=sP b;obtain rfl:k= []:=b;exact ⟨⟨p,q,r.s⟩,⟨h.s0,h.s2,C3 f (b6 _),Lo d (b6 _),fun e=>absurd e g,fun _=>⟨bz0 f,bn0 d⟩⟩,rfl,hc _ rfl⟩
def adB (l l2:List Rs):Prop:=l2.length=l.length/\ ∀i,i<l.length->(l2.getD i eH).Ok/\(l2.getD i eH).s=(l.getD i eH).s/\bJ prog bw 89 [sI (l.getD i eH).p (l.getD i eH).q] (sI (l2.getD i eH).p (l2.getD i eH).q)
def alS: ∀ {l:List Rs},(∀r∈l,r.Ok)-> ∃a,adB l a
 | [],_=>⟨[],rfl,fun i h=>absurd h (gJ _)⟩
 |r::l,h=>by
  obtain ⟨a,b,e⟩:=alS (fun x d=>h x (aw _ d));obtain ⟨x,q⟩:=aC9 (h r (aE ..));refine ⟨x::a,by simp [b],fun i f=> ?_⟩;grind
def nK:Value->List Value
 | .agg a=>a.toList
 |_=> []
def TS (vv sv:Value) (k:Nat):Prop:=vv.ownBlock=some k\/sv.ownBlock=some k
def GS {S S':Nat->Prop} {w w':World} {Φ:World->Prop} (h:jh S w Φ) (b:Fr S w w') (g: ∀k,k<w.heap.size->S' k->S k):jh S' w' Φ:=fun i f=>
 h i fun k a d=>(f k (az a b.size) fun e=>d (g k a e)).trans (b.block k a d)
structure oB (W1 w:World) (N:List (Value×Int×Nat)) (R:List Value) (s:List Int) (vv sv:Value) (K:List (Nat×Obj)):Prop where
 below:Below W1.heap.size W1 w
 vD:w.ownsRow W1.heap.size 114 3 vv R.length (R.flatMap nK)
 lI:w.ownsRow W1.heap.size 3 1 sv s.length (ints s)
 nat: ∀x∈N,jh (TS vv sv) w fun w'=>sI x.2.1 x.2.2 w' x.1
 kept: ∀x∈K,w.heap[x.1]? =some x.2/\vv.ownBlock≠some x.1/\sv.ownBlock≠some x.1
section
variable {W1 w:World} {N:List (Value×Int×Nat)} {R:List Value} {s:List Int} {vv sv:Value} {KK:List (Nat×Obj)}
def oB.later {w':World} (h:oB W1 w N R s vv sv KK) (hb:Below w.heap.size w w'):oB W1 w' N R s vv sv KK where
 below:=h.below.trans (hb.mono h.below.size)
 vD:=qu (S:=fun _=>False) h.vD (Fr.jq hb) (fun _ _ e=>e)
 lI:=qu (S:=fun _=>False) h.lI (Fr.jq hb) (fun _ _ e=>e)
 nat:=fun x hx=>GS (h.nat x hx) (Fr.jq hb) (fun _ _ e=>e)
 kept:=fun x hx=>⟨(hb.block _ (ax.1 (h.kept x hx).1).1).trans (h.kept x hx).1,(h.kept x hx).2⟩
def oB.drew (h:oB W1 w N R s vv sv KK):oB W1 w.drew N R s vv sv KK:=h.later (aH _ _).drew
def oB.al (h:oB W1 w N R s vv sv KK) (o:Obj):oB W1 (w.alloc o) N R s vv sv ((w.heap.size,o)::KK):=by
 have q:=h.later ((aH w.heap.size w).alloc (aq _) o);refine ⟨q.below,q.vD,q.lI,q.nat,fun x a=> ?_⟩;rcases bu.1 a with rfl|a
 ·exact ⟨heap_alloc_new w o,fun e=>by have b:w.heap.size<w.heap.size:=LU h.vD e;omega,fun e=>by have b:w.heap.size<w.heap.size:=LU h.lI e;omega⟩
 ·exact q.kept x a
def oB.YJ (h:oB W1 w N R s vv sv KK) (o a:Obj):oB W1 ((w.alloc o).alloc a) N R s vv sv ((w.heap.size+1,a)::(w.heap.size,o)::KK):=by
 have q:=(h.al o).al a;rw [uS] at q;exact q
def alT {e:TypeId} {size n B:Nat} {xs:List Value} {v:Value} (h:w.ownsRow B e size v n xs) {u:Value} {j:Nat} {d:List Value} {f:TypeId} {a:Nat} (h':w.ownsRow B f a u j d) (b:e≠f) {k:Nat} (i:v.ownBlock=some k):u.ownBlock≠some k:=fun g=>Yh h h' b i g rfl
def oB.aDa {w':World} {g cap m:Nat} {x:Value} (h:oB W1 w N R s vv sv KK) (hm:R.length=m) (eJ:w'.ownsRow W1.heap.size 114 3 (.slice (some ⟨g,0,none⟩) (m+1) cap) (m+1) ((R++ [x]).flatMap nK)) (kC:Fr (fun k=>vv.ownBlock=some k) w w') (g9:vv.ownBlock=some g\/w.heap.size<=g):
 oB W1 w' N (R++ [x]) s (.slice (some ⟨g,0,none⟩) (m+1) cap) sv KK where
 below:=h.below.trans (kC.nJ (fun k hk e=>by have:=(h.vD.lt k e).1;omega) h.below.size)
 vD:=by simp_all
 lI:=qu h.lI kC (fun k hk e=>alT h.vD h.lI (by decide) e hk)
 nat:=fun y hy=>GS (h.nat y hy) (kC.mono fun k _ e=> .inl e) fun k hk e=>by
  rcases e with e|e
  ·simp [Value.ownBlock] at e
   subst e;exact .inl (g9.resolve_right (by omega))
  ·exact .inr e
 kept:=fun y hy=>by
  obtain ⟨q1,q2,q3⟩:=h.kept y hy;have bB:=(ax.1 q1).1;refine ⟨(kC.block _ bB q2).trans q1,fun e=> ?_,q3⟩;simp [Value.ownBlock] at e;grind
def oB.aDb {w':World} {g cap m:Nat} {x:Int} (h:oB W1 w N R s vv sv KK) (hm:s.length=m) (eJ:w'.ownsRow W1.heap.size 3 1 (.slice (some ⟨g,0,none⟩) (m+1) cap) (m+1) (ints (s++ [x]))) (kC:Fr (fun k=>sv.ownBlock=some k) w w') (g9:sv.ownBlock=some g\/w.heap.size<=g):
 oB W1 w' N R (s++ [x]) vv (.slice (some ⟨g,0,none⟩) (m+1) cap) KK where
 below:=h.below.trans (kC.nJ (fun k hk e=>by have:=(h.lI.lt k e).1;omega) h.below.size)
 vD:=qu h.vD kC (fun k hk e=>alT h.lI h.vD (by decide) e hk)
 lI:=by simp_all
 nat:=fun y hy=>GS (h.nat y hy) (kC.mono fun k _ e=> .inr e) fun k hk e=>by
  rcases e with e|e
  ·exact .inl e
  ·simp [Value.ownBlock] at e
   subst e;exact .inr (g9.resolve_right (by omega))
 kept:=fun y hy=>by
  obtain ⟨q1,q2,q3⟩:=h.kept y hy;have bB:=(ax.1 q1).1;refine ⟨(kC.block _ bB q3).trans q1,q2,fun e=> ?_⟩;simp [Value.ownBlock] at e;grind
end
def aDc:(prog.info? 114).map (fun i=>(i.zero,i.size,i.bytes))=some (some (.agg #[.bool false,.slice none 0 0,.slice none 0 0]),3,56):=by kernel_rfl
def aDe {f:Array Oper} {o:Oper} {a:Act} {w:World} {K:Act->World->Prop} {Q:Exit->Act->World->Prop} {E:Prop} (M:o.guard=none) (s x:Operand) (G:o.op= .call {callee:= .builtin .append,args:= #[s,x],argTypes:= #[103,103]})
 {W1:World} {N:List (Value×Int×Nat)} {R:List Value} {l:List Int} {vv sv:Value} {KK:List (Nat×Obj)} (H:a.eval s=vv) (B:Nat) (I:a.eval x= .slice (some ⟨B,0,none⟩) 1 1) (h:oB W1 w N R l vv sv KK) {t:Bool} {a1 a2:Option Addr} {k1 c1 k2 c2:Nat}
 (F:(B,.cells #[.bool t,.slice a1 k1 c1,.slice a2 k2 c2] 114 (0,0))∈KK) {m:Nat} (j:R.length=m) (O:m<=100000)
 (h': ∀g cap b,oB W1 b N (R++ [.agg #[.bool t,.slice a1 k1 c1,.slice a2 k2 c2]]) l (.slice (some ⟨g,0,none⟩) (m+1) cap) sv KK->K (a.put o.dst (.slice (some ⟨g,0,none⟩) (m+1) cap)) b):
 if Region.wanted o (yielded f a.tmps)=true then Oper.wp prog o a w K Q else E:=by
 obtain ⟨J,z,y,q,p⟩:=info_parts aDc;have d:=h.vD;rw [j] at d;have i:(R.flatMap nK).length=m*3:=by have:=d.1;omega
 refine step_append_lies w M s x 103 G W1.heap.size 114 J _ 3 56 underlying103 z y q p rfl (by omega) vv m (R.flatMap nK) H d ⟨B,0,none⟩ 1 1 [.bool t,.slice a1 k1 c1,.slice a2 k2 c2] I rfl (World.news_of_block (cs:= #[.bool t,.slice a1 k1 c1,.slice a2 k2 c2]) (h.kept _ F).1)
  (by intro u k;simp at k;rcases k with rfl|rfl|rfl<;>rfl) (by omega) (by unfold maxLen;omega) (by omega) h.below.size w.heap.size rfl ?_
 intro g cap b A C D _;refine h' g cap b (h.aDa j ?_ (uN C) (D.imp id (fun e=>by omega)));rw [oy];exact A
def aDf {f:Array Oper} {o:Oper} {a:Act} {w:World} {K:Act->World->Prop} {Q:Exit->Act->World->Prop} {E:Prop} (J:o.guard=none) (s x:Operand) (F:o.op= .call {callee:= .builtin .append,args:= #[s,x],argTypes:= #[22,22]})
 {W1:World} {N:List (Value×Int×Nat)} {R:List Value} {b:List Int} {vv sv:Value} {KK:List (Nat×Obj)} (G:a.eval s=sv) (B:Nat) (H:a.eval x= .slice (some ⟨B,0,none⟩) 1 1) (h:oB W1 w N R b vv sv KK) {y:Int}
 (D:(B,.cells #[.int .i64 y] 3 (0,0))∈KK) {m:Nat} (j:b.length=m) (M:m<=100000)
 (h': ∀g cap d,oB W1 d N R (b++ [y]) vv (.slice (some ⟨g,0,none⟩) (m+1) cap) KK->K (a.put o.dst (.slice (some ⟨g,0,none⟩) (m+1) cap)) d):
 if Region.wanted o (yielded f a.tmps)=true then Oper.wp prog o a w K Q else E:=by
 obtain ⟨I,t,q,p,l⟩:=info_parts Tryz.info3;have i:=h.lI;rw [j] at i;refine step_append_lies w J s x 22 F W1.heap.size 3 I _ 1 8 underlying22 t q p l rfl (by omega) sv m (ints b) G i ⟨B,0,none⟩ 1 1 [.int .i64 y] H rfl (World.news_of_block (cs:= #[.int .i64 y]) (h.kept _ D).1)
  (by intro u k;simp at k;rcases k with rfl;rfl) (by omega) (by unfold maxLen;omega) (by omega) h.below.size w.heap.size rfl ?_
 intro g cap d z A C _;refine h' g cap d (h.aDb j ?_ (uN A) (C.imp id (fun e=>by omega)));rw [show ints (b++ [y])=ints b++ [.int .i64 y] by simp [ints]];exact z
def aDg {W1 w:World} {N:List (Value×Int×Nat)} {R:List Value} {O:List Int} {vv sv:Value} {KK:List (Nat×Obj)} (h:oB W1 w N R O vv sv KK) (F:bw W1) {p I:Int} {q M:Nat} (Q:bJ prog bw 89 [sI p q] (sI I M)) {x:Value} (T:sI p q W1 x):
 Calls prog 89 #[x] w fun e f=> ∃t i z c1 l A m,e= .returned (.agg #[.bool t,.slice i z c1,.slice l A m])/\oB W1 f ((.agg #[.bool t,.slice i z c1,.slice l A m],I,M)::N) R O vv sv KK:=by
 have J: ∀k,TS vv sv k->W1.heap.size<=k/\k<w.heap.size:=fun k g=>by
  rcases g with g|g
  ·exact h.vD.lt k g
  ·exact h.lI.lt k g
 have B: ∀f:World,(∀b,b<w.heap.size-> ¬TS vv sv b->f.heap[b]? =w.heap[b]?)-> ∀b,b<W1.heap.size->f.heap[b]? =W1.heap[b]? :=fun f a b o=>
  (a b (az o h.below.size) fun e=>by have:=(J b e).1;omega).trans (h.below.block b o)
 refine (Q (TS vv sv) w [x] (fun b o=>(J b o).2) (fun f a=> ?_) (fun f a=> ?_)).mono ?_
 ·exact fun j G=>(World.cell?_of_block (B f a _ (ak W1 _ (F j G)))).trans (F j G)
 ·obtain ⟨u,d,e,D,E⟩:=T
  exact ⟨x,[],rfl,⟨u,d,e,BQ (S:=fun _=>False) D (fun k g _=>B f a k g) (fun _ _ e=>e.elim),BQ (S:=fun _=>False) E (fun k g _=>B f a k g) (fun _ _ e=>e.elim)⟩,rfl⟩
 ·rintro e f ⟨v,rfl,H,P⟩
  obtain ⟨u,d,rfl,D,E⟩:=H f (fun _ _ _=>rfl);obtain ⟨i,z,c1,rfl,_⟩:=D.form;obtain ⟨l,A,m,rfl,_⟩:=E.form;have q:=h.later P;refine ⟨_,i,z,c1,l,A,m,rfl,q.below,q.vD,q.lI,fun y C=> ?_,q.kept⟩;rcases bu.1 C with rfl|C
  ·exact H
  ·exact q.nat y C
def O' {w:World} {B n size:Nat} {e:TypeId} {v:Value} {xs:List Value} (h:w.ownsRow B e size v n xs): ∃a c,v= .slice a n c:=by
 rcases h.2 with ⟨rfl,e⟩|⟨g,c,_,rfl,_⟩
 all_goals grind
def aDh (W:World) (l2:List Rs) (w':World) (vv sv:Value):Prop:= ∃W1 N R,Below W.heap.size W W1/\oB W1 w' N R (l2.map Rs.s) vv sv []/\R.length=l2.length/\ ∀j,j<R.length->(R.getD j (.bool false),(l2.getD j eH).p,(l2.getD j eH).q)∈N
structure TT (W1 w:World) (l2:List Rs) (i:Nat) (vv sv:Value):Prop where
 ex: ∃N R,oB W1 w N R ((l2.take i).map Rs.s) vv sv []/\R.length=i/\ ∀j,j<i->(R.getD j (.bool false),(l2.getD j eH).p,(l2.getD j eH).q)∈N
def TT.next {W1 w':World} {l2:List Rs} {i:Nat} {b a:Value} {N:List (Value×Int×Nat)} {R:List Value} {x:Value} {KK:List (Nat×Obj)} {y:Int} (d:R.length=i) (hi:i<l2.length) (k: ∀j,j<i->(R.getD j (.bool false),(l2.getD j eH).p,(l2.getD j eH).q)∈N) (f:y=(l2.getD i eH).s)
 (h:oB W1 w' ((x,(l2.getD i eH).p,(l2.getD i eH).q)::N) (R++ [x]) ((l2.take i).map Rs.s++ [y]) b a KK):TT W1 w' l2 (i+1) b a:=by
 refine ⟨_,_,⟨h.below,h.vD,?_,h.nat,fun z g=>by cases g⟩,by simp [d],fun j l=> ?_⟩
 ·have e:(l2.take (i+1)).map Rs.s=(l2.take i).map Rs.s++ [y]:=by
   rw [kD,aM hi,f,aD,aM hi,mh];rfl
  rw [e];exact h.lI
 grind
def adC {w:World} {b:Nat} {t:TypeId} {a d e f:Value} (h:w.heap[b]? =some (.cells #[a,d,e,f] t (0,0))):(w.cell? ⟨b,0,none⟩=some a/\w.cell? ⟨b,1,none⟩=some d/\w.cell? ⟨b,2,none⟩=some e/\w.cell? ⟨b,3,none⟩=some f)/\b<w.heap.size:=
 ⟨⟨by simp [World.cell?,h],by simp [World.cell?,h],by simp [World.cell?,h],by simp [World.cell?,h]⟩,(ax.1 h).1⟩
def aDi {W:World} {B p:Nat} {v m:Value} {L:List b8} (hg:iI W B p v m L) {l l2:List Rs} (T:Th (L.map yX) l) (hl:l.length=L.length) (h2:adB l l2) (h0:0<L.length) (F:L.length<=10000) (hT:bw W):
 Calls prog 48 #[ptr p] W fun e w'=> ∃vv sv,e= .returned (.tuple #[vv,sv])/\aDh W l2 w' vv sv:=by
 have f:=ae (af hg (af T (af hl (af h2 (af h0 (af F hT))))));have O:=ae (alI hg (by omega:L.length<=100000));obtain ⟨n,hn⟩:=pQ L.length;have HN:=ae hn;rw [hn] at h0 F;clear hg T hl h2 hT hn;unfold ptr at O⊢;go_enter func48,ntmps48;go_wp2_with fail;refine O.out.mono ?_;rintro e w1 ⟨v1,rfl,vU,bW⟩;have U:bw w1:=GO f.out.2.2.2.2.2.2 bW;have M:=ae (aCo vU f.out.2.1 f.out.2.2.1 f.out.2.2.2.2.1 f.out.2.2.2.2.2.1 U);obtain ⟨va1,vc1,rfl⟩:=vU.slice;have dh:=ae bW;rw [HN.out] at M⊢;clear vU bW U;go_wp2_with fail;refine M.out.mono ?_;rintro e I ⟨b,g,rfl,hA⟩;have J:=ae hA;have iX:=ae (dh.out.trans (hA.below.mono dh.out.size));have tI:=ae (GO f.out.2.2.2.2.2.2 (dh.out.trans (hA.below.mono dh.out.size)));have Y:=ae (show l2.length=n by rw [f.out.2.2.2.1.1,f.out.2.2.1,HN.out]);have YK:=ae (⟨[],[],⟨aH _ _,World.ownsRow_nil _ _ _ _,World.ownsRow_nil _ _ _ _,(fun x hx=>by cases hx),fun x hx=>by cases hx⟩,rfl,fun j hj=>by omega⟩:TT I I l2 0 (.slice none 0 0) (.slice none 0 0));clear hA;go_wp2_with fail;go_loopw [4,5,12] (fun vv sv iv wr=> ∃i:Nat,iv= .int .i64 (i:Int)/\i<=n/\TT I wr l2 i vv sv) (fun _ _ iv _=>n-(intOf iv).toNat)
 case atStart=>exact ⟨0,rfl,by omega,YK.out⟩
 case round=>
  obtain ⟨i,rfl,hi,hW⟩:=hrel;have HW:=ae hW;obtain ⟨N,R,d,hR,S⟩:=hW.ex;obtain ⟨va,vc,rfl⟩:=O' d.vD;obtain ⟨sa,sc,rfl⟩:=O' d.lI;have Pa:((l2.take i).map Rs.s).length=i:=by rw [iz,bM,Y.out];omega
  rw [Pa,hR] at HW d⊢;have H:=ae (af Pa (af hR S));by_cases P:i<n
  ·obtain ⟨h,u,c1,k,y,o,⟨X,q1,q2,q3⟩,n1,n2⟩:=(by obtain ⟨arr,Q,e3,e4,e5⟩:=J.out.row;obtain ⟨h,u,c1,k,y,o,⟨X,q1,q2,q3⟩,n1,n2⟩:=e5 i P;exact ⟨h,u,c1,k,y,o,⟨(d.below.cell (p:=⟨g,i*4,none⟩) J.out.blt.2).trans (gA Q X).1,(d.below.cell (p:=⟨g,i*4+1,none⟩) J.out.blt.2).trans (gA Q q1).1,(d.below.cell (p:=⟨g,i*4+2,none⟩) J.out.blt.2).trans (gA Q q2).1,(d.below.cell (p:=⟨g,i*4+3,none⟩) J.out.blt.2).trans (gA Q q3).1⟩,n1,n2⟩: ∃h u c1 k y o,(wr.cell? ⟨g,i*4,none⟩=some (.bool (decide ((l.getD i eH).p<0)))/\wr.cell? ⟨g,i*4+1,none⟩=some (.slice h u c1)/\wr.cell? ⟨g,i*4+2,none⟩=some (.slice k y o)/\wr.cell? ⟨g,i*4+3,none⟩=some (.int .i64 (l.getD i eH).s))/\dL I (.slice h u c1) (l.getD i eH).p.natAbs/\dL I (.slice k y o) (l.getD i eH).q)
   have hC:=f.out.2.2.2.1.2 i (by rw [f.out.2.2.1,HN.out];exact P);have HC:=ae (af hC.2.2 (show sI (l.getD i eH).p (l.getD i eH).q I (.agg #[.bool (decide ((l.getD i eH).p<0)),.slice h u c1,.slice k y o]) from ⟨_,_,rfl,n1,n2⟩));have Uu:=ae hC.2.1.symm;have qi:=ae (af P hi);have PK:g<wr.heap.size:=ak wr _ X;obtain ⟨Z,jU⟩:=pQ (decide ((l.getD i eH).p<0));obtain ⟨ss,zo⟩:=pQ ((l.getD i eH).s);rw [jU] at X HC;rw [zo] at q3 Uu;have i0:(0:Int)<=(i:Int):=by omega
   have i1:(i:Int)<(n:Int):=by omega
   have a:=ae ((d.al (.cells #[.bool Z,.slice h u c1,.slice k y o,.int .i64 ss] 156)));clear hC n1 n2 d hW jU zo Pa hR S P hi;go_wp2_with fail;clear X q1 q2 q3 PK;generalize wr.alloc (.cells #[.bool Z,.slice h u c1,.slice k y o,.int .i64 ss] 156)=w4 at a⊢;obtain ⟨⟨A,C,D,E⟩,G⟩:=adC (a.out.kept _ (aE ..)).1;simp only at A C D E G
   go_region_law (first
    |(refine aDe (by rfl) _ _ (by rfl) (by rfl) _ (by rfl) (by first|exact a.out|exact a.out.al _|exact a.out.YJ _ _|exact a.out.drew|exact a.out.drew.al _|exact a.out.drew.YJ _ _) (by first|exact List.Mem.head _|exact List.Mem.tail _ (List.Mem.head _)|exact List.Mem.tail _ (List.Mem.tail _ (List.Mem.head _))) (m:=i) H.out.2.1 (by omega) ?_;intro gg lu w5 z;replace a:=ae z;clear z A C D E G;obtain ⟨⟨A,C,D,E⟩,G⟩:=adC (a.out.kept (wr.heap.size,.cells #[.bool Z,.slice h u c1,.slice k y o,.int .i64 ss] 156 (0,0)) (by simp)).1;simp only at A C D E G)
    |(refine aDf (by rfl) _ _ (by rfl) (by rfl) _ (by rfl) (by first|exact a.out|exact a.out.al _|exact a.out.YJ _ _|exact a.out.drew|exact a.out.drew.al _|exact a.out.drew.YJ _ _) (by first|exact List.Mem.head _|exact List.Mem.tail _ (List.Mem.head _)|exact List.Mem.tail _ (List.Mem.tail _ (List.Mem.head _))) (m:=i) H.out.1 (by omega) ?_;intro gg lu w5 z;replace a:=ae z;clear z A C D E G)
    |(go_simp;go_at_call 89;refine (aDg (by first|exact a.out|exact a.out.al _|exact a.out.drew|exact a.out.drew.al _) tI.out HC.out.1 HC.out.2).mono ?_;rintro e w5 ⟨t,b1,j1,e1,b2,j2,Q,rfl,z⟩;replace a:=ae z;clear z A C D E G;obtain ⟨⟨A,C,D,E⟩,G⟩:=adC (a.out.kept (wr.heap.size,.cells #[.bool Z,.slice h u c1,.slice k y o,.int .i64 ss] 156 (0,0)) (by simp)).1;simp only at A C D E G))
   all_goals
    go_wp2_with fail;go_roundw
    case rel=>exact ⟨i+1,by go_num,by have:=qi.out.1;omega,TT.next H.out.2.1 (by rw [Y.out];exact qi.out.1) H.out.2.2 Uu.out a.out⟩
    case measure=>have:=qi.out.1;simp [intOf];omega
  ·have GQ:i=n:=by omega
   subst GQ;clear P hi hW;go_wp2_with fail;go_ret2;refine ⟨_,_,rfl,I,N,R,iX.out,?_,by rw [Y.out];exact H.out.2.1,fun j hj=>H.out.2.2 j (by rw [H.out.2.1] at hj;exact hj)⟩;have e:l2.take i=l2:=by rw [<-Y.out];exact lY
   rw [e] at d;exact d
end
section
open Go.Proofs.Tryz Go Go.RowKit Go.Maps
def Pb (L:List b8) (id:Int) (j:Nat):Nat:=((partsOf L id).getD j 0).toNat
def aDj {l:List Int} (h:l.Pairwise (· < ·)) {i j:Nat} (hi:i<l.length) (a:j<l.length) (d:l.getD i 0<l.getD j 0:=by omega):i<j:=by
 rw [List.pairwise_iff_getElem] at h;grind
def GI.ahead {L:List b8} (h:GI L):Dl L:=fun i e a d=>(h.fit i e).args a d
def Pc {L:List b8} (d:Dl L) {id:Nat} (hi:id<L.length) {j:Nat} (e:j<(partsOf L id).length):Reach L id ((partsOf L id).getD j 0)/\(partsOf L id).getD j 0=(Pb L id j:Int)/\Pb L id j<L.length:=by
 have a:=(Ym d).1 (Yl e);have f:=a.bound d (by omega) (by omega);refine ⟨a,?_,?_⟩<;>unfold Pb<;>omega
def adE {L:List b8} (hg:GI L) {id:Nat} (hi:id<L.length):YG L (Pb L id) (partsOf L id).length where
 nd:=fun j hj=>hg.nd _ (Pc hg.ahead hi hj).2.2
 fit:=fun j hj=>⟨_,hg.fit _ (Pc hg.ahead hi hj).2.2⟩
 ahead:=fun j hj a ha=>by
  obtain ⟨h1,h2,h3⟩:=Pc hg.ahead hi hj;have hr:Reach L id a:=h1.step (by rw [h2];exact ha);obtain ⟨i,m8,e⟩:=GJ.1 ((Ym hg.ahead).2 hr);have bB:=hg.ahead _ h3 a ha;exact ⟨i,aDj (alc L id) m8 hj,by rw [<-e];exact (Pc hg.ahead hi m8).2.1⟩
def alU (L:List b8) (id:Int):(partsOf L id).length<=L.length:=by
 unfold partsOf;grind
def aDk {L:List b8} (a:Dl L) {id:Nat} (hi:id<L.length):0<(partsOf L id).length:=List.length_pos_of_mem ((Ym a).2 .self)
structure wS (w:World) (b c:Nat) (f:Int->Int):Prop where
 ex: ∃D:DataW Nat,w.ownsMap prog 3 (plainElem prog 3) b c D/\ ∀z:Int,(Lit.int .i64 z).wf=true->D.atKey (.int .i64 z) (.lit (.int .i64 0))= .lit (.int .i64 (f z))
def wS.start (w:World):wS (w.alloc (.map #[] 0)) w.heap.size 0 fun _=>0:=⟨⟨_,World.ownsMap_made w prog 3 _,fun _ _=>rfl⟩⟩
def wS.frame {w w':World} {b c:Nat} {f:Int->Int} {S:Nat->Prop} (h:wS w b c f) (q:Fr S w w') (m: ¬S b):wS w' b c f:=by
 obtain ⟨D,⟨e,a,d,g,i,k⟩,l⟩:=h.ex;exact ⟨⟨D,⟨e,a,(q.block b (ax.1 d).1 m).trans d,g,i,k⟩,l⟩⟩
def wS.blk {w:World} {b c:Nat} {f:Int->Int} (h:wS w b c f): ∃d a,w.heap[b]? =some (.map d a):=by
 obtain ⟨D,⟨d,a,e,_⟩,_⟩:=h.ex;simp_all
def TU:Keyed prog 3:=int_keyed underlying3
def wS.look {w:World} {b c:Nat} {f:Int->Int} (h:wS w b c f) {z:Int} (d:(Lit.int .i64 z).wf=true):(Instr.lookup 151 (.map (some b)) (.int .i64 z) false).run prog w= .ok (.int .i64 (f z)) w:=by
 obtain ⟨D,e,g⟩:=h.ex;obtain ⟨k,i,a,_⟩:=e.lookup_int TU underlying151 underlying3 (adr w) (keyOf_int_mk underlying3 d);rw [g z d] at a;cases a;exact i
def wS.store {w:World} {b c:Nat} {f:Int->Int} (h:wS w b c f) (hc:c<=10000) {z x:Int} (d:(Lit.int .i64 z).wf=true) (m:(Lit.int .i64 x).wf=true):
 ∃w',(Instr.mapUpdate 151 (.map (some b)) (.int .i64 z) (.int .i64 x)).run prog w= .ok () w'/\wS w' b (c+1) (fun y=>if y=z then x else f y)/\Fr (· =b) w w':=by
 obtain ⟨D,a,g⟩:=h.ex;obtain ⟨w',t,i,l⟩:=a.update TU underlying151 (by unfold maxLen;omega) (keyOf_int_mk underlying3 d) (plainElem_int (q:= .i64) underlying3 m);refine ⟨w',t,⟨⟨_,i,fun y s=> ?_⟩⟩,(uN l).mono (fun k _ e=>by cases e;rfl)⟩;by_cases e:y=z
 ·subst e
  rw [if_pos rfl];exact atKey_put_same a.isMap (TU.key (keyOf_int_mk underlying3 d)) _ _
 ·rw [if_neg e,atKey_put_other (fun q=>e (by cases q;rfl))]
  exact g y s
structure rY (W wr:World) (p b bt:Nat) (L:List b8) (o:Nat->Nat) (j:Nat) (v ov:Value) (zs:List Int):Prop where
 gr:iI wr W.heap.size p v (.map (some b)) (fF L [] o j).1
 ix:pA wr b (fF L [] o j).1
 toX:wS wr bt j (fF L [] o j).2
 row:wr.ownsRow W.heap.size 3 1 ov zs.length (ints zs)
 below:Below W.heap.size W wr
 hp:W.heap.size<=p
 hb:W.heap.size<=b
 ow:W.heap.size<=bt
 np:bt≠p
 nb:bt≠b
section
variable {W wr w':World} {p b bt:Nat} {L:List b8} {o:Nat->Nat} {j:Nat} {v ov:Value} {zs:List Int}
def rY.frame {S:Nat->Prop} (h:rY W wr p b bt L o j v ov zs) (g:Fr S wr w') (f: ∀k,k<wr.heap.size-> ¬S k):rY W w' p b bt L o j v ov zs:=
 have d:Below wr.heap.size wr w':=g.nJ f (aq _);have a:Fr (fun _=>False) wr w':=Fr.jq d
 ⟨h.gr.below d,h.ix.frame a (fun e=>e),h.toX.frame a (fun e=>e),qu h.row a (fun _ _ e=>e),h.below.trans (d.mono h.below.size),h.hp,h.hb,h.ow,h.np,h.nb⟩
def rY.later (h:rY W wr p b bt L o j v ov zs) (a:Below wr.heap.size wr w'):rY W w' p b bt L o j v ov zs:=h.frame (S:=fun _=>False) (Fr.jq a) (fun _ _ e=>e)
def rY.adF (h:rY W wr p b bt L o j v ov zs): ¬(bt=p\/bt=b\/v.ownBlock=some bt):=fun e=>by
 rcases e with e|e|e
 ·exact h.np e
 ·exact h.nb e
 ·obtain ⟨cur,hc⟩:=Dg h.gr.lz.own e
  obtain ⟨d,a,f⟩:=h.toX.blk;simp_all
def rY.box (a:rY W wr p b bt L o j v ov zs) (h:rY W w' p b bt L o j v ov zs) {c i:Nat} {u:Value} (hc:wr.heap.size<=c):rY W (w'.setCell ⟨c,i,none⟩ u) p b bt L o j v ov zs:=by
 have d:Fr (fun k=>k=c) w' (w'.setCell ⟨c,i,none⟩ u):=(Fr.refl _ w').setCell _ (fun _=>rfl);have m:=a.below.size;have s:p<wr.heap.size:=(ax.1 a.gr.blk).1;have t:b<wr.heap.size:=by obtain ⟨l,g,q⟩:=a.ix.blk;grind
 have x:bt<wr.heap.size:=by obtain ⟨l,g,q⟩:=a.toX.blk;grind
 refine ⟨h.gr.frame d (by omega) (fun k f e=>by have:=LU a.gr.lz.own f;omega),h.ix.frame d (by omega),h.toX.frame d (by omega),qu h.row d (fun k f e=>by have:=LU a.row f;omega),h.below.trans (d.nJ (fun k f e=>by omega) h.below.size),h.hp,h.hb,h.ow,h.np,h.nb⟩
def rY.next {d:World} {u:Value} {x y:b8} {z i:Int} (h:rY W wr p b bt L o j v ov zs) (m:L.getD (o j) fS=x) (s:ren (fF L [] o j).2 x=y) (t:iI d W.heap.size p u (.map (some b)) (wQ (fF L [] o j).1 y)) (F:pA d b (wQ (fF L [] o j).1 y)) (f:Fr (fun k=>k=p\/k=b\/v.ownBlock=some k) wr d)
 (G:z=(o j:Int)) (hi:i=(wO (fF L [] o j).1 y:Int)) (M:wS w' bt (j+1) (fun q=>if q=z then i else (fF L [] o j).2 q)) (g:Fr (· =bt) d w'):rY W w' p b bt L o (j+1) u ov zs:=by
 obtain ⟨J,I,N⟩:=h.ix.blk;have H: ∀k,ov.ownBlock=some k-> ¬(k=p\/k=b\/v.ownBlock=some k):=fun k a e=>by
  obtain ⟨cur,hc⟩:=Dg h.row a;rcases e with e|e|e
  ·rw [e,h.gr.blk] at hc;grind
  ·simp_all
  ·exact Yh h.gr.lz.own h.row (by decide) e a rfl
 have A:=qu h.row f H;have l:wS d bt j (fF L [] o j).2:=h.toX.frame f (fun e=>by
  rcases e with e|e|e
  ·exact h.np e
  ·exact h.nb e
  ·obtain ⟨cur,hc⟩:=Dg h.gr.lz.own e
   obtain ⟨D,B,P⟩:=h.toX.blk;simp_all)
 obtain ⟨E,C,O⟩:=l.blk;refine ⟨?_,?_,?_,qu A g (fun k a e=> ?_),(h.below.trans (f.nJ (fun k a e=> ?_) h.below.size)).trans (g.nJ (fun k a e=>by have:=h.ow;omega) (aK h.below.size f.size)),h.hp,h.hb,h.ow,h.np,h.nb⟩
 ·rw [JF m s]
  exact t.frame g (fun e=>h.np e.symm) (fun k a e=>by
   obtain ⟨cur,hc⟩:=Dg t.lz.own a;simp_all)
 ·rw [JF m s]
  exact F.frame g (fun e=>h.nb e.symm)
 ·have e:(fF L [] o (j+1)).2=fun q=>if q=z then i else (fF L [] o j).2 q:=by
   rw [G,hi,<-s,<-m];rfl
  simp_all
 ·obtain ⟨cur,hc⟩:=Dg A a
  simp_all
 ·rcases e with e|e|e
  ·have:=h.hp;omega
  ·have:=h.hb;omega
  ·have:=(h.gr.lz.own.lt k e).1;omega
end
def alV {w:World} {B d n size:Nat} {e:TypeId} {v:Value} {xs:List Value} (h:w.ownsRow B e size v n xs) (i:d<=B):w.ownsRow d e size v n xs:=by
 refine ⟨h.1,?_⟩;rcases h.2 with l|⟨g,cap,cur,f,k,a⟩
 ·exact .inl l
 ·exact .inr ⟨g,cap,cur,f,aK i k,a⟩
def iI.low {w:World} {B a p:Nat} {v m:Value} {L:List b8} (h:iI w B p v m L) (d:a<=B):iI w a p v m L:=⟨h.blk,⟨alV h.lz.own d⟩⟩
def ub (L:List b8) (id:Nat):List b8:=(fF L [] (Pb L id) (partsOf L id).length).1
def YL:GI ([]:List b8):=aCq
def alW {L:List b8} (a:GI L) (g:NN L) {id:Nat} (hi:id<L.length):GI (ub L id)/\NN (ub L id)/\(ub L id).length<=L.length/\0<(ub L id).length:=by
 have k:=adE a hi;have h:=TQ YL k _ (aq _);have l:=aDk a.ahead hi;refine ⟨h.gi,adz (fun i hi=>absurd hi (gJ _)) (fun j f=>g _ (Pc a.ahead hi f).2.2) _ (aq _),?_,?_⟩
 ·have d:=h.hi
  have e:=alU L id;simp at d;exact aK d e
 ·have:=h.toX 0 l
  unfold ub;omega
def JJ {z:Int} (d:0<=z:=by omega) (a:z<=100000:=by omega):(Lit.int .i64 z).wf=true:=O4 (by omega) a
def aDm {W:World} {B p0:Nat} {v0 m0:Value} {L:List b8} (hg:iI W B p0 v0 m0 L) (Y:GI L) (hl:L.length<=4000) {id:Nat} (hi:id<L.length) (hT:pz W):
 Calls prog 47 #[ptr p0,.int .i64 id] W fun e w'=> ∃p b v,e= .returned (ptr p)/\iI w' W.heap.size p v (.map (some b)) (ub L id)/\Below W.heap.size W w':=by
 have l:=ae (af hg (af Y (af hl (af hi hT))));have HO:=ae (adE Y hi);have HI:=ae (TQ YL (adE Y hi));have HA:=ae (fun j hj=>(Pc Y.ahead hi (j:=j) hj).2);have hnl:=aK (alU L id) hl;obtain ⟨zs,yz⟩:=pQ (partsOf L id);obtain ⟨n,hn⟩:=pQ zs.length;obtain ⟨o,ho⟩:=pQ (Pb L id);have HP:=ae (show ub L id=(fF L [] o n).1 by unfold ub;rw [ho,yz,hn]);have HK:=ae (fun i hi=>af (Y.nd i hi).k1 (Y.nd i hi).k2);have HZ:=ae yz;have HN:=ae hn;rw [yz,ho] at HO HI HA;rw [yz] at hnl;rw [hn] at HO HI HA hnl;have Mc:= @run_makeMap prog;clear hg Y hl hT yz hn ho;unfold ptr;go_enter func47,ntmps47;go_wp2_with fail;refine alH.mono ?_;rintro e w1 ⟨p,b,rfl,X,N,h3,h4,h5⟩;rw [uS] at h3 h4 h5;have YK:=ae ((wS.start W).frame (S:=fun _=>False) (Fr.jq (by rw [uS];exact h5)) (fun e=>e));have dh:=ae (((aH W.heap.size W).alloc (aq _) (.map #[] 0)).trans (h5.mono (by omega)));have H1:=ae (af X (af N (af h3 h4)));obtain ⟨bt,ow⟩:=pQ W.heap.size;have T:=ae ow;rw [ow] at YK;rw [ow];clear X N h3 h4 h5 Mc ow;unfold ptr;go_wp2_with fail;refine (aB0 (l.out.1.below dh.out) l.out.2.1.ahead HK.out (by have:=l.out.2.2.1;omega) l.out.2.2.2.1).mono ?_;rintro e w2 ⟨ov,rfl,X,N⟩;rw [HZ.out] at X;have iX:=ae (dh.out.trans (N.mono dh.out.size));obtain ⟨oa,oc,rfl⟩:=vw X;have HS:=ae (⟨(H1.out.1.below N).low (by rw [uS];omega),H1.out.2.1.frame (S:=fun _=>False) (Fr.jq N) (fun e=>e),YK.out.frame (S:=fun _=>False) (Fr.jq N) (fun e=>e),alV X dh.out.size,iX.out,by have:=H1.out.2.2.1;omega,by have:=H1.out.2.2.2;omega,by have:=T.out;omega,by have:=H1.out.2.2.1;have:=T.out;omega,by have:=H1.out.2.2.2;have:=T.out;omega⟩:rY W w2 p b bt L o 0 (.slice none 0 0) (.slice oa zs.length oc) zs);rw [HN.out] at HS⊢;clear X N;go_wp2_with fail;go_loopw [17] (fun iv wr=> ∃(j:Nat) (v:Value),j<=n/\iv= .int .i64 (j:Int)/\rY W wr p b bt L o j v (.slice oa n oc) zs) (fun iv _=>n-(intOf iv).toNat)
 case atStart=>exact ⟨0,_,by omega,rfl,HS.out⟩
 case round=>
  obtain ⟨j,v,hj,rfl,hD⟩:=hrel;have HD:=ae hD;clear hD HS;by_cases U:j<n
  ·obtain ⟨fH,eV⟩:=HA.out j U
   obtain ⟨z,hz⟩:=pQ (o j);rw [hz] at fH eV;obtain ⟨x,hx⟩:=pQ (L.getD z fS);have hI:=HI.out j (by omega);have JG:=hI.node HO.out U;have pC:=hI.hi;have JH:=HO.out.ahead j U;have Ba:=hI.toX;have JK:=l.out.2.1.nd z eV;rw [hz,hx] at JG JH;rw [hx] at JK;have s:=ae (af U (af hj (show L.getD (o j) fS=x by rw [hz];exact hx)));have qx:=ae JG;have vI:=ae (show (fF L [] o j).1.length<=4000 by simp at pC;omega);have Pe:=ae (af hz.symm eV);have qi:=ae (OM (l.out.1.below HD.out.below) eV (by have:=l.out.2.2.1;omega) hx);have Wg:=ae JK;have HAH:=ae (af JH Ba);obtain ⟨oa',oc',eo,C⟩:=GK HD.out.row;rw [HN.out] at eo;cases eo;obtain ⟨go',rfl,c0⟩:=C j (by rw [HN.out];exact U);rw [fH] at c0;have j0:(0:Int)<=(j:Int):=by omega
   have j1:(j:Int)<(n:Int):=by omega
   obtain ⟨k,f,d,m,t⟩:=x;clear fH eV hz hx hI JG pC JH Ba JK C U hj;go_wp2_with fail;refine qi.out.mono ?_;rintro e I ⟨rfl,m9⟩;have Pg:=ae (HD.out.later m9.below);rw [show ig ⟨k,f,d,m,t⟩= .agg #[.int .i64 k,.int .i64 f,.int .i64 d,.int .i64 m,.string t] from rfl];clear c0 m9;go_wp2_with fail;refine (Yj (x:=⟨k,f,d,m,t⟩) Wg.out.k1 Wg.out.k2 _).mono ?_;rintro e w8 ⟨av,rfl,ha⟩;obtain ⟨aa,ac,rfl⟩:=vw ha.2;have pj:Below (I.heap.size+1) (I.alloc (.cells ⟨jD ⟨k,f,d,m,t⟩⟩ 60)) w8:=by rw [<-uS I];exact ha.1
   obtain ⟨d0,d1,d2,d3,d4⟩:=mF (wM pj);simp only at d0 d1 d2 d3 d4;have hs:I.heap.size<w8.heap.size:=ak w8 _ d0;have q:=ae (Pg.out.later (uR pj));have f1:=Au (wM pj) 1;have f2:=Au (wM pj) 2;have H: ∀a∈args ⟨k,f,d,m,t⟩,(Lit.int .i64 a).wf=true:=fun a ha=>by
    obtain ⟨i,hi,rfl⟩:=HAH.out.1 a ha;have:=(HA.out i (by have:=s.out.1;omega)).2;exact JJ (by omega) (by have:=l.out.2.2.1;omega)
   clear pj ha;rcases L6 k with D|D|D
   ·have G:args ⟨k,f,d,m,t⟩= []:=by simp [args,D]
    have A:=ae (show ren (fF L [] o j).2 ⟨k,f,d,m,t⟩=⟨k,f,d,m,t⟩ by simp [ren,D]);rw [G];clear H G D;go_wp2_with fail
    ·skip
     refine (O7 (x:=⟨k,f,d,m,t⟩) (q.out).gr (q.out).ix (q.out).below.size (by have:=qx.out.1;rw [A.out] at this;exact this) (by have:=qx.out.2;rw [A.out] at this;exact this) (by have:=vI.out;omega) (l.out.2.2.2.2.below (q.out).below)).mono ?_;rintro e wA ⟨vA,rfl,Q,P,E⟩;obtain ⟨qX,F⟩:=pQ (wO (fF L [] o j).1 ⟨k,f,d,m,t⟩);have g:=(Mg (fF L [] o j).1 ⟨k,f,d,m,t⟩).1;have Hy:=(Mg (fF L [] o j).1 ⟨k,f,d,m,t⟩).2.2;rw [F] at g⊢;have J:=(q.out).toX.frame E ((q.out).adF);obtain ⟨wB,iY,M,R⟩:=J.store (z:=(z:Int)) (x:=(qX:Int)) (by have:=s.out.1;omega) (JJ (by omega) (by have:=Pe.out.2;have:=l.out.2.2.1;omega)) (JJ (by omega) (by have:=vI.out;omega));have lq:=ae ((q.out).next s.out.2.2 (A.out) Q P E (by rw [Pe.out.1]) (by rw [F]) M R);clear Q P E J M R F g Hy;go_wp2_with fail;go_roundw
     case rel=>exact ⟨j+1,vA,by have:=s.out.1;omega,by go_num,lq.out⟩
     case measure=>have:=s.out.1;simp [intOf];omega
   ·have G:args ⟨k,f,d,m,t⟩= [f]:=by simp [args,D]
    rw [G] at H;have l1:=q.out.toX.look (H f (by simp));obtain ⟨y,O⟩:=pQ ((fF L [] o j).2 f);have A:=ae (show ren (fF L [] o j).2 ⟨k,f,d,m,t⟩=⟨k,y,d,m,t⟩ by simp [ren,D,O]);rw [O] at l1;rw [G];have h:=ae (rY.box (c:=I.heap.size) (i:=1) (u:= .int .i64 y) Pg.out q.out (aq _));clear H G D O;go_wp2_with fail
    ·skip
     refine (O7 (x:=⟨k,y,d,m,t⟩) (h.out).gr (h.out).ix (h.out).below.size (by have:=qx.out.1;rw [A.out] at this;exact this) (by have:=qx.out.2;rw [A.out] at this;exact this) (by have:=vI.out;omega) (l.out.2.2.2.2.below (h.out).below)).mono ?_;rintro e wA ⟨vA,rfl,Q,P,E⟩;obtain ⟨qX,F⟩:=pQ (wO (fF L [] o j).1 ⟨k,y,d,m,t⟩);have g:=(Mg (fF L [] o j).1 ⟨k,y,d,m,t⟩).1;have Hy:=(Mg (fF L [] o j).1 ⟨k,y,d,m,t⟩).2.2;rw [F] at g⊢;have J:=(h.out).toX.frame E ((h.out).adF);obtain ⟨wB,iY,M,R⟩:=J.store (z:=(z:Int)) (x:=(qX:Int)) (by have:=s.out.1;omega) (JJ (by omega) (by have:=Pe.out.2;have:=l.out.2.2.1;omega)) (JJ (by omega) (by have:=vI.out;omega));have lq:=ae ((h.out).next s.out.2.2 (A.out) Q P E (by rw [Pe.out.1]) (by rw [F]) M R);clear Q P E J M R F g Hy;go_wp2_with fail;go_roundw
     case rel=>exact ⟨j+1,vA,by have:=s.out.1;omega,by go_num,lq.out⟩
     case measure=>have:=s.out.1;simp [intOf];omega
   ·have G:args ⟨k,f,d,m,t⟩= [f,d]:=by simp [args,D]
    rw [G] at H;have l1:=(q.out.later (aH _ _).drew).toX.look (H f (by simp));have l2:=(q.out.later (aH _ _).drew).toX.look (H d (by simp));obtain ⟨y,O⟩:=pQ ((fF L [] o j).2 f);obtain ⟨Z,ER⟩:=pQ ((fF L [] o j).2 d);have A:=ae (show ren (fF L [] o j).2 ⟨k,f,d,m,t⟩=⟨k,y,Z,m,t⟩ by simp [ren,D,O,ER]);rw [O] at l1;rw [ER] at l2;have l3:=((rY.box (c:=I.heap.size) (i:=1) (u:= .int .i64 y) Pg.out q.out (aq _)).later (aH _ _).drew).toX.look (H d (by simp));have l4:=((rY.box (c:=I.heap.size) (i:=2) (u:= .int .i64 Z) Pg.out q.out (aq _)).later (aH _ _).drew).toX.look (H f (by simp));rw [ER] at l3;rw [O] at l4;rw [G];have h:=ae (rY.box (c:=I.heap.size) (i:=2) (u:= .int .i64 Z) Pg.out (rY.box (c:=I.heap.size) (i:=1) (u:= .int .i64 y) Pg.out (q.out.later (aH _ _).drew) (aq _)) (aq _));clear H G D O ER;go_wp2_with fail;go_region
    all_goals
     go_wp2_with fail;refine (O7 (x:=⟨k,y,Z,m,t⟩) (h.out).gr (h.out).ix (h.out).below.size (by have:=qx.out.1;rw [A.out] at this;exact this) (by have:=qx.out.2;rw [A.out] at this;exact this) (by have:=vI.out;omega) (l.out.2.2.2.2.below (h.out).below)).mono ?_;rintro e wA ⟨vA,rfl,Q,P,E⟩;obtain ⟨qX,F⟩:=pQ (wO (fF L [] o j).1 ⟨k,y,Z,m,t⟩);have g:=(Mg (fF L [] o j).1 ⟨k,y,Z,m,t⟩).1;have Hy:=(Mg (fF L [] o j).1 ⟨k,y,Z,m,t⟩).2.2;rw [F] at g⊢;have J:=(h.out).toX.frame E ((h.out).adF);obtain ⟨wB,iY,M,R⟩:=J.store (z:=(z:Int)) (x:=(qX:Int)) (by have:=s.out.1;omega) (JJ (by omega) (by have:=Pe.out.2;have:=l.out.2.2.1;omega)) (JJ (by omega) (by have:=vI.out;omega));have lq:=ae ((h.out).next s.out.2.2 (A.out) Q P E (by rw [Pe.out.1]) (by rw [F]) M R);clear Q P E J M R F g Hy;go_wp2_with fail;go_roundw
     case rel=>exact ⟨j+1,vA,by have:=s.out.1;omega,by go_num,lq.out⟩
     case measure=>have:=s.out.1;simp [intOf];omega
  ·have hje:j=n:=by omega
   subst hje;clear hj U;go_wp2_with fail;go_ret;exact ⟨p,b,v,rfl,by rw [HP.out];exact HD.out.gr,HD.out.below⟩
end
end Go.Proofs.YtnmpjdgobafdkaaGreatDoor
