/- refineFuel_proved. -/
import Derived.Test.YtnmpjdgobafdkaaGreatDoorPmbf
import Derived.BigRegion
import Derived.Deep.AppendLies
import Derived.Deep.RegionLaw
set_option maxRecDepth 100000
set_option maxHeartbeats 16000000
set_option linter.all false
noncomputable section
namespace Go.Proofs.YtnmpjdgobafdkaaGreatDoor
section
open Go.Proofs.Tryz Go Go.RowKit
section
variable {w w':World} {B q:Nat} {v:Value} {l:List Int}
def xO (l:List Int) (i j:Nat):List Int:=(l.set i (l.getD j 0)).set j (l.getD i 0)
def yW (l:List Int) (i j:Nat):(xO l i j).length=l.length:=by simp [xO]
def iH.store {g c n:Nat} (a:l.length=n) (h:iH w B q (.slice (some ⟨g,0,none⟩) n c) l) (i:Nat) (x:Int):iH (w.setCell ⟨g,i,none⟩ (.int .i64 x)) B q (.slice (some ⟨g,0,none⟩) n c) (l.set i x):=by
 subst a;have b:g≠q:=fun e=>h.ne (by rw [e];rfl)
 refine ⟨?_,?_,h.ne⟩
 ·rw [gI _ _ _ _ (fun e=>b e.symm)];exact h.blk
 ·rw [bA,ints_set];exact (h.own.stored i (.int .i64 x)).1
def iH.drew (h:iH w B q v l):iH w.drew B q v l:=h.quiet ((Fr.refl _ w).drew)
def Tj (h:iH w B q v l) {i j:Nat} (hi:i<l.length) (m:j<l.length) (C:l.length<=10000):
 Calls prog 379 #[ptr q,.int .i64 i,.int .i64 j] w fun e w'=>e= .returned (.tuple #[])/\iH w' B q v (xO l i j)/\Fr (fun k=>v.ownBlock=some k) w w':=by
 have H:=ae h;obtain ⟨g,c,rfl,D,hc⟩:=h.form (by omega);have c0:=h.cell;have z:=hc i hi;have A:=hc j m;have F:=h.own.frozenAt i;have G:=h.own.frozenAt j;have b:=h.store rfl i (l.getD j 0);have d:(w.setCell ⟨g,i,none⟩ (.int .i64 (l.getD j 0))).cell? ⟨g,j,none⟩=some (.int .i64 (l.getD j 0)):=by
  have:=b.own;rw [bA] at this;rw [this.cellAt j (by omega),OH (by simpa using m)];rw [aD,List.getElem?_set];by_cases e:i=j
  ·subst e;simp [hi]
  ·simp [e]
 have f:(w.setCell ⟨g,i,none⟩ (.int .i64 (l.getD j 0))).frozen? ⟨g,j,none⟩=false:=by
  have:=b.own;rw [bA] at this;exact this.frozenAt j
 clear h hc b;obtain ⟨x,p⟩:=pQ (l.getD i 0);obtain ⟨y,s⟩:=pQ (l.getD j 0);obtain ⟨n,o⟩:=pQ l.length;rw [p] at z;rw [s] at A d f;rw [o] at hi m C c0;have t:=ae p;have u:=ae s;have E:=ae o;clear p s o D;have I:(0:Int)<=(i:Int):=by omega
 have J:(i:Int)<(n:Int):=by omega
 have M:(0:Int)<=(j:Int):=by omega
 have N:(j:Int)<(n:Int):=by omega
 unfold ptr;go_enter func379,ntmps379;go_region
 all_goals
  go_wp2_with fail;refine bodyPost_end (results_none rfl _ _ _) rfl ?_;have R:=((H.out.store rfl i y).store (by simp) j x).drew;rw [<-t.out,<-u.out] at R⊢;exact ⟨rfl,R,(((Fr.refl (fun k=>some g=some k) w).setCell (a:=⟨g,i,none⟩) _ (fun _=>rfl)).setCell (a:=⟨g,j,none⟩) _ (fun _=>rfl)).drew⟩
def Tryz.info3:(prog.info? 3).map (fun i=>(i.zero,i.size,i.bytes))=some (some (.int .i64 0),1,8):=by kernel_rfl
def uN {w w':World} {b:Option Nat} (a:w.grownBy w' b):Fr (fun k=>b=some k) w w':=
 ⟨a.os,a.tape,a.output,a.size,fun k d f=>a.block k d (fun e=>f e.symm)⟩
def aBq {b:Array Oper} {o:Oper} {a:Act} {w:World} {K:Act->World->Prop} {Q:Exit->Act->World->Prop} {E:Prop} (M:o.guard=none) (s x:Operand) (F:o.op= .call {callee:= .builtin .append,args:= #[s,x],argTypes:= #[195,195]})
 (base:Nat) (J:base<=w.heap.size) (v:Value) (n:Nat) (xs:List Value) (G:a.eval s=v) (f:w.ownsRow base 3 1 v n xs) (B:Nat) (p:Value) (H:a.eval x= .slice (some ⟨B,0,none⟩) 1 1)
 (D:w.heap[B]? =some (.cells #[p] 3 (0,0))) (y:p.oneCell'=true) (N:n<=100000)
 (h: ∀g cap w',w'.ownsRow base 3 1 (.slice (some ⟨g,0,none⟩) (n+1) cap) (n+1) (xs++ [p])->Fr (fun k=>v.ownBlock=some k) w w'->(v.ownBlock=some g\/w.heap.size<=g)->
  K (a.put o.dst (.slice (some ⟨g,0,none⟩) (n+1) cap)) w'):
 if Region.wanted o (yielded b a.tmps)=true then Oper.wp prog o a w K Q else E:=by
 obtain ⟨I,t,m,j,i⟩:=info_parts Tryz.info3;refine step_append_lies w M s x 195 F base 3 I _ 1 8 underlying195 t m j i rfl (by omega) v n xs G f ⟨B,0,none⟩ 1 1 [p] H rfl (World.news_of_block (cs:= #[p]) D)
  (by intro u d;simp at d;rw [d];exact y) (by omega) (by unfold maxLen;omega) (by omega) J w.heap.size rfl ?_
 intro g cap w' z A C _;exact h g cap w' z (uN A) (C.imp id (fun e=>by omega))
def aBr {w f:World} {a:Option Addr} {n c b d:Nat} {o:Obj} {x:Int} (H:iH w B q (.slice a n c) l) (s:l.length=n)
 (g:f.ownsRow B 3 1 (.slice (some ⟨b,0,none⟩) (n+1) d) (n+1) (ints l++ [.int .i64 x])) (j:Fr (fun k=>(Value.slice a n c).ownBlock=some k) (w.alloc o).drew f)
 (m:(Value.slice a n c).ownBlock=some b\/(w.alloc o).drew.heap.size<=b):
 iH (f.setCell ⟨q,0,none⟩ (.slice (some ⟨b,0,none⟩) (n+1) d)) B q (.slice (some ⟨b,0,none⟩) (n+1) d) (l++ [x])/\
  (∀k,(Value.slice (some ⟨b,0,none⟩) (n+1) d).ownBlock=some k->(Value.slice a n c).ownBlock=some k\/w.heap.size<=k)/\
  Fr (fun k=>k=q\/(Value.slice a n c).ownBlock=some k) w (f.setCell ⟨q,0,none⟩ (.slice (some ⟨b,0,none⟩) (n+1) d)):=by
 have t:=H.lt;have u:(w.alloc o).drew.heap.size=w.heap.size+1:=by simp_all
 have i:b≠q:=by
  rintro rfl;rcases m with h|h
  ·exact H.ne h
  omega
 have y:f.heap[q]? =some (.cells #[.slice a n c] 195 (0,0)):=by
  rw [j.block q (by omega) H.ne];exact (((aH w.heap.size w).alloc (aq _) o).drew.block q t).trans H.blk
 refine ⟨⟨?_,?_,fun e=>i (by simpa [Value.ownBlock] using e)⟩,fun k p=> ?_,?_⟩
 ·unfold World.setCell
  grind
 ·rw [aX,s]
  have:ints (l++ [x])=ints l++ [.int .i64 x]:=by simp [ints]
  rw [this];exact ownsRow_setCell_other (a:=⟨q,0,none⟩) g (by simp [Value.ownBlock];omega) _
 ·have:b=k:=by simpa [Value.ownBlock] using p
  grind
 ·exact (((Fr.refl (fun k=>k=q\/(Value.slice a n c).ownBlock=some k) w).alloc o).drew.trans j (fun k _ e=> .inr e)).setCell _ (fun _=> .inl rfl)
def ak3 (x:Int) (w:World):Sem.run prog (Instr.typeAssert (.iface 3 (.int .i64 x)) 20 3 false) w= .ok (.int .i64 x) w:=by kernel_rfl
def aBs (h:iH w B q v l) (s:B<=w.heap.size) (E:l.length<=10000) (x:Int):
 Calls prog 378 #[ptr q,.iface 3 (.int .i64 x)] w fun e w'=>e= .returned (.tuple #[])/\ ∃y,iH w' B q y (l++ [x])/\(∀k,y.ownBlock=some k->v.ownBlock=some k\/w.heap.size<=k)/\Fr (fun k=>k=q\/v.ownBlock=some k) w w':=by
 have H:=ae h;have t:=h.lt;have HO:=ae h.own;have c0:=h.cell;have C:=h.frz;have b:=h.ne;obtain ⟨a,c,rfl⟩:=h.slice;obtain ⟨n,g⟩:=pQ l.length;rw [g] at H HO c0 b E⊢;have A:=ae g;clear h g;have j:=ae b;have d:=ae (af s t);clear b s t;have u: ∀o,Below w.heap.size w (w.alloc o).drew:=fun o=>((aH _ w).alloc (aq _) o).drew
 have m:=ae u;clear u;have M:=ak3 x;have F:(w.alloc (.cells #[.int .i64 x] 3)).cell? ⟨q,0,none⟩=some (.slice a n c):=(((aH _ w).alloc (aq _) (.cells #[.int .i64 x] 3)).cell (p:=⟨q,0,none⟩) d.out.2).trans c0;unfold ptr;go_enter func378,ntmps378
 go_region_law (refine aBq (by rfl) _ _ (by rfl) B (by have:=d.out.1;simp;omega) _ _ _ (by rfl) ((HO.out.alloc _).drew) w.heap.size _ (by rfl) (heap_alloc_new w _) (by simp [Value.oneCell']) (by omega) ?_;intro G I z f i D;have J:z.cell? ⟨q,0,none⟩=some (.slice a n c):=i.cell (((m.out _).cell (p:=⟨q,0,none⟩) d.out.2).trans c0) j.out;have s2:z.frozen? ⟨q,0,none⟩=false:=(i.frozen (a:=⟨q,0,none⟩) (by have:=d.out.2;simp;omega) j.out).trans (((m.out _).frozen (p:=⟨q,0,none⟩) d.out.2).trans C))
 all_goals
  go_wp2_with fail;refine bodyPost_end (results_none rfl _ _ _) rfl ?_;have R:=aBr H.out A.out f i D;exact ⟨rfl,_,R⟩
def iH.cap {a:Addr} {n c:Nat} (h:iH w B q (.slice (some a) n c) l):n<=c:=by
 rcases h.own.2 with ⟨e,_⟩|⟨g,cap,cur,e,_,_,b,_⟩
 all_goals grind
def aBt {w:World} {g c m:Nat} (H:iH w B q (.slice (some ⟨g,0,none⟩) (m+1) c) l) (f:l.length=m+1):
 iH (w.setCell ⟨q,0,none⟩ (.slice (some ⟨g,0,none⟩) m c)) B q (.slice (some ⟨g,0,none⟩) m c) (l.take m):=by
 have h:g≠q:=fun e=>H.ne (by rw [e];rfl)
 refine ⟨?_,?_,H.ne⟩
 ·unfold World.setCell
  simp only [gQ,H.blk];simp
 ·have b:=ownsRow_setCell_other (a:=⟨q,0,none⟩) H.own (by simp [Value.ownBlock];omega) (.slice (some ⟨g,0,none⟩) m c)
  rw [f] at b;have e:ints l=ints (l.take m)++ints (l.drop m):=by simp [ints]
  rw [e] at b;have d:(l.take m).length=m:=by simp [f]
  rw [d];exact ownsRow_pop (by rw [aBp,d];simp) b
def aBu {m:Nat} (h:iH w B q v l) (a:l.length=m+1) (u:m<=10000):
 Calls prog 377 #[ptr q] w fun e w'=>e= .returned (.iface 3 (.int .i64 (l.getD m 0)))/\ ∃d,iH w' B q d (l.take m)/\d.ownBlock=v.ownBlock/\Fr (fun k=>k=q) w w':=by
 have H:=ae h;obtain ⟨g,c,rfl,s,hc⟩:=h.form (by omega);have c0:=h.cell;have t:=h.frz;have p:=hc m (by omega);have f:=h.cap;rw [a] at c0 H f;have i:=ae a;have j:m<=c:=by omega
 have o:(m:Int)<=(c:Int):=by omega
 clear f;clear h hc s a;obtain ⟨x,b⟩:=pQ (l.getD m 0);rw [b] at p⊢;clear b;have y:(0:Int)<=(m:Int):=by omega
 unfold ptr;go_enter func377,ntmps377;go_wp2_with fail;go_ret;exact ⟨rfl,_,aBt H.out i.out,rfl,(Fr.refl _ w).setCell _ (fun _=>rfl)⟩
end
end
section
open Go Go.RowKit
variable {l:List Int} {j i:Nat}
def OJ (l:List Int) (j:Nat):Prop:=
 (∀i,0<i->i<l.length->i≠j->l.getD i 0<=l.getD ((i-1)/2) 0)/\
 (0<j-> ∀i,0<i->i<l.length->(i-1)/2=j->l.getD i 0<=l.getD ((j-1)/2) 0)
def HO (l:List Int):Prop:= ∀i,0<i->i<l.length->l.getD i 0<=l.getD ((i-1)/2) 0
def wJ (hi:i<l.length) (a:j<l.length) (k:Nat):(xO l i j).getD k 0=if k=j then l.getD i 0 else if k=i then l.getD j 0 else l.getD k 0:=by
 unfold xO;grind
def GJ {x:Int} :x∈l↔ ∃k,k<l.length/\l.getD k 0=x:=by
 rw [List.mem_iff_getElem?];grind
def ak4 (hi:i<l.length) (a:j<l.length) (x:Int):x∈xO l i j↔x∈l:=by
 rw [GJ,GJ];constructor
 ·rintro ⟨k,e,f⟩
  rw [yW] at e;rw [wJ hi a] at f;grind
 ·rintro ⟨k,e,f⟩
  by_cases b:k=j
  ·subst b
   refine ⟨i,by rw [yW];omega,?_⟩;rw [wJ hi a];simp_all
  ·by_cases d:k=i
   ·subst d
    exact ⟨j,by rw [yW];omega,by rw [wJ hi a,if_pos rfl];omega⟩
   ·exact ⟨k,by rw [yW];omega,by rw [wJ hi a,if_neg b,if_neg d];omega⟩
def ak5 (h:OJ l j) (d:j=0\/ ¬l.getD ((j-1)/2) 0<l.getD j 0):HO l:=fun i a b=>by
 by_cases e:i=j
 ·grind
 ·exact h.1 i a b e
def aBv (h:OJ l j) (q:0<j) (b:j<l.length) (s:l.getD ((j-1)/2) 0<l.getD j 0):OJ (xO l ((j-1)/2) j) ((j-1)/2):=by
 have a:(j-1)/2<l.length:=by omega
 obtain ⟨m,o⟩:=h;refine ⟨fun i g d e=> ?_,fun f i g d p=> ?_⟩
 ·rw [yW] at d
  rw [wJ a b,wJ a b]
  all_goals grind
 ·rw [yW] at d
  rw [wJ a b,wJ a b];have k:((j-1)/2-1)/2≠j:=by omega
  all_goals grind
end
section
open Go.Proofs.Tryz Go Go.RowKit
variable {l l':List Int} {w wr w1:World} {B q:Nat} {v:Value}
def OK (w:World) (B q:Nat) (v:Value) (l:List Int) (l':List Int) (wr:World):Prop:=
 iH wr B q v l'/\l'.length=l.length/\(∀x,x∈l'↔x∈l)/\Fr (fun k=>v.ownBlock=some k) w wr
def aBw (h:OK w B q v l l' wr) (a:Fr (fun _=>False) wr w1):OK w B q v l l' w1:=
 ⟨h.1.quiet a,h.2.1,h.2.2.1,h.2.2.2.trans a (fun _ _ e=>e.elim)⟩
def aBx {i j:Nat} (h:OK w B q v l l' wr) (hi:i<l'.length) (d:j<l'.length) (a:iH w1 B q v (xO l' i j)) (b:Fr (fun k=>v.ownBlock=some k) wr w1):OK w B q v l (xO l' i j) w1:=
 ⟨a,by rw [yW];exact h.2.1,fun x=>(ak4 hi d x).trans (h.2.2.1 x),h.2.2.2.trans b (fun _ _ e=>e)⟩
def ak6 (q:Nat): ∀(n:Nat) (w:World),Sem.run prog (method (n+1) 194 (.pointer (some ⟨q,0,none⟩)) "Less") w= .ok (376,.pointer (some ⟨q,0,none⟩)) w:=fun _ _=>by kernel_rfl
def adb (q:Nat): ∀(n:Nat) (w:World),Sem.run prog (method (n+1) 194 (.pointer (some ⟨q,0,none⟩)) "Swap") w= .ok (379,.pointer (some ⟨q,0,none⟩)) w:=fun _ _=>by kernel_rfl
def ak7 (q:Nat): ∀(n:Nat) (w:World),Sem.run prog (method (n+1) 194 (.pointer (some ⟨q,0,none⟩)) "Len") w= .ok (137,.pointer (some ⟨q,0,none⟩)) w:=fun _ _=>by kernel_rfl
def aBy (q:Nat): ∀(n:Nat) (w:World),Sem.run prog (method (n+1) 194 (.pointer (some ⟨q,0,none⟩)) "Push") w= .ok (378,.pointer (some ⟨q,0,none⟩)) w:=fun _ _=>by kernel_rfl
def aBz (q:Nat): ∀(n:Nat) (w:World),Sem.run prog (method (n+1) 194 (.pointer (some ⟨q,0,none⟩)) "Pop") w= .ok (377,.pointer (some ⟨q,0,none⟩)) w:=fun _ _=>by kernel_rfl
def aBA (h:iH w B q v l) (j:Nat) (J:j<l.length) (N:l.length<=10000) (O:OJ l j):
 Calls prog 179 #[Js q,.int .i64 j] w fun e W=>e= .returned (.tuple #[])/\ ∃l',OK w B q v l l' W/\HO l':=by
 have H:=ae h;have y:=ae O;have x:=ae (af J N);clear h O J N;have rl:=ak6 q;have rs:=adb q;unfold Js ptr;go_enter func179,ntmps179;go_wp2_with fail;go_loopw [1] (fun E wr=> ∃k l',E= .int .i64 ((k:Nat):Int)/\k<l'.length/\OK w B q v l l' wr/\OJ l' k) (fun E _=>(intOf E).toNat)
 case atStart=>exact ⟨j,l,rfl,x.out.1,⟨H.out,rfl,fun _=>jY,Fr.refl _ _⟩,y.out⟩
 case round=>
  obtain ⟨k,l',rfl,M,D,Q⟩:=hrel;have o:=ae D;have z:=ae Q;have d:=ae M;have X:k<=10000:=by have:=D.2.1;have:=x.out.2;omega
  clear D Q M;by_cases F:k=0
  ·subst F
   go_wp2_with fail;refine bodyPost_end (results_none rfl _ _ _) rfl ?_;exact ⟨rfl,_,o.out,ak5 z.out (.inl rfl)⟩
  ·obtain ⟨p,P⟩:=pQ ((k-1)/2)
   obtain ⟨m,C⟩: ∃m:Int,(k:Int)-1=m:=⟨_,rfl⟩;have Y:IntKind.i64.wrap ((k:Int)-1)=m:=by rw [<-C];exact aC _ ⟨by omega,by omega⟩
   have Z:IntKind.i64.wrap (m.tdiv 2)=(p:Int):=by
    rw [<-C,IntWalk.i64_quo _ _ ⟨by omega,by omega,by omega⟩];omega
   have g:p<k:=by omega
   have U:((p:Int)==(k:Int))=false:=by simp;omega
   have G:=ae P;have a:=ae (af g F);clear P C g F X;go_wp2_with fail;have u:p<l'.length:=by have:=a.out.1;have:=d.out;omega
   have t:l'.length<=10000:=by have:=o.out.2.1;have:=x.out.2;omega
   refine (Ti o.out.1 d.out u t).mono ?_;rintro e w1 ⟨rfl,S⟩;have A:=ae (aBw o.out S);have i:=ae (af u t);clear S u t;by_cases b:l'.getD p 0<l'.getD k 0
   ·have f:decide (l'.getD p 0<l'.getD k 0)=true:=by simpa using b
    rw [f];have s:=ae b;clear b f;go_wp2_with fail;refine (Tj A.out.1 i.out.1 d.out i.out.2).mono ?_;rintro e w2 ⟨rfl,I,R⟩;have T:=ae (aBx A.out i.out.1 d.out I R);clear I R;go_wp2_with fail;go_roundw
    case rel=>exact ⟨p,_,rfl,by rw [yW];exact i.out.1,T.out,by rw [<-G.out] at s⊢;exact aBv z.out (by have:=a.out.2;omega) d.out s.out⟩
    case measure=>have:=a.out.1;simp [intOf];omega
   ·have f:decide (l'.getD p 0<l'.getD k 0)=false:=by simpa using b
    rw [f];have s:=ae b;clear b f;go_wp2_with fail;refine bodyPost_end (results_none rfl _ _ _) rfl ?_;exact ⟨rfl,_,A.out,ak5 z.out (.inr (by rw [G.out];exact jT.2 s.out))⟩
def aBB (h:HO l) (x:Int):OJ (l++ [x]) l.length:=by
 have g: ∀i,i<l.length->(l++ [x]).getD i 0=l.getD i 0:=fun i a=>by
  grind
 refine ⟨fun i b d e=> ?_,fun _ i b d e=> ?_⟩
 ·have a:i<l.length:=by grind
  rw [g i a,g _ (by omega)];exact h i b a
 grind
def ak8 (h:iH w B q v l) (s:B<=w.heap.size) (t:l.length<10000) (u:HO l) (x:Int):
 Calls prog 139 #[Js q,.iface 3 (.int .i64 x)] w fun e F=>e= .returned (.tuple #[])/\ ∃E l',iH F B q E l'/\HO l'/\l'.length=l.length+1/\(∀y,y∈l'↔y=x\/y∈l)/\
  (∀k,E.ownBlock=some k->v.ownBlock=some k\/w.heap.size<=k)/\Fr (fun k=>k=q\/v.ownBlock=some k) w F:=by
 have H:=ae h;have d:=ae (af u (af s t));clear h u s t;have O:=aBy q;have N:=ak7 q;unfold Js;unfold ptr;go_enter func139,ntmps139;go_wp2_with fail;refine (aBs H.out d.out.2.1 (by have:=d.out.2.2;omega) x).mono ?_;rintro e w1 ⟨rfl,G,p,C,D⟩;have j:=ae p;have i:=ae (af C D);clear p C D;go_wp2_with fail;refine (ac9 j.out).mono ?_;rintro e P ⟨rfl,rfl⟩;have a:(((l++ [x]).length:Nat):Int)-1=(l.length:Int):=by simp
 obtain ⟨n,f⟩:=pQ ((l++ [x]).length);obtain ⟨m,g⟩:=pQ l.length;rw [f,g] at a;rw [f];have M:IntKind.i64.wrap ((n:Int)-1)=(m:Int):=by rw [a];exact aC _ ⟨by omega,by have:=d.out.2.2;omega⟩
 have I:=ae f;have o:=ae g;clear f g a;go_wp2_with fail;refine (aBA j.out m (by rw [<-o.out];simp) (by have:=d.out.2.2;simp;omega) (by rw [<-o.out];exact aBB d.out.1 x)).mono ?_;rintro e Q ⟨rfl,l',z,A⟩;have b:=ae (af z A);clear z A;go_wp2_with fail;refine bodyPost_end (results_none rfl _ _ _) rfl ?_;refine ⟨rfl,G,l',b.out.1.1,b.out.2,by rw [b.out.1.2.1];simp,fun y=>(b.out.1.2.2.1 y).trans (by simp [or_comm]),i.out.1,?_⟩;refine i.out.2.trans b.out.1.2.2.2 fun k J e=> ?_
 rcases i.out.1 k e with h|h
 ·exact .inr h
 ·omega
end
section
open Go Go.RowKit
variable {l l':List Int} {n j c B q i:Nat} {w wr w1:World} {v:Value}
def LX (l:List Int) (n c:Nat):Prop:=
 (∀i,0<i->i<n->(i-1)/2≠c->l.getD i 0<=l.getD ((i-1)/2) 0)/\
 (0<c-> ∀i,0<i->i<n->(i-1)/2=c->l.getD i 0<=l.getD ((c-1)/2) 0)
def Tr (l:List Int) (n:Nat):Prop:= ∀i,0<i->i<n->l.getD i 0<=l.getD ((i-1)/2) 0
def aBC (h:LX l n c) (hc:n<=2*c+1):Tr l n:=fun i a b=>h.1 i a b (by omega)
def ade (h:LX l n c) (d: ∀i,0<i->i<n->(i-1)/2=c->l.getD i 0<=l.getD j 0) (f: ¬l.getD c 0<l.getD j 0):Tr l n:=fun i a b=>by
 by_cases e:(i-1)/2=c
 ·grind
 ·exact h.1 i a b e
def adg (h:LX l n c) (x:n<=l.length) (u: ∀i,0<i->i<n->(i-1)/2=c->l.getD i 0<=l.getD j 0) (k:j<n) (f:(j-1)/2=c) (m:0<j) (y:l.getD c 0<l.getD j 0):LX (xO l c j) n j:=by
 have hc:c<l.length:=by omega
 have a:j<l.length:=by omega
 obtain ⟨p,s⟩:=h;refine ⟨fun i g e b=> ?_,fun _ i g e t=> ?_⟩
 ·rw [wJ hc a,wJ hc a]
  rw [if_neg b];by_cases d:i=j
  ·omega
  ·rw [if_neg d]
   by_cases o:i=c
   all_goals grind
 ·rw [wJ hc a,wJ hc a]
  grind
def LY (w:World) (B q:Nat) (v:Value) (n:Nat) (l:List Int) (l':List Int) (wr:World):Prop:=
 iH wr B q v l'/\l'.length=l.length/\(∀x,(∃k,k<n/\l'.getD k 0=x)↔(∃k,k<n/\l.getD k 0=x))/\(∀k,n<=k->l'.getD k 0=l.getD k 0)/\Fr (fun k=>v.ownBlock=some k) w wr
def Yk (h:LY w B q v n l l' wr) (a:Fr (fun _=>False) wr w1):LY w B q v n l l' w1:=
 ⟨h.1.quiet a,h.2.1,h.2.2.1,h.2.2.2.1,h.2.2.2.2.trans a (fun _ _ e=>e.elim)⟩
def aBD (b:n<=l.length) (hi:i<n) (a:j<n) (x:Int):(∃k,k<n/\(xO l i j).getD k 0=x)↔(∃k,k<n/\l.getD k 0=x):=by
 have g:=fun k=>wJ (l:=l) (i:=i) (j:=j) (by omega) (by omega) k
 grind
def adh (h:LY w B q v n l l' wr) (g:n<=l'.length) (hi:i<n) (d:j<n) (a:iH w1 B q v (xO l' i j)) (b:Fr (fun k=>v.ownBlock=some k) wr w1):LY w B q v n l (xO l' i j) w1:=
 ⟨a,by rw [yW];exact h.2.1,fun x=>(aBD g hi d x).trans (h.2.2.1 x),fun k f=>by rw [wJ (by omega) (by omega),if_neg (by omega),if_neg (by omega)];exact h.2.2.2.1 k f,h.2.2.2.2.trans b (fun _ _ e=>e)⟩
end
section
open Go Go.RowKit
variable {l:List Int} {n k:Nat}
def aBE (h:l.getD (2*k+1) 0<l.getD (2*k+2) 0): ∀i,0<i->i<n->(i-1)/2=k->l.getD i 0<=l.getD (2*k+2) 0:=fun i a _ b=>by
 grind
def ak9 (h:2*k+2<n-> ¬l.getD (2*k+1) 0<l.getD (2*k+2) 0): ∀i,0<i->i<n->(i-1)/2=k->l.getD i 0<=l.getD (2*k+1) 0:=fun i a b d=>by
 grind
def aBF {w:World} {B q:Nat} {v:Value} (h:iH w B q v l) (n:Nat) (hn:l.length=n+1) (hl:n<=10000-1) (ho:LX l n 0):
 Calls Tryz.prog 178 #[Js q,.int .i64 0,.int .i64 n] w fun e w'=>(∃b,e= .returned (.bool b))/\ ∃a,LY w B q v n l a w'/\Tr a n:=by
 have H:=ae h;have U:=ae ho;have T:=ae (af hn hl);clear h ho hn hl;have rl:=ak6 q;have rs:=adb q;unfold Js ptr;go_enter Tryz.func178,Tryz.ntmps178;go_wp2_with fail;go_loopw [7] (fun jv wr=> ∃k a,jv= .int .i64 ((k:Nat):Int)/\k<=n/\LY w B q v n l a wr/\LX a n k) (fun jv _=>(n+1-(intOf jv).toNat))
 case atStart=>exact ⟨0,l,rfl,by omega,⟨H.out,rfl,fun _=>jY,fun _ _=>rfl,Fr.refl _ _⟩,U.out⟩
 case round=>
  obtain ⟨k,a,rfl,R,hu,hx⟩:=hrel;have O:=ae hu;have E:=ae hx;have zl:k<=10000:=by have:=T.out.2;omega
  have s:a.length=n+1:=hu.2.1.trans T.out.1;have ry:=T.out.2;obtain ⟨m,hm⟩: ∃m:Int,2*(k:Int)=m:=⟨_,rfl⟩;obtain ⟨d,N⟩: ∃d:Nat,2*k+1=d:=⟨_,rfl⟩;have Tq:IntKind.i64.wrap (2*(k:Int))=m:=by rw [<-hm];exact aC _ ⟨by omega,by omega⟩
  have iM:IntKind.i64.wrap (m+1)=(d:Int):=by rw [<-hm,aC _ ⟨by omega,by omega⟩];omega
  have j10:(0:Int)<=(d:Int):=by omega
  have F:=ae (af N (af R s));clear hu hx hm;by_cases M:n<=d
  ·have Y:(n:Int)<=(d:Int):=by omega
   have HA:=ae M;clear M R zl s ry N;go_wp2_with fail;go_ret;exact ⟨⟨_,rfl⟩,_,O.out,aBC E.out (by have:=F.out.1;have:=HA.out;omega)⟩
  ·have Y:(d:Int)<(n:Int):=by omega
   have Z:d<a.length:=by omega
   have S:a.length<=10000:=by omega
   have X:k<a.length:=by omega
   obtain ⟨p,W⟩: ∃p:Nat,d+1=p:=⟨_,rfl⟩;have qQ:IntKind.i64.wrap ((d:Int)+1)=(p:Int):=by rw [aC _ ⟨by omega,by omega⟩];omega
   have g:=ae (af M (af Z (af S (af X W))));by_cases Q:p<n
   ·have gd:(p:Int)<(n:Int):=by omega
    have G5:p<a.length:=by omega
    have P:=ae (af Q G5);clear M R zl s ry N Z S X W Q G5;go_wp2_with fail;refine (Ti O.out.1 P.out.2 g.out.2.1 g.out.2.2.1).mono ?_;rintro e w1 ⟨rfl,ny⟩;have G:=ae (Yk O.out ny);clear ny;by_cases I:a.getD d 0<a.getD p 0
    ·have j:decide (a.getD d 0<a.getD p 0)=true:=by simpa using I
     rw [j];have x:=ae (by have y:=F.out.1;have z:=g.out.2.2.2.2;subst z;subst y;exact aBE (n:=n) I: ∀i,0<i->i<n->(i-1)/2=k->a.getD i 0<=a.getD p 0);clear I j;go_wp2_with fail;refine (Ti G.out.1 P.out.2 g.out.2.2.2.1 g.out.2.2.1).mono ?_;rintro e w2 ⟨rfl,C⟩;have u:=ae (Yk G.out C);clear C;by_cases o:a.getD k 0<a.getD p 0
     ·have j:decide (a.getD k 0<a.getD p 0)=true:=by simpa using o
      rw [j];have t:=ae o;clear o j;go_wp2_with fail;refine (Tj u.out.1 g.out.2.2.2.1 P.out.2 g.out.2.2.1).mono ?_;rintro e w3 ⟨rfl,A,D⟩;have f:=ae (by have y:=F.out;have z:=g.out;have e3:=P.out;omega:k<n/\p<n/\n<=a.length/\(p-1)/2=k/\0<p/\k<p);have J:=ae (adh u.out f.out.2.2.1 f.out.1 f.out.2.1 A D);clear A D;go_wp2_with fail;go_roundw
      case rel=>exact ⟨p,_,rfl,by have:=f.out.2.1;omega,J.out,adg E.out f.out.2.2.1 x.out f.out.2.1 f.out.2.2.2.1 f.out.2.2.2.2.1 t.out⟩
      case measure=>have:=f.out;simp [intOf];omega
     ·have j:decide (a.getD k 0<a.getD p 0)=false:=by simpa using o
      rw [j];have t:=ae o;clear o j;go_wp2_with fail;go_ret;exact ⟨⟨_,rfl⟩,_,u.out,ade E.out x.out (jT.2 t.out)⟩
    ·have j:decide (a.getD d 0<a.getD p 0)=false:=by simpa using I
     rw [j];have x:=ae (by have y:=F.out.1;have z:=g.out.2.2.2.2;subst z;subst y;exact ak9 (n:=n) (fun _=>I): ∀i,0<i->i<n->(i-1)/2=k->a.getD i 0<=a.getD d 0);clear I j;go_wp2_with fail;refine (Ti G.out.1 g.out.2.1 g.out.2.2.2.1 g.out.2.2.1).mono ?_;rintro e w2 ⟨rfl,C⟩;have u:=ae (Yk G.out C);clear C;by_cases o:a.getD k 0<a.getD d 0
     ·have j:decide (a.getD k 0<a.getD d 0)=true:=by simpa using o
      rw [j];have t:=ae o;clear o j;go_wp2_with fail;refine (Tj u.out.1 g.out.2.2.2.1 g.out.2.1 g.out.2.2.1).mono ?_;rintro e w3 ⟨rfl,A,D⟩;have f:=ae (by have y:=F.out;have z:=g.out;omega:k<n/\d<n/\n<=a.length/\(d-1)/2=k/\0<d/\k<d);have J:=ae (adh u.out f.out.2.2.1 f.out.1 f.out.2.1 A D);clear A D;go_wp2_with fail;go_roundw
      case rel=>exact ⟨d,_,rfl,by have:=f.out.2.1;omega,J.out,adg E.out f.out.2.2.1 x.out f.out.2.1 f.out.2.2.2.1 f.out.2.2.2.2.1 t.out⟩
      case measure=>have:=f.out;simp [intOf];omega
     ·have j:decide (a.getD k 0<a.getD d 0)=false:=by simpa using o
      rw [j];have t:=ae o;clear o j;go_wp2_with fail;go_ret;exact ⟨⟨_,rfl⟩,_,u.out,ade E.out x.out (jT.2 t.out)⟩
   ·have gd:decide (p<n)=false:=by simp;omega
    have x:=ae (by have y:=F.out.1;have z:=g.out.2.2.2.2;subst z;subst y;exact ak9 (n:=n) (fun h=>absurd h Q): ∀i,0<i->i<n->(i-1)/2=k->a.getD i 0<=a.getD d 0);have G:=O;clear M R zl s ry N Z S X W Q;go_wp2_with fail;refine (Ti G.out.1 g.out.2.1 g.out.2.2.2.1 g.out.2.2.1).mono ?_;rintro e w2 ⟨rfl,C⟩;have u:=ae (Yk G.out C);clear C;by_cases o:a.getD k 0<a.getD d 0
    ·have j:decide (a.getD k 0<a.getD d 0)=true:=by simpa using o
     rw [j];have t:=ae o;clear o j;go_wp2_with fail;refine (Tj u.out.1 g.out.2.2.2.1 g.out.2.1 g.out.2.2.1).mono ?_;rintro e w3 ⟨rfl,A,D⟩;have f:=ae (by have y:=F.out;have z:=g.out;omega:k<n/\d<n/\n<=a.length/\(d-1)/2=k/\0<d/\k<d);have J:=ae (adh u.out f.out.2.2.1 f.out.1 f.out.2.1 A D);clear A D;go_wp2_with fail;go_roundw
     case rel=>exact ⟨d,_,rfl,by have:=f.out.2.1;omega,J.out,adg E.out f.out.2.2.1 x.out f.out.2.1 f.out.2.2.2.1 f.out.2.2.2.2.1 t.out⟩
     case measure=>have:=f.out;simp [intOf];omega
    ·have j:decide (a.getD k 0<a.getD d 0)=false:=by simpa using o
     rw [j];have t:=ae o;clear o j;go_wp2_with fail;go_ret;exact ⟨⟨_,rfl⟩,_,u.out,ade E.out x.out (jT.2 t.out)⟩
end
section
open Go Go.RowKit
variable {l:List Int} {n B q:Nat} {w:World} {v:Value}
def aBG (h:HO l) (e:l.length=n+1):LX (xO l 0 n) n 0:=by
 have g:=fun k=>wJ (l:=l) (i:=0) (j:=n) (by omega) (by omega) k
 refine ⟨fun i a d b=> ?_,fun h=>by omega⟩;rw [g,g,if_neg (by omega),if_neg (by omega),if_neg (by omega),if_neg b];exact h i a (by omega)
def aBH (h:HO l): ∀(k:Nat),k<l.length->l.getD k 0<=l.getD 0 0:=by
 intro k
 induction k using Nat.strongRecOn with
 |_ k e=>
  intro b;rcases cC k with rfl|a
  ·omega
  ·have d:=h k a b
   grind
def aBI (h:HO l) {x:Int} (b:x∈l):x<=l.getD 0 0:=by
 obtain ⟨k,a,rfl⟩:=GJ.1 b;exact aBH h k a
def adi {k:Nat} (a:k<n:=by omega):(l.take n).getD k 0=l.getD k 0:=by
 simp_all
def Tr.take (h:Tr l n):HO (l.take n):=fun i b d=>by
 have a:i<n:=by grind
 rw [adi a,adi];exact h i b a
def adj {wr:World} {b:List Int} (x:l.length=n+1) (s:LY w B q v n (xO l 0 n) b wr):
 b.getD n 0=l.getD 0 0/\(∀y,y∈b.take n->y∈l)/\(∀y,y∈l->y∈b.take n\/y=l.getD 0 0):=by
 have g:=fun k=>wJ (l:=l) (i:=0) (j:=n) (by omega) (by omega) k
 obtain ⟨_,p,f,u,_⟩:=s;rw [yW] at p;refine ⟨by grind,fun y d=> ?_,fun y d=> ?_⟩
 ·obtain ⟨k,h,e⟩:=GJ.1 d
  have a:k<n:=by simp_all
  rw [adi a] at e;obtain ⟨m,t,o⟩:=(f y).1 ⟨k,a,e⟩;grind
 ·obtain ⟨k,h,e⟩:=GJ.1 ((ak4 (i:=0) (j:=n) (by omega) (by omega) y).2 d)
  rw [yW] at h;by_cases a:k<n
  ·left
   obtain ⟨m,t,o⟩:=(f y).2 ⟨k,a,e⟩;exact GJ.2 ⟨m,by simp;omega,by grind⟩
  grind
def aBJ (h:iH w B q v l) (n:Nat) (s:l.length=n+1) (A:n<=9000) (C:HO l):
 Calls Tryz.prog 138 #[Js q] w fun e G=>e= .returned (.iface 3 (.int .i64 (l.getD 0 0)))/\ ∃o f,iH G B q o f/\HO f/\f.length=n/\(∀y,y∈f->y∈l)/\(∀y,y∈l->y∈f\/y=l.getD 0 0)/\
  o.ownBlock=v.ownBlock/\Fr (fun k=>k=q\/v.ownBlock=some k) w G:=by
 have H:=ae h;have a:=ae (af C (af s A));clear h C;have N:=aBz q;have M:=ak7 q;have O:=adb q;unfold Js;unfold ptr;go_enter Tryz.func138,Tryz.ntmps138;go_wp2_with fail;refine (ac9 H.out).mono ?_;rintro e P ⟨rfl,rfl⟩;rw [s];have I:IntKind.i64.wrap (n:Int)=(n:Int):=aC _ ⟨by omega,by omega⟩;have J:(0:Int)<=(n:Int):=by omega
 clear s A;go_wp2_with fail;refine (Tj (i:=0) (j:=n) H.out (by have:=a.out.2;omega) (by have:=a.out.2;omega) (by have:=a.out.2;omega)).mono ?_;rintro e Q ⟨rfl,x,F⟩;have t:=ae (af x F);clear x F;go_wp2_with fail;refine (aBF t.out.1 n (by rw [yW];exact a.out.2.1) (by have:=a.out.2.2;omega) (aBG a.out.1 a.out.2.1)).mono ?_;rintro e R ⟨⟨b,rfl⟩,f,D,E⟩;have d:=ae (af D E);clear D E;go_wp2_with fail;refine (aBu (m:=n) d.out.1.1 (by rw [d.out.1.2.1,yW];exact a.out.2.1) (by have:=a.out.2.2;omega)).mono ?_;rintro e S ⟨rfl,o,z,g,u⟩;have p:=ae (af z (af g u));clear z g u;rw [(adj a.out.2.1 d.out.1).1];go_wp2_with fail;go_ret;refine ⟨rfl,o,_,p.out.1,d.out.2.take,by have:=d.out.1.2.1;rw [yW] at this;have:=a.out.2.1;simp;omega,(adj a.out.2.1 d.out.1).2.1,(adj a.out.2.1 d.out.1).2.2,p.out.2.1,?_⟩;exact ((t.out.2.mono (fun _ _ e=> .inr e)).trans d.out.1.2.2.2.2 (fun _ _ e=> .inr e)).trans p.out.2.2 (fun _ _ e=> .inl e)
end
section
open Go Go.RowKit
variable {w:World} {B i p:Nat} {v m:Value} {L:List b8} {x:b8}
def fS:b8:=⟨0,0,0,0,ByteArray.empty⟩
def ala: ∀(L:List b8) (i j:Nat),i<L.length->j<5->(Di L)[i*5+j]? =(jD (L.getD i fS))[j]?
 | [],i,j,h,_=>by simp at h
 |x::L,0,j,_,a=>by
  simp only [Di,kB];rw [iA (by simp [jD];omega)];simp
 |x::L,i+1,j,h,a=>by
  have b:=ala L i j (by simpa using h) a;simp only [Di,kB] at b⊢;rw [List.getElem?_append_right (by simp [jD];omega)];have:(i+1)*5+j-(jD x).length=i*5+j:=by simp [jD];omega
  simp_all
structure jE (w:World) (B:Nat) (v:Value) (L:List b8):Prop where
 own:w.ownsRow B 60 5 v L.length (Di L)
def jE.slice (h:jE w B v L): ∃a c,v= .slice a L.length c:=by
 rcases h.own.2 with ⟨rfl,e⟩|⟨g,c,_,rfl,_⟩
 all_goals grind
def jE.form (h:jE w B v L) (hi:i<L.length) (e:L.getD i fS=x): ∃g c,v= .slice (some ⟨g,0,none⟩) L.length c/\
 w.cell? ⟨g,i*5,none⟩=some (.int .i64 x.k)/\w.cell? ⟨g,i*5+1,none⟩=some (.int .i64 x.a)/\w.cell? ⟨g,i*5+2,none⟩=some (.int .i64 x.b)/\w.cell? ⟨g,i*5+3,none⟩=some (.int .i64 x.n)/\w.cell? ⟨g,i*5+4,none⟩=some (.string x.t):=by
 obtain ⟨g,c,rfl,_⟩:=OE h.own;have q:=fun j (d:j<5)=>(h.own.cellAt (i*5+j) (by omega)).trans (ala L i j hi d)
 rw [e] at q;exact ⟨g,c,rfl,q 0 (by omega),q 1 (by omega),q 2 (by omega),q 3 (by omega),q 4 (by omega)⟩
def jE.frame {w':World} {S:Nat->Prop} (h:jE w B v L) (b:Fr S w w') (a: ∀k,v.ownBlock=some k-> ¬S k):jE w' B v L:=⟨qu h.own b a⟩
structure iI (w:World) (B p:Nat) (v m:Value) (L:List b8):Prop where
 blk:w.heap[p]? =some (.cells #[v,m] 57 (0,0))
 lz:jE w B v L
def OM (h:iI w B p v m L) (hi:i<L.length) (a:L.length<=10000) (f:L.getD i fS=x):
 Calls Tryz.prog 40 #[ptr p,.int .i64 i] w fun e j=>e= .returned (.tuple #[ig x,.bool true])/\Fr (fun _=>False) w j:=by
 obtain ⟨g,c,rfl,c0,c1,k,l,o⟩:=h.lz.form hi f;have b:=qv h.blk 0;simp only [cS,bX] at b;have s:p<w.heap.size:=ak w _ b;have q:g<w.heap.size:=ak w _ c0;obtain ⟨n,d⟩:=pQ L.length;rw [d] at hi a b;clear h f d;have t:(0:Int)<=(i:Int):=by omega
 have u:(i:Int)<(n:Int):=by omega
 unfold ptr ig;go_enter Tryz.func40,Tryz.ntmps40;go_wp2_with fail;refine bodyPost_ret (by simp [results,Tryz.results40,go_sem];try rfl) rfl ?_;exact ⟨rfl,(Fr.refl _ w).alloc _⟩
def aBK (h:iI w B p v m L) {i:Int} (hi:i<0\/(L.length:Int)<=i) (f:L.length<=10000):
 Calls Tryz.prog 40 #[ptr p,.int .i64 i] w fun e g=>e= .returned (.tuple #[ig fS,.bool false])/\Fr (fun _=>False) w g:=by
 have b:=qv h.blk 0;simp only [cS,bX] at b;have j:p<w.heap.size:=ak w _ b;obtain ⟨a,c,rfl⟩:=h.lz.slice;obtain ⟨n,d⟩:=pQ L.length;rw [d] at hi f b;clear h d;unfold ptr ig fS;rcases hi with hi|hi
 all_goals
  go_enter Tryz.func40,Tryz.ntmps40;go_wp2_with fail;refine bodyPost_ret (by simp [results,Tryz.results40,go_sem];try rfl) rfl ?_;exact ⟨rfl,(Fr.refl _ w).alloc _⟩
def GK {b:List Int} (h:w.ownsRow B 3 1 v b.length (ints b)):
 ∃a c,v= .slice a b.length c/\ ∀k,k<b.length-> ∃g,a=some ⟨g,0,none⟩/\w.cell? ⟨g,k,none⟩=some (.int .i64 (b.getD k 0)):=by
 by_cases d:0<b.length
 ·obtain ⟨g,c,rfl,_⟩:=OE h d
  exact ⟨_,c,rfl,fun k f=>⟨g,rfl,by rw [h.cellAt k (by omega),OH f]⟩⟩
 ·rcases h.2 with ⟨rfl,e⟩|⟨g,c,_,rfl,_⟩
  all_goals grind
end
section
open Go Go.RowKit Go.Ev
variable {g n b i k:Nat} {W w wr w':World} {l:List Rs} {v:Value} {arr:Array Value} {t:TypeId}
def BQ {S:Nat->Prop} (h:dL w v n) (q: ∀k,k<w.heap.size-> ¬S k->w'.heap[k]? =w.heap[k]?) (B: ∀(a:Addr) (x:Int),S a.block->w.cell? a≠some (.int .u32 x)):dL w' v n:=by
 obtain ⟨l,⟨⟨m,d⟩,o⟩,p⟩:=h;refine ⟨l,⟨⟨m,?_⟩,o⟩,p⟩;rcases d with d|⟨x,cap,e,s,z,A⟩
 ·exact .inl d
 ·refine .inr ⟨x,cap,e,s,z,fun j u f=> ?_⟩
  have hc:=A j u f;rw [<-hc];refine World.cell?_of_block (q _ (ak w _ hc) fun C=> ?_);obtain ⟨y,_,rfl⟩:=kI.1 (nM f);grind
def Zr (arr:Array Value) (k:Nat):Prop:=arr[k]? =some (.bool false)/\arr[k+1]? =some (.slice none 0 0)/\arr[k+2]? =some (.slice none 0 0)/\arr[k+3]? =some (.int .i64 0)
def Rr (w:World) (arr:Array Value) (k:Nat) (r:Rs):Prop:= ∃a f c1 d h e,(arr[k]? =some (.bool (decide (r.p<0)))/\arr[k+1]? =some (.slice a f c1)/\arr[k+2]? =some (.slice d h e)/\arr[k+3]? =some (.int .i64 r.s))/\dL w (.slice a f c1) r.p.natAbs/\dL w (.slice d h e) r.q
structure tY (W wr:World) (b g n:Nat) (l:List Rs) (i:Nat):Prop where
 below:Below W.heap.size W wr
 hb:W.heap.size<=b
 hg:W.heap.size<=g
 ne:b≠g
 box: ∃t,wr.heap[b]? =some (.cells #[.slice (some ⟨g,0,none⟩) n n] t (0,0))
 row: ∃arr,wr.heap[g]? =some (.cells arr 156 (0,0))/\arr.size=n*4/\(∀j,i<=j->j<n->Zr arr (j*4))/\ ∀j,j<i->Rr wr arr (j*4) (l.getD j eH)
def tY.blt (h:tY W wr b g n l i):b<wr.heap.size/\g<wr.heap.size:=by
 obtain ⟨t,e⟩:=h.box;obtain ⟨arr,a,_⟩:=h.row;grind
def tY.later (h:tY W wr b g n l i) (a:Below wr.heap.size wr w'):tY W w' b g n l i:=by
 obtain ⟨x,y⟩:=h.blt;obtain ⟨t,e⟩:=h.box;obtain ⟨arr,o,p,s,u⟩:=h.row;refine ⟨h.below.trans (a.mono h.below.size),h.hb,h.hg,h.ne,⟨t,(a.block _ x).trans e⟩,arr,(a.block _ y).trans o,p,s,fun j z=> ?_⟩;obtain ⟨d,A,c1,f,B,m,q,C,D⟩:=u j z;exact ⟨d,A,c1,f,B,m,q,C.below a,D.below a⟩
def tY.aBL (h:tY W wr b g n l i) (a:Addr) (x:Int) (d:a.block=g):wr.cell? a≠some (.int .u32 x):=by
 obtain ⟨k,o,J⟩:=a;have d:k=g:=d;subst d;obtain ⟨arr,j,E,m,p⟩:=h.row;intro e;have f:arr[o]? =some (.int .u32 x):=by
  simp only [World.cell?,j] at e;simp_all
 have G:o<n*4:=by grind
 have s:o=o/4*4+o % 4:=by omega
 have F:o % 4=0\/o % 4=1\/o % 4=2\/o % 4=3:=by omega
 rw [s] at f;by_cases q:i<=o/4
 ·obtain ⟨u,y,z,A⟩:=m (o/4) q (by omega)
  grind
 ·obtain ⟨B,H,c1,C,I,D,⟨u,y,z,A⟩,_⟩:=p (o/4) (by omega)
  grind
def gA (h:w.heap[g]? =some (.cells arr t (0,0))) (a:arr[k]? =some v:=by simp):w.cell? ⟨g,k,none⟩=some v/\w.frozen? ⟨g,k,none⟩=false:=by
 refine ⟨by simp [World.cell?,h,a],by simp [World.frozen?,h]⟩
def tY.at (h:tY W wr b g n l i) (hi:i<n):
 (wr.cell? ⟨g,i*4,none⟩=some (.bool false)/\wr.cell? ⟨g,i*4+1,none⟩=some (.slice none 0 0)/\wr.cell? ⟨g,i*4+2,none⟩=some (.slice none 0 0)/\wr.cell? ⟨g,i*4+3,none⟩=some (.int .i64 0))/\
 wr.frozen? ⟨g,i*4,none⟩=false/\wr.frozen? ⟨g,i*4+1,none⟩=false/\wr.frozen? ⟨g,i*4+2,none⟩=false/\wr.frozen? ⟨g,i*4+3,none⟩=false:=by
 obtain ⟨arr,a,o,m,p⟩:=h.row;obtain ⟨d,e,f,j⟩:=m i (aq _) hi;exact ⟨⟨(gA a d).1,(gA a e).1,(gA a f).1,(gA a j).1⟩,(gA a d).2,(gA a e).2,(gA a f).2,(gA a j).2⟩
def tY.cell (h:tY W wr b g n l i):wr.cell? ⟨b,0,none⟩=some (.slice (some ⟨g,0,none⟩) n n)/\wr.frozen? ⟨b,0,none⟩=false:=by
 obtain ⟨t,e⟩:=h.box;exact gA e
def heap_set (h:w.heap[g]? =some (.cells arr t (0,0))):(w.setCell ⟨g,k,none⟩ v).heap[g]? =some (.cells (arr.setIfInBounds k v) t (0,0)):=by
 have a:=lt_of_block h;have d:w.heap[g]= .cells arr t (0,0):=by simp_all
 show (w.heap.modify g _)[g]? =_;grind
def tY.next (h:tY W w b g n l i) (hi:i<n) {a1 a2:Option Addr} {k1 c1 k2 c2:Nat} (U:dL w (.slice a1 k1 c1) (l.getD i eH).p.natAbs) (X:dL w (.slice a2 k2 c2) (l.getD i eH).q):
 tY W ((((w.setCell ⟨g,i*4,none⟩ (.bool (decide ((l.getD i eH).p<0)))).setCell ⟨g,i*4+1,none⟩ (.slice a1 k1 c1)).setCell ⟨g,i*4+2,none⟩ (.slice a2 k2 c2)).setCell ⟨g,i*4+3,none⟩ (.int .i64 (l.getD i eH).s)) b g n l (i+1):=by
 obtain ⟨F,Y⟩:=h.blt;obtain ⟨t,e⟩:=h.box;obtain ⟨arr,B,C,D,E⟩:=h.row;have d:=h.ne;have o:Fr (fun k=>k=g) w ((((w.setCell ⟨g,i*4,none⟩ (.bool (decide ((l.getD i eH).p<0)))).setCell ⟨g,i*4+1,none⟩ (.slice a1 k1 c1)).setCell ⟨g,i*4+2,none⟩ (.slice a2 k2 c2)).setCell ⟨g,i*4+3,none⟩ (.int .i64 (l.getD i eH).s)):=
  ((((Fr.refl (fun k=>k=g) w).setCell (a:=⟨g,i*4,none⟩) _ (fun _=>rfl)).setCell (a:=⟨g,i*4+1,none⟩) _ (fun _=>rfl)).setCell (a:=⟨g,i*4+2,none⟩) _ (fun _=>rfl)).setCell (a:=⟨g,i*4+3,none⟩) _ (fun _=>rfl)
 have I:=heap_set (k:=i*4+3) (v:= .int .i64 (l.getD i eH).s) (heap_set (k:=i*4+2) (v:= .slice a2 k2 c2) (heap_set (k:=i*4+1) (v:= .slice a1 k1 c1) (heap_set (k:=i*4) (v:= .bool (decide ((l.getD i eH).p<0))) B)));have f: ∀ {v:Value} {m:Nat},dL w v m->dL ((((w.setCell ⟨g,i*4,none⟩ (.bool (decide ((l.getD i eH).p<0)))).setCell ⟨g,i*4+1,none⟩ (.slice a1 k1 c1)).setCell ⟨g,i*4+2,none⟩ (.slice a2 k2 c2)).setCell ⟨g,i*4+3,none⟩ (.int .i64 (l.getD i eH).s)) v m:=fun q=>BQ (S:=fun k=>k=g) q (fun k x H=>o.block k x H) h.aBL
 refine ⟨h.below.trans (o.nJ (fun k x e=>by have:=h.hg;omega) h.below.size),h.hb,h.hg,d,⟨t,(o.block b F d).trans e⟩,_,I,by simp [C],fun j Z G=> ?_,fun j hj=> ?_⟩
 ·obtain ⟨P,Q,R,T⟩:=D j (by omega) G
  refine ⟨?_,?_,?_,?_⟩<;>(repeat rw [bU (by omega)])<;>assumption
 ·by_cases u:j=i
  ·subst u
   refine ⟨a1,k1,c1,a2,k2,c2,⟨?_,?_,?_,?_⟩,f U,f X⟩
   ·simp_all
   ·rw [bU (by omega),bU (by omega),dM (by simp;omega)]
   ·rw [bU (by omega),dM (by simp;omega)]
   ·rw [dM (by simp;omega)]
  ·obtain ⟨b1,J,z,y,M,A,⟨P,Q,R,T⟩,N,O⟩:=E j (by omega)
   refine ⟨b1,J,z,y,M,A,⟨?_,?_,?_,?_⟩,f N,f O⟩<;>(repeat rw [bU (by omega)])<;>assumption
def yX (x:b8):Nx:=⟨x.k,x.a,x.b,x.n,x.t.data.toList⟩
def aBM {L:List b8} (T:Th (L.map yX) l) (hl:l.length=L.length) (A:L.length<=100000) (hi:i<L.length) (h:tY W w b g L.length l i) (I:bw w) {x:b8} (Y:L.getD i fS=x):
 Calls Tryz.prog 140 #[ig x,.func (.func 141) #[] #[.pointer (some ⟨b,0,none⟩)]] w fun e w'=> ∃m B c1 o C y,e= .returned (.agg #[.bool (decide ((l.getD i eH).p<0)),.slice m B c1,.slice o C y,.int .i64 (l.getD i eH).s])/\dL w' (.slice m B c1) (l.getD i eH).p.natAbs/\dL w' (.slice o C y) (l.getD i eH).q/\Below w.heap.size w w':=by
 subst Y;have R:(L.map yX).getD i BP=yX (L.getD i fS):=by
  rw [aD,aD,dA,aM hi];rfl
 have H:=(T.2 i (by omega)).2;rw [R] at H;have M:(l.take i).length=i:=by rw [bM];omega
 obtain ⟨N,J⟩:=h.blt;refine (H (fun _=>False) w [ig (L.getD i fS),.func (.func 141) #[] #[.pointer (some ⟨b,0,none⟩)]] (fun _ e=>e.elim) (fun w' a=> ?_) (fun w' a=> ?_)).mono ?_
 ·exact fun j f=>(World.cell?_of_block (a _ (ak w _ (I j f)) fun e=>e)).trans (I j f)
 ·have E: ∀k,k<w.heap.size->w'.heap[k]? =w.heap[k]? :=fun k z=>a k z fun e=>e
  obtain ⟨arr,O,e3,e4,P⟩:=h.row;refine ⟨_,_,rfl,rfl,_,_,rfl,⟨_,rfl,b,g,L.length,L.length,rfl,?_,⟨by omega,A⟩,fun j f=> ?_⟩,rfl⟩
  ·exact (World.cell?_of_block (E _ N)).trans h.cell.1
  ·rw [M] at f
   obtain ⟨m,B,c1,o,C,y,⟨Z,q1,q2,q3⟩,F,G⟩:=P j f;have D:w'.heap[g]? =some (.cells arr 156 (0,0)):=(E _ J).trans O;have U:(l.take i).getD j eH=l.getD j eH:=by rw [aD,aD,List.getElem?_take_of_lt f]
   rw [U];exact ⟨_,_,(gA D Z).1,(gA D q1).1,(gA D q2).1,(gA D q3).1,BQ (S:=fun _=>False) F (fun k z _=>E k z) (fun _ _ e=>e.elim),BQ (S:=fun _=>False) G (fun k z _=>E k z) (fun _ _ e=>e.elim)⟩
 ·rintro e w' ⟨v,rfl,X,Q⟩
  obtain ⟨u,d,rfl,F,G⟩:=X w' (fun _ _ _=>rfl);obtain ⟨m,B,c1,rfl,_⟩:=F.form;obtain ⟨o,C,y,rfl,_⟩:=G.form;exact ⟨m,B,c1,o,C,y,rfl,F,G,Q⟩
end
section
open Go Go.RowKit
variable {L:List b8} {D H H':List Int} {m x:Int}
def Yl {l:List Int} {k:Nat} (a:k<l.length:=by omega):l.getD k 0∈l:=GJ.2 ⟨k,a,rfl⟩
def Ju (L:List b8) (i:Int):b8:=L.getD i.toNat fS
def Dl (L:List b8):Prop:= ∀i:Nat,i<L.length-> ∀a∈args (L.getD i fS),0<=a/\a<(i:Int)
inductive Reach (L:List b8) (id:Int):Int->Prop
 |self:Reach L id id
 |step {x a:Int} :Reach L id x->a∈args (Ju L x)->Reach L id a
def Reach.bound {id:Int} (b:Dl L) (f:0<=id) (g:id<L.length) (h:Reach L id x):0<=x/\x<=id:=by
 induction h with
 |self=>omega
 |step h d i=>
  rename_i x a;have e:x.toNat<L.length:=by omega
  have:=b x.toNat e a d;omega
open Classical in
def partsOf (L:List b8) (id:Int):List Int:=((List.range L.length).filter (fun i:Nat=>decide (Reach L id ((i:Nat):Int)))).map (fun i:Nat=>(i:Int))
def alb: ∀ {a b:List Int},a.Pairwise (· < ·)->b.Pairwise (· < ·)->(∀x,x∈a↔x∈b)->a=b
 | [],[],_,_,_=>rfl
 | [],y::b,_,_,h=>by have:=(h y).2 (aE ..);grind
 |x::a,[],_,_,h=>by have:=(h x).1 (aE ..);grind
 |x::a,y::b,i,j,h=>by
  obtain ⟨k,d⟩:=j8.1 i;obtain ⟨b1,f⟩:=j8.1 j;have e:x=y:=by
   rcases bu.1 ((h x).1 (aE ..)) with e|e
   ·exact e
   ·rcases bu.1 ((h y).2 (aE ..)) with g|g
    all_goals grind
  subst e;rw [alb d f fun z=> ?_];grind
def aBN: ∀n:Nat,(List.range n).Pairwise (· < ·):=fun _=>List.pairwise_lt_range
def alc (L:List b8) (id:Int):(partsOf L id).Pairwise (· < ·):=by
 unfold partsOf;rw [List.pairwise_map];exact ((aBN L.length).filter _).imp fun h=>by omega
def Ym {id:Int} (d:Dl L) (a:0<=id:=by omega) (b:id<L.length:=by omega) :x∈partsOf L id↔Reach L id x:=by
 unfold partsOf;simp only [kI,List.mem_filter,m6,decide_eq_true_eq];constructor
 ·grind
 ·intro h
  have:=h.bound d a b;exact ⟨x.toNat,⟨by omega,by grind⟩,jX this.1⟩
structure GL (L:List b8) (id:Int) (H D:List Int):Prop where
 rh: ∀x∈H,Reach L id x
 rd: ∀d∈D,Reach L id d
 desc:D.Pairwise fun a b=>b<a
 le: ∀x∈H,∀d∈D,x<=d
 Tt:id∈H\/id∈D
 cl: ∀d∈D,∀a∈args (Ju L d),a∈H\/a∈D
def aBO (L:List b8) (id:Int):GL L id [id] [] where
 rh:=fun x hx=>by simp at hx;subst hx;exact .self
 rd:=fun d hd=>by cases hd
 desc:= .nil
 le:=fun _ _ d hd=>by cases hd
 Tt:= .inl (by simp)
 cl:=fun d hd=>by cases hd
def aBP {id:Int} (h:GL L id H D) (hm:m∈D) (h1: ∀y∈H',y∈H) (h2: ∀y∈H,y∈H'\/y=m):GL L id H' D where
 rh:=fun x hx=>h.rh x (h1 x hx)
 rd:=h.rd
 desc:=h.desc
 le:=fun x hx d hd=>h.le x (h1 x hx) d hd
 Tt:=by
  rcases h.Tt with e|e
  all_goals grind
 cl:=fun d hd a ha=>by
  rcases h.cl d hd a ha with e|e
  all_goals grind
def aBQ {id:Int} (h:GL L id H D) (f:m∈H) (l: ∀z,D.getLast? =some z->z≠m): ∀d∈D,m<d:=fun d b=>by
 have j:=h.le m f d b;rcases Int.lt_or_eq_of_le j with e|e
 ·exact e
 ·subst e
  exfalso;cases g:D.getLast? with
  |none=>simp_all
  |some z=>
   have i:z∈D:=List.mem_of_getLast? g;have k:=h.le m f z i;obtain ⟨a,rfl⟩: ∃a,D=a++ [z]:=by
    have:=List.getLast?_eq_some_iff.1 g;omega
   rcases bZ.1 b with e|e
   ·have:=(nY.1 h.desc).2.2 m e z (by simp)
    omega
   simp_all
def aBR {id:Int} (g:Dl L) (p:0<=id) (q:id<L.length) (h:GL L id H D) (j:m∈H) (k: ∀y∈H,y<=m) (t: ∀z,D.getLast? =some z->z≠m)
 (s: ∀y,y∈H'->y∈H\/y∈args (Ju L m)) (C: ∀y∈H,y∈H'\/y=m) (E: ∀y∈args (Ju L m),y∈H'):GL L id H' (D++ [m]):=by
 have A:=aBQ h j t;have l:=h.rh m j;have F:=l.bound g p q;have G: ∀y∈args (Ju L m),y<m:=fun y u=>by
  have:=g m.toNat (by omega) y u;omega
 refine ⟨fun x o=> ?_,fun d f=> ?_,?_,fun x o d f=> ?_,?_,fun d f a i=> ?_⟩
 ·rcases s x o with e|e
  ·exact h.rh x e
  ·exact .step l e
 ·rcases bZ.1 f with e|e
  ·exact h.rd d e
  simp_all
 ·refine nY.2 ⟨h.desc,by simp,fun a i b B=> ?_⟩
  simp_all
 ·grind
 ·rcases h.Tt with e|e
  all_goals grind
 ·rcases bZ.1 f with e|e
  ·rcases h.cl d e a i with e|e
   all_goals grind
  simp_all
def aBS {id:Int} (d:Dl L) (a:0<=id) (b:id<L.length) (h:GL L id [] D):D.reverse=partsOf L id:=by
 refine alb (List.pairwise_reverse.2 h.desc) (alc L id) fun x=> ?_
 rw [Ym d a b,List.mem_reverse];refine ⟨h.rd x,fun g=> ?_⟩
 induction g with
 |self=>rcases h.Tt with e|e;cases e;exact e
 |step _ f i=>rcases h.cl _ i _ f with e|e;cases e;exact e
def Tu {id:Int} (k:Dl L) (i:0<=id) (j:id<L.length) (h:GL L id H D):D.length<=L.length:=by
 have f: ∀(l:List Int) (b:Nat),l.Pairwise (fun a b=>b<a)->(∀d∈l,0<=d/\d<(b:Int))->l.length<=b:=by
  intro l
  induction l with
  |nil=>simp_all
  |cons x l p=>
   intro b o g;obtain ⟨t,q⟩:=j8.1 o;have s:=g x (aE ..);have:=p x.toNat q fun d e=>⟨(g d (aw _ e)).1,by grind⟩
   grind
 exact f D L.length h.desc fun d e=>by have:=(h.rd d e).bound k i j;omega
end
end Go.Proofs.YtnmpjdgobafdkaaGreatDoor
