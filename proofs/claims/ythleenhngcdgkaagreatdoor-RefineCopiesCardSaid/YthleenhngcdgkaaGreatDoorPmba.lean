/- refineCopies_proved. -/
import Derived.Test.YthleenhngcdgkaaGreatDoorPmaz
set_option maxRecDepth 100000
set_option maxHeartbeats 16000000
set_option linter.all false
noncomputable section
namespace Go.Proofs.YthleenhngcdgkaaGreatDoor
section
open Go Go.RowKit
def tQ:List ByteArray:= [⟨#[48]⟩,⟨#[49]⟩,⟨#[50]⟩,⟨#[51]⟩,⟨#[48,46,53]⟩,⟨#[49,46,50,53]⟩,⟨#[55]⟩,⟨#[49,48]⟩,⟨#[48,46,49]⟩,⟨#[49,50,46,55,53]⟩,⟨#[49,48,48]⟩,⟨#[51,46,49,52]⟩,⟨#[54,52]⟩,⟨#[48,46,48,48,49]⟩]
def Bf:List ByteArray:= [⟨#[97]⟩,⟨#[98]⟩,⟨#[99]⟩,⟨#[120,49]⟩,⟨#[89,95,50]⟩]
def aC1 (l:List ByteArray) (w:World) (p:Nat) (v:Value) (n k:Nat) (e:Ending) (w':World):Prop:=
 ∃(s:ByteArray) (a:Nat),e= .returned (.string s)/\s∈l/\k<=a/\(k<n->a=k+1)/\(k<=n->a<=n)/\sC w' p v a/\Fr (· =p) w w'
def amh (w:World):Calls Tryz.prog 71 #[] w fun e a=>e= .returned (.slice (some ⟨w.heap.size,0,none⟩) 5 5)/\a=w.alloc (.cells ⟨Bf.map .string⟩ 9):=by
 go_enter Tryz.func71,Tryz.ntmps71;go_wp2_with fail;go_ret;exact ⟨rfl,rfl⟩
def ami {w':World} {l:List ByteArray} {g i:Nat} (h:w'.heap[g]? =some (.cells ⟨l.map .string⟩ 9 (0,0))) (hi:i<l.length):w'.cell? ⟨g,i,none⟩=some (.string (l.getD i ByteArray.empty)):=by
 rw [mD h];grind
def amj {l:List ByteArray} {i:Nat} (hi:i<l.length):l.getD i ByteArray.empty∈l:=by
 simp_all
def aC2 {w:World} {p n k:Nat} {v:Value} (d:sC w p v k) (o:Fu w p v n):
 Calls Tryz.prog 72 #[ptr p] w (aC1 tQ w p v n k):=by
 have a:Fr (fun _=>False) w (w.alloc (.cells ⟨tQ.map .string⟩ 9)):=(Fr.refl _ w).alloc _;have m:(w.alloc (.cells ⟨tQ.map .string⟩ 9)).heap[w.heap.size]? =some (.cells ⟨tQ.map .string⟩ 9 (0,0)):=by
  show (w.heap.push _)[w.heap.size]? =_;simp
 have H:=ae (af (d.frame a (fun e=>e)) (af (o.frame a (fun _ e=>e.elim)) (af m (af a d.lt))));clear a m d o;unfold ptr;go_enter Tryz.func72,Tryz.ntmps72;go_wp2_with fail;refine (adO (p:=p) (n:=n) (k:=k) (v:=v) H.out.1 H.out.2.1 14 (by omega) (by omega)).mono ?_;rintro e u ⟨r,t,rfl,y,x,f,g,h,j,b⟩;obtain ⟨i,rfl⟩: ∃i:Nat,r=(i:Int):=⟨r.toNat,by omega⟩;have hc:u.cell? ⟨w.heap.size,i,none⟩=some (.string (tQ.getD i ByteArray.empty)):=
  ami ((b.block _ (by simp) (fun e=>by have:=H.out.2.2.2.2;omega)).trans H.out.2.2.1) (show i<14 by omega)
 have q:=amj (l:=tQ) (i:=i) (show i<14 by omega);have K:=ae (af f (af g (af h (af j (af b q)))));generalize tQ.getD i ByteArray.empty=s at hc K;clear f g h j b q;go_wp2_with fail;go_ret;exact ⟨s,t,rfl,K.out.2.2.2.2.2,K.out.1,K.out.2.1,K.out.2.2.1,K.out.2.2.2.1,(H.out.2.2.2.1.mono (fun _ _ e=>e.elim)).trans K.out.2.2.2.2.1 (fun _ _ e=>e)⟩
end
section
open Go.Proofs.Tryz Go Go.RowKit
variable {w W0 w' w1 w2:World} {p k n m k' d:Nat} {v vt:Value} {cl:Bool} {L:List bI} {t:ByteArray} {S:Nat->Prop} {a:Int}
structure nJ (x:bI):Prop where
 k1:1<=x.k
 k2:x.k<=16
 Ct:x.k=1->x.t∈tQ
 FA:x.k=2->x.t∈Bf
 pP:x.k≠1->x.k≠2->x.t=ByteArray.empty
 pow:x.k=10-> -3<=x.n/\x.n<=4
 lW:x.k≠10->x.n=0
def ad4 (L:List bI) (x:bI):Cw (L++ [x])=Cw L++fZ x:=by simp [Cw]
def Tryz.infoNode:(prog.info? 90).map (fun i=>(i.zero,i.size,i.bytes))=some (some (.agg #[.int .i64 0,.int .i64 0,.int .i64 0,.int .i64 0,.string ByteArray.empty]),5,48):=by kernel_rfl
def ad5 {f:Array Oper} {b:List Oper} {o:Oper} {a:Act} {Q:Exit->Act->World->Prop} (N:o.guard=none) (s x:Operand) (G:o.op= .call {callee:= .builtin .append,args:= #[s,x],argTypes:= #[32,32]})
 (base:Nat) (M:base<=w.heap.size) (v:Value) (L:List bI) (H:a.eval s=v) (l:iz w base v L) (B:Nat) (y:bI) (I:a.eval x= .slice (some ⟨B,0,none⟩) 1 1)
 (F:w.heap[B]? =some (.cells ⟨fZ y⟩ 90 (0,0))) (O:L.length<=100000)
 (h: ∀g cap w',iz w' base (.slice (some ⟨g,0,none⟩) (L.length+1) cap) (L++ [y])->Fr (fun k=>v.ownBlock=some k) w w'->(v.ownBlock=some g\/w.heap.size<=g)->
  wpList prog f Q b (a.put o.dst (.slice (some ⟨g,0,none⟩) (L.length+1) cap)) w'):wpList prog f Q (o::b) a w:=by
 obtain ⟨J,j,z,A,q⟩:=info_parts Tryz.infoNode;refine wpList_append_lies w N s x 32 G base 90 J _ 5 48 underlying32 j z A q rfl (by omega) v L.length (Cw L) H l.own ⟨B,0,none⟩ 1 1 (fZ y) I rfl (World.news_of_block (cs:=⟨fZ y⟩) F)
  (by intro u i;simp [fZ] at i;rcases i with rfl|rfl|rfl|rfl|rfl<;>rfl) (by omega) (by unfold maxLen;omega) (by omega) M w.heap.size rfl ?_
 intro g cap w' C D E _;refine h g cap w' ⟨?_⟩ (vW D) (E.imp id (fun e=>by omega));rw [ad4,bp];exact C
structure oU (W0 w:World) (p:Nat) (v:Value) (n k:Nat):Prop where
 tape:sC w p v k
 list:Fu W0 p v n
 p0:W0.heap.size<=p
 below:Below W0.heap.size W0 w
def oU.PX (h:oU W0 w p v n k):Fu w p v n:=
 h.list.frame (S:=fun _=>False) (Fr.iE h.below) (fun _ e=>e.elim)
def oU.go (h:oU W0 w p v n k) (f:sC w' p v k') (b:Fr S w w') (g: ∀j,S j->W0.heap.size<=j):oU W0 w' p v n k':=
 ⟨f,h.list,h.p0,h.below.trans (b.oe (fun j i e=>by grind) h.below.size)⟩
def oU.stay (h:oU W0 w p v n k) (b:Fr S w w') (e: ∀j,S j->W0.heap.size<=j) (f: ¬S p):oU W0 w' p v n k:=
 h.go (h.tape.frame b f) b e
def Zf {B:Nat} {b:Value} (f:sC w p v k) (h:iz w B b L):b.ownBlock≠some p:=fun e=>by
 obtain ⟨cur,hc⟩:=vV h.own e;rw [f] at hc;grind
def oU.next (h:oU W0 w p v n k) (m:Int) (x:1<=m) (y:m<=1000000):
 Calls prog 22 #[.pointer (some ⟨p,0,none⟩),.int .i64 m] w fun e w'=> ∃(r:Int) (k':Nat),e= .returned (.int .i64 r)/\0<=r/\r<m/\k<=k'/\(k<n->k<k')/\(k<=n->k'<=n)/\oU W0 w' p v n k'/\Fr (· =p) w w':=
 (adO h.tape h.PX m x y).mono fun e w' ⟨r,k',f,g,i,l,o,s,u,b⟩=>⟨r,k',f,g,i,l,fun q=>by have:=o q;omega,s,h.go u b (fun j e=>by have:=h.p0;omega),b⟩
def oU.range (h:oU W0 w p v n k) (lo hi:Int) (i: -1000<=lo) (b:lo<=hi) (f:hi<=1000):
 Calls prog 21 #[.pointer (some ⟨p,0,none⟩),.int .i64 lo,.int .i64 hi] w fun e w'=> ∃(r:Int) (k':Nat),e= .returned (.int .i64 r)/\lo<=r/\r<=hi/\k<=k'/\(k<n->k<k')/\(k<=n->k'<=n)/\oU W0 w' p v n k'/\Fr (· =p) w w':=
 (aCe h.tape h.PX lo hi i b f).mono fun e w' ⟨r,k',b,f,x,l,o,s,u,g⟩=>⟨r,k',b,f,by omega,l,fun q=>by have:=o q;omega,s,h.go u g (fun j e=>by have:=h.p0;omega),g⟩
def oU.number (h:oU W0 w p v n k):
 Calls prog 72 #[.pointer (some ⟨p,0,none⟩)] w fun e w'=> ∃(s:ByteArray) (k':Nat),e= .returned (.string s)/\s∈tQ/\k<=k'/\(k<n->k<k')/\(k<=n->k'<=n)/\oU W0 w' p v n k'/\Fr (· =p) w w':=
 (aC2 h.tape h.PX).mono fun e w' ⟨s,k',f,g,i,l,o,u,b⟩=>⟨s,k',f,g,i,fun q=>by have:=l q;omega,o,h.go u b (fun j e=>by have:=h.p0;omega),b⟩
def oU.more (h:oU W0 w p v n k):
 Calls prog 18 #[.pointer (some ⟨p,0,none⟩)] w fun e w'=>e= .returned (.bool (decide (k<n)))/\oU W0 w' p v n k/\Fr (fun _=>False) w w':=
 (aCd h.tape h.PX).mono fun _ _ ⟨f,b⟩=>⟨f,h.stay b (fun _ e=>e.elim) (fun e=>e),b⟩
structure mS (n:Nat) (x:bI):Prop where
 args: ∀a∈args x,0<=a/\a<(n:Int)
 a0:arity x.k=0->x.a=0
 b0:arity x.k<2->x.b=0
structure FC (cl:Bool) (m:Nat) (x:bI):Prop where
 nn:cl=true->x.k≠2
 fit:mS m x
def aC3 {k:Int} (h:cl=true->k≠2) (f:k<=4:=by omega):FC cl m ⟨k,0,0,0,t⟩:=by
 have e:arity k=0:=by unfold arity;simp_all
 refine ⟨h,⟨fun a b=> ?_,fun _=>rfl,fun _=>rfl⟩⟩;unfold args at b;simp_all
def aC4 {k n:Int} (h:arity k=1) (i:0<=a/\a<(m:Int):=by omega):FC cl m ⟨k,a,0,n,t⟩:=by
 have g: ¬k<=4:=fun e=>by unfold arity at h;rw [if_pos e] at h;cases h
 refine ⟨fun _ e=>g (by simp_all),⟨fun b f=> ?_,fun e=>by simp_all,fun _=>rfl⟩⟩;unfold args at f;simp_all
def aC5 {k b n:Int} (h:arity k=2) (i:0<=a/\a<(m:Int):=by omega) (j:0<=b/\b<(m:Int):=by omega):FC cl m ⟨k,a,b,n,t⟩:=by
 have g: ¬k<=4:=fun e=>by unfold arity at h;rw [if_pos e] at h;cases h
 refine ⟨fun _ e=>g (by simp_all),⟨fun c f=> ?_,fun e=>by simp_all,fun e=>by simp_all⟩⟩;unfold args at f;grind
def amk {M N:List bI} (h: ∀i,i<M.length->FC cl (L.length+i) (M.getD i ⟨0,0,0,0,ByteArray.empty⟩)) (h': ∀i,i<N.length->FC cl ((L++M).length+i) (N.getD i ⟨0,0,0,0,ByteArray.empty⟩)): ∀i,i<(M++N).length->FC cl (L.length+i) ((M++N).getD i ⟨0,0,0,0,ByteArray.empty⟩):=fun i b=>by
 grind
structure CA (cl:Bool) (W0 w:World) (p:Nat) (vt:Value) (n k:Nat) (v:Value) (L:List bI) (d:Nat) (v':Value) (L2:List bI) (k':Nat) (w':World):Prop where
 pR:oU W0 w' p vt n k'
 row:iz w' W0.heap.size v' (L++L2)
 iT: ∀x∈L2,nJ x
 M4: ∀i,i<L2.length->FC cl (L.length+i) (L2.getD i ⟨0,0,0,0,ByteArray.empty⟩)
 pos:0<L2.length
 len:L2.length+1<=2^d
 k0:k<=k'
 k1:k<n->k<k'
 k2:k<=n->k'<=n
 own: ∀j,v'.ownBlock=some j->v.ownBlock=some j\/w.heap.size<=j
 fr:Fr (fun j=>j=p\/v.ownBlock=some j) w w'
def ad6 (cl:Bool) (W0 w:World) (p:Nat) (vt:Value) (n k:Nat) (v:Value) (L:List bI) (d:Nat) (e:Ending) (w':World):Prop:=
 ∃b f k',e= .returned b/\CA cl W0 w p vt n k v L d b f k' w'
def aC6 {g cap:Nat} {y:bI} (hM:oU W0 w1 p vt n k') (hL:iz w W0.heap.size v L) (hF:Fr (· =p) w w1) (tc:Fr (fun _=>False) w1 w2)
 (h1:iz w' W0.heap.size (.slice (some ⟨g,0,none⟩) (L.length+1) cap) (L++ [y])) (h2:Fr (fun j=>v.ownBlock=some j) w2 w') (h3:v.ownBlock=some g\/w2.heap.size<=g) (hp:v.ownBlock≠some p) (hy:nJ y) (hk:FC cl L.length y) (hd:1<=d)
 (k0:k<=k') (k1:k<n->k<k') (k2:k<=n->k'<=n):CA cl W0 w p vt n k v L d (.slice (some ⟨g,0,none⟩) (L.length+1) cap) [y] k' w' where
 pR:=by
  have rz:=hM.stay tc (fun _ e=>e.elim) (fun e=>e);exact rz.stay h2 (fun j e=>(hL.own.lt j e).1) hp
 row:=h1
 iT:=fun x hx=>by simp_all
 M4:=fun i hi=>by
  simp_all
 pos:=by simp
 len:=by
  grind
 k0:=k0
 k1:=k1
 k2:=k2
 own:=fun j e=>by
  have e1:g=j:=by simpa [Value.ownBlock] using e
  subst e1;have:=hF.size;have:=tc.size;grind
 fr:=((hF.mono (fun _ _ e=> .inl e)).trans tc (fun _ _ e=>e.elim)).trans h2 (fun _ _ e=> .inr e)
def CA.then {k1 k2:Nat} {i f:Value} {b g:List bI} (h:CA cl W0 w p vt n k v L d i b k1 w1) (h':CA cl W0 w1 p vt n k1 i (L++b) d f g k2 w2):
 iz w2 W0.heap.size f (L++(b++g))/\(∀j,f.ownBlock=some j->v.ownBlock=some j\/w.heap.size<=j)/\Fr (fun j=>j=p\/v.ownBlock=some j) w w2:=by
 refine ⟨by rw [<-fo];exact h'.row,fun j e=> ?_,h.fr.trans h'.fr fun j l e=> ?_⟩
 ·have:=h.fr.size
  rcases h'.own j e with e|e
  ·exact h.own j e
  omega
 ·rcases e with e|e
  ·exact .inl e
  ·rcases h.own j e with e|e
   all_goals grind
end
section
open Go Go.RowKit
variable {w w' W0:World} {p d n k k':Nat} {v vt v':Value} {L L2:List bI} {cl:Bool}
def iz.aC7 {B:Nat} (h:iz w B v L) (a:Fr (· =p) w w') (f:v.ownBlock≠some p) (o:Obj):iz (w'.alloc o) B v L:=
 h.frame (a.alloc o) (fun k b e=>f (by rw [b,e]))
def FD (D:Int) (d:Nat):Prop:=
 ∀ {W0 w:World} {p n k:Nat} {vt v:Value} {L:List bI} (closed:Bool),oU W0 w p vt n k->iz w W0.heap.size v L->L.length<=1000->
  Calls Tryz.prog 39 #[ptr p,v,.int .i64 D,.bool closed] w (ad6 closed W0 w p vt n k v L d)
def aml (d:Nat):2^(d+1)=2*2^d:=by rw [bL];omega
def Kj (k:Int):arity k=0\/arity k=1\/arity k=2:=by unfold arity;split;simp;split<;>simp
def amm {k:Int} (h:arity k=1):5<=k:=by unfold arity at h;split at h;simp at h;omega
def ad7 {k:Int} (h:arity k=2):6<=k/\k<=9:=by unfold arity at h;split at h;simp at h;split at h;omega;simp at h
def CA.from_ {w2:World} {k2:Nat} (h:CA cl W0 w2 p vt n k2 v L d v' L2 k' w') (hF:Fr (· =p) w w2) (a0:k<=k2) (a1:k<n->k<k2) (a2:k<=n->k2<=n):CA cl W0 w p vt n k v L d v' L2 k' w' where
 pR:=h.pR
 row:=h.row
 iT:=h.iT
 M4:=h.M4
 pos:=h.pos
 len:=h.len
 k0:=by have:=h.k0;omega
 k1:=fun e=>by have:=a1 e;have:=h.k0;omega
 k2:=fun e=>h.k2 (a2 e)
 own:=fun j e=>(h.own j e).imp id (fun q=>by have:=hF.size;omega)
 fr:=(hF.mono (fun _ _ e=> .inl e)).trans h.fr (fun _ _ e=>e)
def CA.deeper {d':Nat} (h:CA cl W0 w p vt n k v L d v' L2 k' w') (a:d<=d'):CA cl W0 w p vt n k v L d' v' L2 k' w':=
 {h with len:=aL h.len (aF (by omega) a)}
def amn {w1 w9:World} {g cap:Nat} {v1:Value} {M:List bI} {y:bI} {o:Obj} (hM:oU W0 w1 p vt n k') (hN:iz w1 W0.heap.size v1 (L++M)) (hm: ∀x∈M,nJ x) (Oz: ∀i,i<M.length->FC cl (L.length+i) (M.getD i ⟨0,0,0,0,ByteArray.empty⟩)) (eU: ∀j,v1.ownBlock=some j->v.ownBlock=some j\/w.heap.size<=j)
 (hf:Fr (fun j=>j=p\/v.ownBlock=some j) w w1) (h1:iz w9 W0.heap.size (.slice (some ⟨g,0,none⟩) ((L++M).length+1) cap) ((L++M)++ [y])) (h2:Fr (fun j=>v1.ownBlock=some j) (w1.alloc o) w9) (h3:v1.ownBlock=some g\/(w1.alloc o).heap.size<=g)
 (hy:nJ y) (xB:FC cl (L.length+M.length) y) (hlen:M.length+2<=2^d) (a0:k<=k') (a1:k<n->k<k') (a2:k<=n->k'<=n):CA cl W0 w p vt n k v L d (.slice (some ⟨g,0,none⟩) ((L++M).length+1) cap) (M++ [y]) k' w9 where
 pR:=(hM.stay ((Fr.refl (fun _=>False) w1).alloc o) (fun _ e=>e.elim) (fun e=>e)).stay h2 (fun j e=>(hN.own.lt j e).1) (Zf hM.tape hN)
 row:=by simp_all
 iT:=fun x hx=>by
  grind
 M4:=amk Oz fun i hi=>by
  simp_all
 pos:=by simp
 len:=by simp_all
 k0:=a0
 k1:=a1
 k2:=a2
 own:=fun j e=>by
  have e1:g=j:=by simpa [Value.ownBlock] using e
  subst e1;rcases h3 with h|h
  ·exact eU g h
  ·have:=hf.size;simp at h;exact .inr (by omega)
 fr:=(hf.trans ((Fr.refl (fun _=>False) w1).alloc o) (fun _ _ e=>e.elim)).trans h2 fun j hj e=>by
  grind
def Zg {D:Int} (h8:D<=8) (hd7:d<=7) (Q:2<=D->FD (D-1) d/\FD 1 1):FD D (d+1):=by
 intro W0 w p n k vt v L closed hM hN hL;obtain ⟨a,c,rfl⟩:=hN.slice;have HP:=ae (Zf hM.tape hN);obtain ⟨m,hm⟩:=pS L.length;have Y:=ae hM;have HN:=ae hN;have HL:=ae hL;have HM:=ae hm;have HD:=ae (show 1<=d+1 by omega);have HPm:=ae (show (Value.slice a m c).ownBlock≠some p by rw [<-hm];exact HP.out);have Z:=ae (show iz w W0.heap.size (.slice a m c) L by rw [<-hm];exact hN);rw [hm] at hL⊢;clear hM hN hm;unfold ptr;go_enter Tryz.func39,Tryz.ntmps39;by_cases CB:D<=1;clear Q;have M5:=ae (af Y.out (Fr.refl (· =p) w))
 focus go_wp2_with fail
 rotate_left
 obtain ⟨Q,i1⟩:=Q (by omega)
 focus go_wp2_with fail
 refine Y.out.more.mono ?_;rintro e w1 ⟨rfl,Uw,PW⟩;have M5:=ae (af Uw (PW.mono (S':=(· =p)) (fun _ _ e=>e.elim)));clear Uw PW;by_cases hk:k<n
 rotate_left
 rw [decide_eq_false hk];clear hk Q i1
 focus go_wp2_with fail
 rotate_left 2
 rw [decide_eq_true hk];have HK:=ae hk;clear hk;by_cases Cl:24<m;clear Q i1
 focus go_wp2_with fail
 rotate_left
 ·go_wp2_with fail
  refine (M5.out.1.range 1 16 (by omega) (by omega) (by omega)).mono ?_;rintro e I ⟨kd,k2,rfl,b1,Ux,f,o,h,rz,tc⟩;have b:=ae (af rz (af (M5.out.2.trans tc (fun _ _ e=>e)) (af f (af o h))));clear rz tc f o h;go_wp2_with fail;refine (J8 b1 Ux _).mono ?_;rintro e J ⟨rfl,W⟩;rw [W];clear W;rcases Kj kd with y|y|y
  ·rw [y]
   clear y;go_wp2_with fail;refine (i1 closed b.out.1 (Z.out.frame b.out.2.1 (fun j hj e=>HPm.out (hj.trans (congrArg some e)))) HL.out).mono ?_;rintro e w4 ⟨v',L2,k4,rfl,TZ⟩;have P4:=ae (TZ.from_ b.out.2.1 b.out.2.2.1 b.out.2.2.2.1 b.out.2.2.2.2);clear TZ;go_wp2_with fail;go_ret;exact ⟨_,_,_,rfl,P4.out.deeper (d':=d+1) (by omega)⟩
  rotate_left
  rw [y];have N:=ae y;have O:=ad7 y;have t:=ae O;have E:=b;clear y O
  focus go_wp2_with fail
  rotate_left
  rw [y];have N:=ae y;have O:=amm y;clear y;by_cases ff:kd=10
  focus go_wp2_with fail
  refine (b.out.1.range (-3) 4 (by omega) (by omega) (by omega)).mono ?_;rintro e w4 ⟨q,k4,rfl,q1,q2,f,o,h,Uy,U⟩;have E:=ae (af Uy (af (b.out.2.1.trans U (fun _ _ e=>e)) (af (aL b.out.2.2.1 f) (af (fun e=>ax (b.out.2.2.2.1 e) f) (fun e=>h (b.out.2.2.2.2 e))))));have t:=ae (af q1 (af q2 (af ff (af O (af b1 Ux)))));clear Uy U f o h q1 q2 ff O b1 Ux
  focus go_wp2_with fail
  rotate_left
  have E:=b;have t:=ae (af ff (af O (af b1 Ux)))
  focus go_wp2_with fail
  clear ff O b1 Ux
  rotate_left
  all_goals
   refine (Q closed E.out.1 (Z.out.frame E.out.2.1 (fun j hj e=>HPm.out (hj.trans (congrArg some e)))) HL.out).mono ?_;rintro e w5 ⟨v1,C,k5,rfl,JU⟩;obtain ⟨o,c1,rfl⟩:=JU.row.slice;obtain ⟨S,vF⟩:=pS ((L++C).length);have b1:S<=200:=by
    have:=JU.len;have:2^d<=2^7:=aF (by omega) hd7;have:=HM.out;rw [<-vF,bp];omega
   have A:=ae vF;have P1:=ae (JU.from_ E.out.2.1 E.out.2.2.1 E.out.2.2.2.1 E.out.2.2.2.2);rw [vF];clear JU vF
  ·go_wp2_with fail
   refine (Q closed P1.out.pR (by have R:=P1.out.row;rw [A.out] at R;exact R) (by have:=A.out;omega)).mono ?_;rintro e w6 ⟨v2,L2,k6,rfl,TY⟩;obtain ⟨h,c2,rfl⟩:=TY.row.slice;obtain ⟨m2,mF⟩:=pS (((L++C)++L2).length);have b2:m2<=400:=by
    have:=TY.len;have:2^d<=2^7:=aF (by omega) hd7;have:=A.out;rw [<-mF,bp];omega
   have Uz:=ae mF;have P2:=ae TY;rw [mF];clear TY mF;go_wp2_with (at_builtin;refine ad5 rfl _ _ rfl W0.heap.size (by have:=P2.out.pR.below.size;simp;omega) _ ((L++C)++L2) (by rw [Uz.out];rfl) ⟨P2.out.row.own.alloc _⟩ _ ⟨kd,(S:Int)-1,(m2:Int)-1,0,ByteArray.empty⟩ rfl (heap_alloc_new _ _) (by have:=Uz.out;omega) ?_;intro g cap w9 F G H;have z:=ae (af F (af G H));rw [Uz.out];clear F G H);go_ret;have hl:1<=S/\S<=L.length+(C++L2).length/\1<=m2/\m2<=L.length+(C++L2).length:=by have h1:=A.out;have h2:=Uz.out;simp only [bp] at h1 h2⊢;have:=P1.out.pos;have:=P2.out.pos;omega
   have T:=P1.out.then (by rw [A.out];exact P2.out);have X:=z.out.1;rw [fo L C L2] at X;have P:=amn (d:=d+1) (M:=C++L2) P2.out.pR T.1 (fun x hx=>(b8.1 hx).elim (P1.out.iT x) (P2.out.iT x)) (amk P1.out.M4 P2.out.M4) T.2.1 T.2.2 X z.out.2.1 z.out.2.2 ⟨by have:=t.out;simp;omega,by have:=t.out;simp;omega,fun e=>by have:=t.out;simp at e;omega,fun e=>by have:=t.out;simp at e;omega,fun _ _=>rfl,fun e=>by have:=t.out;simp at e;omega,fun _=>rfl⟩ (aC5 N.out)
    (by have:=P1.out.len;have:=P2.out.len;have:=aml d;rw [bp];omega) (aL P1.out.k0 P2.out.k0) (fun e=>ax (P1.out.k1 e) P2.out.k0) (fun e=>P2.out.k2 (P1.out.k2 e))
   rw [<-fo,Uz.out] at P;exact ⟨_,_,_,rfl,P⟩
  all_goals
   go_wp2_with (at_builtin;refine ad5 rfl _ _ rfl W0.heap.size (by have:=P1.out.pR.below.size;simp;omega) _ (L++C) (by rw [A.out];rfl) ⟨P1.out.row.own.alloc _⟩ _ ⟨_,(S:Int)-1,0,_,ByteArray.empty⟩ rfl (heap_alloc_new _ _) (by have:=A.out;omega) ?_;intro g cap w9 F G H;have z:=ae (af F (af G H));rw [A.out];clear F G H);go_ret;have hl:1<=S/\S<=L.length+C.length:=by have:=A.out;rw [bp] at this;have:=P1.out.pos;omega
   have P:=amn (d:=d+1) P1.out.pR P1.out.row P1.out.iT P1.out.M4 P1.out.own P1.out.fr z.out.1 z.out.2.1 z.out.2.2 (by first|exact ⟨by simp,by simp,fun e=>by simp at e,fun e=>by simp at e,fun _ _=>rfl,fun _=>⟨t.out.1,by have:=t.out.2.1;simp;omega⟩,fun e=>by simp at e⟩|exact ⟨by have:=t.out;simp;omega,by have:=t.out;simp;omega,fun e=>by have:=t.out;simp at e;omega,fun e=>by have:=t.out;simp at e;omega,fun _ _=>rfl,fun e=>by have:=t.out;simp at e;omega,fun _=>rfl⟩) (aC4 (by first|exact N.out|decide)) (by have:=P1.out.len;have:=aml d;omega) P1.out.k0 P1.out.k1 P1.out.k2;rw [A.out] at P;exact ⟨_,_,_,rfl,P⟩
 all_goals
  refine (M5.out.1.next 5 (by omega) (by omega)).mono ?_;rintro e I ⟨r,k2,rfl,r0,r5,f,o,h,rz,tc⟩;have b:=ae (af rz (af (M5.out.2.trans tc (fun _ _ e=>e)) (af f (af o h))));have hr:r=0\/r=1\/r=2\/r=3\/r=4:=by omega
  clear rz tc r0 r5 f o h;rcases hr with rfl|rfl|rfl|rfl|rfl
  all_goals
   obtain ⟨cl,hcl⟩:=pU closed;cases closed
  all_goals go_wp2_with fail
  all_goals first
   |refine b.out.1.number.mono ?_
    rintro e J ⟨s,k3,rfl,hs,f,o,h,Kl,B⟩;have u:=ae (af Kl (af (b.out.2.1.trans B (fun _ _ e=>e)) (af f (af o (af h hs)))));clear Kl B f o h hs
   |refine (b.out.1.next 2 (by omega) (by omega)).mono ?_
    rintro e J ⟨r,k3,rfl,r0,r5,f,o,h,Kl,B⟩;have u:=ae (af Kl (af (b.out.2.1.trans B (fun _ _ e=>e)) (af f (af o (af h trivial)))));have hr:r=0\/r=1:=by omega
    clear Kl B r0 r5 f o h
    (rcases hr with rfl|rfl)
   |refine (amh I).mono ?_
    rintro e J ⟨rfl,W⟩;have ke:J.heap[I.heap.size]? =some (.cells ⟨Bf.map .string⟩ 9 (0,0)):=by rw [W];show (I.heap.push _)[I.heap.size]? =_;simp
    have B:Fr (fun _=>False) I J:=by rw [W];exact (Fr.refl _ _).alloc _
    have ka:=ae (af ke (af B (b.out.1.stay B (fun _ e=>e.elim) (fun e=>e))));clear W ke B;go_wp2_with fail;refine (amh J).mono ?_;rintro e w4 ⟨rfl,m9⟩;have U:Fr (fun _=>False) J w4:=by rw [m9];exact (Fr.refl _ _).alloc _
    have oP:=ae (af U (ka.out.2.2.stay U (fun _ e=>e.elim) (fun e=>e)));clear m9 U;go_wp2_with fail;refine (oP.out.2.next 5 (by omega) (by omega)).mono ?_;rintro e w5 ⟨r,k3,rfl,r0,r5,f,o,h,UA,PY⟩;obtain ⟨i,rfl⟩: ∃i:Nat,r=(i:Int):=⟨r.toNat,by omega⟩;have amo:I.heap.size<J.heap.size:=(au.1 ka.out.1).1;have hc:w5.cell? ⟨I.heap.size,i,none⟩=some (.string (Bf.getD i ByteArray.empty)):=
     ami (((PY.block _ (by have:=oP.out.1.size;omega) (fun e=>by have:=b.out.1.tape.lt;omega)).trans (oP.out.1.block _ amo (fun e=>e))).trans ka.out.1) (show i<5 by omega)
    have hs:=amj (l:=Bf) (i:=i) (show i<5 by omega);have u:=ae (af UA (af (((b.out.2.1.trans ka.out.2.1 (fun _ _ e=>e.elim)).trans oP.out.1 (fun _ _ e=>e.elim)).trans PY (fun _ _ e=>e)) (af f (af o (af h hs)))));generalize Bf.getD i ByteArray.empty=s at hc u;clear UA PY f o h hs amo
  all_goals
   go_wp2_with (at_builtin;refine ad5 rfl _ _ rfl W0.heap.size (by have:=u.out.1.below.size;simp;omega) _ L (by rw [HM.out];rfl) (HN.out.aC7 u.out.2.1 HP.out _) _ ⟨_,0,0,0,_⟩ rfl (heap_alloc_new _ _) (by have:=HL.out;omega) ?_;intro g cap w9 F G H;have z:=ae (af F (af G H));rw [HM.out];clear F G H);go_ret;have P:=aC6 (cl:=cl) (d:=d+1) u.out.1 HN.out u.out.2.1 ((Fr.refl _ _).alloc _) z.out.1 z.out.2.1 z.out.2.2 HP.out ⟨by simp,by simp,by first|exact fun _=>u.out.2.2.2.2.2|simp,by first|exact fun _=>u.out.2.2.2.2.2|simp,by first|exact fun _ _=>rfl|simp,by simp,fun _=>rfl⟩ (aC3 (by simp [hcl])) HD.out (by have:=b.out.2.2.1;have:=u.out.2.2.1;omega) (fun e=>by have:=b.out.2.2.2.1 e;have:=u.out.2.2.1;omega) (fun e=>u.out.2.2.2.2.1 (b.out.2.2.2.2 e));rw [HM.out] at P;subst hcl;exact ⟨_,_,_,rfl,P⟩
def Zh:FD 1 1/\FD 2 2/\FD 3 3/\FD 4 4:=by
 have a:FD 1 1:=Zg (d:=0) (by omega) (by omega) fun h=>absurd h (by decide)
 have b:FD 2 2:=Zg (d:=1) (by omega) (by omega) fun _=>⟨by simp_all,a⟩
 have e:FD 3 3:=Zg (d:=2) (by omega) (by omega) fun _=>⟨by simp_all,a⟩
 exact ⟨a,b,e,Zg (d:=3) (by omega) (by omega) fun _=>⟨by simp_all,a⟩⟩
end
end Go.Proofs.YthleenhngcdgkaaGreatDoor
