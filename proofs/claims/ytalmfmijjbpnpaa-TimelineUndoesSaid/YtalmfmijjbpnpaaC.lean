/-
  The histories as plain data; how one lies in memory; plain facts on worlds. No walk stands here.
-/
import Derived.Test.YtalmfmijjbpnpaaB
namespace Go.Proofs.Ytalmfmijjbpnpaa
open Go.RowKit

structure Ver where
  par : Int
  root : Int
structure Ln where
  nm : ByteArray
  hd : Int
  rd : List Int
structure Lb where
  nm : ByteArray
  ver : Int
structure Hist where
  vs : List Ver
  bs : List Ln
  ss : List Lb
  cur : ByteArray

def verCells (l : List Ver) : List Value := l.flatMap fun v => [.int .i64 v.par, .int .i64 v.root]
def lnCells (l : List (Ln × Value)) : List Value := l.flatMap fun x => [.string x.1.nm, .int .i64 x.1.hd, x.2]
def lbCells (l : List Lb) : List Value := l.flatMap fun x => [.string x.nm, .int .i64 x.ver]
def intCells (l : List Int) : List Value := l.map (.int .i64)

/-! ### order of names -/
def ltN (a b : ByteArray) : Bool := Op.bytesLess a.toList b.toList

theorem bless_irrefl : ∀ x : List UInt8, Op.bytesLess x x = false
  | [] => rfl
  | a :: x => by simp [Op.bytesLess, bless_irrefl x]
theorem bless_trans : ∀ x y z : List UInt8, Op.bytesLess x y = true → Op.bytesLess y z = true → Op.bytesLess x z = true
  | _, _, [], _, h => by cases ‹List UInt8› <;> simp [Op.bytesLess] at h
  | _, [], _ :: _, h, _ => by cases ‹List UInt8› <;> simp [Op.bytesLess] at h
  | [], _ :: _, _ :: _, _, _ => rfl
  | a :: x, b :: y, c :: z, h1, h2 => by
    simp only [Op.bytesLess, Bool.or_eq_true, decide_eq_true_eq, Bool.and_eq_true, beq_iff_eq] at h1 h2 ⊢
    rcases h1 with h1 | ⟨rfl, h1⟩
    · rcases h2 with h2 | ⟨rfl, h2⟩
      · exact .inl (UInt8.lt_trans h1 h2)
      · exact .inl h1
    · rcases h2 with h2 | ⟨rfl, h2⟩
      · exact .inl h2
      · exact .inr ⟨rfl, bless_trans x y z h1 h2⟩
theorem bless_total : ∀ x y : List UInt8, Op.bytesLess x y = false → x ≠ y → Op.bytesLess y x = true
  | [], [], _, h => absurd rfl h
  | [], _ :: _, h, _ => by simp [Op.bytesLess] at h
  | _ :: _, [], _, _ => rfl
  | a :: x, b :: y, h, hne => by
    simp only [Op.bytesLess, Bool.or_eq_false_iff, decide_eq_false_iff_not, Bool.and_eq_false_iff, beq_eq_false_iff_ne] at h
    simp only [Op.bytesLess, Bool.or_eq_true, decide_eq_true_eq, Bool.and_eq_true, beq_iff_eq]
    obtain ⟨h1, h2⟩ := h
    by_cases e : a = b
    · subst e
      refine .inr ⟨rfl, bless_total x y (h2.resolve_left (fun h => h rfl)) (fun e => hne (by rw [e]))⟩
    · left
      have h1' := UInt8.not_lt.1 h1
      rcases UInt8.lt_or_eq_of_le h1' with h | h
      · exact h
      · exact absurd h.symm e

theorem ba_ext {a b : ByteArray} (h : a.toList = b.toList) : a = b := by
  rw [ByteArray.toList_eq, ByteArray.toList_eq] at h
  obtain ⟨⟨a⟩⟩ := a
  obtain ⟨⟨b⟩⟩ := b
  cases h; rfl

theorem ltN_irrefl (a : ByteArray) : ltN a a = false := bless_irrefl _
theorem ltN_trans {a b c : ByteArray} (h1 : ltN a b = true) (h2 : ltN b c = true) : ltN a c = true := bless_trans _ _ _ h1 h2
theorem ltN_total {a b : ByteArray} (h : ltN a b = false) (hne : a ≠ b) : ltN b a = true := bless_total _ _ h (fun e => hne (ba_ext e))

theorem ordI_lt {a b : ByteArray} (h : ltN a b = true) : ordI a b = -1 := by unfold ordI; rw [if_pos (by exact h)]
theorem ordI_eq (a : ByteArray) : ordI a a = 0 := by unfold ordI; rw [bless_irrefl]; simp
theorem ordI_gt {a b : ByteArray} (h : ltN a b = false) (hne : a ≠ b) : ordI a b = 1 := by
  unfold ordI
  rw [if_neg (by rw [show Op.bytesLess a.toList b.toList = false from h]; simp), if_neg (fun e => hne (ba_ext e))]

/-! ### frames -/
/-- w' is w with new blocks, and of the old ones at most those of S have changed. -/
structure Fr (S : Nat → Prop) (w w' : World) : Prop where
  os : w'.os = w.os
  tape : w'.tape = w.tape
  output : w'.output = w.output
  size : w.heap.size ≤ w'.heap.size
  block : ∀ k, k < w.heap.size → ¬ S k → w'.heap[k]? = w.heap[k]?

section
variable {S S' : Nat → Prop} {w w' w'' : World}
theorem Fr.refl (S : Nat → Prop) (w : World) : Fr S w w := ⟨rfl, rfl, rfl, Nat.le_refl _, fun _ _ _ => rfl⟩
theorem Fr.trans (h : Fr S w w') (k : Fr S' w' w'') (hS : ∀ k, k < w.heap.size → S' k → S k) : Fr S w w'' :=
  ⟨k.os.trans h.os, k.tape.trans h.tape, k.output.trans h.output, Nat.le_trans h.size k.size, fun i hi hn =>
    (k.block i (Nat.lt_of_lt_of_le hi h.size) (fun e => hn (hS i hi e))).trans (h.block i hi hn)⟩
theorem Fr.mono (h : Fr S w w') (hS : ∀ k, k < w.heap.size → S k → S' k) : Fr S' w w' :=
  ⟨h.os, h.tape, h.output, h.size, fun i hi hn => h.block i hi (fun e => hn (hS i hi e))⟩
theorem Fr.drew (h : Fr S w w') : Fr S w w'.drew := ⟨h.os, h.tape, h.output, h.size, h.block⟩
theorem Fr.drewN (h : Fr S w w') (n : Nat) : Fr S w (w'.drewN n) := ⟨h.os, h.tape, h.output, h.size, h.block⟩
theorem Fr.alloc (h : Fr S w w') (o : Obj) : Fr S w (w'.alloc o) :=
  ⟨h.os, h.tape, h.output, by have := h.size; simp; omega, fun i hi hn => by rw [Below.heap_alloc _ _ _ (by have := h.size; omega)]; exact h.block i hi hn⟩
theorem Fr.setCell (h : Fr S w w') {a : Addr} (u : Value) (ha : a.block < w.heap.size → S a.block) : Fr S w (w'.setCell a u) :=
  ⟨h.os, h.tape, h.output, by have := h.size; simpa [World.setCell] using this, fun i hi hn => by
    rw [Below.heap_setCell _ _ _ _ (fun e => by subst e; exact hn (ha hi))]; exact h.block i hi hn⟩
theorem Fr.grown (h : Fr S w w') {row : Option Nat} (hg : w'.grownBy w'' row) (hr : ∀ k, row = some k → k < w.heap.size → S k) : Fr S w w'' :=
  ⟨hg.os.trans h.os, hg.tape.trans h.tape, hg.output.trans h.output, Nat.le_trans h.size hg.size, fun i hi hn => by
    rw [hg.block i (by have := h.size; omega) (fun e => hn (hr i e.symm hi))]; exact h.block i hi hn⟩
theorem Fr.below (h : Fr (fun _ => False) w w') : Below w.heap.size w w' := ⟨h.os, h.tape, h.output, h.size, fun k hk => h.block k hk (fun e => e)⟩
theorem Fr.of_below (h : Below w.heap.size w w') : Fr S w w' := ⟨h.os, h.tape, h.output, h.size, fun k hk _ => h.block k hk⟩
theorem Fr.below_of {B : Nat} (h : Fr S w w') (hS : ∀ k, k < B → ¬ S k) (hB : B ≤ w.heap.size) : Below B w w' :=
  ⟨h.os, h.tape, h.output, h.size, fun k hk => h.block k (by omega) (hS k hk)⟩
theorem Fr.frozen (h : Fr S w w') {a : Addr} (hl : a.block < w.heap.size) (ha : ¬ S a.block) : w'.frozen? a = w.frozen? a := World.frozen?_of_block (h.block _ hl ha)
theorem Fr.cell (h : Fr S w w') {a : Addr} {v : Value} (hc : w.cell? a = some v) (ha : ¬ S a.block) : w'.cell? a = some v := by
  rw [← hc]; exact World.cell?_of_block (h.block _ (World.block_lt_of_cell? w a hc) ha)
end

/-- The call returns v; the heap may have grown, nothing that was there has changed. -/
def Quiet (v : Value) (w : World) (e : Ending) (w' : World) : Prop := e = .returned v ∧ Below w.heap.size w w'

theorem bcell {W w1 : World} (hb : Below W.heap.size W w1) : (∀ b o, b < W.heap.size → w1.cell? ⟨b, o, none⟩ = W.cell? ⟨b, o, none⟩) ∧ (∀ b o, b < W.heap.size → w1.frozen? ⟨b, o, none⟩ = W.frozen? ⟨b, o, none⟩) :=
  ⟨fun b o h => hb.cell (p := ⟨b, o, none⟩) h, fun b o h => hb.frozen (p := ⟨b, o, none⟩) h⟩

/-! ### owned rows -/
section
variable {w w' : World} {base : Nat} {e : TypeId} {size : Nat} {v : Value} {n : Nat} {xs : List Value}
theorem own_frame {S : Nat → Prop} (h : w.ownsRow base e size v n xs) (hf : Fr S w w') (hS : ∀ k, v.ownBlock = some k → ¬ S k) : w'.ownsRow base e size v n xs := by
  refine ⟨h.1, ?_⟩
  rcases h.2 with hn | ⟨g, cap, cur, rfl, hb, hgg, rest⟩
  · exact .inl hn
  · refine .inr ⟨g, cap, cur, rfl, hb, ?_, rest⟩
    rw [hf.block g (Array.getElem?_eq_some_iff.1 hgg).1 (hS g rfl)]
    exact hgg
theorem own_block (h : w.ownsRow base e size v n xs) {k : Nat} (hk : v.ownBlock = some k) : ∃ cur, w.heap[k]? = some (.cells cur e (0, 0)) := by
  rcases h.2 with ⟨rfl, _⟩ | ⟨g, cap, cur, rfl, hb, hgg, rest⟩
  · simp [Value.ownBlock] at hk
  · simp [Value.ownBlock] at hk; subst hk; exact ⟨cur, hgg⟩
theorem own_lt (h : w.ownsRow base e size v n xs) {k : Nat} (hk : v.ownBlock = some k) : k < w.heap.size := by
  obtain ⟨cur, hc⟩ := own_block h hk
  exact (Array.getElem?_eq_some_iff.1 hc).1
theorem own_form (h : w.ownsRow base e size v n xs) (hn : 0 < n) : ∃ g cap, v = .slice (some ⟨g, 0, none⟩) n cap ∧ n ≤ cap ∧ cap ≤ maxLen ∧ g < w.heap.size := by
  rcases h.2 with ⟨rfl, h0⟩ | ⟨g, cap, cur, rfl, hb, hgg, h1, h2, rest⟩
  · omega
  · exact ⟨g, cap, rfl, h1, h2, (Array.getElem?_eq_some_iff.1 hgg).1⟩
/-- Two rows of unlike element types lie in unlike blocks. -/
theorem own_ne {e' : TypeId} {size' : Nat} {v' : Value} {n' base' : Nat} {xs' : List Value} (h : w.ownsRow base e size v n xs) (h' : w.ownsRow base' e' size' v' n' xs') (hne : e ≠ e') {k k' : Nat}
    (hk : v.ownBlock = some k) (hk' : v'.ownBlock = some k') : k ≠ k' := by
  rintro rfl
  obtain ⟨c, hc⟩ := own_block h hk
  obtain ⟨c', hc'⟩ := own_block h' hk'
  rw [hc] at hc'
  cases hc'
  exact hne rfl
end

/-! ### a history in memory -/
structure View where
  vv : Value
  bv : Value
  sv : Value
  ml : List (Ln × Value)

def View.owns (m : View) (t k : Nat) : Prop :=
  k = t ∨ m.vv.ownBlock = some k ∨ m.bv.ownBlock = some k ∨ m.sv.ownBlock = some k ∨ ∃ x ∈ m.ml, x.2.ownBlock = some k

structure Rep (w : World) (T t : Nat) (H : Hist) (m : View) : Prop where
  tt : T = 67 ∨ T = 56
  blk : w.heap[t]? = some (.cells #[m.vv, m.bv, m.sv, .string H.cur] T (0, 0))
  vs : w.ownsRow 0 40 2 m.vv H.vs.length (verCells H.vs)
  bs : w.ownsRow 0 65 3 m.bv m.ml.length (lnCells m.ml)
  ss : w.ownsRow 0 78 2 m.sv H.ss.length (lbCells H.ss)
  rd : ∀ x ∈ m.ml, w.ownsRow 0 3 1 x.2 x.1.rd.length (intCells x.1.rd)
  ml : H.bs = m.ml.map (·.1)
  dis : (m.ml.map (·.2.ownBlock)).Pairwise fun a b => a = none ∨ a ≠ b

section
variable {w w' : World} {T t : Nat} {H : Hist} {m : View}
theorem Rep.lt (h : Rep w T t H m) {k : Nat} (hk : m.owns t k) : k < w.heap.size := by
  rcases hk with rfl | hk | hk | hk | ⟨x, hx, hk⟩
  · exact (Array.getElem?_eq_some_iff.1 h.blk).1
  · exact own_lt h.vs hk
  · exact own_lt h.bs hk
  · exact own_lt h.ss hk
  · exact own_lt (h.rd x hx) hk
theorem Rep.frame {S : Nat → Prop} (h : Rep w T t H m) (hf : Fr S w w') (hS : ∀ k, m.owns t k → ¬ S k) : Rep w' T t H m where
  tt := h.tt
  blk := by rw [hf.block t (h.lt (.inl rfl)) (hS t (.inl rfl))]; exact h.blk
  vs := own_frame h.vs hf fun k hk => hS k (.inr (.inl hk))
  bs := own_frame h.bs hf fun k hk => hS k (.inr (.inr (.inl hk)))
  ss := own_frame h.ss hf fun k hk => hS k (.inr (.inr (.inr (.inl hk))))
  rd := fun x hx => own_frame (h.rd x hx) hf fun k hk => hS k (.inr (.inr (.inr (.inr ⟨x, hx, hk⟩))))
  ml := h.ml
  dis := h.dis
theorem Rep.below (h : Rep w T t H m) (hb : Below w.heap.size w w') : Rep w' T t H m := h.frame (S := fun _ => False) (Fr.of_below hb) (fun _ _ e => e)
end

theorem cell_of_blk {w : World} {t : Nat} {c : Array Value} {T : Nat} {fz : Nat × Nat} (h : w.heap[t]? = some (.cells c T fz)) (i : Nat) : w.cell? ⟨t, i, none⟩ = c[i]? := by
  simp [World.cell?, h]
theorem frozen_of_blk {w : World} {t : Nat} {c : Array Value} {T : Nat} (h : w.heap[t]? = some (.cells c T (0, 0))) (i : Nat) : w.frozen? ⟨t, i, none⟩ = false := by
  simp [World.frozen?, h]

end Go.Proofs.Ytalmfmijjbpnpaa
