/-
  Frames; the mill's tape of numbers: walks of Mod, New, More, Next, Range.
-/
import Derived.Test.YtfdaghhplijpeaaGreatDoorChecked
import Derived.WalkKit
import Derived.WalkSpells
import Derived.WalkLawsBesides
import Derived.BigQuiet
import Derived.Lib.Hide
import Derived.IntWalk
import Derived.Maps.AppendAt
import Derived.Deep.LoopGhost
import Derived.Deep.RegionHeld3
namespace Go.Proofs.YtfdaghhplijpeaaGreatDoor
open Go Go.RowKit

/-! ### frames -/
/-- w' is w with new blocks, and of the old ones at most those of S have changed. -/
structure Fr (S : Nat → Prop) (w w' : World) : Prop where
  os : w'.os = w.os
  tape : w'.tape = w.tape
  output : w'.output = w.output
  size : w.heap.size ≤ w'.heap.size
  block : ∀ k, k < w.heap.size → ¬ S k → w'.heap[k]? = w.heap[k]?

section
variable {S S' : Nat → Prop} {w w' w'' : World}
theorem Fr.refl (S : Nat → Prop) (w : World) : Fr S w w := ⟨rfl, rfl, rfl, Nat.le_refl _, fun _ _ _ => rfl⟩
theorem Fr.trans (h : Fr S w w') (k : Fr S' w' w'') (hS : ∀ k, k < w.heap.size → S' k → S k) : Fr S w w'' :=
  ⟨k.os.trans h.os, k.tape.trans h.tape, k.output.trans h.output, Nat.le_trans h.size k.size, fun i hi hn =>
    (k.block i (Nat.lt_of_lt_of_le hi h.size) (fun e => hn (hS i hi e))).trans (h.block i hi hn)⟩
theorem Fr.mono (h : Fr S w w') (hS : ∀ k, k < w.heap.size → S k → S' k) : Fr S' w w' :=
  ⟨h.os, h.tape, h.output, h.size, fun i hi hn => h.block i hi (fun e => hn (hS i hi e))⟩
theorem Fr.drew (h : Fr S w w') : Fr S w w'.drew := ⟨h.os, h.tape, h.output, h.size, h.block⟩
theorem Fr.drewN (h : Fr S w w') (n : Nat) : Fr S w (w'.drewN n) := ⟨h.os, h.tape, h.output, h.size, h.block⟩
theorem Fr.alloc (h : Fr S w w') (o : Obj) : Fr S w (w'.alloc o) :=
  ⟨h.os, h.tape, h.output, by have := h.size; simp; omega, fun i hi hn => by rw [Below.heap_alloc _ _ _ (by have := h.size; omega)]; exact h.block i hi hn⟩
theorem Fr.setCell (h : Fr S w w') {a : Addr} (u : Value) (ha : a.block < w.heap.size → S a.block) : Fr S w (w'.setCell a u) :=
  ⟨h.os, h.tape, h.output, by have := h.size; simpa [World.setCell] using this, fun i hi hn => by
    rw [Below.heap_setCell _ _ _ _ (fun e => by subst e; exact hn (ha hi))]; exact h.block i hi hn⟩
theorem Fr.grown (h : Fr S w w') {row : Option Nat} (hg : w'.grownBy w'' row) (hr : ∀ k, row = some k → k < w.heap.size → S k) : Fr S w w'' :=
  ⟨hg.os.trans h.os, hg.tape.trans h.tape, hg.output.trans h.output, Nat.le_trans h.size hg.size, fun i hi hn => by
    rw [hg.block i (by have := h.size; omega) (fun e => hn (hr i e.symm hi))]; exact h.block i hi hn⟩
theorem Fr.below (h : Fr (fun _ => False) w w') : Below w.heap.size w w' := ⟨h.os, h.tape, h.output, h.size, fun k hk => h.block k hk (fun e => e)⟩
theorem Fr.of_below (h : Below w.heap.size w w') : Fr S w w' := ⟨h.os, h.tape, h.output, h.size, fun k hk _ => h.block k hk⟩
theorem Fr.below_of {B : Nat} (h : Fr S w w') (hS : ∀ k, k < B → ¬ S k) (hB : B ≤ w.heap.size) : Below B w w' :=
  ⟨h.os, h.tape, h.output, h.size, fun k hk => h.block k (by omega) (hS k hk)⟩
theorem Fr.frozen (h : Fr S w w') {a : Addr} (hl : a.block < w.heap.size) (ha : ¬ S a.block) : w'.frozen? a = w.frozen? a := World.frozen?_of_block (h.block _ hl ha)
theorem Fr.cell (h : Fr S w w') {a : Addr} {v : Value} (hc : w.cell? a = some v) (ha : ¬ S a.block) : w'.cell? a = some v := by
  rw [← hc]; exact World.cell?_of_block (h.block _ (World.block_lt_of_cell? w a hc) ha)
end

/-- The call returns v; the heap may have grown, nothing that was there has changed. -/
def Quiet (v : Value) (w : World) (e : Ending) (w' : World) : Prop := e = .returned v ∧ Below w.heap.size w w'

theorem bcell {W w1 : World} (hb : Below W.heap.size W w1) : (∀ b o, b < W.heap.size → w1.cell? ⟨b, o, none⟩ = W.cell? ⟨b, o, none⟩) ∧ (∀ b o, b < W.heap.size → w1.frozen? ⟨b, o, none⟩ = W.frozen? ⟨b, o, none⟩) :=
  ⟨fun b o h => hb.cell (p := ⟨b, o, none⟩) h, fun b o h => hb.frozen (p := ⟨b, o, none⟩) h⟩

/-! ### owned rows -/
section
variable {w w' : World} {base : Nat} {e : TypeId} {size : Nat} {v : Value} {n : Nat} {xs : List Value}
theorem own_frame {S : Nat → Prop} (h : w.ownsRow base e size v n xs) (hf : Fr S w w') (hS : ∀ k, v.ownBlock = some k → ¬ S k) : w'.ownsRow base e size v n xs := by
  refine ⟨h.1, ?_⟩
  rcases h.2 with hn | ⟨g, cap, cur, rfl, hb, hgg, rest⟩
  · exact .inl hn
  · refine .inr ⟨g, cap, cur, rfl, hb, ?_, rest⟩
    rw [hf.block g (Array.getElem?_eq_some_iff.1 hgg).1 (hS g rfl)]
    exact hgg
theorem own_block (h : w.ownsRow base e size v n xs) {k : Nat} (hk : v.ownBlock = some k) : ∃ cur, w.heap[k]? = some (.cells cur e (0, 0)) := by
  rcases h.2 with ⟨rfl, _⟩ | ⟨g, cap, cur, rfl, hb, hgg, rest⟩
  · simp [Value.ownBlock] at hk
  · simp [Value.ownBlock] at hk; subst hk; exact ⟨cur, hgg⟩
theorem own_lt (h : w.ownsRow base e size v n xs) {k : Nat} (hk : v.ownBlock = some k) : k < w.heap.size := by
  obtain ⟨cur, hc⟩ := own_block h hk
  exact (Array.getElem?_eq_some_iff.1 hc).1
theorem own_form (h : w.ownsRow base e size v n xs) (hn : 0 < n) : ∃ g cap, v = .slice (some ⟨g, 0, none⟩) n cap ∧ n ≤ cap ∧ cap ≤ maxLen ∧ g < w.heap.size := by
  rcases h.2 with ⟨rfl, h0⟩ | ⟨g, cap, cur, rfl, hb, hgg, h1, h2, rest⟩
  · omega
  · exact ⟨g, cap, rfl, h1, h2, (Array.getElem?_eq_some_iff.1 hgg).1⟩
/-- Two rows of unlike element types lie in unlike blocks. -/
theorem own_ne {e' : TypeId} {size' : Nat} {v' : Value} {n' base' : Nat} {xs' : List Value} (h : w.ownsRow base e size v n xs) (h' : w.ownsRow base' e' size' v' n' xs') (hne : e ≠ e') {k k' : Nat}
    (hk : v.ownBlock = some k) (hk' : v'.ownBlock = some k') : k ≠ k' := by
  rintro rfl
  obtain ⟨c, hc⟩ := own_block h hk
  obtain ⟨c', hc'⟩ := own_block h' hk'
  rw [hc] at hc'
  cases hc'
  exact hne rfl
end

theorem cell_of_blk {w : World} {t : Nat} {c : Array Value} {T : Nat} {fz : Nat × Nat} (h : w.heap[t]? = some (.cells c T fz)) (i : Nat) : w.cell? ⟨t, i, none⟩ = c[i]? := by
  simp [World.cell?, h]
theorem frozen_of_blk {w : World} {t : Nat} {c : Array Value} {T : Nat} (h : w.heap[t]? = some (.cells c T (0, 0))) (i : Nat) : w.frozen? ⟨t, i, none⟩ = false := by
  simp [World.frozen?, h]

theorem tmod_cases (v n : Int) (hn : 1 ≤ n) : (v % n = v.tmod n ∧ 0 ≤ v.tmod n) ∨ (v % n = v.tmod n + n ∧ v.tmod n < 0 ∧ -n < v.tmod n) := by
  have hm0 := Int.emod_nonneg v (b := n) (by omega)
  have hm1 := Int.emod_lt_of_pos v (b := n) (by omega)
  rcases Int.le_total 0 v with h | h
  · exact .inl ⟨(Int.tmod_eq_emod_of_nonneg h).symm, by rw [Int.tmod_eq_emod_of_nonneg h]; exact hm0⟩
  · have e : v.tmod n = -((-v) % n) := by
      have := Int.neg_tmod v n
      rw [Int.tmod_eq_emod_of_nonneg (a := -v) (by omega)] at this
      omega
    have hk0 := Int.emod_nonneg (-v) (b := n) (by omega)
    have hk1 := Int.emod_lt_of_pos (-v) (b := n) (by omega)
    have hd := Int.emod_add_mul_ediv (-v) n
    by_cases hz : (-v) % n = 0
    · left
      have : v % n = 0 := by
        have h1 : n ∣ -v := Int.dvd_of_emod_eq_zero hz
        exact Int.emod_eq_zero_of_dvd ((Int.dvd_neg).1 h1)
      rw [e, hz, this]; simp
    · right
      have : v % n = n - (-v) % n := by
        have h2 : v = (n - (-v) % n) + n * (-((-v) / n) - 1) := by
          have := Int.mul_sub n (-((-v) / n)) 1
          have h3 := Int.mul_neg n ((-v) / n)
          omega
        have h4 := Int.add_mul_emod_self_left (n - (-v) % n) n (-((-v) / n) - 1)
        rw [← h2] at h4
        rw [h4]
        exact Int.emod_eq_of_lt (by omega) (by omega)
      omega

theorem mod_neg (v n : Int) (hn : 1 ≤ n) (hn' : n ≤ 9223372036854775807) (_hv : -9223372036854775808 ≤ v) (h : v.tmod n < 0) : wrap64 (v.tmod n + n) = v % n := by
  rcases tmod_cases v n hn with ⟨_, h2⟩ | ⟨h1, _, h3⟩
  · omega
  · rw [h1]; exact IntWalk.wrap64_in _ ⟨by omega, by omega⟩

theorem mod_pos (v n : Int) (hn : 1 ≤ n) (h : 0 ≤ v.tmod n) : v.tmod n = v % n := by
  rcases tmod_cases v n hn with ⟨h1, _⟩ | ⟨_, h2, _⟩
  · exact h1.symm
  · omega

set_option maxHeartbeats 400000 in
theorem mod_any (v n : Int) (hn : 1 ≤ n) (hn' : n ≤ 9223372036854775807) (hv : -9223372036854775808 ≤ v) (w : World) :
    Calls Tryz.prog 42 #[.int .i64 v, .int .i64 n] w fun e w' => e = .returned (.int .i64 (v % n)) ∧ w' = w := by
  go_enter Tryz.func42, Tryz.ntmps42
  go_wp2
  all_goals go_ret
  · rename_i h
    exact ⟨by rw [mod_neg v n hn hn' hv h]; rfl, rfl⟩
  · rename_i h
    exact ⟨by rw [mod_pos v n hn h]; rfl, rfl⟩

/-! ### the tape -/
/-- A tape lies in block p: its list is the slice v, of which 'at' numbers have been taken. -/
def TapeB (w : World) (p : Nat) (v : Value) (at_ : Nat) : Prop := w.heap[p]? = some (.cells #[v, .int .i64 at_] 86 (0, 0))
/-- The list of a tape: n numbers, none of them in block p. -/
def ListB (w : World) (p : Nat) (v : Value) (n : Nat) : Prop :=
  n ≤ 1000 ∧ ∃ a c, v = .slice a n c ∧ ∀ j, j < n → ∃ b x, a = some b ∧ b.block ≠ p ∧ -9223372036854775808 ≤ x ∧ w.cell? (b.add j) = some (.int .i64 x)
theorem ListB.frame {w w' : World} {p : Nat} {v : Value} {n : Nat} {S : Nat → Prop} (h : ListB w p v n) (hf : Fr S w w') (hS : ∀ k, S k → k = p ∨ w.heap.size ≤ k) : ListB w' p v n := by
  obtain ⟨hn, a, c, rfl, h⟩ := h
  refine ⟨hn, a, c, rfl, fun j hj => ?_⟩
  obtain ⟨b, x, h1, h2, h3, h4⟩ := h j hj
  refine ⟨b, x, h1, h2, h3, hf.cell h4 fun e => ?_⟩
  have hb : (b.add j).block = b.block := by unfold Addr.add; split <;> rfl
  have := World.block_lt_of_cell? w _ h4
  rcases hS _ e with e | e
  · rw [hb] at e; exact h2 e
  · omega
theorem TapeB.frame {w w' : World} {p : Nat} {v : Value} {k : Nat} {S : Nat → Prop} (h : TapeB w p v k) (hf : Fr S w w') (hS : ¬ S p) : TapeB w' p v k :=
  (hf.block p (Array.getElem?_eq_some_iff.1 h).1 hS).trans h
theorem TapeB.cells {w : World} {p : Nat} {v : Value} {k : Nat} (h : TapeB w p v k) : w.cell? ⟨p, 0, none⟩ = some v ∧ w.cell? ⟨p, 1, none⟩ = some (.int .i64 k) :=
  ⟨cell_of_blk h 0, cell_of_blk h 1⟩
theorem add_block (b : Addr) (k : Nat) : (b.add k).block = b.block := by unfold Addr.add; split <;> rfl
theorem TapeB.lt {w : World} {p : Nat} {v : Value} {k : Nat} (h : TapeB w p v k) : p < w.heap.size := (Array.getElem?_eq_some_iff.1 h).1
set_option maxHeartbeats 400000 in
theorem more_calls {w : World} {p n k : Nat} {v : Value} (ht : TapeB w p v k) (hl : ListB w p v n) :
    Calls Tryz.prog 17 #[.pointer (some ⟨p, 0, none⟩)] w fun e w' => e = .returned (.bool (decide (k < n))) ∧ Fr (fun _ => False) w w' := by
  obtain ⟨hn, a, c, rfl, _⟩ := hl
  obtain ⟨c0, c1⟩ := ht.cells
  clear ht
  go_enter Tryz.func17, Tryz.ntmps17
  go_wp2_with (go_quiet (fail))
  go_ret
  exact ⟨rfl, (Fr.refl _ w).drewN _⟩
/-- A number below m has been taken, if there was one. -/
def NextP (w : World) (p : Nat) (v : Value) (n k : Nat) (lo m : Int) (e : Ending) (w' : World) : Prop :=
  ∃ (r : Int) (k' : Nat), e = .returned (.int .i64 r) ∧ lo ≤ r ∧ r < m ∧ k ≤ k' ∧ (k < n → k' = k + 1) ∧ (k ≤ n → k' ≤ n) ∧ TapeB w' p v k' ∧ Fr (· = p) w w'
theorem tape_set {w : World} {p : Nat} {v : Value} {k : Nat} (ht : TapeB w p v k) : TapeB (w.setCell ⟨p, 1, none⟩ (.int .i64 ((k + 1 : Nat) : Int))) p v (k + 1) := by
  unfold TapeB at *
  unfold World.setCell
  simp only [Array.getElem?_modify, ht]
  simp
set_option maxHeartbeats 1000000 in
theorem next_calls {w : World} {p n k : Nat} {v : Value} (ht : TapeB w p v k) (hl : ListB w p v n) (m : Int) (hm : 1 ≤ m) (hm' : m ≤ 1000000) :
    Calls Tryz.prog 21 #[.pointer (some ⟨p, 0, none⟩), .int .i64 m] w (NextP w p v n k 0 m) := by
  obtain ⟨hn, a, c, rfl, hx⟩ := hl
  obtain ⟨c0, c1⟩ := ht.cells
  have c1f := frozen_of_blk ht 1
  by_cases hk : k < n
  · obtain ⟨b, x, rfl, hb, hx0, hxc⟩ := hx k hk
    have HT := Lib.hid ht
    have HX := Lib.hid hx0
    clear ht hx hx0
    go_enter Tryz.func21, Tryz.ntmps21
    go_wp2_with (go_quiet (fail))
    have d0 : ((w.drewN nq).setCell ⟨p, 1, none⟩ (.int .i64 ((k : Int) + 1))).cell? ⟨p, 0, none⟩ = some (.slice (some b) n c) := (tape_set (HT.out.frame ((Fr.refl (fun _ => False) w).drewN nq) (fun h => h))).cells.1
    have d1 : ((w.drewN nq).setCell ⟨p, 1, none⟩ (.int .i64 ((k : Int) + 1))).cell? ⟨p, 1, none⟩ = some (.int .i64 ((k : Int) + 1)) := (tape_set (HT.out.frame ((Fr.refl (fun _ => False) w).drewN nq) (fun h => h))).cells.2
    have hF : Fr (· = p) w ((w.drewN nq).setCell ⟨p, 1, none⟩ (.int .i64 ((k : Int) + 1))) := ((Fr.refl (· = p) w).drewN nq).setCell _ (fun _ => rfl)
    have dx := hF.cell hxc (by rw [add_block]; exact hb)
    have hT : TapeB ((w.drewN nq).setCell ⟨p, 1, none⟩ (.int .i64 ((k : Int) + 1))) p (.slice (some b) n c) (k + 1) := tape_set (HT.out.frame ((Fr.refl (fun _ => False) w).drewN nq) (fun h => h))
    generalize (w.drewN nq).setCell ⟨p, 1, none⟩ (.int .i64 ((k : Int) + 1)) = w2 at d0 d1 hF dx hT ⊢
    have HF := Lib.hid hF
    have HT2 := Lib.hid hT
    clear hF hT c0 c1 c1f hxc
    have hk0 : (0 : Int) ≤ (k : Int) := by omega
    have hkn : (k : Int) < (n : Int) := by omega
    have hw : IntKind.i64.wrap (k : Int) = (k : Int) := IntWalk.i64_in _ ⟨by omega, by omega⟩
    go_region_held3 (fun w' => w'.cell? ⟨p, 0, none⟩ = some (.slice (some b) n c) ∧ w'.cell? ⟨p, 1, none⟩ = some (.int .i64 ((k : Int) + 1)) ∧ w'.cell? (b.add k) = some (.int .i64 x)) (exact ⟨d0, d1, dx⟩) (first | (go_at_call 42; refine (mod_any x m hm (by omega) HX.out _).mono ?_; rintro e w8 ⟨rfl, rfl⟩))
    all_goals
      go_wp2_with fail
      go_ret
      exact ⟨x % m, k + 1, rfl, Int.emod_nonneg _ (by omega), Int.emod_lt_of_pos _ (by omega), by omega, fun _ => rfl, fun h => by omega, HT2.out.frame ((Fr.refl (fun _ => False) w2).drew) (fun h => h), HF.out.drew⟩
  · clear hx
    have HT := Lib.hid ht
    clear ht
    go_enter Tryz.func21, Tryz.ntmps21
    go_wp2_with (go_quiet (fail))
    go_ret
    exact ⟨0, k, rfl, by omega, by omega, by omega, fun h => absurd h hk, fun h => h, HT.out.frame ((Fr.refl (fun _ => False) w).drewN _) (fun h => h), (Fr.refl _ w).drewN _⟩
set_option maxHeartbeats 1000000 in
theorem range_calls {w : World} {p n k : Nat} {v : Value} (ht : TapeB w p v k) (hl : ListB w p v n) (lo hi : Int) (h0 : -1000 ≤ lo) (h1 : lo ≤ hi) (h2 : hi ≤ 1000) :
    Calls Tryz.prog 20 #[.pointer (some ⟨p, 0, none⟩), .int .i64 lo, .int .i64 hi] w (NextP w p v n k lo (hi + 1)) := by
  have HT := Lib.hid ht
  have HL := Lib.hid hl
  clear ht hl
  go_enter Tryz.func20, Tryz.ntmps20
  go_wp2_with fail
  refine (next_calls HT.out HL.out (hi - lo + 1) (by omega) (by omega)).mono ?_
  rintro e w1 ⟨r, k', rfl, hr0, hr1, hk⟩
  have HK := Lib.hid hk
  clear hk
  go_wp2_with fail
  go_ret
  exact ⟨lo + r, k', rfl, by omega, by omega, HK.out⟩
theorem new_calls {w : World} {v : Value} {a : Option Addr} {n c : Nat} (hv : v = .slice a n c) :
    Calls Tryz.prog 16 #[v] w fun e w' => e = .returned (.pointer (some ⟨w.heap.size, 0, none⟩)) ∧ TapeB w' w.heap.size v 0 ∧ Fr (fun _ => False) w w' := by
  subst hv
  go_enter Tryz.func16, Tryz.ntmps16
  go_wp2_with fail
  go_ret
  exact ⟨rfl, by show (w.heap.push _)[w.heap.size]? = _; simp, (Fr.refl _ w).alloc _⟩
end Go.Proofs.YtfdaghhplijpeaaGreatDoor
/-
  Nodes as plain data; walks of Operands, Args and the two functions operands.
-/
namespace Go.Proofs.YtfdaghhplijpeaaGreatDoor
open Go Go.RowKit

structure Nd where
  k : Int
  a : Int
  b : Int
  n : Int
  t : ByteArray
def ndCells (x : Nd) : List Value := [.int .i64 x.k, .int .i64 x.a, .int .i64 x.b, .int .i64 x.n, .string x.t]
def ndVal (x : Nd) : Value := .agg #[.int .i64 x.k, .int .i64 x.a, .int .i64 x.b, .int .i64 x.n, .string x.t]
def ndsCells (l : List Nd) : List Value := l.flatMap ndCells
/-- How many operands a kind has. -/
def arity (k : Int) : Nat := if k ≤ 4 then 0 else if 6 ≤ k ∧ k ≤ 9 then 2 else 1
def args (x : Nd) : List Int := if arity x.k = 0 then [] else if arity x.k = 1 then [x.a] else [x.a, x.b]
theorem kinds {k : Int} (h1 : 1 ≤ k) (h2 : k ≤ 16) : k = 1 ∨ k = 2 ∨ k = 3 ∨ k = 4 ∨ k = 5 ∨ k = 6 ∨ k = 7 ∨ k = 8 ∨ k = 9 ∨ k = 10 ∨ k = 11 ∨ k = 12 ∨ k = 13 ∨ k = 14 ∨ k = 15 ∨ k = 16 := by omega
set_option maxHeartbeats 2000000 in
theorem operands_calls {k : Int} (h1 : 1 ≤ k) (h2 : k ≤ 16) (w : World) :
    Calls Tryz.prog 47 #[.int .i64 k] w fun e w' => e = .returned (.int .i64 (arity k : Int)) ∧ w' = w := by
  rcases kinds h1 h2 with rfl | rfl | rfl | rfl | rfl | rfl | rfl | rfl | rfl | rfl | rfl | rfl | rfl | rfl | rfl | rfl
  all_goals
    clear h1 h2
    go_enter Tryz.func47, Tryz.ntmps47
    go_wp2
    go_ret
    exact ⟨rfl, rfl⟩
/-- The call returns a new row with the operands of x. -/
def ArgsP (w : World) (x : Nd) (v : Value) (w' : World) : Prop :=
  Below w.heap.size w w' ∧ w'.ownsRow w.heap.size 3 1 v (args x).length ((args x).map (.int .i64))
theorem argsP_0 {w : World} {x : Nd} (h : arity x.k = 0) : ArgsP w x (.slice none 0 0) (w.alloc (.cells ⟨ndCells x⟩ 63)) := by
  refine ⟨(Below.refl _ _).alloc (Nat.le_refl _) _, ?_⟩
  have : args x = [] := by unfold args; rw [if_pos h]
  rw [this]
  exact World.ownsRow_nil _ _ _ _
theorem argsP_1 {w : World} {x : Nd} (h : arity x.k = 1) : ArgsP w x (.slice (some ⟨w.heap.size + 1, 0, none⟩) 1 1) ((w.alloc (.cells ⟨ndCells x⟩ 63)).alloc (.cells #[.int .i64 x.a] 3)) := by
  refine ⟨((Below.refl _ _).alloc (Nat.le_refl _) _).alloc (by simp) _, ?_⟩
  have : args x = [x.a] := by unfold args; rw [if_neg (by omega), if_pos h]
  rw [this]
  have := World.ownsRow_lit (base := w.heap.size) (e := 3) (size := 1) (w.alloc (.cells ⟨ndCells x⟩ 63)) #[.int .i64 x.a] 1 (by simp) (by unfold maxLen; omega) rfl
  simpa using this
theorem argsP_2 {w : World} {x : Nd} (h : arity x.k = 2) : ArgsP w x (.slice (some ⟨w.heap.size + 1, 0, none⟩) 2 2) ((w.alloc (.cells ⟨ndCells x⟩ 63)).alloc (.cells #[.int .i64 x.a, .int .i64 x.b] 3)) := by
  refine ⟨((Below.refl _ _).alloc (Nat.le_refl _) _).alloc (by simp) _, ?_⟩
  have : args x = [x.a, x.b] := by unfold args; rw [if_neg (by omega), if_neg (by omega)]
  rw [this]
  have := World.ownsRow_lit (base := w.heap.size) (e := 3) (size := 1) (w.alloc (.cells ⟨ndCells x⟩ 63)) #[.int .i64 x.a, .int .i64 x.b] 2 (by simp) (by unfold maxLen; omega) rfl
  simpa using this
set_option maxHeartbeats 4000000 in
theorem appOps_calls {x : Nd} (h1 : 1 ≤ x.k) (h2 : x.k ≤ 16) (w : World) :
    Calls Tryz.prog 27 #[ndVal x] w fun e w' => ∃ v, e = .returned v ∧ ArgsP w x v w' := by
  obtain ⟨k, a, b, n, t⟩ := x
  have q0 := @argsP_0 w ⟨k, a, b, n, t⟩
  have q1 := @argsP_1 w ⟨k, a, b, n, t⟩
  have q2 := @argsP_2 w ⟨k, a, b, n, t⟩
  have Q := Lib.hid (And.intro q0 (And.intro q1 q2))
  clear q0 q1 q2
  unfold ndVal
  simp only at h1 h2 ⊢
  rcases kinds h1 h2 with rfl | rfl | rfl | rfl | rfl | rfl | rfl | rfl | rfl | rfl | rfl | rfl | rfl | rfl | rfl | rfl
  all_goals
    clear h1 h2
    go_enter Tryz.func27, Tryz.ntmps27
    go_wp2
    go_ret
    first | exact ⟨_, rfl, Q.out.1 rfl⟩ | exact ⟨_, rfl, Q.out.2.1 rfl⟩ | exact ⟨_, rfl, Q.out.2.2 rfl⟩
end Go.Proofs.YtfdaghhplijpeaaGreatDoor
