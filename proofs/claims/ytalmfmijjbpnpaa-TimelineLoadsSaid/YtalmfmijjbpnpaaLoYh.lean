/-
  Walks of the tape (New, More, Next).
-/
import Derived.Test.YtalmfmijjbpnpaaLoX
namespace Go.Proofs.Ytalmfmijjbpnpaa
open Go.RowKit

/-- A tape at p, over a row of n numbers, k of which were taken. -/
def TapeAt (w : World) (p : Nat) (a : Option Addr) (n c k : Nat) : Prop := k ≤ n ∧ w.heap[p]? = some (.cells #[.slice a n c, .int .i64 (k : Int)] 103 (0, 0))

section
variable {w : World}

def NewT (a : Option Addr) (n c : Nat) (w : World) (e : Ending) (w' : World) : Prop := ∃ p, e = .returned (.pointer (some ⟨p, 0, none⟩)) ∧ w.heap.size ≤ p ∧ TapeAt w' p a n c 0 ∧ Below w.heap.size w w'

set_option maxHeartbeats 400000 in
theorem new41 (a : Option Addr) (n c : Nat) : Calls Try.prog 41 #[.slice a n c] w (NewT a n c w) := by
  go_enter Try.func41, Try.ntmps41
  go_wp2_with fail
  go_ret
  exact ⟨w.heap.size, rfl, Nat.le_refl _, ⟨Nat.zero_le _, heap_alloc_new w _⟩, (Below.refl _ _).alloc (Nat.le_refl _) _⟩

set_option maxHeartbeats 400000 in
theorem more42 {p : Nat} {a : Option Addr} {n c k : Nat} (h : TapeAt w p a n c k) : Calls Try.prog 42 #[.pointer (some ⟨p, 0, none⟩)] w (Quiet (.bool (decide (k < n))) w) := by
  have c0 : w.cell? ⟨p, 0, none⟩ = some (.slice a n c) := by rw [cell_of_blk h.2]; rfl
  have c1 : w.cell? ⟨p, 1, none⟩ = some (.int .i64 (k : Int)) := by rw [cell_of_blk h.2]; rfl
  have hd : decide ((k : Int) < n) = decide (k < n) := by simp
  have HD := Lib.hid hd
  clear h hd
  go_enter Try.func42, Try.ntmps42
  go_wp2_with fail
  go_region
  all_goals
    go_wp2_with fail
    go_ret
    exact ⟨by simp, (Below.refl _ _).drew⟩

/-- Next takes a number, where there is one. -/
def Nxt (p : Nat) (a : Option Addr) (n c k : Nat) (N : Nat) (w : World) (e : Ending) (w' : World) : Prop :=
  ∃ j k' : Nat, e = .returned (.int .i64 (j : Int)) ∧ j < N ∧ k ≤ k' ∧ (k < n → k < k') ∧ TapeAt w' p a n c k' ∧ Fr (fun q => q = p) w w'

theorem nxt_mk {p n c k j N : Nat} {a : Option Addr} (hb : w.heap[p]? = some (.cells #[.slice a n c, .int .i64 (k : Int)] 103 (0, 0))) (hk : k < n) (hj : j < N) :
    Nxt p a n c k N w (.returned (.int .i64 (j : Int))) (w.setCell ⟨p, 1, none⟩ (.int .i64 ((k : Int) + 1))).drew.drew := by
  refine ⟨j, k + 1, rfl, hj, by omega, fun _ => by omega, ⟨by omega, ?_⟩, (((Fr.refl (fun q => q = p) w).setCell _ (fun _ => rfl)).drew).drew⟩
  have := blk_setCell hb 1 (.int .i64 ((k : Int) + 1))
  rw [show (w.setCell ⟨p, 1, none⟩ (.int .i64 ((k : Int) + 1))).drew.drew.heap[p]? = (w.setCell ⟨p, 1, none⟩ (.int .i64 ((k : Int) + 1))).heap[p]? from rfl, this]
  rfl

set_option maxHeartbeats 1000000 in
theorem next43 {W0 : World} {p : Nat} {a : Option Addr} {n c k : Nat} {f : Nat → Int} (h : TapeAt w p a n c k) (hr : RowF W0 a n f) (hb0 : Below W0.heap.size W0 w) (hp0 : W0.heap.size ≤ p) (N : Nat) (hN : 1 ≤ N) (hN' : N ≤ 1000) :
    Calls Try.prog 43 #[.pointer (some ⟨p, 0, none⟩), .int .i64 (N : Int)] w (Nxt p a n c k N w) := by
  have hkn := h.1
  have hblk := h.2
  have hp : p < w.heap.size := (Array.getElem?_eq_some_iff.1 hblk).1
  have c0 : w.cell? ⟨p, 0, none⟩ = some (.slice a n c) := by rw [cell_of_blk hblk]; rfl
  have c1 : w.cell? ⟨p, 1, none⟩ = some (.int .i64 (k : Int)) := by rw [cell_of_blk hblk]; rfl
  have f1 := frozen_of_blk hblk 1
  have hn63 : n ≤ maxLen := hr.1
  unfold maxLen at hn63
  by_cases hlt : k < n
  · obtain ⟨x, rfl, hc, hf1, hf2⟩ := hr.2 k hlt
    have hxl : (x.add k).block < W0.heap.size := World.block_lt_of_cell? W0 _ hc
    have hcw : w.cell? (x.add k) = some (.int .i64 (f k)) := (hb0.cell hxl).trans hc
    have hxp : (x.add k).block ≠ p := by omega
    have HB := Lib.hid hblk
    have hlt' : (k : Int) < n := by omega
    have hk0 : (0 : Int) ≤ k := by omega
    have hk63 : (k : Int) ≤ 9223372036854775806 := by omega
    have hw1 : IntKind.i64.wrap (k : Int) = k := by simp [IntKind.wrap, IntKind.bits, IntKind.signed]; omega
    have hcs : (w.setCell ⟨p, 1, none⟩ (.int .i64 ((k : Int) + 1))).cell? (x.add k) = some (.int .i64 (f k)) := (fr_setCell w ⟨p, 1, none⟩ (.int .i64 ((k : Int) + 1))).cell hcw hxp
    have hw2 : wrap64 ((k : Int) + 1 - 1) = k := by rw [Int.add_sub_cancel]; exact IntWalk.wrap64_in _ ⟨by omega, by omega⟩
    have hMod := Lib.hid (fun w' => mod_any (f k) N (by omega) (by omega) hf1 hf2 w')
    obtain ⟨j, hj⟩ : ∃ j : Nat, f k % (N : Int) = j := ⟨(f k % (N : Int)).toNat, by rw [Int.toNat_of_nonneg (Int.emod_nonneg _ (by omega))]⟩
    have hjl : j < N := by have := Int.emod_lt_of_pos (f k) (b := (N : Int)) (by omega); omega
    rw [hj] at hMod
    clear hblk h hr hc hj hf1 hf2 hb0 hp0 hxl
    go_enter Try.func43, Try.ntmps43
    go_wp2_with fail
    go_region
    all_goals
      go_wp2_with fail
      go_region_with ((go_at_call 12; refine (hMod.out _).mono ?_; rintro e w' ⟨rfl, rfl⟩))
      all_goals
        go_wp2_with fail
        go_ret
        exact nxt_mk HB.out hlt hjl
  · obtain rfl : k = n := by omega
    have HB := Lib.hid hblk
    clear hblk h hr hb0
    go_enter Try.func43, Try.ntmps43
    go_wp2_with fail
    go_region
    all_goals
      go_wp2_with fail
      go_ret
      exact ⟨0, k, rfl, by omega, Nat.le_refl _, fun h => absurd h (Nat.lt_irrefl _), ⟨Nat.le_refl _, HB.out⟩, (Fr.refl _ _).drew⟩

end

end Go.Proofs.Ytalmfmijjbpnpaa
