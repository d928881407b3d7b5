/-
  Walk of Parts at a number that is no node; of the reference's find.
-/
import Derived.Test.YtfdaghhplijpeaaGreatDoorLmOp
namespace Go.Proofs.YtfdaghhplijpeaaGreatDoor
open Go Go.RowKit

set_option maxRecDepth 100000 in
set_option maxHeartbeats 2000000 in
theorem parts_bad {W : World} {B p : Nat} {v : Value} {L : List Nd} (hg : RefR W B p v L) (hl : L.length ≤ 4096) {i : Int} (hi : i < 0 ∨ (L.length : Int) ≤ i) :
    Calls Tryz.prog 10 #[ptr p, .int .i64 i] W fun e w' => e = .returned (.slice none 0 0) ∧ w' = W := by
  have G := Lib.hid (And.intro hg (And.intro hl hi))
  clear hg hl hi
  unfold ptr
  go_enter Tryz.func10, Tryz.ntmps10
  go_wp2_with fail
  refine (has_calls G.out.1 (by have := G.out.2.1; omega) i).mono ?_
  rintro e w1 ⟨rfl, rfl⟩
  have hb1 : (decide (0 ≤ i) && decide (i < (L.length : Int))) = false := by
    have := G.out.2.2
    by_cases h0 : 0 ≤ i
    · have h1 : ¬ i < (L.length : Int) := by omega
      simp [h0, h1]
    · simp [h0]
  rw [hb1]
  clear hb1
  go_wp2_with fail
  go_ret
  exact ⟨rfl, rfl⟩
end Go.Proofs.YtfdaghhplijpeaaGreatDoor
/-
  Walk of the reference's find.
-/
namespace Go.Proofs.YtfdaghhplijpeaaGreatDoor
open Go Go.RowKit

theorem ba_ext {a b : ByteArray} (h : a.toList = b.toList) : a = b := by
  rw [ByteArray.toList_eq, ByteArray.toList_eq] at h
  obtain ⟨⟨a⟩⟩ := a
  obtain ⟨⟨b⟩⟩ := b
  cases h; rfl
set_option maxRecDepth 100000 in
set_option maxHeartbeats 4000000 in
theorem find_calls {w : World} {B p : Nat} {v : Value} {L : List Nd} (hg : RefR w B p v L) (hl : L.length ≤ 10000) (x : Nd) :
    Calls Tryz.prog 103 #[ptr p, ndVal x] w fun e w' => (∃ r : Int, e = .returned (.int .i64 r) ∧ ((r = -1 ∧ x ∉ L) ∨ (∃ i : Nat, r = i ∧ i < L.length ∧ L.getD i nd0 = x))) ∧ Below w.heap.size w w' := by
  have G := Lib.hid (And.intro hg hl)
  have b0 := cell_of_blk hg.blk 0
  simp only [List.getElem?_toArray, List.getElem?_cons_zero] at b0
  have hp : p < w.heap.size := World.block_lt_of_cell? w _ b0
  obtain ⟨a, c, rfl⟩ := hg.nds.slice
  obtain ⟨n, hn⟩ : ∃ n, L.length = n := ⟨_, rfl⟩
  rw [hn] at b0 hl
  have HN := Lib.hid hn
  clear hg hn
  unfold ptr ndVal
  go_enter Tryz.func103, Tryz.ntmps103
  go_wp2_with fail
  go_loopw [12] (fun iv wr => ∃ k : Nat, iv = .int .i64 (k : Int) ∧ k ≤ n ∧ (∀ j, j < k → L.getD j nd0 ≠ x) ∧ wr.heap[w.heap.size]? = some (.cells ⟨ndCells x⟩ 63 (0, 0)) ∧ Below w.heap.size w wr) (fun iv _ => n - (intOf iv).toNat)
  case atStart => exact ⟨0, rfl, by omega, fun j hj => by omega, by show (w.heap.push _)[w.heap.size]? = _; simp [ndCells], (Below.refl _ _).alloc (Nat.le_refl _) _⟩
  case round =>
    obtain ⟨k, rfl, hk, hne, hx, hb⟩ := hrel
    by_cases hkn : k < n
    · obtain ⟨y, hy⟩ : ∃ y, L.getD k nd0 = y := ⟨_, rfl⟩
      obtain ⟨gv, cv, ev, c0, c1, c2, c3, c4⟩ := (G.out.1.below hb).nds.form (by rw [HN.out]; exact hkn) hy
      have d0 := cell_of_blk hx 0
      have d1 := cell_of_blk hx 1
      have d2 := cell_of_blk hx 2
      have d3 := cell_of_blk hx 3
      have d4 := cell_of_blk hx 4
      simp only [ndCells, List.getElem?_toArray, List.getElem?_cons_zero, List.getElem?_cons_succ] at d0 d1 d2 d3 d4
      have hsz : w.heap.size < wr.heap.size := (Array.getElem?_eq_some_iff.1 hx).1
      cases ev
      have HB := Lib.hid (And.intro hb (And.intro hx (And.intro hne (And.intro hy (And.intro hkn hk)))))
      have k0 : (0 : Int) ≤ (k : Int) := by omega
      have k1 : (k : Int) < (n : Int) := by omega
      have hgl : gv < wr.heap.size := World.block_lt_of_cell? wr _ c0
      clear hb hx hne hy hkn hk
      go_wp2_with fail
      all_goals first
        | (refine ⟨⟨k + 1, by simp, by have := HB.out.2.2.2.2.1; omega, fun j hj => ?_, ?_, HB.out.1.alloc HB.out.1.size _⟩, by have := HB.out.2.2.2.2.1; simp [intOf]; omega⟩
           · rcases Nat.lt_succ_iff_lt_or_eq.1 hj with h | rfl
             · exact HB.out.2.2.1 j h
             · rw [HB.out.2.2.2.1]; rintro rfl; simp_all
           · rw [Below.heap_alloc _ _ _ hsz]; exact HB.out.2.1)
        | (go_ret
           refine ⟨⟨k, rfl, .inr ⟨k, rfl, by rw [HN.out]; exact HB.out.2.2.2.2.1, ?_⟩⟩, HB.out.1.alloc HB.out.1.size _⟩
           rw [HB.out.2.2.2.1]
           cases x; cases y; simp_all; exact ba_ext (by assumption))
    · have hke : k = n := by omega
      subst hke
      have hno : x ∉ L := fun hm => by
        obtain ⟨j, h1, h2⟩ := List.getElem_of_mem hm
        refine hne j (by rw [← HN.out]; exact h1) ?_
        rw [List.getD_eq_getElem?_getD, List.getElem?_eq_getElem h1]; exact h2
      have HB := Lib.hid (And.intro hb hno)
      clear hb hno hne hx hkn hk
      go_wp2_with fail
      go_ret
      exact ⟨⟨-1, rfl, .inl ⟨rfl, HB.out.2⟩⟩, HB.out.1⟩
end Go.Proofs.YtfdaghhplijpeaaGreatDoor
