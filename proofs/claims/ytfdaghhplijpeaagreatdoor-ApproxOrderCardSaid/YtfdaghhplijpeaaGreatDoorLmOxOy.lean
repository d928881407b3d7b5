/-
  Walks of the reference's Plain and fits: a node of the mill is plain.
-/
import Derived.Test.YtfdaghhplijpeaaGreatDoorLmOw
namespace Go.Proofs.YtfdaghhplijpeaaGreatDoor
open Go Go.RowKit

theorem nd_block {w w1 : World} {x : Nd} (hb : Below (w.heap.size + 1) (w.alloc (.cells ⟨ndCells x⟩ 63)) w1) : w1.heap[w.heap.size]? = some (.cells ⟨ndCells x⟩ 63 (0, 0)) :=
  (hb.block w.heap.size (by omega)).trans (by show (w.heap.push _)[w.heap.size]? = _; simp)
theorem nd_cells {w : World} {b : Nat} {x : Nd} (h : w.heap[b]? = some (.cells ⟨ndCells x⟩ 63 (0, 0))) : w.cell? ⟨b, 0, none⟩ = some (.int .i64 x.k) ∧ w.cell? ⟨b, 1, none⟩ = some (.int .i64 x.a) ∧ w.cell? ⟨b, 2, none⟩ = some (.int .i64 x.b) ∧ w.cell? ⟨b, 3, none⟩ = some (.int .i64 x.n) ∧ w.cell? ⟨b, 4, none⟩ = some (.string x.t) :=
  ⟨cell_of_blk h 0, cell_of_blk h 1, cell_of_blk h 2, cell_of_blk h 3, cell_of_blk h 4⟩
theorem nd_below {w w1 : World} {x : Nd} (hb : Below (w.heap.size + 1) (w.alloc (.cells ⟨ndCells x⟩ 63)) w1) : Below w.heap.size w w1 :=
  ((Below.refl w.heap.size w).alloc (Nat.le_refl _) _).trans (hb.mono (by omega))
theorem alloc_size (w : World) (o : Obj) : (w.alloc o).heap.size = w.heap.size + 1 := by simp
set_option maxRecDepth 100000 in
set_option maxHeartbeats 4000000 in
theorem plain_calls {x : Nd} (hx : MNd x) {w : World} (hT : Tabd w) :
    Calls Tryz.prog 113 #[ndVal x] w fun e w' => e = .returned (.bool true) ∧ Below w.heap.size w w' := by
  obtain ⟨k, a, b, n, t⟩ := x
  have h1 := hx.k1
  have h2 := hx.k2
  have h3 := hx.pow
  have h4 := hx.zer
  have h5 := hx.oth
  simp only at h1 h2 h3 h4 h5
  have HX := Lib.hid (And.intro hx hT)
  have HB := Lib.hid (fun x : Nd => (Below.refl w.heap.size w).alloc (Nat.le_refl _) (.cells ⟨ndCells x⟩ 63))
  unfold ndVal
  simp only
  by_cases hk1 : k = 1
  · subst hk1
    obtain rfl := h4 (by omega)
    clear h1 h2 h3 h4 h5 hx hT
    go_enter Tryz.func113, Tryz.ntmps113
    go_wp2_with fail
    refine (rat_calls refParse_ok (HX.out.2.below (HB.out ⟨1, a, b, 0, t⟩)) (HX.out.1.con rfl)).mono ?_
    rintro e w1 ⟨p, qa, qn, qc, ra, rn, rc, rfl, hb⟩
    have hb' : Below (w.heap.size + 1) (w.alloc (.cells ⟨ndCells ⟨1, a, b, 0, t⟩⟩ 63)) w1 := by rw [← alloc_size w]; exact hb
    obtain ⟨d0, d1, d2, d3, d4⟩ := nd_cells (nd_block hb')
    simp only at d0 d1 d2 d3 d4
    have HB1 := Lib.hid (nd_below hb')
    have hs : w.heap.size < w1.heap.size := World.block_lt_of_cell? w1 _ d0
    have hs' := HB1.out.size
    clear hb hb'
    go_wp2_with fail
    go_ret
    exact ⟨rfl, HB1.out.alloc HB1.out.size _⟩
  · by_cases hk2 : k = 2
    · subst hk2
      obtain rfl := h4 (by omega)
      clear h1 h2 h3 h4 h5 hx hT hk1
      go_enter Tryz.func113, Tryz.ntmps113
      go_wp2_with fail
      refine (bool_calls refName_ok (HX.out.2.below (HB.out ⟨2, a, b, 0, t⟩)) (HX.out.1.nam rfl)).mono ?_
      rintro e w1 ⟨rfl, hb⟩
      have hb' : Below (w.heap.size + 1) (w.alloc (.cells ⟨ndCells ⟨2, a, b, 0, t⟩⟩ 63)) w1 := by rw [← alloc_size w]; exact hb
      obtain ⟨d0, d1, d2, d3, d4⟩ := nd_cells (nd_block hb')
      simp only at d0 d1 d2 d3 d4
      have HB1 := Lib.hid (nd_below hb')
      have hs : w.heap.size < w1.heap.size := World.block_lt_of_cell? w1 _ d0
      clear hb hb'
      go_wp2_with fail
      go_ret
      exact ⟨rfl, HB1.out⟩
    · obtain rfl := h5 hk1 hk2
      clear hx hT h5
      by_cases hk3 : k = 10
      · subst hk3
        obtain ⟨n1, n2⟩ := h3 rfl
        clear h1 h2 h3 h4 hk1 hk2
        go_enter Tryz.func113, Tryz.ntmps113
        go_wp2_with fail
        go_ret
        exact ⟨by simp; omega, HB.out ⟨10, a, b, n, ByteArray.empty⟩⟩
      · obtain rfl := h4 hk3
        clear h3 h4
        go_enter Tryz.func113, Tryz.ntmps113
        go_wp2_with fail
        go_ret
        exact ⟨rfl, HB.out ⟨k, a, b, 0, ByteArray.empty⟩⟩
end Go.Proofs.YtfdaghhplijpeaaGreatDoor
/-
  Walk of the reference's fits.
-/
namespace Go.Proofs.YtfdaghhplijpeaaGreatDoor
open Go Go.RowKit

/-- A node fits a list of n nodes. -/
structure FitsN (n : Nat) (x : Nd) : Prop where
  args : ∀ a ∈ args x, 0 ≤ a ∧ a < (n : Int)
  a0 : arity x.k = 0 → x.a = 0
  b0 : arity x.k < 2 → x.b = 0
set_option maxRecDepth 100000 in
set_option maxHeartbeats 8000000 in
theorem refFits_calls {w : World} {B p : Nat} {v : Value} {L : List Nd} (h : RefR w B p v L) (hl : L.length ≤ 10000) {x : Nd} (hx : MNd x) (hf : FitsN L.length x) (hT : Tabd w) :
    Calls Tryz.prog 102 #[ptr p, ndVal x] w fun e w' => e = .returned (.bool true) ∧ Below w.heap.size w w' := by
  have HX := Lib.hid (And.intro hx (And.intro hf (And.intro hT (And.intro h hl))))
  obtain ⟨k, a, b, n, t⟩ := x
  have h1 := hx.k1
  have h2 := hx.k2
  have ha0 := hf.a0
  have hb0 := hf.b0
  simp only at h1 h2 ha0 hb0
  clear hx hf hT h hl
  have HL := Lib.hid (args_len ⟨k, a, b, n, t⟩)
  unfold ptr ndVal
  simp only
  have H12 := Lib.hid (And.intro h1 h2)
  go_enter Tryz.func102, Tryz.ntmps102
  go_wp2_with fail
  refine (operands_calls h1 h2 _).mono ?_
  rintro e w1 ⟨rfl, hw1⟩
  have hb1 : Below (w.heap.size + 1) (w.alloc (.cells ⟨ndCells ⟨k, a, b, n, t⟩⟩ 63)) w1 := by rw [hw1]; exact Below.refl _ _
  obtain ⟨d0, d1, d2, d3, d4⟩ := nd_cells (nd_block hb1)
  simp only at d0 d1 d2 d3 d4
  have hs : w.heap.size < w1.heap.size := World.block_lt_of_cell? w1 _ d0
  have HB1 := Lib.hid hb1
  clear hb1 hw1 h1 h2
  rcases arity_cases k with h0 | h0 | h0
  · obtain rfl := ha0 h0
    obtain rfl := hb0 (by omega)
    rw [h0]
    clear h0 ha0 hb0
    go_wp2_with fail
    refine (plain_calls HX.out.1 (HX.out.2.2.1.below (nd_below HB1.out))).mono ?_
    rintro e w2 ⟨rfl, hb2⟩
    have HB2 := Lib.hid (HB1.out.trans (hb2.mono (by omega)))
    have hs2 := hb2.size
    clear d0 d1 d2 d3 d4 hb2
    obtain ⟨d0, d1, d2, d3, d4⟩ := nd_cells (nd_block HB2.out)
    simp only at d0 d1 d2 d3 d4
    have hs' : w.heap.size < w2.heap.size := by omega
    clear hs hs2
    go_wp2_with fail
    refine (args_calls (x := ⟨k, 0, 0, n, t⟩) H12.out.1 H12.out.2 _).mono ?_
    rintro e w3 ⟨av, rfl, ha⟩
    obtain ⟨aa, ac, rfl⟩ := row_slice ha.2
    have HA := Lib.hid ha
    have HB3 := Lib.hid ((nd_below HB2.out).trans (ha.1.mono (by omega)))
    obtain ⟨an, han⟩ : ∃ an, (args ⟨k, 0, 0, n, t⟩).length = an := ⟨_, rfl⟩
    have HN := Lib.hid han
    have hab : an ≤ 2 := by rw [← han]; exact HL.out
    rw [han]
    clear han ha d0 d1 d2 d3 d4 hs'
    go_wp2_with fail
    go_loopw [39] (fun iv wr => wr = w3 ∧ ∃ j : Nat, iv = .int .i64 (j : Int) ∧ j ≤ an) (fun iv _ => an - (intOf iv).toNat)
    case atStart => exact ⟨rfl, 0, rfl, by omega⟩
    case round =>
      obtain ⟨hwr, j, rfl, hj⟩ := hrel
      subst hwr
      by_cases hja : j < an
      · obtain ⟨a4, c4, e4, hcell4⟩ := row_cells HA.out.2
        obtain ⟨g4, e5, hc4⟩ := hcell4 j (by rw [HN.out]; exact hja)
        cases e4
        subst e5
        have hz := HX.out.2.1.args _ (getD_mem (l := args ⟨k, 0, 0, n, t⟩) (by rw [HN.out]; exact hja))
        obtain ⟨z, hz'⟩ : ∃ z, (args ⟨k, 0, 0, n, t⟩).getD j 0 = z := ⟨_, rfl⟩
        rw [hz'] at hc4 hz
        have HZ := Lib.hid hz
        clear hz hz' hcell4
        have hj0 : (0 : Int) ≤ (j : Int) := by omega
        have hj1 : (j : Int) < (an : Int) := by omega
        go_wp2_with fail
        refine (has_calls (HX.out.2.2.2.1.below HB3.out) (by have := HX.out.2.2.2.2; omega) z).mono ?_
        rintro e w4 ⟨rfl, hw4⟩
        subst hw4
        have hb1 : (decide (0 ≤ z) && decide (z < (L.length : Int))) = true := by have := HZ.out; simp; omega
        rw [hb1]
        clear hb1
        go_wp2_with fail
        go_roundw
        case rel => exact ⟨by first | rfl | trivial, j + 1, by go_num, by omega⟩
        case measure => simp [intOf]; omega
      · have hje : j = an := by omega
        subst hje
        clear hj hja
        go_wp2_with fail
        go_ret
        exact ⟨rfl, HB3.out⟩
  · obtain rfl := hb0 (by omega)
    rw [h0]
    clear h0 ha0 hb0
    go_wp2_with fail
    refine (plain_calls HX.out.1 (HX.out.2.2.1.below (nd_below HB1.out))).mono ?_
    rintro e w2 ⟨rfl, hb2⟩
    have HB2 := Lib.hid (HB1.out.trans (hb2.mono (by omega)))
    have hs2 := hb2.size
    clear d0 d1 d2 d3 d4 hb2
    obtain ⟨d0, d1, d2, d3, d4⟩ := nd_cells (nd_block HB2.out)
    simp only at d0 d1 d2 d3 d4
    have hs' : w.heap.size < w2.heap.size := by omega
    clear hs hs2
    go_wp2_with fail
    refine (args_calls (x := ⟨k, a, 0, n, t⟩) H12.out.1 H12.out.2 _).mono ?_
    rintro e w3 ⟨av, rfl, ha⟩
    obtain ⟨aa, ac, rfl⟩ := row_slice ha.2
    have HA := Lib.hid ha
    have HB3 := Lib.hid ((nd_below HB2.out).trans (ha.1.mono (by omega)))
    obtain ⟨an, han⟩ : ∃ an, (args ⟨k, a, 0, n, t⟩).length = an := ⟨_, rfl⟩
    have HN := Lib.hid han
    have hab : an ≤ 2 := by rw [← han]; exact HL.out
    rw [han]
    clear han ha d0 d1 d2 d3 d4 hs'
    go_wp2_with fail
    go_loopw [39] (fun iv wr => wr = w3 ∧ ∃ j : Nat, iv = .int .i64 (j : Int) ∧ j ≤ an) (fun iv _ => an - (intOf iv).toNat)
    case atStart => exact ⟨rfl, 0, rfl, by omega⟩
    case round =>
      obtain ⟨hwr, j, rfl, hj⟩ := hrel
      subst hwr
      by_cases hja : j < an
      · obtain ⟨a4, c4, e4, hcell4⟩ := row_cells HA.out.2
        obtain ⟨g4, e5, hc4⟩ := hcell4 j (by rw [HN.out]; exact hja)
        cases e4
        subst e5
        have hz := HX.out.2.1.args _ (getD_mem (l := args ⟨k, a, 0, n, t⟩) (by rw [HN.out]; exact hja))
        obtain ⟨z, hz'⟩ : ∃ z, (args ⟨k, a, 0, n, t⟩).getD j 0 = z := ⟨_, rfl⟩
        rw [hz'] at hc4 hz
        have HZ := Lib.hid hz
        clear hz hz' hcell4
        have hj0 : (0 : Int) ≤ (j : Int) := by omega
        have hj1 : (j : Int) < (an : Int) := by omega
        go_wp2_with fail
        refine (has_calls (HX.out.2.2.2.1.below HB3.out) (by have := HX.out.2.2.2.2; omega) z).mono ?_
        rintro e w4 ⟨rfl, hw4⟩
        subst hw4
        have hb1 : (decide (0 ≤ z) && decide (z < (L.length : Int))) = true := by have := HZ.out; simp; omega
        rw [hb1]
        clear hb1
        go_wp2_with fail
        go_roundw
        case rel => exact ⟨by first | rfl | trivial, j + 1, by go_num, by omega⟩
        case measure => simp [intOf]; omega
      · have hje : j = an := by omega
        subst hje
        clear hj hja
        go_wp2_with fail
        go_ret
        exact ⟨rfl, HB3.out⟩
  · rw [h0]
    clear h0 ha0 hb0
    go_wp2_with fail
    refine (plain_calls HX.out.1 (HX.out.2.2.1.below (nd_below HB1.out))).mono ?_
    rintro e w2 ⟨rfl, hb2⟩
    have HB2 := Lib.hid (HB1.out.trans (hb2.mono (by omega)))
    have hs2 := hb2.size
    clear d0 d1 d2 d3 d4 hb2
    obtain ⟨d0, d1, d2, d3, d4⟩ := nd_cells (nd_block HB2.out)
    simp only at d0 d1 d2 d3 d4
    have hs' : w.heap.size < w2.heap.size := by omega
    clear hs hs2
    go_wp2_with fail
    refine (args_calls (x := ⟨k, a, b, n, t⟩) H12.out.1 H12.out.2 _).mono ?_
    rintro e w3 ⟨av, rfl, ha⟩
    obtain ⟨aa, ac, rfl⟩ := row_slice ha.2
    have HA := Lib.hid ha
    have HB3 := Lib.hid ((nd_below HB2.out).trans (ha.1.mono (by omega)))
    obtain ⟨an, han⟩ : ∃ an, (args ⟨k, a, b, n, t⟩).length = an := ⟨_, rfl⟩
    have HN := Lib.hid han
    have hab : an ≤ 2 := by rw [← han]; exact HL.out
    rw [han]
    clear han ha d0 d1 d2 d3 d4 hs'
    go_wp2_with fail
    go_loopw [39] (fun iv wr => wr = w3 ∧ ∃ j : Nat, iv = .int .i64 (j : Int) ∧ j ≤ an) (fun iv _ => an - (intOf iv).toNat)
    case atStart => exact ⟨rfl, 0, rfl, by omega⟩
    case round =>
      obtain ⟨hwr, j, rfl, hj⟩ := hrel
      subst hwr
      by_cases hja : j < an
      · obtain ⟨a4, c4, e4, hcell4⟩ := row_cells HA.out.2
        obtain ⟨g4, e5, hc4⟩ := hcell4 j (by rw [HN.out]; exact hja)
        cases e4
        subst e5
        have hz := HX.out.2.1.args _ (getD_mem (l := args ⟨k, a, b, n, t⟩) (by rw [HN.out]; exact hja))
        obtain ⟨z, hz'⟩ : ∃ z, (args ⟨k, a, b, n, t⟩).getD j 0 = z := ⟨_, rfl⟩
        rw [hz'] at hc4 hz
        have HZ := Lib.hid hz
        clear hz hz' hcell4
        have hj0 : (0 : Int) ≤ (j : Int) := by omega
        have hj1 : (j : Int) < (an : Int) := by omega
        go_wp2_with fail
        refine (has_calls (HX.out.2.2.2.1.below HB3.out) (by have := HX.out.2.2.2.2; omega) z).mono ?_
        rintro e w4 ⟨rfl, hw4⟩
        subst hw4
        have hb1 : (decide (0 ≤ z) && decide (z < (L.length : Int))) = true := by have := HZ.out; simp; omega
        rw [hb1]
        clear hb1
        go_wp2_with fail
        go_roundw
        case rel => exact ⟨by first | rfl | trivial, j + 1, by go_num, by omega⟩
        case measure => simp [intOf]; omega
      · have hje : j = an := by omega
        subst hje
        clear hj hja
        go_wp2_with fail
        go_ret
        exact ⟨rfl, HB3.out⟩
end Go.Proofs.YtfdaghhplijpeaaGreatDoor
