/-
  Walk of the reference's sizes.
-/
import Derived.Test.YtfdaghhplijpeaaGreatDoorLmOz
import Derived.BigRegion
namespace Go.Proofs.YtfdaghhplijpeaaGreatDoor
open Go Go.RowKit

theorem le_alloc {n : Nat} {w : World} (o : Obj) (h : n ≤ w.heap.size) : n ≤ (w.alloc o).heap.size := by rw [alloc_size]; omega
theorem sz_cell {w : World} {B : Nat} {v : Value} {zs : List Int} {j : Nat} (h : w.ownsRow B 3 1 v zs.length (ints zs)) (hj : j < zs.length) : ∃ g c, v = .slice (some ⟨g, 0, none⟩) zs.length c ∧ w.cell? ⟨g, j, none⟩ = some (.int .i64 (zs.getD j 0)) ∧ g < w.heap.size := by
  obtain ⟨g, c, rfl, _, _, hg⟩ := own_form h (by omega)
  exact ⟨g, c, rfl, by rw [h.cellAt j (by omega), ints_get hj], hg⟩
set_option maxRecDepth 100000 in
set_option maxHeartbeats 16000000 in
theorem sizes_calls {w : World} {B : Nat} {v : Value} {l : List Nd} (h : NdsR w B v l) (hl : l.length ≤ 1000) (hm : ∀ i, i < l.length → MNd (l.getD i nd0)) (hT : Tabd w) :
    Calls Tryz.prog 77 #[v] w fun e w' => Below w.heap.size w w' ∧ (e = .returned (.tuple #[.slice none 0 0, .slice none 0 0]) ∨ ∃ sv dv S D, e = .returned (.tuple #[sv, dv]) ∧ SzW w w' sv dv S D l.length l ∧ 0 < l.length) := by
  have HX := Lib.hid (And.intro h (And.intro hl (And.intro hm hT)))
  obtain ⟨va, vc, rfl⟩ := h.slice
  obtain ⟨n, hn⟩ : ∃ n, l.length = n := ⟨_, rfl⟩
  have HN := Lib.hid hn
  rw [hn] at hl ⊢
  clear h hm hT hn
  go_enter Tryz.func77, Tryz.ntmps77
  go_wp2_with fail
  go_loopw [4, 5, 14] (fun sv dv iv wr => ∃ S D, ∃ i : Nat, iv = .int .i64 (i : Int) ∧ i ≤ n ∧ SzW w wr sv dv S D i l) (fun _ _ iv _ => n - (intOf iv).toNat)
  case atStart => exact ⟨[], [], 0, rfl, by omega, szW_start w l⟩
  case round =>
    obtain ⟨S, D, i, rfl, hi, hW⟩ := hrel
    obtain ⟨sa, sc, rfl⟩ := row_slice hW.srow
    obtain ⟨da, dc, rfl⟩ := row_slice hW.drow
    obtain ⟨sn, hsn⟩ : ∃ sn, S.length = sn := ⟨_, rfl⟩
    obtain ⟨dn, hdn⟩ : ∃ dn, D.length = dn := ⟨_, rfl⟩
    have HW := Lib.hid (by rw [← hsn, ← hdn]; exact hW : SzW w wr (.slice sa sn sc) (.slice da dn dc) S D i l)
    have HS := Lib.hid hsn
    have HD := Lib.hid hdn
    have HSL := Lib.hid (show sn ≤ 1000 ∧ dn ≤ 1000 by have := hW.inv.ls; have := hW.inv.ld; omega)
    rw [hsn, hdn]
    by_cases hin : i < n
    · clear hW hsn hdn
      obtain ⟨y, hy⟩ : ∃ y, l.getD i nd0 = y := ⟨_, rfl⟩
      obtain ⟨gv, cv, ev, c0, c1, c2, c3, c4⟩ := (HX.out.1.frame (S := fun _ => False) (Fr.of_below HW.out.below) (fun _ _ e => e)).form (by rw [HN.out]; exact hin) hy
      rw [HN.out] at ev
      cases ev
      obtain ⟨k, a, b, m, t⟩ := y
      simp only at c0 c1 c2 c3 c4
      have HY := Lib.hid hy
      have hk := HX.out.2.2.1 i (by rw [HN.out]; exact hin)
      rw [hy] at hk
      have HK := Lib.hid hk
      have h1 := hk.k1
      have h2 := hk.k2
      simp only at h1 h2
      clear hy hk
      have i0 : (0 : Int) ≤ (i : Int) := by omega
      have i1 : (i : Int) < (n : Int) := by omega
      have hgl : gv < wr.heap.size := World.block_lt_of_cell? wr _ c0
      go_wp2_with fail
      refine (operands_calls h1 h2 _).mono ?_
      rintro e w1 ⟨rfl, hw1⟩
      have hb1 : Below (wr.heap.size + 1) (wr.alloc (.cells ⟨ndCells ⟨k, a, b, m, t⟩⟩ 63)) w1 := by rw [hw1]; exact Below.refl _ _
      obtain ⟨d0, d1, d2, d3, d4⟩ := nd_cells (nd_block hb1)
      simp only at d0 d1 d2 d3 d4
      have hs : wr.heap.size < w1.heap.size := World.block_lt_of_cell? w1 _ d0
      have HB1 := Lib.hid hb1
      clear hb1 hw1 h1 h2 c0 c1 c2 c3 c4 hgl
      rcases arity_cases k with h0 | h0 | h0
      · rw [h0]
        have H0 := Lib.hid h0
        clear h0
        go_wp2_with fail
        refine (plain_calls (x := ⟨k, a, b, m, t⟩) HK.out ((HX.out.2.2.2.below HW.out.below).below (nd_below HB1.out))).mono ?_
        rintro e w2 ⟨rfl, hb2⟩
        have HB2 := Lib.hid (HB1.out.trans (hb2.mono (by omega)))
        have HW2 := Lib.hid (HW.out.later (nd_below HB2.out))
        have HB3 := Lib.hid HW2.out.below
        have hs2 := hb2.size
        clear d0 d1 d2 d3 d4 hb2
        obtain ⟨d0, d1, d2, d3, d4⟩ := nd_cells (nd_block HB2.out)
        simp only at d0 d1 d2 d3 d4
        have hs' : wr.heap.size < w2.heap.size := by omega
        clear hs hs2
        by_cases ha : a = 0
        · by_cases hb : b = 0
          · subst ha; subst hb
            go_wp2_with (at_builtin; first
              | (refine app_down rfl _ _ rfl w.heap.size (le_alloc _ HW2.out.below.size) _ sn (ints S) rfl (by have R := HW2.out.srow; rw [HS.out] at R; exact R.alloc _) _ (.int .i64 (1)) rfl (heap_alloc_new _ _) (by simp [Value.oneCell']) (by have := HSL.out; omega) ?_; intro g cap w9 hn9 hf9 hg9; have H9 := Lib.hid (And.intro hn9 (And.intro hf9 hg9)); clear hn9 hf9 hg9)
              | (refine app_down rfl _ _ rfl w.heap.size (le_alloc _ (HW2.out.half H9.out.2.1 H9.out.2.2).2.1.size) _ dn (ints D) rfl (by have R := (HW2.out.half H9.out.2.1 H9.out.2.2).1; rw [HD.out] at R; exact R.alloc _) _ (.int .i64 (1)) rfl (heap_alloc_new _ _) (by simp [Value.oneCell']) (by have := HSL.out; omega) ?_; intro g' cap' w10 hn9 hf9 hg9; have H10 := Lib.hid (And.intro hn9 (And.intro hf9 hg9)); clear hn9 hf9 hg9))
            go_roundw
            case rel =>
              have P := SzW.next (s := 1) (d := 1) HW2.out (by rw [HS.out]; exact H9.out.1) H9.out.2.1 H9.out.2.2 (by rw [HD.out]; exact H10.out.1) H10.out.2.1 H10.out.2.2 ⟨by omega, by omega⟩ ⟨by omega, by omega⟩ (by rw [HY.out]; exact fitsN0 H0.out rfl rfl)
              rw [HS.out, HD.out] at P
              exact ⟨_, _, i + 1, by go_num, by omega, P⟩
            case measure => simp [intOf]; omega
          · go_wp2_with fail
            go_ret2
            exact ⟨HB3.out, .inl rfl⟩
        · go_wp2_with fail
          go_ret2
          exact ⟨HB3.out, .inl rfl⟩
      · rw [h0]
        have H0 := Lib.hid h0
        clear h0
        go_wp2_with fail
        refine (plain_calls (x := ⟨k, a, b, m, t⟩) HK.out ((HX.out.2.2.2.below HW.out.below).below (nd_below HB1.out))).mono ?_
        rintro e w2 ⟨rfl, hb2⟩
        have HB2 := Lib.hid (HB1.out.trans (hb2.mono (by omega)))
        have HW2 := Lib.hid (HW.out.later (nd_below HB2.out))
        have HB3 := Lib.hid HW2.out.below
        have hs2 := hb2.size
        clear d0 d1 d2 d3 d4 hb2
        obtain ⟨d0, d1, d2, d3, d4⟩ := nd_cells (nd_block HB2.out)
        simp only at d0 d1 d2 d3 d4
        have hs' : wr.heap.size < w2.heap.size := by omega
        clear hs hs2
        by_cases hb : b = 0
        · subst hb
          rcases Nat.eq_zero_or_pos i with hi0 | hi0
          · subst hi0
            by_cases ha : a = -1
            · subst ha
              go_wp2_with fail
              go_ret2
              exact ⟨HB3.out, .inl rfl⟩
            · go_wp2_with fail
              go_ret2
              exact ⟨HB3.out, .inl rfl⟩
          · obtain ⟨j, hij⟩ : ∃ j : Nat, (i : Int) - 1 = (j : Int) := ⟨i - 1, by omega⟩
            by_cases ha : a = (j : Int)
            · subst ha
              obtain ⟨ag, ac, e9, hS1, hS2⟩ := sz_cell HW2.out.srow (j := j) (by have := HS.out; have := HW2.out.inv.ls; omega)
              obtain ⟨dg, dc, e8, hD1, hD2⟩ := sz_cell HW2.out.drow (j := j) (by have := HD.out; have := HW2.out.inv.ld; omega)
              rw [HS.out] at e9
              rw [HD.out] at e8
              cases e9
              cases e8
              obtain ⟨s0, s9⟩ := HW2.out.inv.s1 j (by omega)
              obtain ⟨q0, q9⟩ := HW2.out.inv.d1 j (by omega)
              have HSJ := Lib.hid (And.intro (rfl : S.getD j 0 = S.getD j 0) (rfl : D.getD j 0 = D.getD j 0))
              generalize S.getD j 0 = sj at hS1 s0 s9 HSJ
              generalize D.getD j 0 = dj at hD1 q0 q9 HSJ
              obtain ⟨s1, hs1⟩ : ∃ s1, 1 + sj = s1 := ⟨_, rfl⟩
              obtain ⟨q1, hq1⟩ : ∃ q1, dj + 1 = q1 := ⟨_, rfl⟩
              have hsn : (j : Int) < (sn : Int) := by have := HS.out; have := HW2.out.inv.ls; omega
              have hdn : (j : Int) < (dn : Int) := by have := HD.out; have := HW2.out.inv.ld; omega
              have hj0 : (0 : Int) ≤ (j : Int) := by omega
              go_wp2_with fail
              go_region
              have HW3 := Lib.hid (HW2.out.later ((Fr.refl (fun _ => False) w2).drew.below))
              clear HW2
              have HW2 := HW3
              have HB3 := Lib.hid HW2.out.below
              clear HW3 hS1 hD1
              go_wp2_with (at_builtin; first
                | (refine app_down rfl _ _ rfl w.heap.size (le_alloc _ HW2.out.below.size) _ sn (ints S) rfl (by have R := HW2.out.srow; rw [HS.out] at R; exact R.alloc _) _ (.int .i64 (s1)) rfl (heap_alloc_new _ _) (by simp [Value.oneCell']) (by have := HSL.out; omega) ?_; intro g cap w9 hn9 hf9 hg9; have H9 := Lib.hid (And.intro hn9 (And.intro hf9 hg9)); clear hn9 hf9 hg9)
                | (refine app_down rfl _ _ rfl w.heap.size (le_alloc _ (HW2.out.half H9.out.2.1 H9.out.2.2).2.1.size) _ dn (ints D) rfl (by have R := (HW2.out.half H9.out.2.1 H9.out.2.2).1; rw [HD.out] at R; exact R.alloc _) _ (.int .i64 (q1)) rfl (heap_alloc_new _ _) (by simp [Value.oneCell']) (by have := HSL.out; omega) ?_; intro g' cap' w10 hn9 hf9 hg9; have H10 := Lib.hid (And.intro hn9 (And.intro hf9 hg9)); clear hn9 hf9 hg9))
              go_roundw
              case rel =>
                have P := SzW.next (s := s1) (d := q1) HW2.out (by rw [HS.out]; exact H9.out.1) H9.out.2.1 H9.out.2.2 (by rw [HD.out]; exact H10.out.1) H10.out.2.1 H10.out.2.2 ⟨by omega, by omega⟩ ⟨by omega, by omega⟩ (by rw [HY.out]; exact fitsN1 H0.out ⟨by omega, by omega⟩ rfl)
                rw [HS.out, HD.out] at P
                exact ⟨_, _, i + 1, by go_num, by omega, P⟩
              case measure => simp [intOf]; omega
            · go_wp2_with fail
              go_ret2
              exact ⟨HB3.out, .inl rfl⟩
        · go_wp2_with fail
          go_ret2
          exact ⟨HB3.out, .inl rfl⟩
      · rw [h0]
        have H0 := Lib.hid h0
        clear h0
        go_wp2_with fail
        refine (plain_calls (x := ⟨k, a, b, m, t⟩) HK.out ((HX.out.2.2.2.below HW.out.below).below (nd_below HB1.out))).mono ?_
        rintro e w2 ⟨rfl, hb2⟩
        have HB2 := Lib.hid (HB1.out.trans (hb2.mono (by omega)))
        have HW2 := Lib.hid (HW.out.later (nd_below HB2.out))
        have HB3 := Lib.hid HW2.out.below
        have hs2 := hb2.size
        clear d0 d1 d2 d3 d4 hb2
        obtain ⟨d0, d1, d2, d3, d4⟩ := nd_cells (nd_block HB2.out)
        simp only at d0 d1 d2 d3 d4
        have hs' : wr.heap.size < w2.heap.size := by omega
        clear hs hs2
        rcases Nat.eq_zero_or_pos i with hi0 | hi0
        · subst hi0
          by_cases hb : b = -1
          · subst hb
            go_wp2_with fail
            go_ret2
            exact ⟨HB3.out, .inl rfl⟩
          · go_wp2_with fail
            go_ret2
            exact ⟨HB3.out, .inl rfl⟩
        · obtain ⟨j, hij⟩ : ∃ j : Nat, (i : Int) - 1 = (j : Int) := ⟨i - 1, by omega⟩
          by_cases hb : b = (j : Int)
          · subst hb
            obtain ⟨ag, ac, e9, hS1, hS2⟩ := sz_cell HW2.out.srow (j := j) (by have := HS.out; have := HW2.out.inv.ls; omega)
            obtain ⟨dg, dc, e8, hD1, hD2⟩ := sz_cell HW2.out.drow (j := j) (by have := HD.out; have := HW2.out.inv.ld; omega)
            rw [HS.out] at e9
            rw [HD.out] at e8
            cases e9
            cases e8
            obtain ⟨s0, s9⟩ := HW2.out.inv.s1 j (by omega)
            obtain ⟨q0, q9⟩ := HW2.out.inv.d1 j (by omega)
            have HSJ := Lib.hid (And.intro (rfl : S.getD j 0 = S.getD j 0) (rfl : D.getD j 0 = D.getD j 0))
            generalize S.getD j 0 = sj at hS1 s0 s9 HSJ
            generalize D.getD j 0 = dj at hD1 q0 q9 HSJ
            obtain ⟨s1, hs1⟩ : ∃ s1, 1 + sj = s1 := ⟨_, rfl⟩
            obtain ⟨q1, hq1⟩ : ∃ q1, dj + 1 = q1 := ⟨_, rfl⟩
            have hsn : (j : Int) < (sn : Int) := by have := HS.out; have := HW2.out.inv.ls; omega
            have hdn : (j : Int) < (dn : Int) := by have := HD.out; have := HW2.out.inv.ld; omega
            have hj0 : (0 : Int) ≤ (j : Int) := by omega
            go_wp2_with fail
            go_region
            have HW3 := Lib.hid (HW2.out.later ((Fr.refl (fun _ => False) w2).drew.below))
            clear HW2
            have HW2 := HW3
            have HB3 := Lib.hid HW2.out.below
            clear HW3 hS1 hD1
            
            by_cases h5 : s1 ≤ (i : Int)
            · obtain ⟨q, hiq⟩ : ∃ q : Nat, (i : Int) - s1 = (q : Int) := ⟨((i : Int) - s1).toNat, by omega⟩
              by_cases ha : a = (q : Int)
              · subst ha
                obtain ⟨ag', ac', e9, hS1, hS2⟩ := sz_cell HW2.out.srow (j := q) (by have := HS.out; have := HW2.out.inv.ls; omega)
                obtain ⟨dg', dc', e8, hD1, hD2⟩ := sz_cell HW2.out.drow (j := q) (by have := HD.out; have := HW2.out.inv.ld; omega)
                rw [HS.out] at e9
                rw [HD.out] at e8
                cases e9
                cases e8
                obtain ⟨t0, t9⟩ := HW2.out.inv.s1 q (by omega)
                obtain ⟨r0, r9⟩ := HW2.out.inv.d1 q (by omega)
                generalize S.getD q 0 = tj at hS1 t0 t9
                generalize D.getD q 0 = rj at hD1 r0 r9
                obtain ⟨s2, hs2⟩ : ∃ s2, s1 + tj = s2 := ⟨_, rfl⟩
                obtain ⟨q2, hq2⟩ : ∃ q2, rj + 1 = q2 := ⟨_, rfl⟩
                have hsn' : (q : Int) < (sn : Int) := by have := HS.out; have := HW2.out.inv.ls; omega
                have hdn' : (q : Int) < (dn : Int) := by have := HD.out; have := HW2.out.inv.ld; omega
                have hq0 : (0 : Int) ≤ (q : Int) := by omega
                by_cases hmx : q1 < q2
                · go_wp2_with fail
                  go_region
                  have HW3 := Lib.hid (HW2.out.later ((Fr.refl (fun _ => False) _).drew.below))
                  clear HW2
                  have HW2 := HW3
                  clear HW3 hS1 hD1
                  go_wp2_with (at_builtin; first
                    | (refine app_down rfl _ _ rfl w.heap.size (le_alloc _ HW2.out.below.size) _ sn (ints S) rfl (by have R := HW2.out.srow; rw [HS.out] at R; exact R.alloc _) _ (.int .i64 (s2)) rfl (heap_alloc_new _ _) (by simp [Value.oneCell']) (by have := HSL.out; omega) ?_; intro g cap w9 hn9 hf9 hg9; have H9 := Lib.hid (And.intro hn9 (And.intro hf9 hg9)); clear hn9 hf9 hg9)
                    | (refine app_down rfl _ _ rfl w.heap.size (le_alloc _ (HW2.out.half H9.out.2.1 H9.out.2.2).2.1.size) _ dn (ints D) rfl (by have R := (HW2.out.half H9.out.2.1 H9.out.2.2).1; rw [HD.out] at R; exact R.alloc _) _ (.int .i64 (q2)) rfl (heap_alloc_new _ _) (by simp [Value.oneCell']) (by have := HSL.out; omega) ?_; intro g' cap' w10 hn9 hf9 hg9; have H10 := Lib.hid (And.intro hn9 (And.intro hf9 hg9)); clear hn9 hf9 hg9))
                  go_roundw
                  case rel =>
                    have P := SzW.next (s := s2) (d := q2) HW2.out (by rw [HS.out]; exact H9.out.1) H9.out.2.1 H9.out.2.2 (by rw [HD.out]; exact H10.out.1) H10.out.2.1 H10.out.2.2 ⟨by omega, by omega⟩ ⟨by omega, by omega⟩ (by rw [HY.out]; exact fitsN2 H0.out ⟨by omega, by omega⟩ ⟨by omega, by omega⟩)
                    rw [HS.out, HD.out] at P
                    exact ⟨_, _, i + 1, by go_num, by omega, P⟩
                  case measure => simp [intOf]; omega
                · go_wp2_with fail
                  go_region
                  have HW3 := Lib.hid (HW2.out.later ((Fr.refl (fun _ => False) _).drew.below))
                  clear HW2
                  have HW2 := HW3
                  clear HW3 hS1 hD1
                  go_wp2_with (at_builtin; first
                    | (refine app_down rfl _ _ rfl w.heap.size (le_alloc _ HW2.out.below.size) _ sn (ints S) rfl (by have R := HW2.out.srow; rw [HS.out] at R; exact R.alloc _) _ (.int .i64 (s2)) rfl (heap_alloc_new _ _) (by simp [Value.oneCell']) (by have := HSL.out; omega) ?_; intro g cap w9 hn9 hf9 hg9; have H9 := Lib.hid (And.intro hn9 (And.intro hf9 hg9)); clear hn9 hf9 hg9)
                    | (refine app_down rfl _ _ rfl w.heap.size (le_alloc _ (HW2.out.half H9.out.2.1 H9.out.2.2).2.1.size) _ dn (ints D) rfl (by have R := (HW2.out.half H9.out.2.1 H9.out.2.2).1; rw [HD.out] at R; exact R.alloc _) _ (.int .i64 (q1)) rfl (heap_alloc_new _ _) (by simp [Value.oneCell']) (by have := HSL.out; omega) ?_; intro g' cap' w10 hn9 hf9 hg9; have H10 := Lib.hid (And.intro hn9 (And.intro hf9 hg9)); clear hn9 hf9 hg9))
                  go_roundw
                  case rel =>
                    have P := SzW.next (s := s2) (d := q1) HW2.out (by rw [HS.out]; exact H9.out.1) H9.out.2.1 H9.out.2.2 (by rw [HD.out]; exact H10.out.1) H10.out.2.1 H10.out.2.2 ⟨by omega, by omega⟩ ⟨by omega, by omega⟩ (by rw [HY.out]; exact fitsN2 H0.out ⟨by omega, by omega⟩ ⟨by omega, by omega⟩)
                    rw [HS.out, HD.out] at P
                    exact ⟨_, _, i + 1, by go_num, by omega, P⟩
                  case measure => simp [intOf]; omega
              · go_wp2_with fail
                go_ret2
                exact ⟨HB3.out, .inl rfl⟩
            · by_cases ha : a = (i : Int) - s1
              · subst ha
                have hneg : (i : Int) - s1 < 0 := by omega
                go_wp2_with fail
                go_ret2
                exact ⟨HB3.out, .inl rfl⟩
              · go_wp2_with fail
                go_ret2
                exact ⟨HB3.out, .inl rfl⟩
          · go_wp2_with fail
            go_ret2
            exact ⟨HB3.out, .inl rfl⟩
    · obtain rfl : i = n := by omega
      clear hW hsn hdn hin hi
      rcases Nat.eq_zero_or_pos i with h0 | h0
      · subst h0
        go_wp2_with fail
        go_ret2
        exact ⟨HW.out.below, .inl rfl⟩
      · obtain ⟨j, hij⟩ : ∃ j : Nat, (i : Int) - 1 = (j : Int) := ⟨i - 1, by omega⟩
        obtain ⟨ag, ac, e9, hS1, hS2⟩ := sz_cell HW.out.srow (j := j) (by have := HS.out; have := HW.out.inv.ls; omega)
        rw [HS.out] at e9
        cases e9
        have hsn : (j : Int) < (sn : Int) := by have := HS.out; have := HW.out.inv.ls; omega
        have hj0 : (0 : Int) ≤ (j : Int) := by omega
        have hi0 : ¬ i = 0 := by omega
        have hi3 : ((i : Int) == 0) = false := by simp; omega
        generalize S.getD j 0 = z at hS1
        by_cases hz : z = (i : Int)
        · subst hz
          go_wp2_with fail
          go_ret2
          exact ⟨HW.out.below, .inr ⟨_, _, S, D, rfl, HW.out, h0⟩⟩
        · have hz' : (z == (i : Int)) = false := by simpa using hz
          go_wp2_with fail
          go_ret2
          exact ⟨HW.out.below, .inl rfl⟩
end Go.Proofs.YtfdaghhplijpeaaGreatDoor
