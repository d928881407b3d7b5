/-
  The law FuelEnough, walked.
-/
import Derived.Test.YtlijkiecbdbnpaaGreatDoorLb
import Derived.Test.YtlijkiecbdbnpaaGreatDoorLa
import Derived.WalkSpells
import Derived.WalkLawsBesides
import Derived.BigQuiet
import Derived.Deep.DeepCutAuto
import Derived.Deep.RegionHeld3
namespace Go.Proofs.YtlijkiecbdbnpaaGreatDoor
open Go Go.RowKit
/-- The world with the three triples. -/
def lawW (w : World) (d k p : Int) : World := w.alloc (.cells #[.int .i64 d, .int .i64 k, .int .i64 p, .int .i64 (d % 43), .int .i64 (k % 203), .int .i64 (p % 515), .int .i64 (1 + d % 40), .int .i64 (1 + k % 200), .int .i64 (p % 513)] 23)
theorem lawW_blk (w : World) (d k p : Int) : (lawW w d k p).heap[w.heap.size]? = some (.cells #[.int .i64 d, .int .i64 k, .int .i64 p, .int .i64 (d % 43), .int .i64 (k % 203), .int .i64 (p % 515), .int .i64 (1 + d % 40), .int .i64 (1 + k % 200), .int .i64 (p % 513)] 23) := by
  show (w.heap.push _)[w.heap.size]? = _
  simp
theorem lawW_lt {w wr : World} {d k p : Int} (h : Below (w.heap.size + 1) (lawW w d k p) wr) : w.heap.size < wr.heap.size := by
  have h1 := h.size
  have h2 : (lawW w d k p).heap.size = w.heap.size + 1 := by show (w.heap.push _).size = _; simp
  omega
theorem tri_cells (w : World) (x y z : Int) : (w.alloc (.cells #[.int .i64 x, .int .i64 y, .int .i64 z] 23)).cell? ⟨w.heap.size, 0, none⟩ = some (.int .i64 x) ∧ (w.alloc (.cells #[.int .i64 x, .int .i64 y, .int .i64 z] 23)).cell? ⟨w.heap.size, 1, none⟩ = some (.int .i64 y) ∧
    (w.alloc (.cells #[.int .i64 x, .int .i64 y, .int .i64 z] 23)).cell? ⟨w.heap.size, 2, none⟩ = some (.int .i64 z) := by
  have hb : (w.alloc (.cells #[.int .i64 x, .int .i64 y, .int .i64 z] 23)).heap[w.heap.size]? = some (.cells #[.int .i64 x, .int .i64 y, .int .i64 z] 23) := by
    show (w.heap.push _)[w.heap.size]? = _
    simp
  exact ⟨by simp only [World.cell?, hb]; rfl, by simp only [World.cell?, hb]; rfl, by simp only [World.cell?, hb]; rfl⟩
theorem law_end {w w6 wr : World} {d k p : Int} (h1 : Below w.heap.size w w6) (h : Below (w6.heap.size + 1) (lawW w6 d k p) wr) : Below w.heap.size w wr := by
  have := h1.size
  exact (h1.trans ((Below.refl w6.heap.size w6).alloc (Nat.le_refl _) _ |>.mono (by omega))).trans (h.mono (by omega))
theorem law_cells {w wr : World} {d k p : Int} (h : Below (w.heap.size + 1) (lawW w d k p) wr) {i : Nat} (hi : i < 3) :
    ∃ x y z, wr.cell? ⟨w.heap.size, i * 3, none⟩ = some (.int .i64 x) ∧ wr.cell? ⟨w.heap.size, i * 3 + 1, none⟩ = some (.int .i64 y) ∧ wr.cell? ⟨w.heap.size, i * 3 + 2, none⟩ = some (.int .i64 z) := by
  have hb := (h.block w.heap.size (by omega)).trans (lawW_blk w d k p)
  match i, hi with
  | 0, _ => exact ⟨d, k, p, by simp only [World.cell?, hb]; rfl, by simp only [World.cell?, hb]; rfl, by simp only [World.cell?, hb]; rfl⟩
  | 1, _ => exact ⟨d % 43, k % 203, p % 515, by simp only [World.cell?, hb]; rfl, by simp only [World.cell?, hb]; rfl, by simp only [World.cell?, hb]; rfl⟩
  | 2, _ => exact ⟨1 + d % 40, 1 + k % 200, p % 513, by simp only [World.cell?, hb]; rfl, by simp only [World.cell?, hb]; rfl, by simp only [World.cell?, hb]; rfl⟩
set_option maxRecDepth 100000 in
set_option maxHeartbeats 2000000 in
theorem law3 (d k p : Int) (w : World) (hd : -9223372036854775808 ≤ d) (hk : -9223372036854775808 ≤ k) (hp : -9223372036854775808 ≤ p)
    (ht : ∃ rest e fz, w.heap[3]? = some (.cells ⟨tab ++ rest⟩ e fz)) :
    Calls Tryz.prog 3 #[.int .i64 d, .int .i64 k, .int .i64 p] w fun e w' => e = .returned (.bool true) ∧ Below w.heap.size w w' := by
  have HA := Lib.hid (awake_calls ht)
  clear ht
  go_enter Tryz.func3, Tryz.ntmps3
  go_wp2_with fail
  refine HA.out.mono ?_
  rintro e w1 ⟨rfl, hb1⟩
  have HB1 := Lib.hid hb1
  clear hb1
  go_wp2_with fail
  refine (mod_any d 43 (by omega) (by omega) hd w1).mono ?_
  rintro e w2 ⟨rfl, rfl⟩
  go_wp2_with fail
  refine (mod_any k 203 (by omega) (by omega) hk w2).mono ?_
  rintro e w3 ⟨rfl, rfl⟩
  go_wp2_with fail
  refine (mod_any p 515 (by omega) (by omega) hp w3).mono ?_
  rintro e w4 ⟨rfl, rfl⟩
  go_wp2_with fail
  refine (mod_any d 40 (by omega) (by omega) hd w4).mono ?_
  rintro e w5 ⟨rfl, rfl⟩
  go_wp2_with fail
  refine (mod_any k 200 (by omega) (by omega) hk w5).mono ?_
  rintro e w6 ⟨rfl, rfl⟩
  go_wp2_with fail
  refine (mod_any p 513 (by omega) (by omega) hp w6).mono ?_
  rintro e w7 ⟨rfl, rfl⟩
  go_wp2_with fail
  go_loopw [33] (fun i wr => (∃ n : Nat, n ≤ 3 ∧ i = .int .i64 n) ∧ Below (w7.heap.size + 1) (lawW w7 d k p) wr) (fun i _ => 3 - (intOf i).toNat)
  case atStart => exact ⟨⟨0, by omega, rfl⟩, Below.refl _ _⟩
  case round =>
    obtain ⟨⟨n, hn, rfl⟩, hb⟩ := hrel
    by_cases hn3 : n < 3
    · obtain ⟨x, y, z, e1, e2, e3⟩ := law_cells hb hn3
      have HB := Lib.hid hb
      clear hb
      have l7 : w7.heap.size < wr.heap.size := lawW_lt HB.out
      go_wp2_with fail
      obtain ⟨c0, c1, c2⟩ := tri_cells wr x y z
      have hB : Below wr.heap.size wr (wr.alloc (.cells #[.int .i64 x, .int .i64 y, .int .i64 z] 23)) := (Below.refl _ _).alloc (Nat.le_refl _) _
      generalize wr.alloc (.cells #[.int .i64 x, .int .i64 y, .int .i64 z] 23) = wB at c0 c1 c2 hB ⊢
      have HBB := Lib.hid hB
      clear hB e1 e2 e3 l7
      go_region_held3 (fun w' => w'.cell? ⟨wr.heap.size, 0, none⟩ = some (.int .i64 x) ∧ w'.cell? ⟨wr.heap.size, 1, none⟩ = some (.int .i64 y) ∧ w'.cell? ⟨wr.heap.size, 2, none⟩ = some (.int .i64 z)) (exact ⟨c0, c1, c2⟩) (first | (go_at_call 6; refine (enough6 x y z _).mono ?_; rintro e w8 ⟨rfl, rfl⟩) | (go_at_call 7; refine (enough7 x y z _).mono ?_; rintro e w9 ⟨rfl, rfl⟩))
      all_goals
        go_wp2_with fail
        go_roundw
        case rel => exact ⟨⟨n + 1, by omega, by go_num⟩, HB.out.trans (HBB.out.drew.mono (by have := lawW_lt HB.out; omega))⟩
        case measure => simp [intOf]; omega
    · have R := law_end HB1.out hb
      have HR := Lib.hid R
      clear R hb
      go_wp2_with fail
      go_ret
      exact ⟨rfl, HR.out⟩
end Go.Proofs.YtlijkiecbdbnpaaGreatDoor
