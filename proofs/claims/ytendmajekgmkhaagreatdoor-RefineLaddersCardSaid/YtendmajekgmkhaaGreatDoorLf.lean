/-
  The law RefineLadders, walked.
-/
import Derived.Test.YtendmajekgmkhaaGreatDoorLe
import Derived.Test.YtendmajekgmkhaaGreatDoorAw
import Derived.WalkSpells
import Derived.WalkLawsBesides
import Derived.Deep.DeepCutAuto
import Derived.Deep.RegionHeld3
namespace Go.Proofs.YtendmajekgmkhaaGreatDoor
open Go Go.RowKit
/-- The world with the four pairs. -/
def lawW (w : World) (p f : Int) : World := w.alloc (.cells #[.int .i64 p, .int .i64 f, .int .i64 (p % 520), .int .i64 (f % 4100), .int .i64 (p % 40), .int .i64 (f % 400), .int .i64 (p % 20), .int .i64 4096] 23)
theorem lawW_blk (w : World) (p f : Int) : (lawW w p f).heap[w.heap.size]? = some (.cells #[.int .i64 p, .int .i64 f, .int .i64 (p % 520), .int .i64 (f % 4100), .int .i64 (p % 40), .int .i64 (f % 400), .int .i64 (p % 20), .int .i64 4096] 23) := by
  show (w.heap.push _)[w.heap.size]? = _
  simp
theorem lawW_lt {w wr : World} {p f : Int} (h : Below (w.heap.size + 1) (lawW w p f) wr) : w.heap.size < wr.heap.size := by
  have h1 := h.size
  have h2 : (lawW w p f).heap.size = w.heap.size + 1 := by show (w.heap.push _).size = _; simp
  omega
theorem pair_cells (w : World) (x y : Int) : (w.alloc (.cells #[.int .i64 x, .int .i64 y] 23)).cell? ⟨w.heap.size, 0, none⟩ = some (.int .i64 x) ∧ (w.alloc (.cells #[.int .i64 x, .int .i64 y] 23)).cell? ⟨w.heap.size, 1, none⟩ = some (.int .i64 y) ∧
    w.heap.size < (w.alloc (.cells #[.int .i64 x, .int .i64 y] 23)).heap.size := by
  have hb : (w.alloc (.cells #[.int .i64 x, .int .i64 y] 23)).heap[w.heap.size]? = some (.cells #[.int .i64 x, .int .i64 y] 23) := by
    show (w.heap.push _)[w.heap.size]? = _
    simp
  refine ⟨by simp only [World.cell?, hb]; rfl, by simp only [World.cell?, hb]; rfl, ?_⟩
  show _ < (w.heap.push _).size
  simp
/-- A round behind us. -/
theorem round_end {w6 wr wB w7 w8 w9 : World} {p f : Int} (h : Below (w6.heap.size + 1) (lawW w6 p f) wr) (hB : Below wr.heap.size wr wB) (h7 : Below wB.heap.size wB w7) (h8 : Below w7.heap.size w7 w8) (h9 : Same w8 w9) :
    Below (w6.heap.size + 1) (lawW w6 p f) w9 := by
  have l := lawW_lt h
  have := hB.size
  have := h7.size
  have := h8.size
  exact (((h.trans (hB.mono (by omega))).trans (h7.mono (by omega))).trans (h8.mono (by omega))).trans (h9.below.mono (by omega))
theorem law_end {w w6 wr : World} {p f : Int} (h1 : Below w.heap.size w w6) (h : Below (w6.heap.size + 1) (lawW w6 p f) wr) : Below w.heap.size w wr := by
  have := h1.size
  exact (h1.trans ((Below.refl w6.heap.size w6).alloc (Nat.le_refl _) _ |>.mono (by omega))).trans (h.mono (by omega))
theorem law_cells {w wr : World} {p f : Int} (h : Below (w.heap.size + 1) (lawW w p f) wr) {k : Nat} (hk : k < 4) :
    ∃ x y, wr.cell? ⟨w.heap.size, k * 2, none⟩ = some (.int .i64 x) ∧ wr.cell? ⟨w.heap.size, k * 2 + 1, none⟩ = some (.int .i64 y) := by
  have hb := (h.block w.heap.size (by omega)).trans (lawW_blk w p f)
  match k, hk with
  | 0, _ => exact ⟨p, f, by simp only [World.cell?, hb]; rfl, by simp only [World.cell?, hb]; rfl⟩
  | 1, _ => exact ⟨p % 520, f % 4100, by simp only [World.cell?, hb]; rfl, by simp only [World.cell?, hb]; rfl⟩
  | 2, _ => exact ⟨p % 40, f % 400, by simp only [World.cell?, hb]; rfl, by simp only [World.cell?, hb]; rfl⟩
  | 3, _ => exact ⟨p % 20, 4096, by simp only [World.cell?, hb]; rfl, by simp only [World.cell?, hb]; rfl⟩
set_option maxRecDepth 100000 in
set_option maxHeartbeats 2000000 in
theorem law3 (p f : Int) (w : World) (hp : -9223372036854775808 ≤ p) (hf : -9223372036854775808 ≤ f)
    (ht : ∃ rest e fz, w.heap[0]? = some (.cells ⟨tab ++ rest⟩ e fz)) :
    Calls Tryz.prog 3 #[.int .i64 p, .int .i64 f] w fun e w' => e = .returned (.bool true) ∧ Below w.heap.size w w' := by
  have HA := Lib.hid (awake_calls ht)
  clear ht
  go_enter Tryz.func3, Tryz.ntmps3
  go_wp2_with fail
  refine HA.out.mono ?_
  rintro e w1 ⟨rfl, hb1⟩
  have HB1 := Lib.hid hb1
  clear hb1
  go_wp2_with fail
  refine (mod_any p 520 (by omega) (by omega) hp w1).mono ?_
  rintro e w2 ⟨rfl, rfl⟩
  go_wp2_with fail
  refine (mod_any f 4100 (by omega) (by omega) hf w2).mono ?_
  rintro e w3 ⟨rfl, rfl⟩
  go_wp2_with fail
  refine (mod_any p 40 (by omega) (by omega) hp w3).mono ?_
  rintro e w4 ⟨rfl, rfl⟩
  go_wp2_with fail
  refine (mod_any f 400 (by omega) (by omega) hf w4).mono ?_
  rintro e w5 ⟨rfl, rfl⟩
  go_wp2_with fail
  refine (mod_any p 20 (by omega) (by omega) hp w5).mono ?_
  rintro e w6 ⟨rfl, rfl⟩
  go_wp2_with fail
  go_loopw [27] (fun i wr => (∃ k : Nat, k ≤ 4 ∧ i = .int .i64 k) ∧ Below (w6.heap.size + 1) (lawW w6 p f) wr) (fun i _ => 4 - (intOf i).toNat)
  case atStart => exact ⟨⟨0, by omega, rfl⟩, Below.refl _ _⟩
  case round =>
    obtain ⟨⟨k, hk, rfl⟩, hb⟩ := hrel
    by_cases hk4 : k < 4
    · obtain ⟨x, y, e1, e2⟩ := law_cells hb hk4
      have HB := Lib.hid hb
      clear hb
      have l6 : w6.heap.size < wr.heap.size := lawW_lt HB.out
      go_wp2_with fail
      obtain ⟨c0, c1, lB⟩ := pair_cells wr x y
      have hB : Below wr.heap.size wr (wr.alloc (.cells #[.int .i64 x, .int .i64 y] 23)) := (Below.refl _ _).alloc (Nat.le_refl _) _
      generalize wr.alloc (.cells #[.int .i64 x, .int .i64 y] 23) = wB at c0 c1 lB hB ⊢
      have HBB := Lib.hid hB
      clear hB e1 e2 l6
      go_region_held3 (fun w' => w'.cell? ⟨wr.heap.size, 0, none⟩ = some (.int .i64 x) ∧ w'.cell? ⟨wr.heap.size, 1, none⟩ = some (.int .i64 y)) (first | exact ⟨c0, c1⟩ | exact ⟨d0, d1⟩ | exact ⟨s0, s1⟩ | exact ⟨r0, r1⟩) (first | (go_at_call 7; refine (lad7 x y _).mono ?_; rintro e w7 ⟨v7, k7, rfl, hb7, ho7, hk7, hz7⟩; obtain ⟨a7, q7, rfl⟩ := ownsRow_form ho7; have d0 : w7.cell? ⟨wr.heap.size, 0, none⟩ = some (.int .i64 x) := (hb7.cell (p := ⟨wr.heap.size, 0, none⟩) lB).trans c0; have d1 : w7.cell? ⟨wr.heap.size, 1, none⟩ = some (.int .i64 y) := (hb7.cell (p := ⟨wr.heap.size, 1, none⟩) lB).trans c1; have l7 : wr.heap.size < w7.heap.size := Nat.lt_of_lt_of_le lB hb7.size; have HB7 := Lib.hid hb7; have HO7 := Lib.hid ho7; have HK7 := Lib.hid hk7; have HZ7 := Lib.hid hz7; clear hb7 ho7 hk7 hz7) | (go_at_call 8; refine (lad8 x y _).mono ?_; rintro e w8 ⟨v8, k8, rfl, hb8, ho8, hk8, hz8⟩; obtain ⟨a8, q8, rfl⟩ := ownsRow_form ho8; obtain rfl := lad_same HK7.out HZ7.out hk8 hz8; have s0 : w8.cell? ⟨wr.heap.size, 0, none⟩ = some (.int .i64 x) := (hb8.cell (p := ⟨wr.heap.size, 0, none⟩) l7).trans d0; have s1 : w8.cell? ⟨wr.heap.size, 1, none⟩ = some (.int .i64 y) := (hb8.cell (p := ⟨wr.heap.size, 1, none⟩) l7).trans d1; have HB8 := Lib.hid hb8; have HO8 := Lib.hid ho8; clear hb8 ho8 hk8 hz8) | (go_at_call 6; refine (same6 (base := 0) (ownsRow_base (ownsRow_later HO7.out HB8.out) (Nat.zero_le _)) (ownsRow_base HO8.out (Nat.zero_le _)) (lad_len HK7.out HZ7.out)).mono ?_; rintro e w9 ⟨rfl, hS9⟩; have r0 : w9.cell? ⟨wr.heap.size, 0, none⟩ = some (.int .i64 x) := (hS9.cell ⟨wr.heap.size, 0, none⟩).trans s0; have r1 : w9.cell? ⟨wr.heap.size, 1, none⟩ = some (.int .i64 y) := (hS9.cell ⟨wr.heap.size, 1, none⟩).trans s1; have HS9 := Lib.hid hS9; clear hS9))
      all_goals
        go_wp2_with fail
        go_roundw
        case rel => exact ⟨⟨k + 1, by omega, by go_num⟩, round_end HB.out (HBB.out.drew) HB7.out HB8.out HS9.out⟩
        case measure => simp [intOf]; omega
    · have R := law_end HB1.out hb
      have HR := Lib.hid R
      clear R hb
      go_wp2_with fail
      go_ret
      exact ⟨rfl, HR.out⟩
end Go.Proofs.YtendmajekgmkhaaGreatDoor
