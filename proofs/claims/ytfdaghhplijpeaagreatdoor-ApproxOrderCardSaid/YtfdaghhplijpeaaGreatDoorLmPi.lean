/-
  Walks of the graph's fits at decimals, names and powers.
-/
import Derived.Test.YtfdaghhplijpeaaGreatDoorLmPh
import Derived.Deep.RegionHeld3
namespace Go.Proofs.YtfdaghhplijpeaaGreatDoor
open Go Go.RowKit

set_option maxRecDepth 100000 in
set_option maxHeartbeats 4000000 in
theorem fits_con {w : World} {B p : Nat} {v mv : Value} {L : List Nd} (h : GraphR w B p v mv L) (hl : L.length ≤ 5000) {t : ByteArray} (ht : t ∈ nums) (hT : Tabd w) (hf : FitsN L.length ⟨1, 0, 0, 0, t⟩) :
    Calls Tryz.prog 67 #[ptr p, ndVal ⟨1, 0, 0, 0, t⟩] w fun e w' => e = .returned (.bool true) ∧ Below w.heap.size w w' := by
  have HX := Lib.hid (And.intro h (And.intro hl hf))
  have HT := Lib.hid (And.intro ht hT)
  clear ht hT
  have hmf : ∀ (fn : Fn) (first cap : Array Value) (w : World), (Instr.makeFunc fn first cap).run Tryz.prog w = .ok (.func fn first cap) w := fun _ _ _ _ => rfl
  clear h hl hf
  unfold ptr ndVal
  simp only
  go_enter Tryz.func67, Tryz.ntmps67
  go_wp2_with fail
  refine (graphOps_calls (x := ⟨1, 0, 0, 0, t⟩) (by simp) (by simp) _).mono ?_
  rintro e w3 ⟨av, rfl, ha⟩
  have HF3 := Lib.hid (fitsM_of (x := ⟨1, 0, 0, 0, t⟩) HX.out.1 ha.1)
  have hown := ha.2
  obtain ⟨aa, ac, rfl⟩ := row_slice hown
  have HOWN := Lib.hid hown
  obtain ⟨d0, d1, d2, d3, d4⟩ := nd_cells HF3.out.nd
  simp only at d0 d1 d2 d3 d4
  have hs3 : w.heap.size + 1 < w3.heap.size := World.block_lt_of_cell? w3 _ d0
  have hbx := HF3.out.box.box
  rw [args_0 (show arity 1 = 0 by rfl)]
  clear ha hown
  go_wp2_with fail
  refine (containsFunc_at (args_0 (show arity 1 = 0 by rfl)) HOWN.out HF3.out.box HX.out.2.2.args (by have := HX.out.2.1; omega) (args_len _)).mono ?_
  rintro e w4 ⟨rfl, hf4⟩
  have HF4 := Lib.hid (HF3.out.later hf4.below)
  have hs4 := hf4.size
  clear d0 d1 d2 d3 d4 hbx hf4
  obtain ⟨d0, d1, d2, d3, d4⟩ := nd_cells HF4.out.nd
  simp only at d0 d1 d2 d3 d4
  have hs5 : w.heap.size + 1 < w4.heap.size := by omega
  clear hs3 hs4
  go_wp2_with fail
  refine (rat_calls ratParse_ok (HT.out.2.below (HF4.out.below.alloc HF4.out.below.size _)) HT.out.1).mono ?_
  rintro e w5 ⟨s, qa, qn, qc, ra, rn, rc, rfl, hb⟩
  have hb' : Below (w4.heap.size + 1) (w4.alloc (.cells ⟨ndCells ⟨1, 0, 0, 0, ByteArray.empty⟩⟩ 63)) w5 := by rw [← alloc_size w4]; exact hb
  have HP := Lib.hid (nd_block hb')
  have HF5 := Lib.hid (HF4.out.later (nd_below hb'))
  clear d0 d1 d2 d3 d4 hb hb'
  obtain ⟨d0, d1, d2, d3, d4⟩ := nd_cells HF5.out.nd
  obtain ⟨e0, e1, e2, e3, e4⟩ := nd_cells HP.out
  have e5 := frozen_of_blk HP.out 4
  simp only at d0 d1 d2 d3 d4 e0 e1 e2 e3 e4
  have hs6 : w4.heap.size < w5.heap.size := World.block_lt_of_cell? w5 _ e0
  have hs7 : w.heap.size + 1 < w5.heap.size := by omega
  go_wp2_with fail
  go_ret
  first
    | exact ⟨by first | rfl | (simp; done), (HF5.out.below.setCell HF4.out.below.size _).alloc (by have := HF5.out.below.size; simp; omega) _⟩
set_option maxRecDepth 100000 in
set_option maxHeartbeats 4000000 in
theorem fits_nam {w : World} {B p : Nat} {v mv : Value} {L : List Nd} (h : GraphR w B p v mv L) (hl : L.length ≤ 5000) {t : ByteArray} (ht : t ∈ nms) (hT : Tabd w) (hf : FitsN L.length ⟨2, 0, 0, 0, t⟩) :
    Calls Tryz.prog 67 #[ptr p, ndVal ⟨2, 0, 0, 0, t⟩] w fun e w' => e = .returned (.bool true) ∧ Below w.heap.size w w' := by
  have HX := Lib.hid (And.intro h (And.intro hl hf))
  have HT := Lib.hid (And.intro ht hT)
  clear ht hT
  have hmf : ∀ (fn : Fn) (first cap : Array Value) (w : World), (Instr.makeFunc fn first cap).run Tryz.prog w = .ok (.func fn first cap) w := fun _ _ _ _ => rfl
  clear h hl hf
  unfold ptr ndVal
  simp only
  go_enter Tryz.func67, Tryz.ntmps67
  go_wp2_with fail
  refine (graphOps_calls (x := ⟨2, 0, 0, 0, t⟩) (by simp) (by simp) _).mono ?_
  rintro e w3 ⟨av, rfl, ha⟩
  have HF3 := Lib.hid (fitsM_of (x := ⟨2, 0, 0, 0, t⟩) HX.out.1 ha.1)
  have hown := ha.2
  obtain ⟨aa, ac, rfl⟩ := row_slice hown
  have HOWN := Lib.hid hown
  obtain ⟨d0, d1, d2, d3, d4⟩ := nd_cells HF3.out.nd
  simp only at d0 d1 d2 d3 d4
  have hs3 : w.heap.size + 1 < w3.heap.size := World.block_lt_of_cell? w3 _ d0
  have hbx := HF3.out.box.box
  rw [args_0 (show arity 2 = 0 by rfl)]
  clear ha hown
  go_wp2_with fail
  refine (containsFunc_at (args_0 (show arity 2 = 0 by rfl)) HOWN.out HF3.out.box HX.out.2.2.args (by have := HX.out.2.1; omega) (args_len _)).mono ?_
  rintro e w4 ⟨rfl, hf4⟩
  have HF4 := Lib.hid (HF3.out.later hf4.below)
  have hs4 := hf4.size
  clear d0 d1 d2 d3 d4 hbx hf4
  obtain ⟨d0, d1, d2, d3, d4⟩ := nd_cells HF4.out.nd
  simp only at d0 d1 d2 d3 d4
  have hs5 : w.heap.size + 1 < w4.heap.size := by omega
  clear hs3 hs4
  go_wp2_with fail
  have hPb := heap_alloc_new w4 (.cells #[.int .i64 2, .int .i64 0, .int .i64 0, .int .i64 0, .string { data := #[] }] 63)
  have hPs := alloc_size w4 (.cells #[.int .i64 2, .int .i64 0, .int .i64 0, .int .i64 0, .string { data := #[] }] 63)
  have hPF := HF4.out.later ((Below.refl w4.heap.size w4).alloc (Nat.le_refl _) (.cells #[.int .i64 2, .int .i64 0, .int .i64 0, .int .i64 0, .string { data := #[] }] 63))
  generalize w4.alloc (.cells #[.int .i64 2, .int .i64 0, .int .i64 0, .int .i64 0, .string { data := #[] }] 63) = wP at hPb hPs hPF ⊢
  have HP := Lib.hid hPb
  have HF5 := Lib.hid hPF
  have HS5 := Lib.hid hPs
  obtain ⟨g, hg⟩ : ∃ g, w4.heap.size = g := ⟨_, rfl⟩
  rw [hg] at HP HS5 hs5 ⊢
  clear d0 d1 d2 d3 d4 hPb hPs hPF hg
  have HG := Lib.hid hs5
  have hTb : ∀ w', Fr (· = g) wP w' → Tabd w' := fun w' hf => HT.out.2.below (HF5.out.below.trans (hf.below_of (fun k hk e => by have := HG.out; omega) HF5.out.below.size))
  have HTB := Lib.hid hTb
  have hS : ∀ w', Fr (· = g) wP w' → w'.cell? ⟨w.heap.size + 1, 4, none⟩ = some (.string t) ∧ Fr (· = g) wP w' := fun w' hf => ⟨hf.cell (nd_cells HF5.out.nd).2.2.2.2 (fun e => by have := HG.out; simp at e; omega), hf⟩
  have HS := Lib.hid hS
  have f4 := frozen_of_blk HP.out 4
  have hs6 : g < wP.heap.size := World.block_lt_of_cell? wP _ (nd_cells (x := ⟨2, 0, 0, 0, ByteArray.empty⟩) HP.out).1
  have hs7 : w.heap.size + 1 < wP.heap.size := by omega
  have d4 := (nd_cells HF5.out.nd).2.2.2.2
  simp only at d4
  have HH := Lib.hid (And.intro hs6 hs7)
  clear hTb hS
  go_region_held3 (fun w' => w'.cell? ⟨w.heap.size + 1, 4, none⟩ = some (.string t) ∧ Fr (· = g) wP w')
    ((refine HS.out _ ?_; first | exact hA2.setCell _ (fun _ => rfl) | exact hA2 | exact hA1 | exact Fr.refl _ _ | exact (Fr.refl _ _).drew))
    (first
      | (go_at_call 107; refine (bool_calls word_ok (HTB.out _ (by first | exact Fr.refl _ _ | exact (Fr.refl _ _).drew)) HT.out.1).mono ?_; rintro e w8 ⟨rfl, hb8⟩; have hB1 : Below wP.heap.size wP w8 := (Below.refl _ wP).drew.trans hb8; have hA1 : Fr (· = g) wP w8 := Fr.of_below hB1)
      | (go_at_call 108; refine (bool_calls reserved_ok (HTB.out _ hA1) HT.out.1).mono ?_; rintro e w9 ⟨rfl, hb9⟩; have hB2 : Below wP.heap.size wP w9 := hB1.trans (hb9.mono hB1.size); have hA2 : Fr (· = g) wP w9 := Fr.of_below hB2; have HP9 := (hB2.block g HH.out.1).trans HP.out; have HF9 := HF5.out.later hB2; have f9 := frozen_of_blk HP9 4; obtain ⟨p0, p1, p2, p3, p4⟩ := nd_cells (x := ⟨2, 0, 0, 0, ByteArray.empty⟩) HP9; obtain ⟨q0, q1, q2, q3, q4⟩ := nd_cells HF9.nd; simp only at p0 p1 p2 p3 p4 q0 q1 q2 q3 q4; have s9 := Nat.lt_of_lt_of_le HH.out.1 hB2.size; have s9' := Nat.lt_of_lt_of_le HH.out.2 hB2.size; have HL9 := Lib.hid HF9.below; clear HP9 HF9))
  all_goals
    go_wp2_with fail
    go_ret
    exact ⟨by first | rfl | (simp; done), (HL9.out.setCell (show w.heap.size ≤ g by have := HG.out; omega) _)⟩
set_option maxRecDepth 100000 in
set_option maxHeartbeats 4000000 in
theorem fits_pow {w : World} {B p : Nat} {v mv : Value} {L : List Nd} (h : GraphR w B p v mv L) (hl : L.length ≤ 5000) {a n : Int} (hn1 : -3 ≤ n) (hn2 : n ≤ 4) (hf : FitsN L.length ⟨10, a, 0, n, ByteArray.empty⟩) :
    Calls Tryz.prog 67 #[ptr p, ndVal ⟨10, a, 0, n, ByteArray.empty⟩] w fun e w' => e = .returned (.bool true) ∧ Below w.heap.size w w' := by
  have HX := Lib.hid (And.intro h (And.intro hl hf))
  have hmf : ∀ (fn : Fn) (first cap : Array Value) (w : World), (Instr.makeFunc fn first cap).run Tryz.prog w = .ok (.func fn first cap) w := fun _ _ _ _ => rfl
  clear h hl hf
  unfold ptr ndVal
  simp only
  go_enter Tryz.func67, Tryz.ntmps67
  go_wp2_with fail
  refine (graphOps_calls (x := ⟨10, a, 0, n, ByteArray.empty⟩) (by simp) (by simp) _).mono ?_
  rintro e w3 ⟨av, rfl, ha⟩
  have HF3 := Lib.hid (fitsM_of (x := ⟨10, a, 0, n, ByteArray.empty⟩) HX.out.1 ha.1)
  have hown := ha.2
  obtain ⟨aa, ac, rfl⟩ := row_slice hown
  have HOWN := Lib.hid hown
  obtain ⟨d0, d1, d2, d3, d4⟩ := nd_cells HF3.out.nd
  simp only at d0 d1 d2 d3 d4
  have hs3 : w.heap.size + 1 < w3.heap.size := World.block_lt_of_cell? w3 _ d0
  have hbx := HF3.out.box.box
  rw [args_1 (show arity 10 = 1 by rfl)]
  clear ha hown
  go_wp2_with fail
  refine (containsFunc_at (args_1 (show arity 10 = 1 by rfl)) HOWN.out HF3.out.box HX.out.2.2.args (by have := HX.out.2.1; omega) (args_len _)).mono ?_
  rintro e w4 ⟨rfl, hf4⟩
  have HF4 := Lib.hid (HF3.out.later hf4.below)
  have hs4 := hf4.size
  clear d0 d1 d2 d3 d4 hbx hf4
  obtain ⟨d0, d1, d2, d3, d4⟩ := nd_cells HF4.out.nd
  simp only at d0 d1 d2 d3 d4
  have hs5 : w.heap.size + 1 < w4.heap.size := by omega
  clear hs3 hs4
  go_wp2_with fail
  have hPb := heap_alloc_new w4 (.cells #[.int .i64 10, .int .i64 a, .int .i64 0, .int .i64 0, .string { data := #[] }] 63)
  have hPs := alloc_size w4 (.cells #[.int .i64 10, .int .i64 a, .int .i64 0, .int .i64 0, .string { data := #[] }] 63)
  have hPF := HF4.out.later ((Below.refl w4.heap.size w4).alloc (Nat.le_refl _) (.cells #[.int .i64 10, .int .i64 a, .int .i64 0, .int .i64 0, .string { data := #[] }] 63))
  generalize w4.alloc (.cells #[.int .i64 10, .int .i64 a, .int .i64 0, .int .i64 0, .string { data := #[] }] 63) = wP at hPb hPs hPF ⊢
  have HP := Lib.hid hPb
  have HF5 := Lib.hid hPF
  have HS5 := Lib.hid hPs
  obtain ⟨g, hg⟩ : ∃ g, w4.heap.size = g := ⟨_, rfl⟩
  rw [hg] at HP HS5 hs5 ⊢
  clear d0 d1 d2 d3 d4 hPb hPs hPF hg
  have f3 := frozen_of_blk HP.out 3
  have hs6 : g < wP.heap.size := World.block_lt_of_cell? wP _ (nd_cells (x := ⟨10, a, 0, 0, ByteArray.empty⟩) HP.out).1
  have hs7 : w.heap.size + 1 < wP.heap.size := by omega
  obtain ⟨d0, d1, d2, d3, d4⟩ := nd_cells HF5.out.nd
  obtain ⟨e0, e1, e2, e3, e4⟩ := nd_cells (x := ⟨10, a, 0, 0, ByteArray.empty⟩) HP.out
  simp only at d0 d1 d2 d3 d4 e0 e1 e2 e3 e4
  have hg1 : decide ((-64 : Int) ≤ n) = true := decide_eq_true (by omega)
  have hg2 : decide (n ≤ (64 : Int)) = true := decide_eq_true (by omega)
  go_region
  all_goals
    go_wp2_with fail
    go_ret
    exact ⟨by first | rfl | (simp; done), (HF5.out.below.setCell (show w.heap.size ≤ g by omega) _).drew⟩
end Go.Proofs.YtfdaghhplijpeaaGreatDoor
