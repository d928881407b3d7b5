/-
  Walk of the graph's fits.
-/
import Derived.Test.YtfdaghhplijpeaaGreatDoorLmPfPg
namespace Go.Proofs.YtfdaghhplijpeaaGreatDoor
open Go Go.RowKit

/-- The two boxes that fits makes: the graph's pointer and the node. -/
structure FitsM (w w' : World) (p m : Nat) (x : Nd) : Prop where
  below : Below w.heap.size w w'
  box : BoxG w' w.heap.size p m
  nd : w'.heap[w.heap.size + 1]? = some (.cells ⟨ndCells x⟩ 63 (0, 0))
theorem fitsM_of {w w' : World} {B p : Nat} {v mv : Value} {L : List Nd} {x : Nd} (h : GraphR w B p v mv L) (hb : Below ((w.alloc (.cells #[.pointer (some ⟨p, 0, none⟩)] 27)).alloc (.cells ⟨ndCells x⟩ 63)).heap.size ((w.alloc (.cells #[.pointer (some ⟨p, 0, none⟩)] 27)).alloc (.cells ⟨ndCells x⟩ 63)) w') :
    FitsM w w' p L.length x := by
  have hs : ((w.alloc (.cells #[.pointer (some ⟨p, 0, none⟩)] 27)).alloc (.cells ⟨ndCells x⟩ 63)).heap.size = w.heap.size + 2 := by simp
  rw [hs] at hb
  have h0 : Below w.heap.size w ((w.alloc (.cells #[.pointer (some ⟨p, 0, none⟩)] 27)).alloc (.cells ⟨ndCells x⟩ 63)) := ((Below.refl w.heap.size w).alloc (Nat.le_refl _) _).alloc (by simp) _
  have hw := h0.trans (hb.mono (by omega))
  have b0 := cell_of_blk ((hw.block p (Array.getElem?_eq_some_iff.1 h.blk).1).trans h.blk) 0
  obtain ⟨a, c, rfl⟩ := h.nds.slice
  refine ⟨hw, ⟨?_, a, c, b0⟩, ?_⟩
  · have e : w'.heap[w.heap.size]? = some (.cells #[.pointer (some ⟨p, 0, none⟩)] 27 (0, 0)) := by
      rw [hb.block _ (by omega)]
      show ((w.heap.push _).push _)[w.heap.size]? = _
      rw [Array.getElem?_push, if_neg (by simp)]
      simp
    exact cell_of_blk e 0
  · rw [hb.block _ (by omega)]
    show ((w.heap.push _).push _)[w.heap.size + 1]? = _
    rw [Array.getElem?_push, if_pos (by simp)]
theorem FitsM.later {w w' w'' : World} {p m : Nat} {x : Nd} (h : FitsM w w' p m x) (hb : Below w'.heap.size w' w'') : FitsM w w'' p m x :=
  ⟨h.below.trans (hb.mono h.below.size), h.box.below (Fr.of_below hb), (hb.block _ (Array.getElem?_eq_some_iff.1 h.nd).1).trans h.nd⟩
theorem containsFunc_at {w : World} {B bx p m n : Nat} {a : Option Addr} {c : Nat} {zs : List Int} (hlen : zs.length = n) (h : w.ownsRow B 3 1 (.slice a zs.length c) zs.length (ints zs)) (hb : BoxG w bx p m) (hz : ∀ z ∈ zs, 0 ≤ z ∧ z < (m : Int)) (hm : m ≤ 10000) (hn : zs.length ≤ 2) :
    Calls Tryz.prog 104 #[.slice a n c, .func (.func 105) #[] #[.pointer (some ⟨bx, 0, none⟩)]] w fun e w' => e = .returned (.bool false) ∧ Fr (fun _ => False) w w' := by
  subst hlen
  exact containsFunc_calls h hb hz hm hn
theorem args_0 {k a b n : Int} {t : ByteArray} (h : arity k = 0) : (args ⟨k, a, b, n, t⟩).length = 0 := by unfold args; rw [if_pos h]; rfl
theorem args_1 {k a b n : Int} {t : ByteArray} (h : arity k = 1) : (args ⟨k, a, b, n, t⟩).length = 1 := by unfold args; rw [if_neg (by simp only; omega), if_pos h]; rfl
theorem args_2 {k a b n : Int} {t : ByteArray} (h : arity k = 2) : (args ⟨k, a, b, n, t⟩).length = 2 := by unfold args; rw [if_neg (by simp only; omega), if_neg (by simp only; omega)]; rfl
set_option maxRecDepth 100000 in
set_option maxHeartbeats 4000000 in
theorem fits_c0 {w : World} {B p : Nat} {v mv : Value} {L : List Nd} (h : GraphR w B p v mv L) (hl : L.length ≤ 5000) {k : Int} (hk : arity k = 0) (h3 : 3 ≤ k) (h4 : k ≤ 4) (hf : FitsN L.length ⟨k, 0, 0, 0, ByteArray.empty⟩) :
    Calls Tryz.prog 67 #[ptr p, ndVal ⟨k, 0, 0, 0, ByteArray.empty⟩] w fun e w' => e = .returned (.bool true) ∧ Below w.heap.size w w' := by
  have HX := Lib.hid (And.intro h (And.intro hl hf))
  have hmf : ∀ (fn : Fn) (first cap : Array Value) (w : World), (Instr.makeFunc fn first cap).run Tryz.prog w = .ok (.func fn first cap) w := fun _ _ _ _ => rfl
  clear h hl hf
  unfold ptr ndVal
  simp only
  have n1 : ¬ k = 1 := by omega
  have n2 : ¬ k = 2 := by omega
  have n10 : ¬ k = 10 := by omega
  have HA := Lib.hid hk
  have HK := Lib.hid (And.intro h3 h4)
  clear hk h3 h4
  go_enter Tryz.func67, Tryz.ntmps67
  go_wp2_with fail
  refine (graphOps_calls (x := ⟨k, 0, 0, 0, ByteArray.empty⟩) (by have := HK.out; simp only; omega) (by have := HK.out; simp only; omega) _).mono ?_
  rintro e w3 ⟨av, rfl, ha⟩
  have HF3 := Lib.hid (fitsM_of (x := ⟨k, 0, 0, 0, ByteArray.empty⟩) HX.out.1 ha.1)
  have hown := ha.2
  obtain ⟨aa, ac, rfl⟩ := row_slice hown
  have HOWN := Lib.hid hown
  obtain ⟨d0, d1, d2, d3, d4⟩ := nd_cells HF3.out.nd
  simp only at d0 d1 d2 d3 d4
  have hs3 : w.heap.size + 1 < w3.heap.size := World.block_lt_of_cell? w3 _ d0
  have hbx := HF3.out.box.box
  rw [args_0 HA.out]
  clear ha hown
  go_wp2_with fail
  refine (containsFunc_at (args_0 HA.out) HOWN.out HF3.out.box HX.out.2.2.args (by have := HX.out.2.1; omega) (args_len _)).mono ?_
  rintro e w4 ⟨rfl, hf4⟩
  have HF4 := Lib.hid (HF3.out.later hf4.below)
  have hs4 := hf4.size
  clear d0 d1 d2 d3 d4 hbx hf4
  obtain ⟨d0, d1, d2, d3, d4⟩ := nd_cells HF4.out.nd
  simp only at d0 d1 d2 d3 d4
  have hs5 : w.heap.size + 1 < w4.heap.size := by omega
  clear hs3 hs4
  go_wp2_with fail
  go_ret
  first
    | exact ⟨by first | rfl | (simp; done), HF4.out.below.alloc HF4.out.below.size _⟩
    | exact ⟨by first | rfl | (simp; done), (HF4.out.below.alloc HF4.out.below.size _).setCell HF4.out.below.size _⟩
    | exact ⟨by first | rfl | (simp; done), ((HF4.out.below.alloc HF4.out.below.size _).setCell HF4.out.below.size _).setCell HF4.out.below.size _⟩
set_option maxRecDepth 100000 in
set_option maxHeartbeats 4000000 in
theorem fits_c1 {w : World} {B p : Nat} {v mv : Value} {L : List Nd} (h : GraphR w B p v mv L) (hl : L.length ≤ 5000) {k a : Int} (hk : arity k = 1) (h3 : 5 ≤ k) (h4 : k ≤ 16) (h10 : k ≠ 10) (hf : FitsN L.length ⟨k, a, 0, 0, ByteArray.empty⟩) :
    Calls Tryz.prog 67 #[ptr p, ndVal ⟨k, a, 0, 0, ByteArray.empty⟩] w fun e w' => e = .returned (.bool true) ∧ Below w.heap.size w w' := by
  have HX := Lib.hid (And.intro h (And.intro hl hf))
  have hmf : ∀ (fn : Fn) (first cap : Array Value) (w : World), (Instr.makeFunc fn first cap).run Tryz.prog w = .ok (.func fn first cap) w := fun _ _ _ _ => rfl
  clear h hl hf
  unfold ptr ndVal
  simp only
  have n1 : ¬ k = 1 := by omega
  have n2 : ¬ k = 2 := by omega
  have n10 : ¬ k = 10 := by omega
  have HA := Lib.hid hk
  have HK := Lib.hid (And.intro h3 h4)
  clear hk h3 h4 h10
  go_enter Tryz.func67, Tryz.ntmps67
  go_wp2_with fail
  refine (graphOps_calls (x := ⟨k, a, 0, 0, ByteArray.empty⟩) (by have := HK.out; simp only; omega) (by have := HK.out; simp only; omega) _).mono ?_
  rintro e w3 ⟨av, rfl, ha⟩
  have HF3 := Lib.hid (fitsM_of (x := ⟨k, a, 0, 0, ByteArray.empty⟩) HX.out.1 ha.1)
  have hown := ha.2
  obtain ⟨aa, ac, rfl⟩ := row_slice hown
  have HOWN := Lib.hid hown
  obtain ⟨d0, d1, d2, d3, d4⟩ := nd_cells HF3.out.nd
  simp only at d0 d1 d2 d3 d4
  have hs3 : w.heap.size + 1 < w3.heap.size := World.block_lt_of_cell? w3 _ d0
  have hbx := HF3.out.box.box
  rw [args_1 HA.out]
  clear ha hown
  go_wp2_with fail
  refine (containsFunc_at (args_1 HA.out) HOWN.out HF3.out.box HX.out.2.2.args (by have := HX.out.2.1; omega) (args_len _)).mono ?_
  rintro e w4 ⟨rfl, hf4⟩
  have HF4 := Lib.hid (HF3.out.later hf4.below)
  have hs4 := hf4.size
  clear d0 d1 d2 d3 d4 hbx hf4
  obtain ⟨d0, d1, d2, d3, d4⟩ := nd_cells HF4.out.nd
  simp only at d0 d1 d2 d3 d4
  have hs5 : w.heap.size + 1 < w4.heap.size := by omega
  clear hs3 hs4
  go_wp2_with fail
  go_ret
  first
    | exact ⟨by first | rfl | (simp; done), HF4.out.below.alloc HF4.out.below.size _⟩
    | exact ⟨by first | rfl | (simp; done), (HF4.out.below.alloc HF4.out.below.size _).setCell HF4.out.below.size _⟩
    | exact ⟨by first | rfl | (simp; done), ((HF4.out.below.alloc HF4.out.below.size _).setCell HF4.out.below.size _).setCell HF4.out.below.size _⟩
set_option maxRecDepth 100000 in
set_option maxHeartbeats 4000000 in
theorem fits_c2 {w : World} {B p : Nat} {v mv : Value} {L : List Nd} (h : GraphR w B p v mv L) (hl : L.length ≤ 5000) {k a b : Int} (hk : arity k = 2) (h3 : 6 ≤ k) (h4 : k ≤ 9) (hf : FitsN L.length ⟨k, a, b, 0, ByteArray.empty⟩) :
    Calls Tryz.prog 67 #[ptr p, ndVal ⟨k, a, b, 0, ByteArray.empty⟩] w fun e w' => e = .returned (.bool true) ∧ Below w.heap.size w w' := by
  have HX := Lib.hid (And.intro h (And.intro hl hf))
  have hmf : ∀ (fn : Fn) (first cap : Array Value) (w : World), (Instr.makeFunc fn first cap).run Tryz.prog w = .ok (.func fn first cap) w := fun _ _ _ _ => rfl
  clear h hl hf
  unfold ptr ndVal
  simp only
  have n1 : ¬ k = 1 := by omega
  have n2 : ¬ k = 2 := by omega
  have n10 : ¬ k = 10 := by omega
  have HA := Lib.hid hk
  have HK := Lib.hid (And.intro h3 h4)
  clear hk h3 h4
  go_enter Tryz.func67, Tryz.ntmps67
  go_wp2_with fail
  refine (graphOps_calls (x := ⟨k, a, b, 0, ByteArray.empty⟩) (by have := HK.out; simp only; omega) (by have := HK.out; simp only; omega) _).mono ?_
  rintro e w3 ⟨av, rfl, ha⟩
  have HF3 := Lib.hid (fitsM_of (x := ⟨k, a, b, 0, ByteArray.empty⟩) HX.out.1 ha.1)
  have hown := ha.2
  obtain ⟨aa, ac, rfl⟩ := row_slice hown
  have HOWN := Lib.hid hown
  obtain ⟨d0, d1, d2, d3, d4⟩ := nd_cells HF3.out.nd
  simp only at d0 d1 d2 d3 d4
  have hs3 : w.heap.size + 1 < w3.heap.size := World.block_lt_of_cell? w3 _ d0
  have hbx := HF3.out.box.box
  rw [args_2 HA.out]
  clear ha hown
  go_wp2_with fail
  refine (containsFunc_at (args_2 HA.out) HOWN.out HF3.out.box HX.out.2.2.args (by have := HX.out.2.1; omega) (args_len _)).mono ?_
  rintro e w4 ⟨rfl, hf4⟩
  have HF4 := Lib.hid (HF3.out.later hf4.below)
  have hs4 := hf4.size
  clear d0 d1 d2 d3 d4 hbx hf4
  obtain ⟨d0, d1, d2, d3, d4⟩ := nd_cells HF4.out.nd
  simp only at d0 d1 d2 d3 d4
  have hs5 : w.heap.size + 1 < w4.heap.size := by omega
  clear hs3 hs4
  go_wp2_with fail
  go_ret
  first
    | exact ⟨by first | rfl | (simp; done), HF4.out.below.alloc HF4.out.below.size _⟩
    | exact ⟨by first | rfl | (simp; done), (HF4.out.below.alloc HF4.out.below.size _).setCell HF4.out.below.size _⟩
    | exact ⟨by first | rfl | (simp; done), ((HF4.out.below.alloc HF4.out.below.size _).setCell HF4.out.below.size _).setCell HF4.out.below.size _⟩

end Go.Proofs.YtfdaghhplijpeaaGreatDoor
