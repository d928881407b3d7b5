/-
  Walk of dyadic.Make.
-/
import Derived.Test.YtkpjikaobjpkoaaGreatDoorPkRmRn
namespace Go.Proofs.YtkpjikaobjpkoaaGreatDoor
open Go.RowKit

/-- The normal form of m * 2^e: its mantissa and its exponent. -/
noncomputable def oddI (m : Int) : Int := if m = 0 then 0 else sgnI (decide (m < 0)) (m.natAbs / 2 ^ tzN m.natAbs)
noncomputable def expI (m e : Int) : Int := if m = 0 then 0 else e + tzN m.natAbs
theorem tz_spec {n : Nat} (h : n ≠ 0) : ∃ k, n = 2 ^ tzN n * (2 * k + 1) ∧ n / 2 ^ tzN n = 2 * k + 1 := by
  obtain ⟨t, k, e⟩ := odd_part n h
  have ht := tz_eq e
  refine ⟨k, by rw [ht]; exact e, ?_⟩
  rw [ht]
  conv => lhs; rw [e]
  exact Nat.mul_div_cancel_left _ (Nat.pow_pos (by decide))
theorem sgn_abs (b : Bool) (n : Nat) : (sgnI b n).natAbs = n := by unfold sgnI; split <;> simp
theorem ny_make {m e : Int} (hs : m.natAbs < 2 ^ kBits) (he : -3000 ≤ e) (he2 : e + tzN m.natAbs ≤ 3000) : Ny (oddI m) (expI m e) := by
  unfold oddI expI
  by_cases h0 : m = 0
  · rw [if_pos h0, if_pos h0]
    exact ⟨.inl ⟨rfl, rfl⟩, by omega, by omega, by simp; exact Nat.pow_pos (by decide)⟩
  · rw [if_neg h0, if_neg h0]
    obtain ⟨k, e1, e2⟩ := tz_spec (n := m.natAbs) (by omega)
    refine ⟨.inr ?_, by omega, he2, ?_⟩
    · rw [e2]
      unfold sgnI
      split <;> omega
    · rw [sgn_abs]
      exact Nat.lt_of_le_of_lt (Nat.div_le_self _ _) hs
def ResD (w : World) (t : Nat) : Prop := w.heap[t]? = some (.cells #[.bool false, .slice none 0 0, .int .i64 0] 26 (0, 0))
theorem ResD.below {w w' : World} {t : Nat} (h : ResD w t) (hb : Below w.heap.size w w') : ResD w' t := (hb.block t (Array.getElem?_eq_some_iff.1 h).1).trans h
theorem ResD.facts {w : World} {t : Nat} (h : ResD w t) : w.cell? ⟨t, 0, none⟩ = some (.bool false) ∧ w.cell? ⟨t, 1, none⟩ = some (.slice none 0 0) ∧ w.cell? ⟨t, 2, none⟩ = some (.int .i64 0) ∧ w.frozen? ⟨t, 0, none⟩ = false ∧ w.frozen? ⟨t, 1, none⟩ = false ∧ w.frozen? ⟨t, 2, none⟩ = false ∧ t < w.heap.size :=
  ⟨(cell_of_blk h 0).trans rfl, (cell_of_blk h 1).trans rfl, (cell_of_blk h 2).trans rfl, frozen_of_blk h 0, frozen_of_blk h 1, frozen_of_blk h 2, (Array.getElem?_eq_some_iff.1 h).1⟩
/-- The call returns a dyadic number of its own, and no error. -/
def DyQ (m e : Int) (w : World) (en : Ending) (w' : World) : Prop := ∃ d, en = .returned (.tuple #[d, .int .i64 0]) ∧ DyF w' w.heap.size d m e ∧ Below w.heap.size w w'
theorem DyF.form {w : World} {base : Nat} {x : Value} {m e : Int} (h : DyF w base x m e) : ∃ b a k c, x = .agg #[.bool b, .slice a k c, .int .i64 e] ∧ b = decide (m < 0) := by
  obtain ⟨v, rfl, hv⟩ := h
  obtain ⟨a, k, c, rfl⟩ := intSlice hv.r
  exact ⟨_, a, k, c, rfl, rfl⟩
theorem dy_set {w w1 : World} {t base : Nat} {b : Bool} {v : Value} {m e : Int} (hb : Below w.heap.size w w1) (ht : w.heap.size ≤ t) (hr : ResD w1 t) (hf : DyF w1 base (.agg #[.bool b, v, .int .i64 e]) m e) (hbase : w.heap.size ≤ base) :
    DyF (((w1.setCell ⟨t, 0, none⟩ (.bool b)).setCell ⟨t, 1, none⟩ v).setCell ⟨t, 2, none⟩ (.int .i64 e)) w.heap.size (.agg #[.bool b, v, .int .i64 e]) m e ∧ Below w.heap.size w (((w1.setCell ⟨t, 0, none⟩ (.bool b)).setCell ⟨t, 1, none⟩ v).setCell ⟨t, 2, none⟩ (.int .i64 e)) :=
  ⟨(dyF_setCell (dyF_setCell (dyF_setCell hf hr (by decide) 0 _) (blk_setCell hr 0 _) (by decide) 1 _) (blk_setCell (blk_setCell hr 0 _) 1 _) (by decide) 2 _).base hbase, ((hb.setCell ht _).setCell ht _).setCell ht _⟩
theorem TabAt.below {w w' : World} (h : TabAt w) (hb : Below w.heap.size w w') : TabAt w' := fun j hj => (hb.cell (World.block_lt_of_cell? w _ (h j hj))).trans (h j hj)
/-- The argument's box and the result's block. -/
structure BoxID (w w0 : World) (s : Bool) (v : Value) (n : Nat) : Prop where
  below : Below w.heap.size w w0
  res : ResD w0 (w.heap.size + 1)
  c0 : w0.cell? ⟨w.heap.size, 0, none⟩ = some (.bool s)
  c1 : w0.cell? ⟨w.heap.size, 1, none⟩ = some v
  r : NatR w0 v n
theorem boxID {w : World} {s : Bool} {v : Value} {n : Nat} (h : NatR w v n) : BoxID w ((w.alloc (.cells #[.bool s, v] 24)).alloc (.cells #[.bool false, .slice none 0 0, .int .i64 0] 26)) s v n := by
  have hs : (w.alloc (.cells #[.bool s, v] 24)).heap.size = w.heap.size + 1 := by simp
  have b1 := below_new w (.cells #[.bool s, v] 24)
  have b2 := below_new (w.alloc (.cells #[.bool s, v] 24)) (.cells #[.bool false, .slice none 0 0, .int .i64 0] 26)
  have hb := b1.trans (b2.mono (by omega))
  obtain ⟨c0, c1⟩ := int_cells w s v
  refine ⟨hb, ?_, (b2.cell (p := ⟨w.heap.size, 0, none⟩) (by rw [hs]; simp)).trans c0, (b2.cell (p := ⟨w.heap.size, 1, none⟩) (by rw [hs]; simp)).trans c1, h.below hb⟩
  have := heap_alloc_new (w.alloc (.cells #[.bool s, v] 24)) (.cells #[.bool false, .slice none 0 0, .int .i64 0] 26)
  rw [hs] at this
  exact this
theorem BoxID.cells {w w0 w' : World} {s : Bool} {v : Value} {n : Nat} (h : BoxID w w0 s v n) (hb : Below w0.heap.size w0 w') : w'.cell? ⟨w.heap.size, 0, none⟩ = some (.bool s) ∧ w'.cell? ⟨w.heap.size, 1, none⟩ = some v := by
  have := h.res.facts.2.2.2.2.2.2
  exact ⟨(hb.cell (p := ⟨w.heap.size, 0, none⟩) (by simp; omega)).trans h.c0, (hb.cell (p := ⟨w.heap.size, 1, none⟩) (by simp; omega)).trans h.c1⟩

theorem wrap_small {n : Int} (h1 : -1000000 ≤ n) (h2 : n ≤ 1000000) : IntKind.i64.wrap n = n := by rw [IntKind.wrap_i64]; omega
/-- The new dyadic number in its block. -/
structure MkE (w0 w4 : World) (i : Nat) (b : Bool) (v : Value) (e m : Int) : Prop where
  below : Below w0.heap.size w0 w4
  blk : w4.heap[i]? = some (.cells #[.bool b, v, .int .i64 e] 26 (0, 0))
  dy : DyF w4 w0.heap.size (.agg #[.bool b, v, .int .i64 e]) m e
theorem dy_of_int {w : World} {base : Nat} {b : Bool} {v : Value} {m e : Int} (h : IntF w base (.agg #[.bool b, v]) m) : DyF w base (.agg #[.bool b, v, .int .i64 e]) m e := by
  obtain ⟨v', h1, h2⟩ := h
  cases h1
  exact ⟨v, rfl, h2⟩
theorem mkE_store {w0 w3 : World} {i : Nat} {b : Bool} {v : Value} {e m : Int} (hb : Below w0.heap.size w0 w3) (hi : w0.heap.size ≤ i) (hr : ResD w3 i) (hf : IntF w3 w0.heap.size (.agg #[.bool b, v]) m) :
    MkE w0 (((w3.setCell ⟨i, 0, none⟩ (.bool b)).setCell ⟨i, 1, none⟩ v).setCell ⟨i, 2, none⟩ (.int .i64 e)) i b v e m := by
  obtain ⟨r1, r2⟩ := dy_set hb hi hr (dy_of_int hf) (Nat.le_refl _)
  exact ⟨r2, blk_setCell (blk_setCell (blk_setCell hr 0 (.bool b)) 1 v) 2 (.int .i64 e), r1⟩
theorem mkE_alloc {w0 w3 : World} {b : Bool} {v : Value} {e m : Int} (hb : Below w0.heap.size w0 w3) (hf : IntF w3 w0.heap.size (.agg #[.bool b, v]) m) :
    MkE w0 (w3.alloc (.cells #[.bool b, v, .int .i64 e] 26)) w3.heap.size b v e m :=
  ⟨hb.alloc hb.size _, heap_alloc_new w3 _, (dy_of_int hf).below (below_new w3 _)⟩
theorem MkE.later {w0 w4 w5 : World} {i : Nat} {b : Bool} {v : Value} {e m : Int} (h : MkE w0 w4 i b v e m) (hb : Below w4.heap.size w4 w5) : MkE w0 w5 i b v e m :=
  ⟨h.below.trans (hb.mono h.below.size), (hb.block i (Array.getElem?_eq_some_iff.1 h.blk).1).trans h.blk, h.dy.below hb⟩

section
variable {w : World}
set_option maxRecDepth 100000 in
set_option maxHeartbeats 4000000 in
theorem make_calls {x : Value} {m e : Int} (h : IntR w x m) (hs : m.natAbs < 2 ^ kBits) (he : -3000 ≤ e) (he2 : e + tzN m.natAbs ≤ 3000) (hT : TabAt w) : Calls Tryz.prog 65 #[x, .int .i64 e] w (DyQ (oddI m) (expI m e) w) := by
  have HNY := Lib.hid (ny_make hs he he2)
  have HSM := Lib.hid (sm_of (k := kBits) hs (by unfold kBits; omega))
  obtain ⟨v, rfl, hv⟩ := h
  obtain ⟨a, k, c, rfl⟩ := intSlice hv
  obtain ⟨s, hs0⟩ : ∃ s, decide (m < 0) = s := ⟨_, rfl⟩
  rw [hs0]
  have HZ := Lib.hid hs0
  have hW := boxID (s := s) hv
  have HTA := Lib.hid hT
  have HE := Lib.hid (And.intro he he2)
  have g1 : ¬ e < -131072 := by omega
  have g2 : ¬ 131072 < e := by omega
  clear hv hs0 hs hT
  go_enter Tryz.func65, Tryz.ntmps65
  go_wp2_with fail
  generalize (w.alloc (.cells #[.bool s, .slice a k c] 24)).alloc (.cells #[.bool false, .slice none 0 0, .int .i64 0] 26) = w0 at hW ⊢
  have HW := Lib.hid hW
  clear hW
  refine (sign_calls (w := w0) (z := m) ⟨_, by rw [HZ.out], HW.out.r⟩ HSM.out).mono ?_
  rintro e' w1 ⟨rfl, hb⟩
  have HB1 := Lib.hid hb
  clear hb
  by_cases hm0 : m = 0
  · subst hm0
    have hr1 := HW.out.res.below HB1.out
    have HR1 := Lib.hid hr1
    obtain ⟨d0, d1, d2, f0, f1, f2, ht⟩ := hr1.facts
    clear hr1
    simp only [Int.sign_zero]
    go_wp2_with fail
    refine bodyPost_ret (v := .tuple #[.agg #[.bool false, .slice none 0 0, .int .i64 0], .int .i64 0]) (by simp [results, Tryz.results65, go_sem, d0, d1, d2]) rfl ?_
    have hD : DyF w1 w1.heap.size (.agg #[.bool false, .slice none 0 0, .int .i64 0]) 0 0 := ⟨_, by rfl, natF_nil _ _⟩
    obtain ⟨r1, r2⟩ := dy_set (HW.out.below.trans (HB1.out.mono HW.out.below.size)) (show w.heap.size ≤ w.heap.size + 1 by omega) HR1.out hD (by have := HW.out.below.size; have := HB1.out.size; omega)
    exact ⟨_, rfl, by rw [show oddI 0 = 0 from if_pos rfl, show expI 0 e = 0 from if_pos rfl]; exact r1, r2⟩
  · have hsg : (m.sign == 0) = false := by
      have : m.sign ≠ 0 := fun e => hm0 (Int.sign_eq_zero_iff_zero.1 e)
      simpa using this
    have hcc := HW.out.cells HB1.out
    obtain ⟨c0, c1⟩ := hcc
    have hlt0 : w.heap.size < w1.heap.size := World.block_lt_of_cell? w1 _ c0
    have HM := Lib.hid hm0
    clear hm0
    go_wp2_with fail
    refine (zeros_calls (HW.out.r.below HB1.out) HSM.out ((HTA.out.below HW.out.below).below HB1.out)).mono ?_
    rintro e' w' ⟨rfl, rfl⟩
    obtain ⟨t, ht0⟩ : ∃ t, tzN m.natAbs = t := ⟨_, rfl⟩
    rw [ht0]
    have HTZ := Lib.hid ht0
    clear ht0
    have ht1 : e + (t : Int) ≤ 3000 := by rw [← HTZ.out]; exact HE.out.2
    have ht2 : t ≤ 6000 := by have := HE.out.1; omega
    have hS : ∀ w', Below w0.heap.size w0 w' → w'.cell? ⟨w.heap.size, 0, none⟩ = some (.bool s) ∧ w'.cell? ⟨w.heap.size, 1, none⟩ = some (.slice a k c) := fun w' hb => HW.out.cells hb
    have HS := Lib.hid hS
    have HSD := Lib.hid (sm_div HSM.out (2 ^ t))
    have HD := Lib.hid (HB1.out.drew)
    have HTW := Lib.hid ht2
    obtain ⟨ee, hee⟩ : ∃ ee, e + (t : Int) = ee := ⟨_, rfl⟩
    have ewr : IntKind.i64.wrap ee = ee := wrap_small (by omega) (by omega)
    have HEE := Lib.hid hee
    have HN2 := Lib.hid (show Ny (sgnI s (m.natAbs / 2 ^ t)) ee by
      have h1 := HNY.out
      rw [show oddI m = sgnI (decide (m < 0)) (m.natAbs / 2 ^ tzN m.natAbs) from if_neg HM.out, show expI m e = e + tzN m.natAbs from if_neg HM.out, HTZ.out, HZ.out, hee] at h1
      exact h1)
    clear hS
    go_wp2_with fail
    have hz1 : w0.heap.size ≤ w1.heap.size := HB1.out.size
    have HDA := Lib.hid (HD.out.alloc HD.out.size (.cells #[.bool false, .slice none 0 0, .int .i64 0] 26))
    have HDN := Lib.hid (show ResD (w1.drew.alloc (.cells #[.bool false, .slice none 0 0, .int .i64 0] 26)) w1.heap.size from heap_alloc_new w1.drew _)
    have HNW := Lib.hid (fun w' : World => (show ResD (w'.alloc (.cells #[.bool false, .slice none 0 0, .int .i64 0] 26)) w'.heap.size from heap_alloc_new w' _))
    go_region_held3 (fun w' => w'.cell? ⟨w.heap.size, 0, none⟩ = some (.bool s) ∧ w'.cell? ⟨w.heap.size, 1, none⟩ = some (.slice a k c))
      ((refine HS.out _ ?_; first | exact (((hb3.setCell (by simp; omega) _).setCell (by simp; omega) _).setCell (by simp; omega) _) | exact hb3.alloc hb3.size _ | exact hb3 | exact hb2.alloc hb2.size _ | exact hb2 | exact HDA.out | exact HD.out | exact HB1.out))
      (first
        | (go_at_call 122; refine (shr_calls (HW.out.r.below (by first | exact HD.out | exact HDA.out | exact HB1.out)) HSM.out (by have := HTW.out; omega)).mono ?_; rintro e' w2 ⟨x1, rfl, hf, hb⟩; (first | (have hb2 : Below w0.heap.size w0 w2 := HD.out.trans (hb.mono HD.out.size)) | (have hb2 : Below w0.heap.size w0 w2 := HDA.out.trans (hb.mono HDA.out.size); have HR7 := Lib.hid (HDN.out.below hb))); have hz2 := hb2.size; have HF1 := Lib.hid hf; clear hf hb)
        | (go_at_call 121; refine (nat_calls s (HF1.out.r.below (by first | exact Below.refl _ _ | exact below_new _ _)) HSD.out).mono ?_; rintro e' w3 ⟨x2, rfl, hf, hb⟩; (first | (have hb3 : Below w0.heap.size w0 w3 := hb2.trans (hb.mono hb2.size); first | (have hr8 := HR7.out.below hb) | skip) | (have hb3 : Below w0.heap.size w0 w3 := (hb2.alloc hb2.size _).trans (hb.mono (hb2.alloc hb2.size _).size); have hr8 := (HNW.out w2).below hb)); have hz3 := hb3.size; obtain ⟨b1, a1, k1, c1', rfl, hbq⟩ := hf.form; clear hbq; (first | (have HF := Lib.hid (hf.base (base' := w0.heap.size) hb2.size)) | (have HF := Lib.hid (hf.base (base' := w0.heap.size) (hb2.alloc hb2.size _).size))); (first | (obtain ⟨j0, j1, j2, g0, g1', g2', jt⟩ := hr8.facts; have HR8 := Lib.hid hr8; clear hr8) | skip); clear hf hb))
    all_goals
      first
        | (have hE := mkE_store (e := ee) hb3 (by omega) HR8.out HF.out; have HX := Lib.hid hE; clear hE)
        | (have hE := mkE_alloc (e := ee) hb3 HF.out; have HX := Lib.hid hE; clear hE)
      go_wp2_with fail
      refine (dyValid_calls (x := .agg #[.bool b1, .slice a1 k1 c1', .int .i64 ee]) HX.out.dy.r HN2.out).mono ?_
      rintro e' w5 ⟨rfl, hb5⟩
      have hE5 := HX.out.later hb5
      have HX5 := Lib.hid hE5
      have i0 := cell_of_blk hE5.blk 0
      have i1 := cell_of_blk hE5.blk 1
      have i2 := cell_of_blk hE5.blk 2
      simp only [List.getElem?_toArray, List.getElem?_cons_zero, List.getElem?_cons_succ] at i0 i1 i2
      have it := (Array.getElem?_eq_some_iff.1 hE5.blk).1
      have hr1 := HW.out.res.below hE5.below
      have HR1 := Lib.hid hr1
      obtain ⟨d0, d1, d2, f0, f1, f2, ht⟩ := hr1.facts
      clear hb5 hE5 hr1
      go_wp2_with fail
      refine bodyPost_ret (v := .tuple #[.agg #[.bool b1, .slice a1 k1 c1', .int .i64 ee], .int .i64 0]) (by simp [results, Tryz.results65, go_sem, d0, d1, d2]) rfl ?_
      obtain ⟨r1, r2⟩ := dy_set (HW.out.below.trans (HX5.out.below.mono HW.out.below.size)) (show w.heap.size ≤ w.heap.size + 1 by omega) HR1.out HX5.out.dy HW.out.below.size
      exact ⟨_, rfl, by rw [show oddI m = sgnI (decide (m < 0)) (m.natAbs / 2 ^ tzN m.natAbs) from if_neg HM.out, show expI m e = e + tzN m.natAbs from if_neg HM.out, HTZ.out, HZ.out, HEE.out]; exact r1, r2⟩
end
end Go.Proofs.YtkpjikaobjpkoaaGreatDoor
/-
  Walks of dyadic.exact, Neg, Top.
-/
namespace Go.Proofs.YtkpjikaobjpkoaaGreatDoor
open Go.RowKit

/-- The least t with |d| < 2^t. -/
def topZ (m e : Int) : Int := if m = 0 then 0 else (blen m.natAbs : Int) + e
theorem natAbs_neg_lt {m : Int} {k : Nat} (h : m.natAbs < 2 ^ k) : (-m).natAbs < 2 ^ k := by rw [Int.natAbs_neg]; exact h
theorem ny_neg {m e : Int} (h : Ny m e) : Ny (-m) e :=
  ⟨h.nf.elim (fun q => .inl ⟨by rw [q.1]; rfl, q.2⟩) (fun q => .inr (by omega)), h.lo, h.hi, natAbs_neg_lt h.sz⟩
/-- The argument's box and the result's block, both of a dyadic number. -/
structure BoxDD (w w0 : World) (s : Bool) (v : Value) (e : Int) (n : Nat) : Prop where
  below : Below w.heap.size w w0
  res : ResD w0 (w.heap.size + 1)
  dc : DyC w0 w.heap.size s v e
  r : NatR w0 v n
theorem boxDD {w : World} {s : Bool} {v : Value} {e : Int} {n : Nat} (h : NatR w v n) : BoxDD w ((w.alloc (.cells #[.bool s, v, .int .i64 e] 26)).alloc (.cells #[.bool false, .slice none 0 0, .int .i64 0] 26)) s v e n := by
  have hs : (w.alloc (.cells #[.bool s, v, .int .i64 e] 26)).heap.size = w.heap.size + 1 := by simp
  have b1 := below_new w (.cells #[.bool s, v, .int .i64 e] 26)
  have b2 := below_new (w.alloc (.cells #[.bool s, v, .int .i64 e] 26)) (.cells #[.bool false, .slice none 0 0, .int .i64 0] 26)
  have hb := b1.trans (b2.mono (by omega))
  refine ⟨hb, ?_, (dyC_of (heap_alloc_new w _)).below b2, h.below hb⟩
  have := heap_alloc_new (w.alloc (.cells #[.bool s, v, .int .i64 e] 26)) (.cells #[.bool false, .slice none 0 0, .int .i64 0] 26)
  rw [hs] at this
  exact this

section
variable {w : World}
set_option maxHeartbeats 2000000 in
theorem exact_calls {x : Value} {m e : Int} (h : IntR w x m) (hs : m.natAbs < 2 ^ kBits) (he : -3000 ≤ e) (he2 : e + tzN m.natAbs ≤ 3000) (hT : TabAt w) : Calls Tryz.prog 118 #[x, .int .i64 e] w (DyQ (oddI m) (expI m e) w) := by
  obtain ⟨v, rfl, hv⟩ := h
  obtain ⟨a, k, c, rfl⟩ := intSlice hv
  obtain ⟨s, hs0⟩ : ∃ s, decide (m < 0) = s := ⟨_, rfl⟩
  rw [hs0]
  have hW := boxID (s := s) hv
  have HM := Lib.hid (make_calls (w := (w.alloc (.cells #[.bool s, .slice a k c] 24)).alloc (.cells #[.bool false, .slice none 0 0, .int .i64 0] 26)) (x := .agg #[.bool s, .slice a k c]) ⟨_, by rw [hs0], hW.r⟩ hs he he2 (hT.below hW.below))
  have HW := Lib.hid hW
  clear hv hs0 hs hT hW he he2
  go_enter Tryz.func118, Tryz.ntmps118
  go_wp2_with fail
  refine HM.out.mono ?_
  rintro e' w1 ⟨d, rfl, hf, hb⟩
  obtain ⟨e1, he1⟩ : ∃ e1, expI m e = e1 := ⟨_, rfl⟩
  rw [he1] at hf ⊢
  obtain ⟨b1, a1, k1, c1, rfl, hbq⟩ := hf.form
  have HE1 := Lib.hid he1
  clear hbq he1
  have HF := Lib.hid (And.intro hf hb)
  have hb2 := hb.trans ((below_new w1 (.cells #[.bool b1, .slice a1 k1 c1, .int .i64 e1] 26)).mono hb.size)
  have HB2 := Lib.hid hb2
  have hr1 := HW.out.res.below hb2
  have HR1 := Lib.hid hr1
  obtain ⟨d0, d1, d2, f0, f1, f2, ht⟩ := hr1.facts
  have HD2 := Lib.hid (hf.below (below_new w1 (.cells #[.bool b1, .slice a1 k1 c1, .int .i64 e1] 26)))
  clear hf hb hb2 hr1
  go_wp2_with fail
  refine bodyPost_ret (v := .tuple #[.agg #[.bool b1, .slice a1 k1 c1, .int .i64 e1], .int .i64 0]) (by simp [results, Tryz.results118, go_sem, d0, d1, d2]) rfl ?_
  obtain ⟨r1, r2⟩ := dy_set (HW.out.below.trans (HB2.out.mono HW.out.below.size)) (show w.heap.size ≤ w.heap.size + 1 by omega) HR1.out HD2.out HW.out.below.size
  exact ⟨_, rfl, by rw [HE1.out]; exact r1, r2⟩
set_option maxRecDepth 100000 in
set_option maxHeartbeats 4000000 in
theorem dyNeg_calls {x : Value} {m e : Int} (h : DyR w x m e) (hs : Sm m.natAbs) : Calls Tryz.prog 113 #[x] w fun en w' => ∃ d, en = .returned d ∧ DyF w' w.heap.size d (-m) e ∧ Below w.heap.size w w' := by
  obtain ⟨v, rfl, hv⟩ := h
  obtain ⟨a, k, c, rfl⟩ := intSlice hv
  obtain ⟨s, hs0⟩ : ∃ s, decide (m < 0) = s := ⟨_, rfl⟩
  rw [hs0]
  have hW := boxDD (s := s) (e := e) hv
  have HZ := Lib.hid (And.intro hs0 hs)
  clear hv hs0 hs
  go_enter Tryz.func113, Tryz.ntmps113
  go_wp2_with fail
  generalize (w.alloc (.cells #[.bool s, .slice a k c, .int .i64 e] 26)).alloc (.cells #[.bool false, .slice none 0 0, .int .i64 0] 26) = w0 at hW ⊢
  have HW := Lib.hid hW
  have c0 := hW.dc.c0
  have c1 := hW.dc.c1
  have c2 := hW.dc.c2
  have hlt0 := hW.dc.lt
  clear hW
  have HS := Lib.hid (fun (w' : World) (hb : Below w0.heap.size w0 w') => (show w'.cell? ⟨w.heap.size, 0, none⟩ = some (.bool s) ∧ w'.cell? ⟨w.heap.size, 1, none⟩ = some (.slice a k c) ∧ w'.cell? ⟨w.heap.size, 2, none⟩ = some (.int .i64 e) from ⟨(HW.out.dc.below hb).c0, (HW.out.dc.below hb).c1, (HW.out.dc.below hb).c2⟩))
  have HT := Lib.hid (fun (w' : World) (i i' i'' : Nat) (x x' x'' : Value) (hb : Below w0.heap.size w0 w') => (show (((w'.setCell ⟨w.heap.size + 1, i, none⟩ x).setCell ⟨w.heap.size + 1, i', none⟩ x').setCell ⟨w.heap.size + 1, i'', none⟩ x'').cell? ⟨w.heap.size, 0, none⟩ = some (.bool s) ∧ (((w'.setCell ⟨w.heap.size + 1, i, none⟩ x).setCell ⟨w.heap.size + 1, i', none⟩ x').setCell ⟨w.heap.size + 1, i'', none⟩ x'').cell? ⟨w.heap.size, 1, none⟩ = some (.slice a k c) ∧ (((w'.setCell ⟨w.heap.size + 1, i, none⟩ x).setCell ⟨w.heap.size + 1, i', none⟩ x').setCell ⟨w.heap.size + 1, i'', none⟩ x'').cell? ⟨w.heap.size, 2, none⟩ = some (.int .i64 e) from
    ⟨((((HW.out.dc.below hb).setCell (by simp) i x).setCell (by simp) i' x').setCell (by simp) i'' x'').c0, ((((HW.out.dc.below hb).setCell (by simp) i x).setCell (by simp) i' x').setCell (by simp) i'' x'').c1, ((((HW.out.dc.below hb).setCell (by simp) i x).setCell (by simp) i' x').setCell (by simp) i'' x'').c2⟩))
  have HD := Lib.hid (Below.refl w0.heap.size w0).drew
  go_region_held3 (fun w' => w'.cell? ⟨w.heap.size, 0, none⟩ = some (.bool s) ∧ w'.cell? ⟨w.heap.size, 1, none⟩ = some (.slice a k c) ∧ w'.cell? ⟨w.heap.size, 2, none⟩ = some (.int .i64 e))
    ((first | with_reducible exact HS.out _ hb1 | with_reducible exact HS.out _ HD.out | with_reducible exact HS.out _ (Below.refl _ _) | with_reducible exact HT.out _ _ _ _ _ _ _ hb1))
    (first
      | (go_at_call 161; refine (neg_calls (z := m) ⟨_, by rw [HZ.out.1], HW.out.r.below (by first | exact HD.out | exact Below.refl _ _)⟩ HZ.out.2).mono ?_; rintro e' w1 ⟨x1, rfl, hf, hb⟩; have hb1 : Below w0.heap.size w0 w1 := HD.out.trans hb; obtain ⟨b1, a1, k1, c1', rfl, hbq⟩ := hf.form; clear hbq; have HF1 := Lib.hid (dy_of_int (e := e) hf); have hr1 := HW.out.res.below hb1; have HR1 := Lib.hid hr1; obtain ⟨d0, d1, d2, f0, f1, f2, ht⟩ := hr1.facts; clear hf hb hr1))
  all_goals
    go_wp2_with fail
    refine bodyPost_ret (v := .agg #[.bool b1, .slice a1 k1 c1', .int .i64 e]) (by simp [results, Tryz.results113, go_sem, d0, d1, d2]) rfl ?_
    obtain ⟨r1, r2⟩ := dy_set (HW.out.below.trans (hb1.mono HW.out.below.size)) (show w.heap.size ≤ w.heap.size + 1 by omega) HR1.out HF1.out HW.out.below.size
    exact ⟨_, rfl, r1, r2⟩
set_option maxRecDepth 100000 in
set_option maxHeartbeats 2000000 in
theorem top_calls {x : Value} {m e : Int} (h : DyR w x m e) (hy : Ny m e) : Calls Tryz.prog 59 #[x] w (Quiet (.int .i64 (topZ m e)) w) := by
  obtain ⟨v, rfl, hv⟩ := h
  obtain ⟨a, k, c, rfl⟩ := intSlice hv
  obtain ⟨s, hs0⟩ : ∃ s, decide (m < 0) = s := ⟨_, rfl⟩
  rw [hs0]
  have HL := Lib.hid (fun o => below_new w o)
  have HSG := Lib.hid (fun o => dySign_calls (x := .agg #[.bool s, .slice a k c, .int .i64 e]) (m := m) (e := e) (w := w.alloc o) ⟨_, by rw [hs0], hv.below (below_new w o)⟩ (ny_sm hy))
  have HB := Lib.hid (fun w' (hb : Below w.heap.size w w') => bits_calls (hv.below hb) (ny_sm hy))
  have HC := Lib.hid (dyC_of (heap_alloc_new w (.cells #[.bool s, .slice a k c, .int .i64 e] 26)))
  have hbl := ny_blen hy
  obtain ⟨n, hn⟩ : ∃ n, blen m.natAbs = n := ⟨_, rfl⟩
  rw [hn] at HB hbl
  have he1 := hy.lo
  have he2 := hy.hi
  by_cases hm0 : m = 0
  · have HV := Lib.hid (show topZ m e = 0 from if_pos hm0)
    have hsg : m.sign = 0 := by rw [hm0]; rfl
    rw [hsg] at HSG
    clear hv hs0 hn hy hsg hm0
    go_enter Tryz.func59, Tryz.ntmps59
    go_wp2_with fail
    refine (HSG.out _).mono ?_
    rintro e' w1 ⟨rfl, hb⟩
    have HB1 := Lib.hid ((HL.out _).trans (hb.mono (HL.out _).size))
    clear hb
    go_wp2_with fail
    go_ret
    exact ⟨by rw [HV.out]; rfl, HB1.out⟩
  · obtain ⟨r, hr⟩ : ∃ r, (n : Int) + e = r := ⟨_, rfl⟩
    have HV := Lib.hid (show topZ m e = r by unfold topZ; rw [if_neg hm0, hn, hr])
    have hsg : (m.sign == 0) = false := by
      have : m.sign ≠ 0 := fun e => hm0 (Int.sign_eq_zero_iff_zero.1 e)
      simpa using this
    have ewr : IntKind.i64.wrap r = r := wrap_small (by omega) (by omega)
    clear hv hs0 hn hy hm0
    go_enter Tryz.func59, Tryz.ntmps59
    go_wp2_with fail
    refine (HSG.out _).mono ?_
    rintro e' w1 ⟨rfl, hb⟩
    have HB1 := Lib.hid ((HL.out _).trans (hb.mono (HL.out _).size))
    have hc := HC.out.below hb
    have c0 := hc.c0
    have c1 := hc.c1
    have c2 := hc.c2
    have hlt := hc.lt
    have HBD := Lib.hid (HB1.out.drew)
    clear hc hb
    go_wp2_with fail
    go_region_held3 (fun w' => w'.cell? ⟨w.heap.size, 1, none⟩ = some (.slice a k c) ∧ w'.cell? ⟨w.heap.size, 2, none⟩ = some (.int .i64 e)) (exact ⟨c1, c2⟩) (first | (go_at_call 115; refine (HB.out _ HBD.out).mono ?_; rintro e' w2 ⟨rfl, rfl⟩))
    all_goals
      go_wp2_with fail
      go_ret
      exact ⟨by rw [HV.out]; rfl, HBD.out⟩
end
end Go.Proofs.YtkpjikaobjpkoaaGreatDoor
