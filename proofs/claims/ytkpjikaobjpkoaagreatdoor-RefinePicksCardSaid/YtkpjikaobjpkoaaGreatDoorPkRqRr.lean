/-
  Walk of dyadic.align.
-/
import Derived.Test.YtkpjikaobjpkoaaGreatDoorPkRoRp
namespace Go.Proofs.YtkpjikaobjpkoaaGreatDoor
open Go.RowKit

/-- The boxes of two dyadic numbers and the blocks of two integers. -/
def box4 (w : World) (s s' : Bool) (v u : Value) (e f : Int) : World := (((w.alloc (.cells #[.bool s, v, .int .i64 e] 26)).alloc (.cells #[.bool s', u, .int .i64 f] 26)).alloc (.cells #[.bool false, .slice none 0 0] 24)).alloc (.cells #[.bool false, .slice none 0 0] 24)
structure Box4 (w w0 : World) (s s' : Bool) (v u : Value) (e f : Int) (n m : Nat) : Prop where
  below : Below w.heap.size w w0
  da : DyC w0 w.heap.size s v e
  db : DyC w0 (w.heap.size + 1) s' u f
  ra : ResI w0 (w.heap.size + 1 + 1)
  rb : ResI w0 (w.heap.size + 1 + 1 + 1)
  r1 : NatR w0 v n
  r2 : NatR w0 u m
theorem box4_of {w : World} {s s' : Bool} {v u : Value} {e f : Int} {n m : Nat} (h : NatR w v n) (h' : NatR w u m) : Box4 w (box4 w s s' v u e f) s s' v u e f n m := by
  obtain ⟨wa, hwa⟩ : ∃ wa, wa = w.alloc (.cells #[.bool s, v, .int .i64 e] 26) := ⟨_, rfl⟩
  obtain ⟨wb, hwb⟩ : ∃ wb, wb = wa.alloc (.cells #[.bool s', u, .int .i64 f] 26) := ⟨_, rfl⟩
  obtain ⟨wc, hwc⟩ : ∃ wc, wc = wb.alloc (.cells #[.bool false, .slice none 0 0] 24) := ⟨_, rfl⟩
  obtain ⟨wd, hwd⟩ : ∃ wd, wd = wc.alloc (.cells #[.bool false, .slice none 0 0] 24) := ⟨_, rfl⟩
  have e1 : wa.heap.size = w.heap.size + 1 := by rw [hwa]; simp
  have e2 : wb.heap.size = w.heap.size + 1 + 1 := by rw [hwb]; simp [e1]
  have e3 : wc.heap.size = w.heap.size + 1 + 1 + 1 := by rw [hwc]; simp [e2]
  have b1 : Below w.heap.size w wa := by rw [hwa]; exact below_new w _
  have b2 : Below wa.heap.size wa wb := by rw [hwb]; exact below_new wa _
  have b3 : Below wb.heap.size wb wc := by rw [hwc]; exact below_new wb _
  have b4 : Below wc.heap.size wc wd := by rw [hwd]; exact below_new wc _
  have b34 := b3.trans (b4.mono (by omega))
  have b24 := b2.trans (b34.mono (by omega))
  have b14 := b1.trans (b24.mono (by omega))
  have hd : box4 w s s' v u e f = wd := by unfold box4; rw [hwd, hwc, hwb, hwa]
  rw [hd]
  refine ⟨b14, ?_, ?_, ?_, ?_, h.below b14, h'.below b14⟩
  · exact (dyC_of (by rw [hwa]; exact heap_alloc_new w _)).below b24
  · rw [← e1]
    exact (dyC_of (by rw [hwb]; exact heap_alloc_new wa _)).below b34
  · rw [← e2]
    exact (show ResI wc wb.heap.size by rw [hwc]; exact heap_alloc_new wb _).below b4
  · rw [← e3, hwd]; exact heap_alloc_new wc _
theorem Box4.cells {w w0 w' : World} {s s' : Bool} {v u : Value} {e f : Int} {n m : Nat} (h : Box4 w w0 s s' v u e f n m) (hb : Below w0.heap.size w0 w') :
    w'.cell? ⟨w.heap.size, 0, none⟩ = some (.bool s) ∧ w'.cell? ⟨w.heap.size, 1, none⟩ = some v ∧ w'.cell? ⟨w.heap.size, 2, none⟩ = some (.int .i64 e) ∧ w'.cell? ⟨w.heap.size + 1, 0, none⟩ = some (.bool s') ∧ w'.cell? ⟨w.heap.size + 1, 1, none⟩ = some u ∧ w'.cell? ⟨w.heap.size + 1, 2, none⟩ = some (.int .i64 f) :=
  ⟨(h.da.below hb).c0, (h.da.below hb).c1, (h.da.below hb).c2, (h.db.below hb).c0, (h.db.below hb).c1, (h.db.below hb).c2⟩
/-- A store into the results' blocks leaves the boxes. -/
theorem cells_kept {w' : World} {p q : Nat} {s s' : Bool} {v u : Value} {e f : Int} (h : w'.cell? ⟨p, 0, none⟩ = some (.bool s) ∧ w'.cell? ⟨p, 1, none⟩ = some v ∧ w'.cell? ⟨p, 2, none⟩ = some (.int .i64 e) ∧ w'.cell? ⟨p + 1, 0, none⟩ = some (.bool s') ∧ w'.cell? ⟨p + 1, 1, none⟩ = some u ∧ w'.cell? ⟨p + 1, 2, none⟩ = some (.int .i64 f)) (hq : p + 1 < q) (i : Nat) (x : Value) :
    (w'.setCell ⟨q, i, none⟩ x).cell? ⟨p, 0, none⟩ = some (.bool s) ∧ (w'.setCell ⟨q, i, none⟩ x).cell? ⟨p, 1, none⟩ = some v ∧ (w'.setCell ⟨q, i, none⟩ x).cell? ⟨p, 2, none⟩ = some (.int .i64 e) ∧ (w'.setCell ⟨q, i, none⟩ x).cell? ⟨p + 1, 0, none⟩ = some (.bool s') ∧ (w'.setCell ⟨q, i, none⟩ x).cell? ⟨p + 1, 1, none⟩ = some u ∧ (w'.setCell ⟨q, i, none⟩ x).cell? ⟨p + 1, 2, none⟩ = some (.int .i64 f) :=
  ⟨(cell_setCell_block (by simp; omega) _).trans h.1, (cell_setCell_block (by simp; omega) _).trans h.2.1, (cell_setCell_block (by simp; omega) _).trans h.2.2.1, (cell_setCell_block (by simp; omega) _).trans h.2.2.2.1, (cell_setCell_block (by simp; omega) _).trans h.2.2.2.2.1, (cell_setCell_block (by simp; omega) _).trans h.2.2.2.2.2⟩
theorem resI_set {w : World} {t q : Nat} (h : ResI w t) (hne : t ≠ q) (i : Nat) (x : Value) : ResI (w.setCell ⟨q, i, none⟩ x) t := by
  unfold ResI
  rw [Below.heap_setCell _ _ _ _ hne]
  exact h
/-- What align answers. -/
def AlP (x y e : Int) (w : World) (en : Ending) (w' : World) : Prop := ∃ u v, en = .returned (.tuple #[u, v, .int .i64 e]) ∧ IntF w' w.heap.size u x ∧ IntF w' w.heap.size v y ∧ Below w.heap.size w w'
theorem al_end {w w1 : World} {t base : Nat} {b b' : Bool} {v u : Value} {x y e : Int} (hb : Below w.heap.size w w1) (ht : w.heap.size ≤ t) (hr : ResI w1 t) (hr' : ResI w1 (t + 1)) (hf : IntF w1 base (.agg #[.bool b, v]) x) (hf' : IntF w1 base (.agg #[.bool b', u]) y) (hbase : w.heap.size ≤ base) :
    AlP x y e w (.returned (.tuple #[.agg #[.bool b, v], .agg #[.bool b', u], .int .i64 e])) ((((w1.setCell ⟨t, 0, none⟩ (.bool b)).setCell ⟨t, 1, none⟩ v).setCell ⟨t + 1, 0, none⟩ (.bool b')).setCell ⟨t + 1, 1, none⟩ u) := by
  have h1 := blk_setCell hr 0 (.bool b)
  have q1 := resI_set (resI_set hr' (show t + 1 ≠ t by omega) 0 (.bool b)) (show t + 1 ≠ t by omega) 1 v
  refine ⟨_, _, rfl, ?_, ?_, (((hb.setCell ht _).setCell ht _).setCell (by simp; omega) _).setCell (by simp; omega) _⟩
  · exact (intF_setCell (intF_setCell (intF_setCell (intF_setCell hf hr (by decide) 0 _) h1 (by decide) 1 _) q1 (by decide) 0 _) (blk_setCell q1 0 _) (by decide) 1 _).base hbase
  · exact (intF_setCell (intF_setCell (intF_setCell (intF_setCell hf' hr (by decide) 0 _) h1 (by decide) 1 _) q1 (by decide) 0 _) (blk_setCell q1 0 _) (by decide) 1 _).base hbase

section
variable {w : World}
set_option maxRecDepth 100000 in
set_option maxHeartbeats 1000000 in
theorem align_calls {x y : Value} {m n e f g : Int} {p q : Nat} (h : DyR w x m e) (h' : DyR w y n f) (hg : min e f = g) (hp : e - g = (p : Int)) (hq : f - g = (q : Int)) (hp1 : p ≤ 20000) (hq1 : q ≤ 20000) (hs : Sm (m.natAbs * 2 ^ p)) (hs' : Sm (n.natAbs * 2 ^ q)) :
    Calls Tryz.prog 60 #[x, y] w (AlP (m * 2 ^ p) (n * 2 ^ q) g w) := by
  obtain ⟨v, rfl, hv⟩ := h
  obtain ⟨u, rfl, hu⟩ := h'
  obtain ⟨a, k, c, rfl⟩ := intSlice hv
  obtain ⟨a', k', c', rfl⟩ := intSlice hu
  obtain ⟨s, hs0⟩ : ∃ s, decide (m < 0) = s := ⟨_, rfl⟩
  obtain ⟨s', hs1⟩ : ∃ s, decide (n < 0) = s := ⟨_, rfl⟩
  rw [hs0, hs1]
  have hW := box4_of (s := s) (s' := s') (e := e) (f := f) hv hu
  have HZ := Lib.hid (And.intro hs0 hs1)
  have HSM := Lib.hid (And.intro hs hs')
  have HSA := Lib.hid (And.intro (sm_le hs (Nat.le_mul_of_pos_right m.natAbs (Nat.pow_pos (by decide)))) (sm_le hs' (Nat.le_mul_of_pos_right n.natAbs (Nat.pow_pos (by decide)))))
  have HPQ := Lib.hid (And.intro hp1 hq1)
  have ewp : IntKind.i64.wrap (p : Int) = (p : Int) := wrap_small (by omega) (by omega)
  have ewq : IntKind.i64.wrap (q : Int) = (q : Int) := wrap_small (by omega) (by omega)
  clear hv hu hs0 hs1 hs hs'
  go_enter Tryz.func60, Tryz.ntmps60
  go_wp2_with fail
  unfold box4 at hW
  generalize (((w.alloc (.cells #[.bool s, .slice a k c, .int .i64 e] 26)).alloc (.cells #[.bool s', .slice a' k' c', .int .i64 f] 26)).alloc (.cells #[.bool false, .slice none 0 0] 24)).alloc (.cells #[.bool false, .slice none 0 0] 24) = w0 at hW ⊢
  have HW := Lib.hid hW
  clear hW
  have HS := Lib.hid (fun (w' : World) (hb : Below w0.heap.size w0 w') => HW.out.cells hb)
  have HD := Lib.hid (Below.refl w0.heap.size w0).drew
  have HQ1 := Lib.hid (fun (w' : World) (hb : Below w0.heap.size w0 w') => intShl_calls (w := w') (x := .agg #[.bool s, .slice a k c]) (z := m) (n := p) ⟨_, by rw [HZ.out.1], HW.out.r1.below hb⟩ HSA.out.1 (by have := HPQ.out.1; omega) HSM.out.1)
  have HQ2 := Lib.hid (fun (w' : World) (hb : Below w0.heap.size w0 w') => intShl_calls (w := w') (x := .agg #[.bool s', .slice a' k' c']) (z := n) (n := q) ⟨_, by rw [HZ.out.2], HW.out.r2.below hb⟩ HSA.out.2 (by have := HPQ.out.2; omega) HSM.out.2)
  have hlt : w.heap.size + 1 < w0.heap.size := HW.out.db.lt
  have hlt' : w.heap.size < w0.heap.size := HW.out.da.lt
  have hs0 := HS.out _ (Below.refl _ _)
  have hsd := HS.out _ HD.out
  go_region_held3 (fun w' => w'.cell? ⟨w.heap.size, 0, none⟩ = some (.bool s) ∧ w'.cell? ⟨w.heap.size, 1, none⟩ = some (.slice a k c) ∧ w'.cell? ⟨w.heap.size, 2, none⟩ = some (.int .i64 e) ∧ w'.cell? ⟨w.heap.size + 1, 0, none⟩ = some (.bool s') ∧ w'.cell? ⟨w.heap.size + 1, 1, none⟩ = some (.slice a' k' c') ∧ w'.cell? ⟨w.heap.size + 1, 2, none⟩ = some (.int .i64 f))
    ((first | with_reducible exact hs2 | with_reducible exact hs1 | with_reducible exact hsd | with_reducible exact hs0 | with_reducible exact cells_kept (cells_kept hs2 (by omega) _ _) (by omega) _ _ | with_reducible exact cells_kept (cells_kept (cells_kept (cells_kept hs2 (by omega) _ _) (by omega) _ _) (by omega) _ _) (by omega) _ _))
    (first
      | (have hb1q := hb1; go_at_call 116; clear hb1q; refine (HQ2.out _ hb1).mono ?_; rintro e' w2 ⟨x2, rfl, hf, hb⟩; have hb2 : Below w0.heap.size w0 w2 := hb1.trans (hb.mono hb1.size); obtain ⟨b2, a2, k2, c2', rfl, hbq⟩ := hf.form; clear hbq; have HF2 := Lib.hid (And.intro ((HF1.out.below hb).base (base' := w0.heap.size) (by have := HD.out.size; omega)) (hf.base (base' := w0.heap.size) hb1.size)); have hr1 := HW.out.ra.below hb2; have hr2 := HW.out.rb.below hb2; have HR1 := Lib.hid (And.intro hr1 hr2); obtain ⟨d0, d1, f0, f1, ht⟩ := hr1.facts; obtain ⟨d0', d1', f0', f1', ht'⟩ := hr2.facts; have hs2 := HS.out _ hb2; clear hf hb hr1 hr2)
      | (go_at_call 116; refine (HQ1.out _ (by first | exact HD.out | exact Below.refl _ _)).mono ?_; rintro e' w1 ⟨x1, rfl, hf, hb⟩; have hb1 : Below w0.heap.size w0 w1 := HD.out.trans hb; obtain ⟨b1, a1, k1, c1', rfl, hbq⟩ := hf.form; clear hbq; have HF1 := Lib.hid hf; have hs1 := HS.out _ hb1; clear hf hb))
  all_goals
    go_wp2_with fail
    refine bodyPost_ret (v := .tuple #[.agg #[.bool b1, .slice a1 k1 c1'], .agg #[.bool b2, .slice a2 k2 c2'], .int .i64 g]) (by simp [results, Tryz.results60, go_sem, d0, d1, d0', d1']) rfl ?_
    exact al_end (HW.out.below.trans (hb2.mono HW.out.below.size)) (show w.heap.size ≤ w.heap.size + 1 + 1 by omega) HR1.out.1 HR1.out.2 HF2.out.1 HF2.out.2 HW.out.below.size
end
end Go.Proofs.YtkpjikaobjpkoaaGreatDoor
/-
  Dyadic numbers by their values (times 2^10000): plain facts.
-/
namespace Go.Proofs.YtkpjikaobjpkoaaGreatDoor
open Go.RowKit

def kLim : Nat := 12000
def kLow : Nat := 7000
/-- The value of m * 2^e, times 2^10000. -/
def valD (m e : Int) : Int := m * 2 ^ (e + 10000).toNat
theorem two_pow_ne (k : Nat) : (2 : Int) ^ k ≠ 0 := by
  rw [← two_pow_cast]
  have := Nat.pow_pos (n := k) (show 0 < 2 by decide)
  omega
theorem valD_zero (e : Int) : valD 0 e = 0 := by unfold valD; rw [Int.zero_mul]
theorem natAbs_mul_pow (m : Int) (k : Nat) : (m * 2 ^ k).natAbs = m.natAbs * 2 ^ k := by
  rw [Int.natAbs_mul, Int.natAbs_pow]; rfl
theorem valD_abs (m e : Int) : (valD m e).natAbs = m.natAbs * 2 ^ (e + 10000).toNat := natAbs_mul_pow _ _
theorem valD_shift {m e : Int} {p : Nat} (he : -10000 ≤ e) : valD (m * 2 ^ p) e = valD m (e + p) := by
  unfold valD
  rw [Int.mul_assoc, ← Int.pow_add, show (e + (p : Int) + 10000).toNat = p + (e + 10000).toNat by omega]
theorem lim_mant {m e : Int} (he : -3000 ≤ e) (h : (valD m e).natAbs < 2 ^ kLim) : m.natAbs < 2 ^ kBits := by
  rw [valD_abs] at h
  have h1 : 2 ^ kLow ≤ 2 ^ (e + 10000).toNat := Nat.pow_le_pow_right (by decide) (by unfold kLow; omega)
  have h2 : m.natAbs * 2 ^ kLow < 2 ^ kLim := Nat.lt_of_le_of_lt (Nat.mul_le_mul_left _ h1) h
  have h3 : (2 : Nat) ^ kLim ≤ 2 ^ kBits * 2 ^ kLow := by rw [← Nat.pow_add]; exact Nat.pow_le_pow_right (by decide) (by unfold kLim kBits kLow; omega)
  exact Nat.lt_of_mul_lt_mul_right (Nat.lt_of_lt_of_le h2 h3)
theorem lim_exp {m e : Int} (hm : m ≠ 0) (he : -3000 ≤ e) (h : (valD m e).natAbs < 2 ^ kLim) : e + tzN m.natAbs ≤ 2000 := by
  rw [valD_abs] at h
  obtain ⟨k, e1, _⟩ := tz_spec (n := m.natAbs) (by omega)
  rw [e1, Nat.mul_right_comm, ← Nat.pow_add] at h
  have h1 : 2 ^ (tzN m.natAbs + (e + 10000).toNat) < 2 ^ kLim := Nat.lt_of_le_of_lt (Nat.le_mul_of_pos_right _ (by omega)) h
  have h2 := (Nat.pow_lt_pow_iff_right (a := 2) (by omega)).1 h1
  unfold kLim at h2
  omega
theorem tzN_zero_abs : tzN (0 : Int).natAbs = 0 := tz_zero
theorem ny_lim {m e : Int} (hn : (m = 0 ∧ e = 0) ∨ m % 2 = 1) (he : -3000 ≤ e) (h : (valD m e).natAbs < 2 ^ kLim) : Ny m e := by
  refine ⟨hn, he, ?_, lim_mant he h⟩
  rcases hn with ⟨_, h0⟩ | h1
  · omega
  · have := lim_exp (m := m) (by omega) he h
    omega
theorem mul_sgn (b : Bool) (n k : Nat) : sgnI b n * 2 ^ k = sgnI b (n * 2 ^ k) := by
  unfold sgnI
  split
  · rw [Int.neg_mul, Int.natCast_mul, two_pow_cast]
  · rw [Int.natCast_mul, two_pow_cast]
theorem valD_make {m e : Int} (he : -3000 ≤ e) : valD (oddI m) (expI m e) = valD m e := by
  unfold oddI expI
  by_cases h0 : m = 0
  · rw [if_pos h0, if_pos h0, h0, valD_zero, valD_zero]
  · rw [if_neg h0, if_neg h0, ← valD_shift (by omega), mul_sgn]
    congr 1
    obtain ⟨k, e1, e2⟩ := tz_spec (n := m.natAbs) (by omega)
    rw [e2, Nat.mul_comm, ← e1, sgnI_of]
/-- A value that reads as the dyadic number V / 2^10000, in normal form and within bounds. -/
def DyV (w : World) (x : Value) (V : Int) : Prop := ∃ m e, DyR w x m e ∧ ((m = 0 ∧ e = 0) ∨ m % 2 = 1) ∧ -3000 ≤ e ∧ V = valD m e ∧ V.natAbs < 2 ^ kLim
def DyO (w : World) (base : Nat) (x : Value) (V : Int) : Prop := ∃ m e, DyF w base x m e ∧ ((m = 0 ∧ e = 0) ∨ m % 2 = 1) ∧ -3000 ≤ e ∧ V = valD m e ∧ V.natAbs < 2 ^ kLim
theorem DyO.v {w : World} {base : Nat} {x : Value} {V : Int} (h : DyO w base x V) : DyV w x V := by
  obtain ⟨m, e, h1, h2⟩ := h
  exact ⟨m, e, h1.r, h2⟩
theorem DyV.below {w w' : World} {x : Value} {V : Int} (h : DyV w x V) (hb : Below w.heap.size w w') : DyV w' x V := by
  obtain ⟨m, e, h1, h2⟩ := h
  exact ⟨m, e, h1.below hb, h2⟩
theorem DyO.below {w w' : World} {base : Nat} {x : Value} {V : Int} (h : DyO w base x V) (hb : Below w.heap.size w w') : DyO w' base x V := by
  obtain ⟨m, e, h1, h2⟩ := h
  exact ⟨m, e, h1.below hb, h2⟩
theorem DyO.base {w : World} {base base' : Nat} {x : Value} {V : Int} (h : DyO w base x V) (hb : base' ≤ base) : DyO w base' x V := by
  obtain ⟨m, e, h1, h2⟩ := h
  exact ⟨m, e, h1.base hb, h2⟩
/-- The call returns the dyadic number of a value, and no error. -/
def DyW (V : Int) (w : World) (en : Ending) (w' : World) : Prop := ∃ d, en = .returned (.tuple #[d, .int .i64 0]) ∧ DyO w' w.heap.size d V ∧ Below w.heap.size w w'
theorem dyO_make {w : World} {base : Nat} {x : Value} {m e V : Int} (h : DyF w base x (oddI m) (expI m e)) (he : -3000 ≤ e) (hV : valD m e = V) (hl : V.natAbs < 2 ^ kLim) : DyO w base x V := by
  refine ⟨oddI m, expI m e, h, ?_, ?_, by rw [valD_make he, hV], hl⟩
  · unfold oddI expI
    by_cases h0 : m = 0
    · rw [if_pos h0, if_pos h0]; exact .inl ⟨rfl, rfl⟩
    · rw [if_neg h0, if_neg h0]
      obtain ⟨k, e1, e2⟩ := tz_spec (n := m.natAbs) (by omega)
      refine .inr ?_
      rw [e2]
      unfold sgnI
      split <;> omega
  · unfold expI
    by_cases h0 : m = 0
    · rw [if_pos h0]; omega
    · rw [if_neg h0]; omega
theorem dyW_make {w w' : World} {m e V : Int} {en : Ending} (h : DyQ (oddI m) (expI m e) w en w') (he : -3000 ≤ e) (hV : valD m e = V) (hl : V.natAbs < 2 ^ kLim) : DyW V w en w' := by
  obtain ⟨d, h1, h2, h3⟩ := h
  exact ⟨d, h1, dyO_make h2 he hV hl, h3⟩
/-- Two numbers in normal form with one value are one. -/
theorem valD_inj {m e n f : Int} (h : (m = 0 ∧ e = 0) ∨ m % 2 = 1) (h' : (n = 0 ∧ f = 0) ∨ n % 2 = 1) (he : -3000 ≤ e) (hf : -3000 ≤ f) (hv : valD m e = valD n f) : m = n ∧ e = f := by
  have key : ∀ {m e n f : Int}, -3000 ≤ e → -3000 ≤ f → m % 2 = 1 → n % 2 = 1 → valD m e = valD n f → e ≤ f → m = n ∧ e = f := by
    intro m e n f he hf hm hn hv hle
    obtain ⟨d, hd⟩ : ∃ d : Nat, f = e + d := ⟨(f - e).toNat, by omega⟩
    rw [hd, ← valD_shift (by omega)] at hv
    unfold valD at hv
    have h1 := Int.eq_of_mul_eq_mul_right (two_pow_ne _) hv
    cases d with
    | zero => exact ⟨by simpa using h1, by omega⟩
    | succ d =>
      exfalso
      rw [Int.pow_succ, ← Int.mul_assoc] at h1
      omega
  have hz : ∀ {m e : Int}, m % 2 = 1 → valD m e ≠ 0 := fun {m e} hm h0 => by
    unfold valD at h0
    rcases Int.mul_eq_zero.1 h0 with h1 | h1
    · omega
    · exact absurd h1 (two_pow_ne _)
  rcases h with ⟨h1, h2⟩ | h1 <;> rcases h' with ⟨h3, h4⟩ | h3
  · exact ⟨by omega, by omega⟩
  · exact absurd hv.symm (by rw [h1, valD_zero]; exact hz h3)
  · exact absurd hv (by rw [h3, valD_zero]; exact hz h1)
  · rcases Int.le_total e f with hl | hl
    · exact key he hf h1 h3 hv hl
    · obtain ⟨q1, q2⟩ := key hf he h3 h1 hv.symm hl
      exact ⟨q1.symm, q2.symm⟩
end Go.Proofs.YtkpjikaobjpkoaaGreatDoor
