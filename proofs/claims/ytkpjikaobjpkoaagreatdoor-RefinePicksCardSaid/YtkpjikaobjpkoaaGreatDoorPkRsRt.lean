/-
  Walk of dyadic.Add.
-/
import Derived.Test.YtkpjikaobjpkoaaGreatDoorPkRqRr
namespace Go.Proofs.YtkpjikaobjpkoaaGreatDoor
open Go.RowKit

/-- The boxes of two dyadic numbers and the result's block. -/
def box3 (w : World) (s s' : Bool) (v u : Value) (e f : Int) : World := ((w.alloc (.cells #[.bool s, v, .int .i64 e] 26)).alloc (.cells #[.bool s', u, .int .i64 f] 26)).alloc (.cells #[.bool false, .slice none 0 0, .int .i64 0] 26)
structure Box3 (w w0 : World) (s s' : Bool) (v u : Value) (e f : Int) (n m : Nat) : Prop where
  below : Below w.heap.size w w0
  da : DyC w0 w.heap.size s v e
  db : DyC w0 (w.heap.size + 1) s' u f
  res : ResD w0 (w.heap.size + 1 + 1)
  r1 : NatR w0 v n
  r2 : NatR w0 u m
theorem box3_of {w : World} {s s' : Bool} {v u : Value} {e f : Int} {n m : Nat} (h : NatR w v n) (h' : NatR w u m) : Box3 w (box3 w s s' v u e f) s s' v u e f n m := by
  obtain ⟨wa, hwa⟩ : ∃ wa, wa = w.alloc (.cells #[.bool s, v, .int .i64 e] 26) := ⟨_, rfl⟩
  obtain ⟨wb, hwb⟩ : ∃ wb, wb = wa.alloc (.cells #[.bool s', u, .int .i64 f] 26) := ⟨_, rfl⟩
  obtain ⟨wc, hwc⟩ : ∃ wc, wc = wb.alloc (.cells #[.bool false, .slice none 0 0, .int .i64 0] 26) := ⟨_, rfl⟩
  have e1 : wa.heap.size = w.heap.size + 1 := by rw [hwa]; simp
  have e2 : wb.heap.size = w.heap.size + 1 + 1 := by rw [hwb]; simp [e1]
  have b1 : Below w.heap.size w wa := by rw [hwa]; exact below_new w _
  have b2 : Below wa.heap.size wa wb := by rw [hwb]; exact below_new wa _
  have b3 : Below wb.heap.size wb wc := by rw [hwc]; exact below_new wb _
  have b23 := b2.trans (b3.mono (by omega))
  have b13 := b1.trans (b23.mono (by omega))
  have hd : box3 w s s' v u e f = wc := by unfold box3; rw [hwc, hwb, hwa]
  rw [hd]
  refine ⟨b13, ?_, ?_, ?_, h.below b13, h'.below b13⟩
  · exact (dyC_of (by rw [hwa]; exact heap_alloc_new w _)).below b23
  · rw [← e1]
    exact (dyC_of (by rw [hwb]; exact heap_alloc_new wa _)).below b3
  · rw [← e2, hwc]; exact heap_alloc_new wb _
theorem exact_pre {m e : Int} (he : -3000 ≤ e) (he3 : e ≤ 3000) (hl : (valD m e).natAbs < 2 ^ kLim) : m.natAbs < 2 ^ kBits ∧ e + tzN m.natAbs ≤ 3000 := by
  refine ⟨lim_mant he hl, ?_⟩
  by_cases h0 : m = 0
  · rw [h0, tzN_zero_abs]; omega
  · have := lim_exp h0 he hl; omega
theorem valD_add (m n g : Int) : valD (m + n) g = valD m g + valD n g := by unfold valD; rw [Int.add_mul]
/-- What is needed of two numbers that are brought to one exponent. -/
structure Al (m n e f g : Int) (p q : Nat) : Prop where
  hg : min e f = g
  hp : e - g = (p : Int)
  hq : f - g = (q : Int)
  p1 : p ≤ 20000
  q1 : q ≤ 20000
  g0 : -3000 ≤ g
  g1 : g ≤ 3000
  sm : (m * 2 ^ p).natAbs < 2 ^ kBits
  sn : (n * 2 ^ q).natAbs < 2 ^ kBits
  vm : valD (m * 2 ^ p) g = valD m e
  vn : valD (n * 2 ^ q) g = valD n f
theorem al_of {m n e f : Int} (he : -3000 ≤ e) (he3 : e ≤ 3000) (hf : -3000 ≤ f) (hf3 : f ≤ 3000) (hm : (valD m e).natAbs < 2 ^ kLim) (hn : (valD n f).natAbs < 2 ^ kLim) : ∃ g p q, Al m n e f g p q := by
  obtain ⟨g, hg⟩ : ∃ g, min e f = g := ⟨_, rfl⟩
  have h1 : g ≤ e := by omega
  have h2 : g ≤ f := by omega
  have h3 : -3000 ≤ g := by omega
  have v1 : valD (m * 2 ^ (e - g).toNat) g = valD m e := by rw [valD_shift (by omega)]; congr 1; omega
  have v2 : valD (n * 2 ^ (f - g).toNat) g = valD n f := by rw [valD_shift (by omega)]; congr 1; omega
  exact ⟨g, (e - g).toNat, (f - g).toNat, hg, by omega, by omega, by omega, by omega, h3, by omega, lim_mant h3 (by rw [v1]; exact hm), lim_mant h3 (by rw [v2]; exact hn), v1, v2⟩
theorem sum_bits {a b : Int} (ha : a.natAbs < 2 ^ kBits) (hb : b.natAbs < 2 ^ kBits) : Sm (a.natAbs + b.natAbs) :=
  sm_of (k := kBits + 1) (by rw [Nat.pow_succ]; omega) (by unfold kBits; omega)

section
variable {w : World}
set_option maxRecDepth 100000 in
set_option maxHeartbeats 4000000 in
theorem dyAdd_calls {x y : Value} {A B : Int} (h : DyV w x A) (h' : DyV w y B) (hl : (A + B).natAbs < 2 ^ kLim) (hT : TabAt w) : Calls Tryz.prog 62 #[x, y] w (DyW (A + B) w) := by
  obtain ⟨m, e, ⟨v, rfl, hv⟩, hn1, he, rfl, hlA⟩ := h
  obtain ⟨n, f, ⟨u, rfl, hu⟩, hn2, hf, rfl, hlB⟩ := h'
  have hy1 := ny_lim hn1 he hlA
  have hy2 := ny_lim hn2 hf hlB
  obtain ⟨a, k, c, rfl⟩ := intSlice hv
  obtain ⟨a', k', c', rfl⟩ := intSlice hu
  obtain ⟨s, hs0⟩ : ∃ s, decide (m < 0) = s := ⟨_, rfl⟩
  obtain ⟨s', hs1⟩ : ∃ s, decide (n < 0) = s := ⟨_, rfl⟩
  rw [hs0, hs1]
  have hW := box3_of (s := s) (s' := s') (e := e) (f := f) hv hu
  have HZ := Lib.hid (And.intro hs0 hs1)
  have HLIM := Lib.hid hl
  have HTA := Lib.hid (hT.below hW.below)
  have HLO := Lib.hid (And.intro he hf)
  have HP1 := Lib.hid (exact_pre he hy1.hi hlA)
  have HP2 := Lib.hid (exact_pre hf hy2.hi hlB)
  have HSM := Lib.hid (And.intro (ny_sm hy1) (ny_sm hy2))
  obtain ⟨g, p, q, hal⟩ := al_of he hy1.hi hf hy2.hi hlA hlB
  have HAL := Lib.hid hal
  have HFF := Lib.hid (And.intro he hf)
  clear hv hu hs0 hs1 hl hT he hf hlA hlB hn1 hn2 hy1 hy2 hal
  go_enter Tryz.func62, Tryz.ntmps62
  go_wp2_with fail
  unfold box3 at hW HTA
  generalize ((w.alloc (.cells #[.bool s, .slice a k c, .int .i64 e] 26)).alloc (.cells #[.bool s', .slice a' k' c', .int .i64 f] 26)).alloc (.cells #[.bool false, .slice none 0 0, .int .i64 0] 26) = w0 at hW HTA ⊢
  have HW := Lib.hid hW
  clear hW
  have HDA := Lib.hid (fun (w' : World) (hb : Below w0.heap.size w0 w') => (show DyR w' (.agg #[.bool s, .slice a k c, .int .i64 e]) m e from ⟨_, by rw [HZ.out.1], HW.out.r1.below hb⟩))
  have HDB := Lib.hid (fun (w' : World) (hb : Below w0.heap.size w0 w') => (show DyR w' (.agg #[.bool s', .slice a' k' c', .int .i64 f]) n f from ⟨_, by rw [HZ.out.2], HW.out.r2.below hb⟩))
  have HIA := Lib.hid (fun (w' : World) (hb : Below w0.heap.size w0 w') => (show IntR w' (.agg #[.bool s, .slice a k c]) m from ⟨_, by rw [HZ.out.1], HW.out.r1.below hb⟩))
  have HIB := Lib.hid (fun (w' : World) (hb : Below w0.heap.size w0 w') => (show IntR w' (.agg #[.bool s', .slice a' k' c']) n from ⟨_, by rw [HZ.out.2], HW.out.r2.below hb⟩))
  refine (dySign_calls (HDA.out _ (Below.refl _ _)) HSM.out.1).mono ?_
  rintro e' w1 ⟨rfl, hb⟩
  have HBB := Lib.hid hb
  have qa := HW.out.da.below hb
  have qb := HW.out.db.below hb
  have c00 := qa.c0
  have c01 := qa.c1
  have c02 := qa.c2
  have c10 := qb.c0
  have c11 := qb.c1
  have c12 := qb.c2
  have hlt1 := qb.lt
  have hlt0 := qa.lt
  clear qa qb
  clear hb
  by_cases hm0 : m = 0
  · have hsg : m.sign = 0 := by rw [hm0]; rfl
    have HM0 := Lib.hid hm0
    rw [hsg]
    clear hm0 hsg
    go_wp2_with fail
    refine (exact_calls (HIB.out _ HBB.out) HP2.out.1 HLO.out.2 HP2.out.2 (HTA.out.below HBB.out)).mono ?_
    rintro e' w9 ⟨d, rfl, hf, hb⟩
    obtain ⟨e1, he1⟩ : ∃ e1, expI n f = e1 := ⟨_, rfl⟩
    rw [he1] at hf
    have HE1 := Lib.hid he1
    obtain ⟨b1, a1, k1, c1, rfl, hbq⟩ := hf.form
    clear hbq he1
    have hb9 : Below w0.heap.size w0 w9 := HBB.out.trans (hb.mono HBB.out.size)
    have HB9 := Lib.hid hb9
    have hr1 := HW.out.res.below hb9
    have HR1 := Lib.hid hr1
    obtain ⟨d0, d1, d2, f0, f1, f2, ht⟩ := hr1.facts
    have HF := Lib.hid (hf.base (base' := w0.heap.size) HBB.out.size)
    clear hf hb hb9 hr1 c00 c01 c02 c10 c11 c12 hlt0 hlt1
    go_wp2_with fail
    refine bodyPost_ret (v := .tuple #[.agg #[.bool b1, .slice a1 k1 c1, .int .i64 e1], .int .i64 0]) (by simp [results, Tryz.results62, go_sem, d0, d1, d2]) rfl ?_
    obtain ⟨r1, r2⟩ := dy_set (HW.out.below.trans (HB9.out.mono HW.out.below.size)) (show w.heap.size ≤ w.heap.size + 1 + 1 by omega) HR1.out HF.out HW.out.below.size
    exact ⟨_, rfl, dyO_make (by rw [HE1.out]; exact r1) HLO.out.2 (by rw [HM0.out, valD_zero, Int.zero_add]) HLIM.out, r2⟩
  · have hsg : (m.sign == 0) = false := by
      have : m.sign ≠ 0 := fun e => hm0 (Int.sign_eq_zero_iff_zero.1 e)
      simpa using this
    clear hm0
    go_wp2_with fail
    refine (dySign_calls (HDB.out _ HBB.out) HSM.out.2).mono ?_
    rintro e' w2 ⟨rfl, hb⟩
    have hb2 : Below w0.heap.size w0 w2 := HBB.out.trans (hb.mono HBB.out.size)
    clear HBB hb c00 c01 c02 c10 c11 c12 hlt0 hlt1
    have HBB := Lib.hid hb2
    have qa := HW.out.da.below hb2
    have qb := HW.out.db.below hb2
    have c00 := qa.c0
    have c01 := qa.c1
    have c02 := qa.c2
    have c10 := qb.c0
    have c11 := qb.c1
    have c12 := qb.c2
    have hlt1 := qb.lt
    have hlt0 := qa.lt
    clear qa qb
    clear hb2
    by_cases hn0 : n = 0
    · have hsg2 : n.sign = 0 := by rw [hn0]; rfl
      have HM0 := Lib.hid hn0
      rw [hsg2]
      clear hn0 hsg2
      go_wp2_with fail
      refine (exact_calls (HIA.out _ HBB.out) HP1.out.1 HLO.out.1 HP1.out.2 (HTA.out.below HBB.out)).mono ?_
      rintro e' w9 ⟨d, rfl, hf, hb⟩
      obtain ⟨e1, he1⟩ : ∃ e1, expI m e = e1 := ⟨_, rfl⟩
      rw [he1] at hf
      have HE1 := Lib.hid he1
      obtain ⟨b1, a1, k1, c1, rfl, hbq⟩ := hf.form
      clear hbq he1
      have hb9 : Below w0.heap.size w0 w9 := HBB.out.trans (hb.mono HBB.out.size)
      have HB9 := Lib.hid hb9
      have hr1 := HW.out.res.below hb9
      have HR1 := Lib.hid hr1
      obtain ⟨d0, d1, d2, f0, f1, f2, ht⟩ := hr1.facts
      have HF := Lib.hid (hf.base (base' := w0.heap.size) HBB.out.size)
      clear hf hb hb9 hr1 c00 c01 c02 c10 c11 c12 hlt0 hlt1
      go_wp2_with fail
      refine bodyPost_ret (v := .tuple #[.agg #[.bool b1, .slice a1 k1 c1, .int .i64 e1], .int .i64 0]) (by simp [results, Tryz.results62, go_sem, d0, d1, d2]) rfl ?_
      obtain ⟨r1, r2⟩ := dy_set (HW.out.below.trans (HB9.out.mono HW.out.below.size)) (show w.heap.size ≤ w.heap.size + 1 + 1 by omega) HR1.out HF.out HW.out.below.size
      exact ⟨_, rfl, dyO_make (by rw [HE1.out]; exact r1) HLO.out.1 (by rw [HM0.out, valD_zero, Int.add_zero]) HLIM.out, r2⟩
    · have hsg2 : (n.sign == 0) = false := by
        have : n.sign ≠ 0 := fun e => hn0 (Int.sign_eq_zero_iff_zero.1 e)
        simpa using this
      clear hn0
      go_wp2_with fail
      refine (align_calls (HDA.out _ HBB.out) (HDB.out _ HBB.out) HAL.out.hg HAL.out.hp HAL.out.hq HAL.out.p1 HAL.out.q1 (by rw [← natAbs_mul_pow]; exact sm_of (k := kBits) HAL.out.sm (by unfold kBits; omega)) (by rw [← natAbs_mul_pow]; exact sm_of (k := kBits) HAL.out.sn (by unfold kBits; omega))).mono ?_
      rintro e' w3 ⟨xu, xv, rfl, hu1, hv1, hb⟩
      obtain ⟨bu, au, ku, cu, rfl, hbq⟩ := hu1.form
      clear hbq
      obtain ⟨bv, av, kv, cv, rfl, hbq⟩ := hv1.form
      clear hbq
      have hb3 : Below w0.heap.size w0 w3 := HBB.out.trans (hb.mono HBB.out.size)
      have hbx := (below_new w3 (.cells #[.bool bu, .slice au ku cu] 24)).trans ((below_new (w3.alloc (.cells #[.bool bu, .slice au ku cu] 24)) (.cells #[.bool bv, .slice av kv cv] 24)).mono (by simp))
      have HUV := Lib.hid (And.intro (hu1.r.below hbx) (hv1.r.below hbx))
      have HB3 := Lib.hid (hb3.trans (hbx.mono hb3.size))
      clear HBB hb hb3 hbx hu1 hv1 c00 c01 c02 c10 c11 c12 hlt0 hlt1
      go_wp2_with fail
      refine (intAdd_calls HUV.out.1 HUV.out.2 (sum_bits HAL.out.sm HAL.out.sn)).mono ?_
      rintro e' w4 ⟨xs, rfl, hs4, hb4⟩
      obtain ⟨bs, asl, ks, cs, rfl, hbq⟩ := hs4.form
      clear hbq
      have HBB := Lib.hid (HB3.out.trans (hb4.mono HB3.out.size))
      have HS4 := Lib.hid hs4
      have HPM := Lib.hid (exact_pre (m := m * 2 ^ p + n * 2 ^ q) HAL.out.g0 HAL.out.g1 (by rw [valD_add, HAL.out.vm, HAL.out.vn]; exact HLIM.out))
      clear hs4 hb4
      go_wp2_with fail
      refine (exact_calls HS4.out.r HPM.out.1 HAL.out.g0 HPM.out.2 (HTA.out.below HBB.out)).mono ?_
      rintro e' w9 ⟨d, rfl, hf, hb⟩
      obtain ⟨e1, he1⟩ : ∃ e1, expI (m * 2 ^ p + n * 2 ^ q) g = e1 := ⟨_, rfl⟩
      rw [he1] at hf
      have HE1 := Lib.hid he1
      obtain ⟨b1, a1, k1, c1, rfl, hbq⟩ := hf.form
      clear hbq he1
      have hb9 : Below w0.heap.size w0 w9 := HBB.out.trans (hb.mono HBB.out.size)
      have HB9 := Lib.hid hb9
      have hr1 := HW.out.res.below hb9
      have HR1 := Lib.hid hr1
      obtain ⟨d0, d1, d2, f0, f1, f2, ht⟩ := hr1.facts
      have HF := Lib.hid (hf.base (base' := w0.heap.size) HBB.out.size)
      clear hf hb hb9 hr1
      go_wp2_with fail
      refine bodyPost_ret (v := .tuple #[.agg #[.bool b1, .slice a1 k1 c1, .int .i64 e1], .int .i64 0]) (by simp [results, Tryz.results62, go_sem, d0, d1, d2]) rfl ?_
      obtain ⟨r1, r2⟩ := dy_set (HW.out.below.trans (HB9.out.mono HW.out.below.size)) (show w.heap.size ≤ w.heap.size + 1 + 1 by omega) HR1.out HF.out HW.out.below.size
      exact ⟨_, rfl, dyO_make (by rw [HE1.out]; exact r1) HAL.out.g0 (by rw [valD_add, HAL.out.vm, HAL.out.vn]) HLIM.out, r2⟩
end
end Go.Proofs.YtkpjikaobjpkoaaGreatDoor
/-
  Walk of dyadic.Cmp.
-/
namespace Go.Proofs.YtkpjikaobjpkoaaGreatDoor
open Go.RowKit

structure BoxC (w w0 : World) (s s' : Bool) (v u : Value) (e f : Int) (n m : Nat) : Prop where
  below : Below w.heap.size w w0
  da : DyC w0 w.heap.size s v e
  db : DyC w0 (w.heap.size + 1) s' u f
  r1 : NatR w0 v n
  r2 : NatR w0 u m
theorem boxC_of {w : World} {s s' : Bool} {v u : Value} {e f : Int} {n m : Nat} (h : NatR w v n) (h' : NatR w u m) : BoxC w ((w.alloc (.cells #[.bool s, v, .int .i64 e] 26)).alloc (.cells #[.bool s', u, .int .i64 f] 26)) s s' v u e f n m := by
  have e1 : (w.alloc (.cells #[.bool s, v, .int .i64 e] 26)).heap.size = w.heap.size + 1 := by simp
  have b1 := below_new w (.cells #[.bool s, v, .int .i64 e] 26)
  have b2 := below_new (w.alloc (.cells #[.bool s, v, .int .i64 e] 26)) (.cells #[.bool s', u, .int .i64 f] 26)
  have b12 := b1.trans (b2.mono (by omega))
  refine ⟨b12, (dyC_of (heap_alloc_new w _)).below b2, ?_, h.below b12, h'.below b12⟩
  have := dyC_of (heap_alloc_new (w.alloc (.cells #[.bool s, v, .int .i64 e] 26)) (.cells #[.bool s', u, .int .i64 f] 26))
  rw [e1] at this
  exact this
def Six (w' : World) (p : Nat) (s s' : Bool) (v u : Value) (e f : Int) : Prop := w'.cell? ⟨p, 0, none⟩ = some (.bool s) ∧ w'.cell? ⟨p, 1, none⟩ = some v ∧ w'.cell? ⟨p, 2, none⟩ = some (.int .i64 e) ∧ w'.cell? ⟨p + 1, 0, none⟩ = some (.bool s') ∧ w'.cell? ⟨p + 1, 1, none⟩ = some u ∧ w'.cell? ⟨p + 1, 2, none⟩ = some (.int .i64 f)
theorem BoxC.six {w w0 w' : World} {s s' : Bool} {v u : Value} {e f : Int} {n m : Nat} (h : BoxC w w0 s s' v u e f n m) (hb : Below w0.heap.size w0 w') : Six w' w.heap.size s s' v u e f :=
  ⟨(h.da.below hb).c0, (h.da.below hb).c1, (h.da.below hb).c2, (h.db.below hb).c0, (h.db.below hb).c1, (h.db.below hb).c2⟩
/-! ### how the values compare -/
theorem valD_pos {m e : Int} (h : 0 < m) : 0 < valD m e := by
  unfold valD
  exact Int.mul_pos h (by rw [← two_pow_cast]; have := Nat.pow_pos (n := (e + 10000).toNat) (show 0 < 2 by decide); omega)
theorem valD_neg (m e : Int) : valD (-m) e = -valD m e := by unfold valD; rw [Int.neg_mul]
theorem valD_sign (m e : Int) : (valD m e).sign = m.sign := by
  rcases Int.lt_trichotomy m 0 with h | h | h
  · have := valD_pos (e := e) (show 0 < -m by omega)
    rw [valD_neg] at this
    rw [Int.sign_eq_neg_one_of_neg h, Int.sign_eq_neg_one_of_neg (by omega)]
  · rw [h, valD_zero]
  · rw [Int.sign_eq_one_of_pos h, Int.sign_eq_one_of_pos (valD_pos h)]
theorem cmp_sign {a b : Int} (h : a.sign ≠ b.sign) : cmpZ a b = if a.sign < b.sign then -1 else 1 := by
  unfold cmpZ
  rcases Int.lt_trichotomy a 0 with h1 | h1 | h1 <;> rcases Int.lt_trichotomy b 0 with h2 | h2 | h2
  all_goals
    first
      | (rw [Int.sign_eq_neg_one_of_neg h1] at *)
      | (rw [Int.sign_eq_one_of_pos h1] at *)
      | (rw [show a.sign = 0 by rw [h1]; rfl] at *)
    first
      | (rw [Int.sign_eq_neg_one_of_neg h2] at *)
      | (rw [Int.sign_eq_one_of_pos h2] at *)
      | (rw [show b.sign = 0 by rw [h2]; rfl] at *)
    first
      | (exfalso; exact h rfl)
      | (rw [if_pos (by omega)]; rfl)
      | (rw [if_neg (by omega), if_pos (by omega)]; rfl)
theorem top_bound {m e : Int} (hm : m ≠ 0) (he : -3000 ≤ e) (he3 : e ≤ 3000) : ∃ t : Nat, topZ m e + 10000 = (t : Int) + 1 ∧ 2 ^ t ≤ (valD m e).natAbs ∧ (valD m e).natAbs < 2 ^ (t + 1) := by
  obtain ⟨b, h1, h2, h3⟩ := blen_pos (n := m.natAbs) (by omega)
  refine ⟨b + (e + 10000).toNat, ?_, ?_, ?_⟩
  · unfold topZ; rw [if_neg hm, h1]; omega
  · rw [valD_abs, Nat.pow_add]; exact Nat.mul_le_mul_right _ h2
  · rw [valD_abs, show b + (e + 10000).toNat + 1 = b + 1 + (e + 10000).toNat by omega, Nat.pow_add]
    exact Nat.mul_lt_mul_of_pos_right h3 (Nat.pow_pos (by decide))
theorem top_lt {m n e f : Int} (hm : m ≠ 0) (hn : n ≠ 0) (he : -3000 ≤ e) (he3 : e ≤ 3000) (hf : -3000 ≤ f) (hf3 : f ≤ 3000) (h : topZ m e < topZ n f) : (valD m e).natAbs < (valD n f).natAbs := by
  obtain ⟨t, h1, _, h3⟩ := top_bound hm he he3
  obtain ⟨u, g1, g2, _⟩ := top_bound hn hf hf3
  exact Nat.lt_of_lt_of_le h3 (Nat.le_trans (Nat.pow_le_pow_right (by decide) (by omega)) g2)
theorem cmp_top {a b : Int} (hs : a.sign = b.sign) (h : a.natAbs < b.natAbs) : cmpZ a b = -a.sign ∧ cmpZ b a = a.sign := by
  unfold cmpZ
  rcases Int.lt_trichotomy a 0 with h1 | h1 | h1
  · have h2 : b < 0 := by rw [Int.sign_eq_neg_one_of_neg h1] at hs; exact Int.sign_eq_neg_one_iff_neg.1 hs.symm
    rw [Int.sign_eq_neg_one_of_neg h1, if_neg (by omega), if_pos (by omega), if_pos (by omega)]
    exact ⟨rfl, rfl⟩
  · have h2 : b = 0 := by rw [h1] at hs; exact Int.sign_eq_zero_iff_zero.1 hs.symm
    omega
  · have h2 : 0 < b := by rw [Int.sign_eq_one_of_pos h1] at hs; exact Int.sign_eq_one_iff_pos.1 hs.symm
    rw [Int.sign_eq_one_of_pos h1, if_pos (by omega), if_neg (by omega), if_pos (by omega)]
    exact ⟨rfl, rfl⟩
theorem cmp_scale (a b g : Int) : cmpZ (valD a g) (valD b g) = cmpZ a b := by
  have h0 : ∀ {x y : Int}, x < y → valD x g < valD y g := fun {x y} h => by
    have := valD_pos (e := g) (show 0 < y - x by omega)
    have e1 : valD (y - x) g = valD y g - valD x g := by rw [Int.sub_eq_add_neg, valD_add, valD_neg]; omega
    omega
  rcases Int.lt_trichotomy a b with h | h | h
  · rw [cmpZ_lt h, cmpZ_lt (h0 h)]
  · rw [h]; unfold cmpZ; rw [if_neg (by omega), if_neg (by omega), if_neg (by omega), if_neg (by omega)]
  · rw [cmpZ_gt h, cmpZ_gt (h0 h)]
section
variable {w : World}
set_option maxRecDepth 100000 in
set_option maxHeartbeats 4000000 in
theorem dyCmp_calls {x y : Value} {A B : Int} (h : DyV w x A) (h' : DyV w y B) : Calls Tryz.prog 27 #[x, y] w (Quiet (.int .i64 (cmpZ A B)) w) := by
  obtain ⟨m, e, ⟨v, rfl, hv⟩, hn1, he, rfl, hlA⟩ := h
  obtain ⟨n, f, ⟨u, rfl, hu⟩, hn2, hf, rfl, hlB⟩ := h'
  have hy1 := ny_lim hn1 he hlA
  have hy2 := ny_lim hn2 hf hlB
  obtain ⟨a, k, c, rfl⟩ := intSlice hv
  obtain ⟨a', k', c', rfl⟩ := intSlice hu
  obtain ⟨s, hs0⟩ : ∃ s, decide (m < 0) = s := ⟨_, rfl⟩
  obtain ⟨s', hs1⟩ : ∃ s, decide (n < 0) = s := ⟨_, rfl⟩
  obtain ⟨R, hR⟩ : ∃ R, cmpZ (valD m e) (valD n f) = R := ⟨_, rfl⟩
  rw [hs0, hs1, hR]
  have hW := boxC_of (s := s) (s' := s') (e := e) (f := f) hv hu
  have HZ := Lib.hid (And.intro hs0 hs1)
  have HSM := Lib.hid (And.intro (ny_sm hy1) (ny_sm hy2))
  obtain ⟨g, p, q, hal⟩ := al_of he hy1.hi hf hy2.hi hlA hlB
  have HAL := Lib.hid hal
  have HNY := Lib.hid (And.intro hy1 hy2)
  have HRR := Lib.hid hR
  clear hv hu hs0 hs1 he hf hlA hlB hn1 hn2 hy1 hy2 hal hR
  go_enter Tryz.func27, Tryz.ntmps27
  go_wp2_with fail
  generalize (w.alloc (.cells #[.bool s, .slice a k c, .int .i64 e] 26)).alloc (.cells #[.bool s', .slice a' k' c', .int .i64 f] 26) = w0 at hW ⊢
  have HW := Lib.hid hW
  clear hW
  have HDA := Lib.hid (fun (w' : World) (hb : Below w0.heap.size w0 w') => (show DyR w' (.agg #[.bool s, .slice a k c, .int .i64 e]) m e from ⟨_, by rw [HZ.out.1], HW.out.r1.below hb⟩))
  have HDB := Lib.hid (fun (w' : World) (hb : Below w0.heap.size w0 w') => (show DyR w' (.agg #[.bool s', .slice a' k' c', .int .i64 f]) n f from ⟨_, by rw [HZ.out.2], HW.out.r2.below hb⟩))
  have HQ1 := Lib.hid (fun (w' : World) (hb : Below w0.heap.size w0 w') => dySign_calls (HDA.out _ hb) HSM.out.1)
  have HQ2 := Lib.hid (fun (w' : World) (hb : Below w0.heap.size w0 w') => dySign_calls (HDB.out _ hb) HSM.out.2)
  have HT1 := Lib.hid (fun (w' : World) (hb : Below w0.heap.size w0 w') => top_calls (HDA.out _ hb) HNY.out.1)
  have HT2 := Lib.hid (fun (w' : World) (hb : Below w0.heap.size w0 w') => top_calls (HDB.out _ hb) HNY.out.2)
  have HS := Lib.hid (fun (w' : World) (hb : Below w0.heap.size w0 w') => HW.out.six hb)
  have HD := Lib.hid (Below.refl w0.heap.size w0).drew
  have hs0 := HS.out _ (Below.refl _ _)
  have hsd := HS.out _ HD.out
  unfold Six at hs0 hsd
  have hlt1 := HW.out.db.lt
  have hlt0 := HW.out.da.lt
  obtain ⟨ms, hms⟩ : ∃ ms, m.sign = ms := ⟨_, rfl⟩
  obtain ⟨ns, hns⟩ : ∃ ns, n.sign = ns := ⟨_, rfl⟩
  rw [hms] at HQ1
  rw [hns] at HQ2
  have HMS := Lib.hid (And.intro hms hns)
  clear hms hns
  go_region_held3 (fun w' => w'.cell? ⟨w.heap.size, 0, none⟩ = some (.bool s) ∧ w'.cell? ⟨w.heap.size, 1, none⟩ = some (.slice a k c) ∧ w'.cell? ⟨w.heap.size, 2, none⟩ = some (.int .i64 e) ∧ w'.cell? ⟨w.heap.size + 1, 0, none⟩ = some (.bool s') ∧ w'.cell? ⟨w.heap.size + 1, 1, none⟩ = some (.slice a' k' c') ∧ w'.cell? ⟨w.heap.size + 1, 2, none⟩ = some (.int .i64 f))
    ((first | with_reducible exact hs2 | with_reducible exact hs1 | with_reducible exact hsd | with_reducible exact hs0))
    (first
      | (have hb1q := hb1; go_at_call 58; clear hb1q; refine (HQ2.out _ hb1).mono ?_; rintro e' w2 ⟨rfl, hb⟩; have hb2 : Below w0.heap.size w0 w2 := hb1.trans (hb.mono hb1.size); have hs2 := HS.out _ hb2; unfold Six at hs2; clear hb)
      | (go_at_call 58; refine (HQ1.out _ (by first | exact HD.out | exact Below.refl _ _)).mono ?_; rintro e' w1 ⟨rfl, hb⟩; have hb1 : Below w0.heap.size w0 w1 := HD.out.trans hb; have hs1 := HS.out _ hb1; unfold Six at hs1; clear hb))
  all_goals
    have HB2 := Lib.hid hb2
    have HS2 := Lib.hid hs2
    have hz2 := hb2.size
    clear hs2 hs1 hsd hs0 hb1 hb2
    by_cases hne : ms = ns
    · have hneb : (ms == ns) = true := by simpa using hne
      by_cases hz : ms = 0
      · have hzb : (ms == 0) = true := by simpa using hz
        have HV := Lib.hid (show R = 0 by
          rw [← HRR.out]
          have h1 : m = 0 := Int.sign_eq_zero_iff_zero.1 (by rw [HMS.out.1, hz])
          have h2 : n = 0 := Int.sign_eq_zero_iff_zero.1 (by rw [HMS.out.2, ← hne, hz])
          rw [h1, h2, valD_zero, valD_zero]; rfl)
        subst hne
        subst hz
        go_wp2_with fail
        go_ret
        exact ⟨by rw [HV.out]; rfl, HW.out.below.trans (HB2.out.mono HW.out.below.size)⟩
      · have hzb : (ms == 0) = false := by simpa using hz
        subst hne
        have HM0 := Lib.hid (show m ≠ 0 ∧ n ≠ 0 from ⟨fun h => hz (by rw [← HMS.out.1, h]; rfl), fun h => hz (by rw [← HMS.out.2, h]; rfl)⟩)
        have HSG := Lib.hid (show (valD m e).sign = ms ∧ (valD n f).sign = ms by rw [valD_sign, valD_sign]; exact HMS.out)
        obtain ⟨tp, htp⟩ : ∃ tp, topZ m e = tp := ⟨_, rfl⟩
        obtain ⟨tq, htq⟩ : ∃ tq, topZ n f = tq := ⟨_, rfl⟩
        have HTP := Lib.hid (And.intro htp htq)
        have HU1 := Lib.hid (fun (w' : World) (hb : Below w0.heap.size w0 w') => (show Calls Tryz.prog 59 #[.agg #[.bool s, .slice a k c, .int .i64 e]] w' (Quiet (.int .i64 tp) w') by rw [← htp]; exact HT1.out _ hb))
        have HU2 := Lib.hid (fun (w' : World) (hb : Below w0.heap.size w0 w') => (show Calls Tryz.prog 59 #[.agg #[.bool s', .slice a' k' c', .int .i64 f]] w' (Quiet (.int .i64 tq) w') by rw [← htq]; exact HT2.out _ hb))
        have HMS1 := Lib.hid (show ms = -1 ∨ ms = 1 by
          rcases Int.lt_trichotomy m 0 with h | h | h
          · exact .inl (by rw [← HMS.out.1]; exact Int.sign_eq_neg_one_of_neg h)
          · exact absurd h HM0.out.1
          · exact .inr (by rw [← HMS.out.1]; exact Int.sign_eq_one_of_pos h))
        have hs0 := HS2.out
        have HD2 := Lib.hid HB2.out.drew
        have hsd := HS.out _ HD2.out
        unfold Six at hsd
        have hltA : w.heap.size < w2.heap.size := by omega
        have hltB : w.heap.size + 1 < w2.heap.size := by omega
        clear htp htq
        go_wp2_with fail
        go_region_held3 (fun w' => w'.cell? ⟨w.heap.size, 0, none⟩ = some (.bool s) ∧ w'.cell? ⟨w.heap.size, 1, none⟩ = some (.slice a k c) ∧ w'.cell? ⟨w.heap.size, 2, none⟩ = some (.int .i64 e) ∧ w'.cell? ⟨w.heap.size + 1, 0, none⟩ = some (.bool s') ∧ w'.cell? ⟨w.heap.size + 1, 1, none⟩ = some (.slice a' k' c') ∧ w'.cell? ⟨w.heap.size + 1, 2, none⟩ = some (.int .i64 f))
          ((first | with_reducible exact hs4 | with_reducible exact hs3 | with_reducible exact hsd | with_reducible exact hs0))
          (first
            | (have hb1q := hb3; go_at_call 59; clear hb1q; refine (HU2.out _ hb3).mono ?_; rintro e' w4 ⟨rfl, hb⟩; have hb4 : Below w0.heap.size w0 w4 := hb3.trans (hb.mono hb3.size); have hs4 := HS.out _ hb4; unfold Six at hs4; clear hb)
            | (go_at_call 59; refine (HU1.out _ (by first | exact HD2.out | exact HB2.out)).mono ?_; rintro e' w3 ⟨rfl, hb⟩; have hb3 : Below w0.heap.size w0 w3 := HD2.out.trans (hb.mono HD2.out.size); have hs3 := HS.out _ hb3; unfold Six at hs3; clear hb))
        all_goals
          have HB4 := Lib.hid hb4
          have HS4 := Lib.hid hs4
          have hz4 := hb4.size
          clear hs4 hs3 hsd hs0 hb3 hb4
          by_cases hpq : tp = tq
          · have hpqb : (tp == tq) = true := by simpa using hpq
            obtain ⟨c00, c01, c02, c10, c11, c12⟩ := HS4.out
            have hltC : w.heap.size < w4.heap.size := by omega
            have hltD : w.heap.size + 1 < w4.heap.size := by omega
            subst hpq
            go_wp2_with fail
            refine (align_calls (HDA.out _ HB4.out) (HDB.out _ HB4.out) HAL.out.hg HAL.out.hp HAL.out.hq HAL.out.p1 HAL.out.q1 (by rw [← natAbs_mul_pow]; exact sm_of (k := kBits) HAL.out.sm (by unfold kBits; omega)) (by rw [← natAbs_mul_pow]; exact sm_of (k := kBits) HAL.out.sn (by unfold kBits; omega))).mono ?_
            rintro e' w5 ⟨xu, xv, rfl, hu1, hv1, hb⟩
            obtain ⟨bu, au, ku, cu, rfl, hbq⟩ := hu1.form
            clear hbq
            obtain ⟨bv, av, kv, cv, rfl, hbq⟩ := hv1.form
            clear hbq
            have hb5 : Below w0.heap.size w0 w5 := HB4.out.trans (hb.mono HB4.out.size)
            have hbx := (below_new w5 (.cells #[.bool bu, .slice au ku cu] 24)).trans ((below_new (w5.alloc (.cells #[.bool bu, .slice au ku cu] 24)) (.cells #[.bool bv, .slice av kv cv] 24)).mono (by simp))
            have HUV := Lib.hid (And.intro (hu1.r.below hbx) (hv1.r.below hbx))
            have HB5 := Lib.hid (hb5.trans (hbx.mono hb5.size))
            clear hb hb5 hbx hu1 hv1 c00 c01 c02 c10 c11 c12 hltC hltD
            have HV := Lib.hid (show cmpZ (m * 2 ^ p) (n * 2 ^ q) = R by rw [← HRR.out, ← cmp_scale _ _ g, HAL.out.vm, HAL.out.vn])
            go_wp2_with fail
            refine (intCmp_calls HUV.out.1 HUV.out.2).mono ?_
            rintro e' w6 ⟨rfl, hb⟩
            have HB6 := Lib.hid (HB5.out.trans (hb.mono HB5.out.size))
            rw [HV.out]
            clear hb
            go_wp2_with fail
            go_ret
            exact ⟨rfl, HW.out.below.trans (HB6.out.mono HW.out.below.size)⟩
          · have hpqb : (tp == tq) = false := by simpa using hpq
            by_cases hlt : tp < tq
            · have HV := Lib.hid (show R = -ms by
                rw [← HRR.out, ← HSG.out.1]
                exact (cmp_top (by rw [HSG.out.1, HSG.out.2]) (top_lt HM0.out.1 HM0.out.2 HNY.out.1.lo HNY.out.1.hi HNY.out.2.lo HNY.out.2.hi (by rw [HTP.out.1, HTP.out.2]; exact hlt))).1)
              rcases HMS1.out with h | h
              all_goals
                subst h
                go_wp2_with fail
                go_ret
                exact ⟨by rw [HV.out]; rfl, HW.out.below.trans (HB4.out.mono HW.out.below.size)⟩
            · have HV := Lib.hid (show R = ms by
                rw [← HRR.out, ← HSG.out.2]
                exact (cmp_top (by rw [HSG.out.1, HSG.out.2]) (top_lt HM0.out.2 HM0.out.1 HNY.out.2.lo HNY.out.2.hi HNY.out.1.lo HNY.out.1.hi (by rw [HTP.out.1, HTP.out.2]; omega))).2)
              go_wp2_with fail
              go_ret
              exact ⟨by rw [HV.out]; rfl, HW.out.below.trans (HB4.out.mono HW.out.below.size)⟩
    · have hneb : (ms == ns) = false := by simpa using hne
      have HV := Lib.hid (show R = if ms < ns then -1 else 1 by
        rw [← HRR.out, ← HMS.out.1, ← HMS.out.2, ← valD_sign m e, ← valD_sign n f]
        exact cmp_sign (by rw [valD_sign, valD_sign, HMS.out.1, HMS.out.2]; exact hne))
      by_cases hlt : ms < ns
      · have HV2 := Lib.hid (show R = -1 by rw [HV.out, if_pos hlt])
        have hltd : decide (ms < ns) = true := decide_eq_true hlt
        clear HV
        go_wp2_with fail
        go_ret
        exact ⟨by rw [HV2.out]; rfl, HW.out.below.trans (HB2.out.mono HW.out.below.size)⟩
      · have HV2 := Lib.hid (show R = 1 by rw [HV.out, if_neg hlt])
        clear HV
        go_wp2_with fail
        go_ret
        exact ⟨by rw [HV2.out]; rfl, HW.out.below.trans (HB2.out.mono HW.out.below.size)⟩
end
end Go.Proofs.YtkpjikaobjpkoaaGreatDoor
