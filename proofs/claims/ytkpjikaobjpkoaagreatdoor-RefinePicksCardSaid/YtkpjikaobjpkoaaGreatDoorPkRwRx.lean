/-
  Walks of grid.On, arith.end, arith.Small.
-/
import Derived.Test.YtkpjikaobjpkoaaGreatDoorPkRuRv
namespace Go.Proofs.YtkpjikaobjpkoaaGreatDoor
open Go.RowKit

open Classical in
/-- V / 2^10000 is a multiple of 2^-p. -/
noncomputable def onB (V p : Int) : Bool := decide (∃ q, V = q * 2 ^ (10000 - p).toNat)
open Classical in
theorem onB_zero (p : Int) : onB 0 p = true := by
  unfold onB
  exact decide_eq_true ⟨0, by rw [Int.zero_mul]⟩
open Classical in
theorem onB_odd {m e p : Int} (hm : m % 2 = 1) (he : -3000 ≤ e) (hp : p ≤ 10000) : onB (valD m e) p = decide (-p ≤ e) := by
  unfold onB
  by_cases h : -p ≤ e
  · rw [decide_eq_true h]
    refine decide_eq_true ⟨m * 2 ^ (e + p).toNat, ?_⟩
    unfold valD
    rw [Int.mul_assoc, ← Int.pow_add]
    congr 2; omega
  · rw [decide_eq_false h]
    refine decide_eq_false ?_
    rintro ⟨q, hq⟩
    obtain ⟨j, hj⟩ : ∃ j : Nat, (10000 - p).toNat = (e + 10000).toNat + (j + 1) := ⟨((10000 - p).toNat - (e + 10000).toNat) - 1, by omega⟩
    unfold valD at hq
    rw [hj, Int.pow_add, Int.pow_succ, ← Int.mul_assoc, Int.mul_comm q, Int.mul_assoc, Int.mul_comm m] at hq
    have := Int.eq_of_mul_eq_mul_left (two_pow_ne _) hq
    rw [← Int.mul_assoc] at this
    omega
theorem top_le {m e : Int} (hm : m ≠ 0) (hy : Ny m e) (h : (valD m e).natAbs < 2 ^ kLim) : topZ m e ≤ 2000 := by
  obtain ⟨t, h1, h2, _⟩ := top_bound hm hy.lo hy.hi
  have := (Nat.pow_lt_pow_iff_right (a := 2) (by omega)).1 (Nat.lt_of_le_of_lt h2 h)
  unfold kLim at this
  omega

section
variable {w : World}
set_option maxRecDepth 100000 in
set_option maxHeartbeats 2000000 in
theorem on_calls {x : Value} {V p : Int} (h : DyV w x V) (hp1 : -2048 ≤ p) (hp2 : p ≤ 8192) : Calls Tryz.prog 64 #[x, .int .i64 p] w (Quiet (.bool (onB V p)) w) := by
  have HSG := Lib.hid (fun o => signV_calls (h.below (below_new w o)))
  have HL := Lib.hid (fun o => below_new w o)
  obtain ⟨m, e, ⟨v, rfl, hv⟩, hn1, he, rfl, hlA⟩ := h
  have hy := ny_lim hn1 he hlA
  obtain ⟨a, k, c, rfl⟩ := intSlice hv
  obtain ⟨s, hs0⟩ : ∃ s, decide (m < 0) = s := ⟨_, rfl⟩
  rw [hs0] at HSG
  rw [hs0]
  have HC := Lib.hid (dyC_of (heap_alloc_new w (.cells #[.bool s, .slice a k c, .int .i64 e] 26)))
  obtain ⟨r, hr⟩ : ∃ r, onB (valD m e) p = r := ⟨_, rfl⟩
  rw [hr]
  have HP := Lib.hid (fun w' : World => permitted_calls (w := w') p)
  rw [decide_eq_true hp1, decide_eq_true hp2] at HP
  obtain ⟨np, hnp⟩ : ∃ np, -p = np := ⟨_, rfl⟩
  have ewr : IntKind.i64.wrap np = np := wrap_small (by omega) (by omega)
  rcases hn1 with ⟨hm, he0⟩ | hodd
  · subst he0
    have HR := Lib.hid (show r = true by rw [← hr, hm, valD_zero]; exact onB_zero p)
    rw [hm, valD_zero] at HSG
    clear hv hs0 hr hy he hlA hm
    simp only [Int.sign_zero] at HSG
    go_enter Tryz.func64, Tryz.ntmps64
    go_wp2_with fail
    refine (HP.out _).mono ?_
    rintro e' w' ⟨rfl, rfl⟩
    go_wp2_with fail
    refine (HSG.out _).mono ?_
    rintro e' w1 ⟨rfl, hb⟩
    have HB1 := Lib.hid ((HL.out _).trans (hb.mono (HL.out _).size))
    clear hb
    go_wp2_with fail
    go_ret
    exact ⟨by rw [HR.out]; rfl, HB1.out⟩
  · have HR := Lib.hid (show r = decide (np ≤ e) by rw [← hr, ← hnp]; exact onB_odd hodd he (by omega))
    obtain ⟨sg, hsg⟩ : ∃ sg, m.sign = sg := ⟨_, rfl⟩
    have hsgb : (sg == 0) = false := by
      have : sg ≠ 0 := fun e => by have := Int.sign_eq_zero_iff_zero.1 (hsg.trans e); omega
      simpa using this
    rw [valD_sign, hsg] at HSG
    clear hv hs0 hr hy hlA hodd hsg
    go_enter Tryz.func64, Tryz.ntmps64
    go_wp2_with fail
    refine (HP.out _).mono ?_
    rintro e' w' ⟨rfl, rfl⟩
    go_wp2_with fail
    refine (HSG.out _).mono ?_
    rintro e' w1 ⟨rfl, hb⟩
    have HB1 := Lib.hid ((HL.out _).trans (hb.mono (HL.out _).size))
    have hc := HC.out.below hb
    have c2 := hc.c2
    have hlt := hc.lt
    clear hb hc
    go_wp2_with fail
    go_ret
    exact ⟨by rw [HR.out]; rfl, HB1.out⟩
set_option maxRecDepth 100000 in
set_option maxHeartbeats 2000000 in
theorem end_calls {x : Value} {V : Int} (h : DyV w x V) : Calls Tryz.prog 55 #[x] w (Quiet (.bool true) w) := by
  have HSG := Lib.hid (fun w' (hb : Below w.heap.size w w') => signV_calls (h.below hb))
  have HON := Lib.hid (fun w' (hb : Below w.heap.size w w') => on_calls (p := 8192) (h.below hb) (by omega) (by omega))
  have HL := Lib.hid (fun o => below_new w o)
  have h2 := h
  obtain ⟨m, e, ⟨v, rfl, hv⟩, hn1, he, rfl, hlA⟩ := h2
  have hy := ny_lim hn1 he hlA
  have HT := Lib.hid (fun w' (hb : Below w.heap.size w w') => (show Calls Tryz.prog 59 #[.agg #[.bool (decide (m < 0)), v, .int .i64 e]] w' (Quiet (.int .i64 (topZ m e)) w') from top_calls ⟨_, rfl, hv.below hb⟩ hy))
  obtain ⟨a, k, c, rfl⟩ := intSlice hv
  obtain ⟨s, hs0⟩ : ∃ s, decide (m < 0) = s := ⟨_, rfl⟩
  rw [hs0] at HSG HON HT
  rw [hs0]
  have HC := Lib.hid (dyC_of (heap_alloc_new w (.cells #[.bool s, .slice a k c, .int .i64 e] 26)))
  have hon : onB (valD m e) 8192 = true := by
    rcases hn1 with ⟨hm, _⟩ | hodd
    · rw [hm, valD_zero]; exact onB_zero _
    · rw [onB_odd hodd he (by omega)]; exact decide_eq_true (by omega)
  rw [hon] at HON
  obtain ⟨sg, hsg⟩ : ∃ sg, m.sign = sg := ⟨_, rfl⟩
  rw [valD_sign, hsg] at HSG
  obtain ⟨t, ht⟩ : ∃ t, topZ m e = t := ⟨_, rfl⟩
  rw [ht] at HT
  by_cases hz : sg = 0
  · subst hz
    clear h hv hs0 hy he hlA hn1 hon hsg ht
    go_enter Tryz.func55, Tryz.ntmps55
    go_wp2_with fail
    refine (HSG.out _ (HL.out _)).mono ?_
    rintro e' w1 ⟨rfl, hb⟩
    have HB1 := Lib.hid ((HL.out _).trans (hb.mono (HL.out _).size))
    have hc := HC.out.below hb
    have c0 := hc.c0
    have c1 := hc.c1
    have c2 := hc.c2
    have hlt := hc.lt
    clear hb hc
    go_wp2_with fail
    refine (HON.out _ HB1.out).mono ?_
    rintro e' w2 ⟨rfl, hb⟩
    have HB2 := Lib.hid (HB1.out.trans (hb.mono HB1.out.size))
    clear hb
    go_wp2_with fail
    go_ret
    exact ⟨rfl, HB2.out⟩
  · have hzb : (sg == 0) = false := by simpa using hz
    have htl : t ≤ 2048 := by
      have := top_le (fun h0 => hz (by rw [← hsg, h0]; rfl)) hy hlA
      omega
    clear h hv hs0 hy he hlA hn1 hon hsg ht hz
    go_enter Tryz.func55, Tryz.ntmps55
    go_wp2_with fail
    refine (HSG.out _ (HL.out _)).mono ?_
    rintro e' w1 ⟨rfl, hb⟩
    have HB1 := Lib.hid ((HL.out _).trans (hb.mono (HL.out _).size))
    have hc := HC.out.below hb
    have HC1 := Lib.hid hc
    have c0 := hc.c0
    have c1 := hc.c1
    have c2 := hc.c2
    have hlt := hc.lt
    clear hb hc
    go_wp2_with fail
    refine (HT.out _ HB1.out).mono ?_
    rintro e' w2 ⟨rfl, hb⟩
    have HB2 := Lib.hid (HB1.out.trans (hb.mono HB1.out.size))
    have hc := HC1.out.below hb
    clear c0 c1 c2 hlt
    have c0 := hc.c0
    have c1 := hc.c1
    have c2 := hc.c2
    have hlt := hc.lt
    clear hb hc
    go_wp2_with fail
    refine (HON.out _ HB2.out).mono ?_
    rintro e' w3 ⟨rfl, hb⟩
    have HB3 := Lib.hid (HB2.out.trans (hb.mono HB2.out.size))
    clear hb
    go_wp2_with fail
    go_ret
    exact ⟨rfl, HB3.out⟩
set_option maxRecDepth 100000 in
set_option maxHeartbeats 2000000 in
theorem small_calls {x : Value} {A B : Int} (h : IvV w x A B) : Calls Tryz.prog 24 #[x] w (Quiet (.bool (decide (A ≤ B))) w) := by
  have HV := Lib.hid (fun o => ivValid_calls (h.below (below_new w o)))
  have HL := Lib.hid (fun o => below_new w o)
  obtain ⟨s, v, e, s', u, f, rfl, hA, hB⟩ := h
  obtain ⟨a, k, c, rfl⟩ := hA.form
  obtain ⟨a', k', c', rfl⟩ := hB.form
  have HC := Lib.hid (ivC_of (heap_alloc_new w (.cells #[.bool s, .slice a k c, .int .i64 e, .bool s', .slice a' k' c', .int .i64 f] 28)))
  have HA := Lib.hid (fun w' (hb : Below w.heap.size w w') => end_calls (hA.below hb))
  have HB := Lib.hid (fun w' (hb : Below w.heap.size w w') => end_calls (hB.below hb))
  obtain ⟨r, hr⟩ : ∃ r, decide (A ≤ B) = r := ⟨_, rfl⟩
  rw [hr] at HV
  rw [hr]
  clear hA hB hr
  cases r
  · go_enter Tryz.func24, Tryz.ntmps24
    go_wp2_with fail
    refine (HV.out _).mono ?_
    rintro e' w1 ⟨rfl, hb⟩
    have HB1 := Lib.hid ((HL.out _).trans (hb.mono (HL.out _).size))
    clear hb
    go_wp2_with fail
    go_ret
    exact ⟨rfl, HB1.out⟩
  · go_enter Tryz.func24, Tryz.ntmps24
    go_wp2_with fail
    refine (HV.out _).mono ?_
    rintro e' w1 ⟨rfl, hb⟩
    have HB1 := Lib.hid ((HL.out _).trans (hb.mono (HL.out _).size))
    have hc := HC.out.below hb
    have HC1 := Lib.hid hc
    have c0 := hc.c0
    have c1 := hc.c1
    have c2 := hc.c2
    have hlt := hc.lt
    clear hb hc
    go_wp2_with fail
    refine (HA.out _ HB1.out).mono ?_
    rintro e' w2 ⟨rfl, hb⟩
    have HB2 := Lib.hid (HB1.out.trans (hb.mono HB1.out.size))
    have hc := HC1.out.below hb
    clear c0 c1 c2 hlt
    have c3 := hc.c3
    have c4 := hc.c4
    have c5 := hc.c5
    have hlt := hc.lt
    clear hb hc
    go_wp2_with fail
    refine (HB.out _ HB2.out).mono ?_
    rintro e' w3 ⟨rfl, hb⟩
    have HB3 := Lib.hid (HB2.out.trans (hb.mono HB2.out.size))
    clear hb
    go_wp2_with fail
    go_ret
    exact ⟨rfl, HB3.out⟩
end
end Go.Proofs.YtkpjikaobjpkoaaGreatDoor
/-
  Walks of grid.scale, Near's closure, round.
-/
namespace Go.Proofs.YtkpjikaobjpkoaaGreatDoor
open Go.RowKit

theorem div_abs_le (z : Int) (k : Nat) : (z / 2 ^ k).natAbs ≤ z.natAbs := by
  rw [← two_pow_cast]
  have hp : 0 < (2 : Nat) ^ k := Nat.pow_pos (by decide)
  rcases Int.lt_or_le z 0 with h | h
  · have h1 := Int.ediv_neg_of_neg_of_pos h (show (0 : Int) < ((2 ^ k : Nat) : Int) by omega)
    have h2 : z ≤ z / ((2 ^ k : Nat) : Int) := by
      rw [Int.le_ediv_iff_mul_le (by omega)]
      have : z * ((2 ^ k : Nat) : Int) ≤ z * 1 := Int.mul_le_mul_of_nonpos_left (by omega) (by omega)
      omega
    omega
  · have h1 := Int.ediv_nonneg h (show (0 : Int) ≤ ((2 ^ k : Nat) : Int) by omega)
    have h2 : z / ((2 ^ k : Nat) : Int) ≤ z := Int.ediv_le_self _ h
    omega

section
variable {w : World}
theorem shr1_calls {x : Value} {z : Int} (h : IntR w x z) (hs : Sm z.natAbs) (hs1 : Sm (z.natAbs + 1)) : Calls Tryz.prog 70 #[x, .int .i64 1] w (IntQ (z / 2) w) := by
  have := intShr_calls (n := 1) h hs hs1 (by decide)
  simpa using this
theorem of1_calls : Calls Tryz.prog 25 #[.int .i64 1] w (IntQ 1 w) := by
  have := intOf_calls (w := w) 1 (by decide)
  simpa using this
set_option maxHeartbeats 2000000 in
theorem scale_calls {x : Value} {z n : Int} {k : Nat} (h : IntR w x z) (hs : Sm z.natAbs) (hs1 : Sm (z.natAbs + 1)) (hn : n = -(k : Int)) (hk : k ≤ 1000000) : Calls Tryz.prog 69 #[x, .int .i64 n] w (IntQ (z / 2 ^ k) w) := by
  obtain ⟨v, rfl, hv⟩ := h
  obtain ⟨a, k', c, rfl⟩ := intSlice hv
  obtain ⟨s, hs0⟩ : ∃ s, decide (z < 0) = s := ⟨_, rfl⟩
  rw [hs0]
  have hW := boxes (s := s) hv
  have hIR : IntR ((w.alloc (.cells #[.bool s, .slice a k' c] 24)).alloc (.cells #[.bool false, .slice none 0 0] 24)) (.agg #[.bool s, .slice a k' c]) z := ⟨_, by rw [hs0], hW.2.2.1⟩
  have HW := Lib.hid hW
  by_cases h0 : k = 0
  · have HX := Lib.hid (show Calls Tryz.prog 116 #[.agg #[.bool s, .slice a k' c], .int .i64 0] ((w.alloc (.cells #[.bool s, .slice a k' c] 24)).alloc (.cells #[.bool false, .slice none 0 0] 24)) (IntQ z _) by
      have := intShl_calls (n := 0) hIR hs (by decide) (by simpa using hs)
      simpa using this)
    have HE := Lib.hid (show z = z / 2 ^ k by rw [h0]; simp)
    obtain rfl : n = 0 := by omega
    clear hv hs0 hs hs1 hW hIR hn h0
    go_enter Tryz.func69, Tryz.ntmps69
    go_wp2_with fail
    refine HX.out.mono ?_
    rintro e w1 ⟨x1, rfl, hf, hb⟩
    obtain ⟨b1, a1, k1, c1, rfl, hbq⟩ := hf.form
    clear hbq
    have HF := Lib.hid (hf.base (base' := w.heap.size) (by have := HW.out.1.size; omega))
    have HB9 := Lib.hid hb
    have hr1 := HW.out.2.1.below hb
    have HR1 := Lib.hid hr1
    obtain ⟨d0, d1, f0, f1, ht⟩ := hr1.facts
    clear hf hb hr1
    go_wp2_with fail
    refine bodyPost_ret (v := .agg #[.bool b1, .slice a1 k1 c1]) (by simp [results, Tryz.results69, go_sem, d0, d1]) rfl ?_
    exact int_end (HW.out.1.trans (HB9.out.mono HW.out.1.size)) (by omega) HR1.out (HE.out ▸ HF.out) (Nat.le_refl _)
  · have HX := Lib.hid (intShr_calls (n := k) hIR hs hs1 (by omega))
    have hneg : n < 0 := by omega
    have hnn : -n = (k : Int) := by omega
    have ewr : IntKind.i64.wrap (k : Int) = (k : Int) := wrap_small (by omega) (by omega)
    clear hv hs0 hs hs1 hW hIR hn h0
    go_enter Tryz.func69, Tryz.ntmps69
    go_wp2_with fail
    refine HX.out.mono ?_
    rintro e w1 ⟨x1, rfl, hf, hb⟩
    obtain ⟨b1, a1, k1, c1, rfl, hbq⟩ := hf.form
    clear hbq
    have HF := Lib.hid (hf.base (base' := w.heap.size) (by have := HW.out.1.size; omega))
    have HB9 := Lib.hid hb
    have hr1 := HW.out.2.1.below hb
    have HR1 := Lib.hid hr1
    obtain ⟨d0, d1, f0, f1, ht⟩ := hr1.facts
    clear hf hb hr1
    go_wp2_with fail
    refine bodyPost_ret (v := .agg #[.bool b1, .slice a1 k1 c1]) (by simp [results, Tryz.results69, go_sem, d0, d1]) rfl ?_
    exact int_end (HW.out.1.trans (HB9.out.mono HW.out.1.size)) (by omega) HR1.out ((rfl : z / 2 ^ k = z / 2 ^ k) ▸ HF.out) (Nat.le_refl _)
set_option maxRecDepth 100000 in
set_option maxHeartbeats 4000000 in
theorem near1_calls {t u : Nat} {s : Bool} {v : Value} {z e p : Int} {k : Nat} (hc : DyC w t s v e) (hu : w.cell? ⟨u, 0, none⟩ = some (.int .i64 p)) (hi : IntR w (.agg #[.bool s, v]) z) (hz : z.natAbs < 2 ^ kBits) (he : e + p + 1 = -(k : Int)) (hk : k ≤ 20000) (_he1 : -3000 ≤ e) (_he2 : e ≤ 3000) :
    Calls Tryz.prog 67 #[.pointer (some ⟨t, 0, none⟩), .pointer (some ⟨u, 0, none⟩)] w (IntQ ((z / 2 ^ k + 1) / 2) w) := by
  obtain ⟨v', h1, hv⟩ := hi
  cases h1
  obtain ⟨a, k', c, rfl⟩ := intSlice hv
  obtain ⟨s, hs0⟩ : ∃ s, decide (z < 0) = s := ⟨_, rfl⟩
  rw [hs0] at hc
  have hbn := below_new w (.cells #[.bool false, .slice none 0 0] 24)
  have hr0 : ResI (w.alloc (.cells #[.bool false, .slice none 0 0] 24)) w.heap.size := heap_alloc_new w _
  have HW := Lib.hid (And.intro hbn (And.intro hr0 (show IntR (w.alloc (.cells #[.bool false, .slice none 0 0] 24)) (.agg #[.bool s, .slice a k' c]) z from ⟨_, by rw [hs0], hv.below hbn⟩)))
  have c0 := hc.c0
  have c1 := hc.c1
  have c2 := hc.c2
  have hlt := hc.lt
  have hlt2 : u < w.heap.size := World.block_lt_of_cell? w _ hu
  have hS : Sm z.natAbs := sm_of (k := kBits) hz (by unfold kBits; omega)
  have hS1 : Sm (z.natAbs + 1) := sm_of (k := kBits + 1) (by rw [Nat.pow_succ]; have := Nat.pow_pos (n := kBits) (show 0 < 2 by decide); omega) (by unfold kBits; omega)
  have hd := div_abs_le z k
  have hS2 : Sm ((z / 2 ^ k).natAbs + (1 : Int).natAbs) := sm_le hS1 (by omega)
  have hS3 : Sm (z / 2 ^ k + 1).natAbs := sm_le hS1 (by omega)
  have hS4 : Sm ((z / 2 ^ k + 1).natAbs + 1) := sm_of (k := kBits + 2) (by rw [Nat.pow_succ, Nat.pow_succ]; have := Nat.pow_pos (n := kBits) (show 0 < 2 by decide); omega) (by unfold kBits; omega)
  have HSM := Lib.hid (And.intro hS (And.intro hS1 (And.intro hS2 (And.intro hS3 hS4))))
  obtain ⟨q, hq⟩ : ∃ q, e + p = q := ⟨_, rfl⟩
  obtain ⟨r, hr⟩ : ∃ r, q + 1 = r := ⟨_, rfl⟩
  have HR := Lib.hid (show r = -(k : Int) by omega)
  have ew1 : IntKind.i64.wrap q = q := wrap_small (by omega) (by omega)
  have ew2 : IntKind.i64.wrap r = r := wrap_small (by omega) (by omega)
  have HK := Lib.hid hk
  clear hv hs0 hbn hr0 hS hS1 hS2 hS3 hS4 hd hz hc he
  go_enter Tryz.func67, Tryz.ntmps67
  go_wp2_with fail
  refine (scale_calls HW.out.2.2 HSM.out.1 HSM.out.2.1 HR.out (by have := HK.out; omega)).mono ?_
  rintro e' w1 ⟨x1, rfl, hf, hb⟩
  have HF1 := Lib.hid hf
  have HB1 := Lib.hid hb
  clear hf hb
  go_wp2_with fail
  refine of1_calls.mono ?_
  rintro e' w2 ⟨x2, rfl, hf, hb⟩
  have HF2 := Lib.hid (And.intro (HF1.out.below hb) hf)
  have HB2 := Lib.hid (HB1.out.trans (hb.mono HB1.out.size))
  clear hf hb
  go_wp2_with fail
  refine (intAdd_calls HF2.out.1.r HF2.out.2.r HSM.out.2.2.1).mono ?_
  rintro e' w3 ⟨x3, rfl, hf, hb⟩
  obtain ⟨b3, a3, k3, c3, rfl, hbq⟩ := hf.form
  clear hbq
  have hbx := below_new w3 (.cells #[.bool b3, .slice a3 k3 c3] 24)
  have HF3 := Lib.hid (hf.r.below hbx)
  have hb3 := HB2.out.trans (hb.mono HB2.out.size)
  have HB3 := Lib.hid (hb3.trans (hbx.mono hb3.size))
  clear hf hb hbx hb3
  go_wp2_with fail
  refine (shr1_calls HF3.out HSM.out.2.2.2.1 HSM.out.2.2.2.2).mono ?_
  rintro e' w4 ⟨x4, rfl, hf, hb0⟩
  have hb := HB3.out.trans (hb0.mono HB3.out.size)
  have HBS := Lib.hid HB3.out.size
  clear hb0
  obtain ⟨b1, a1, k1, c1', rfl, hbq⟩ := hf.form
  clear hbq
  have HF := Lib.hid (hf.base (base' := w.heap.size) (by have := HW.out.1.size; have := HBS.out; omega))
  have HB9 := Lib.hid hb
  have hr1 := HW.out.2.1.below hb
  have HR1 := Lib.hid hr1
  obtain ⟨d0, d1, f0, f1, ht⟩ := hr1.facts
  clear hf hb hr1 c0 c1 c2 hu
  go_wp2_with fail
  refine bodyPost_ret (v := .agg #[.bool b1, .slice a1 k1 c1']) (by simp [results, Tryz.results67, go_sem, d0, d1]) rfl ?_
  exact int_end (HW.out.1.trans (HB9.out.mono HW.out.1.size)) (Nat.le_refl _) HR1.out HF.out (Nat.le_refl _)
end
end Go.Proofs.YtkpjikaobjpkoaaGreatDoor
