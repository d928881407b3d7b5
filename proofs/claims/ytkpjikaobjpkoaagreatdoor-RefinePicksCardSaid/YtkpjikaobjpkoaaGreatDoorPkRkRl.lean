/-
  Walks of integer.Valid, Of, Cmp.
-/
import Derived.Test.YtkpjikaobjpkoaaGreatDoorPkRiRj
namespace Go.Proofs.YtkpjikaobjpkoaaGreatDoor
open Go.RowKit

/-- How two integers compare. -/
def cmpZ (a b : Int) : Int := if a < b then -1 else if b < a then 1 else 0
theorem cmpZ_pp {a b : Int} (ha : 0 ≤ a) (hb : 0 ≤ b) : cmpI a.natAbs b.natAbs = cmpZ a b := by
  unfold cmpI cmpZ
  by_cases h1 : a < b
  · rw [if_pos h1, if_pos (by omega)]
  · rw [if_neg h1, if_neg (by omega)]
    by_cases h2 : b < a
    · rw [if_pos h2, if_pos (by omega)]
    · rw [if_neg h2, if_neg (by omega)]
theorem cmpZ_nn {a b : Int} (ha : a < 0) (hb : b < 0) : cmpI b.natAbs a.natAbs = cmpZ a b := by
  unfold cmpI cmpZ
  by_cases h1 : a < b
  · rw [if_pos h1, if_pos (by omega)]
  · rw [if_neg h1, if_neg (by omega)]
    by_cases h2 : b < a
    · rw [if_pos h2, if_pos (by omega)]
    · rw [if_neg h2, if_neg (by omega)]
theorem cmpZ_lt {a b : Int} (h : a < b) : cmpZ a b = -1 := if_pos h
theorem cmpZ_gt {a b : Int} (h : b < a) : cmpZ a b = 1 := by unfold cmpZ; rw [if_neg (by omega), if_pos h]
section
variable {w : World}
set_option maxHeartbeats 1000000 in
theorem intValid_calls {x : Value} {z : Int} (h : IntR w x z) : Calls Tryz.prog 157 #[x] w (Quiet (.bool true) w) := by
  obtain ⟨v, rfl, hv⟩ := h
  have HB := Lib.hid (fun o => natValid_calls (hv.below (below_new w o)))
  have HL := Lib.hid (fun o => below_new w o)
  obtain ⟨a, k, c, rfl, hk63, hk⟩ := hv.form
  clear hv
  by_cases hz : z < 0
  · have hk0 : (0 : Int) < (k : Int) := by
      have : k ≠ 0 := fun e => by have := hk.2 e; omega
      omega
    rw [decide_eq_true hz]
    clear hk
    go_enter Tryz.func157, Tryz.ntmps157
    go_wp2_with fail
    refine (HB.out _).mono ?_
    rintro e w' ⟨rfl, rfl⟩
    go_wp2_with fail
    go_ret
    exact ⟨rfl, HL.out _⟩
  · rw [decide_eq_false hz]
    clear hk
    by_cases hk0 : (0 : Int) < (k : Int)
    all_goals
      go_enter Tryz.func157, Tryz.ntmps157
      go_wp2_with fail
      refine (HB.out _).mono ?_
      rintro e w' ⟨rfl, rfl⟩
      go_wp2_with fail
      go_ret
      exact ⟨rfl, HL.out _⟩
set_option maxHeartbeats 1000000 in
theorem intOf_calls (n : Nat) (hn : n < 9223372036854775808) : Calls Tryz.prog 25 #[.int .i64 (n : Int)] w (IntQ (n : Int) w) := by
  have hb0 := below_new w (.cells #[.bool false, .slice none 0 0] 24)
  have hr0 : ResI (w.alloc (.cells #[.bool false, .slice none 0 0] 24)) w.heap.size := heap_alloc_new w _
  have HW := Lib.hid (And.intro hb0 hr0)
  have HO := Lib.hid (fun w' : World => of_any (w := w') n (by omega))
  have h0 : ¬ (n : Int) < 0 := by omega
  have h1 : (n : Int) % 18446744073709551616 = (n : Int) := by omega
  clear hb0 hr0
  go_enter Tryz.func25, Tryz.ntmps25
  go_wp2_with fail
  refine (HO.out _).mono ?_
  rintro e w1 ⟨v1, rfl, hf, hb⟩
  obtain ⟨a1, k1, c1, rfl⟩ := intSlice hf.r
  have hI : IntF w1 (w.alloc (.cells #[.bool false, .slice none 0 0] 24)).heap.size (.agg #[.bool false, .slice a1 k1 c1]) (n : Int) := ⟨_, by rw [decide_eq_false (by omega)], by simpa using hf⟩
  have HF := Lib.hid (And.intro hI hb)
  have hr1 := HW.out.2.below hb
  have HR1 := Lib.hid hr1
  obtain ⟨d0, d1, f0, f1, ht⟩ := hr1.facts
  clear hf hb hr1 hI
  go_wp2_with fail
  refine bodyPost_ret (v := .agg #[.bool false, .slice a1 k1 c1]) (by simp [results, Tryz.results25, go_sem, d0, d1]) rfl ?_
  exact int_end (HW.out.1.trans (HF.out.2.mono HW.out.1.size)) (Nat.le_refl _) HR1.out HF.out.1 HW.out.1.size
set_option maxHeartbeats 2000000 in
theorem intCmp_calls {x y : Value} {p q : Int} (h : IntR w x p) (h' : IntR w y q) : Calls Tryz.prog 61 #[x, y] w (Quiet (.int .i64 (cmpZ p q)) w) := by
  obtain ⟨v, rfl, hv⟩ := h
  obtain ⟨u, rfl, hu⟩ := h'
  have HL : ∀ o o', Below w.heap.size w ((w.alloc o).alloc o') := fun o o' => (below_new w o).trans ((below_new _ o').mono (by simp))
  have HB := Lib.hid (fun o o' => cmp_calls (hv.below (HL o o')) (hu.below (HL o o')))
  have HC := Lib.hid (fun o o' => cmp_calls (hu.below (HL o o')) (hv.below (HL o o')))
  obtain ⟨a, k, c, rfl⟩ := intSlice hv
  obtain ⟨a', k', c', rfl⟩ := intSlice hu
  have HLL := Lib.hid HL
  clear hv hu HL
  by_cases hp : p < 0 <;> by_cases hq : q < 0
  · have HV := Lib.hid (cmpZ_nn hp hq)
    rw [decide_eq_true hp, decide_eq_true hq]
    go_enter Tryz.func61, Tryz.ntmps61
    go_wp2_with fail
    refine (HC.out _ _).mono ?_
    rintro e w' ⟨rfl, hb⟩
    have HB2 := Lib.hid hb
    clear hb
    go_wp2_with fail
    go_ret
    exact ⟨by rw [← HV.out]; rfl, (HLL.out _ _).trans (HB2.out.mono (HLL.out _ _).size)⟩
  · have HV := Lib.hid (cmpZ_lt (show p < q by omega))
    rw [decide_eq_true hp, decide_eq_false hq]
    go_enter Tryz.func61, Tryz.ntmps61
    go_wp2_with fail
    go_ret
    exact ⟨by rw [HV.out]; rfl, HLL.out _ _⟩
  · have HV := Lib.hid (cmpZ_gt (show q < p by omega))
    rw [decide_eq_false hp, decide_eq_true hq]
    go_enter Tryz.func61, Tryz.ntmps61
    go_wp2_with fail
    go_ret
    exact ⟨by rw [HV.out]; rfl, HLL.out _ _⟩
  · have HV := Lib.hid (cmpZ_pp (show 0 ≤ p by omega) (show 0 ≤ q by omega))
    rw [decide_eq_false hp, decide_eq_false hq]
    go_enter Tryz.func61, Tryz.ntmps61
    go_wp2_with fail
    refine (HB.out _ _).mono ?_
    rintro e w' ⟨rfl, hb⟩
    have HB2 := Lib.hid hb
    clear hb
    go_wp2_with fail
    go_ret
    exact ⟨by rw [← HV.out]; rfl, (HLL.out _ _).trans (HB2.out.mono (HLL.out _ _).size)⟩
end
end Go.Proofs.YtkpjikaobjpkoaaGreatDoor
/-
  Walk of integer.Shr.
-/
namespace Go.Proofs.YtkpjikaobjpkoaaGreatDoor
open Go.RowKit

theorem sm_div {n : Nat} (h : Sm n) (k : Nat) : Sm (n / k) := sm_le h (Nat.div_le_self _ _)
theorem shr_pos {z : Int} (h : ¬ z < 0) (n : Nat) : sgnI false (z.natAbs / 2 ^ n) = z / 2 ^ n := by
  unfold sgnI
  obtain ⟨m, rfl⟩ := Int.eq_ofNat_of_zero_le (show 0 ≤ z by omega)
  simp only [Bool.false_eq_true, if_false, Int.natAbs_natCast, Int.natCast_ediv, two_pow_cast]
theorem neg_ediv {a b : Nat} (hb : 0 < b) : -(a : Int) / (b : Int) = -((if a % b = 0 then a / b else a / b + 1 : Nat) : Int) := by
  have h1 := Nat.div_add_mod a b
  have h2 := Nat.mod_lt a hb
  split
  · rename_i h
    rw [h, Nat.add_zero] at h1
    conv => lhs; rw [← h1]
    rw [Int.natCast_mul, ← Int.mul_neg, Int.mul_ediv_cancel_left _ (by omega)]
  · rename_i h
    have e : -(a : Int) = (b : Int) * (-((a / b : Nat) : Int) - 1) + ((b : Int) - ((a % b : Nat) : Int)) := by
      have h3 : (a : Int) = (b : Int) * ((a / b : Nat) : Int) + ((a % b : Nat) : Int) := by exact_mod_cast h1.symm
      rw [Int.mul_sub, Int.mul_neg, Int.mul_one]
      omega
    rw [e, Int.mul_add_ediv_left _ _ (by omega), Int.ediv_eq_zero_of_lt (by omega) (by omega)]
    omega
theorem shr_neg {z : Int} (h : z < 0) (n : Nat) : sgnI true (if z.natAbs % 2 ^ n = 0 then z.natAbs / 2 ^ n else z.natAbs / 2 ^ n + 1) = z / 2 ^ n := by
  unfold sgnI
  rw [if_pos rfl, ← neg_ediv (Nat.pow_pos (by decide)), two_pow_cast]
  congr 1
  omega

section
variable {w : World}
set_option maxHeartbeats 2000000 in
theorem intShr_calls {x : Value} {z : Int} {n : Nat} (h : IntR w x z) (hs : Sm z.natAbs) (hs1 : Sm (z.natAbs + 1)) (hn : n ≤ 1048576) : Calls Tryz.prog 70 #[x, .int .i64 (n : Int)] w (IntQ (z / 2 ^ n) w) := by
  obtain ⟨v, rfl, hv⟩ := h
  obtain ⟨a, k, c, rfl⟩ := intSlice hv
  obtain ⟨s, hs0⟩ : ∃ s, decide (z < 0) = s := ⟨_, rfl⟩
  rw [hs0]
  have HZ := Lib.hid hs0
  have HS1 := Lib.hid (sm_of (n := 1) (k := 1) (by decide) (by decide))
  have HSD := Lib.hid (sm_div hs (2 ^ n))
  have HSE := Lib.hid (sm_le (n := z.natAbs / 2 ^ n + 1) hs1 (Nat.succ_le_succ (Nat.div_le_self _ _)))
  have hW := boxes (s := s) hv
  have HSM := Lib.hid hs
  clear hv hs0 hs hs1
  go_enter Tryz.func70, Tryz.ntmps70
  go_wp2_with fail
  generalize (w.alloc (.cells #[.bool s, .slice a k c] 24)).alloc (.cells #[.bool false, .slice none 0 0] 24) = w0 at hW ⊢
  have HW := Lib.hid hW
  clear hW
  have HK := Lib.hid (fun w' (hb : Below w0.heap.size w0 w') => And.intro ((hb.cell (p := ⟨w.heap.size, 0, none⟩) (by have := HW.out.2.1.facts.2.2.2.2; simp; omega)).trans HW.out.2.2.2.1) ((hb.cell (p := ⟨w.heap.size, 1, none⟩) (by have := HW.out.2.1.facts.2.2.2.2; simp; omega)).trans HW.out.2.2.2.2))
  have HN := Lib.hid (fun w' (hb : Below w0.heap.size w0 w') => HW.out.2.2.1.below hb)
  refine (shr_calls HW.out.2.2.1 HSM.out hn).mono ?_
  rintro e w1 ⟨v1, rfl, hf, hb⟩
  obtain ⟨a1, k1, c1, rfl⟩ := intSlice hf.r
  have hB1 := HK.out _ hb
  have HF := Lib.hid (And.intro hf hb)
  have c00 := hB1.1
  have c01 := hB1.2
  have hlt0 : w.heap.size < w1.heap.size := World.block_lt_of_cell? w1 _ c00
  clear hf hb hB1
  cases s
  · go_wp2_with fail
    refine (nat_calls false HF.out.1.r HSD.out).mono ?_
    rintro e w2 ⟨x2, rfl, hf, hb⟩
    obtain ⟨b2, a2, k2, c2, rfl, hb2⟩ := hf.form
    have HF2 := Lib.hid (And.intro hf (HF.out.2.trans (hb.mono HF.out.2.size)))
    have hr1 := HW.out.2.1.below HF2.out.2
    have HR1 := Lib.hid hr1
    obtain ⟨d0, d1, f0, f1, ht⟩ := hr1.facts
    clear hf hb hr1 hb2
    go_wp2_with fail
    refine bodyPost_ret (v := .agg #[.bool b2, .slice a2 k2 c2]) (by simp [results, Tryz.results70, go_sem, d0, d1]) rfl ?_
    have hz : ¬ z < 0 := of_decide_eq_false HZ.out
    exact int_end (HW.out.1.trans (HF2.out.2.mono HW.out.1.size)) (by omega) HR1.out ((shr_pos hz n) ▸ HF2.out.1) (by have := HW.out.1.size; have := HF.out.2.size; omega)
  · go_wp2_with fail
    refine (low_calls (HN.out _ HF.out.2) HSM.out hn).mono ?_
    rintro e w2 ⟨v2, rfl, hf, hb⟩
    obtain ⟨a2, k2, c2, rfl, hk63, hk2⟩ := hf.r.form
    have HF2 := Lib.hid (And.intro (HF.out.1.below hb) (HF.out.2.trans (hb.mono HF.out.2.size)))
    have hB1 := HK.out _ HF2.out.2
    clear c00 c01 hlt0
    have c00 := hB1.1
    have c01 := hB1.2
    have hlt0 : w.heap.size < w2.heap.size := World.block_lt_of_cell? w2 _ c00
    have HK2 := Lib.hid hk2
    clear hf hb hB1 hk2
    by_cases hl : (0 : Int) < (k2 : Int)
    · have HM := Lib.hid (show ¬ z.natAbs % 2 ^ n = 0 from fun e => by have := HK2.out.1 e; omega)
      have HO := Lib.hid (fun w' : World => of_any (w := w') 1 (by decide))
      go_wp2_with fail
      refine (HO.out _).mono ?_
      rintro e w3 ⟨v3, rfl, hf3, hb3⟩
      have HF3 := Lib.hid (And.intro hf3 (HF2.out.2.trans (hb3.mono HF2.out.2.size)))
      have HQ3 := Lib.hid (HF2.out.1.below hb3)
      clear hf3 hb3
      go_wp2_with fail
      refine (add_calls HQ3.out.r HF3.out.1.r HSD.out HS1.out).mono ?_
      rintro e w4 ⟨v4, rfl, hf4, hb4⟩
      obtain ⟨a4, k4, c4, rfl⟩ := intSlice hf4.r
      have HF4 := Lib.hid (And.intro hf4 (HF3.out.2.trans (hb4.mono HF3.out.2.size)))
      have hB1 := HK.out _ HF4.out.2
      clear c00 c01 hlt0
      have c00 := hB1.1
      have c01 := hB1.2
      have hlt0 : w.heap.size < w4.heap.size := World.block_lt_of_cell? w4 _ c00
      clear hf4 hb4 hB1
      go_wp2_with fail
      refine (nat_calls true HF4.out.1.r HSE.out).mono ?_
      rintro e w5 ⟨x5, rfl, hf, hb⟩
      obtain ⟨b5, a5, k5, c5, rfl, hb5⟩ := hf.form
      have HF5 := Lib.hid (And.intro hf (HF4.out.2.trans (hb.mono HF4.out.2.size)))
      have hr1 := HW.out.2.1.below HF5.out.2
      have HR1 := Lib.hid hr1
      obtain ⟨d0, d1, f0, f1, ht⟩ := hr1.facts
      have HS := Lib.hid (And.intro HW.out.1.size HF4.out.2.size)
      clear hf hb hr1 hb5
      go_wp2_with fail
      refine bodyPost_ret (v := .agg #[.bool b5, .slice a5 k5 c5]) (by simp [results, Tryz.results70, go_sem, d0, d1]) rfl ?_
      have hz : z < 0 := of_decide_eq_true HZ.out
      exact int_end (HW.out.1.trans (HF5.out.2.mono HW.out.1.size)) (by omega) HR1.out ((by have := shr_neg hz n; rw [if_neg HM.out] at this; exact this : sgnI true (z.natAbs / 2 ^ n + 1) = z / 2 ^ n) ▸ HF5.out.1) (by have := HS.out; omega)
    · have HM := Lib.hid (show z.natAbs % 2 ^ n = 0 from HK2.out.2 (by omega))
      go_wp2_with fail
      refine (nat_calls true HF2.out.1.r HSD.out).mono ?_
      rintro e w5 ⟨x5, rfl, hf, hb⟩
      obtain ⟨b5, a5, k5, c5, rfl, hb5⟩ := hf.form
      have HF5 := Lib.hid (And.intro hf (HF2.out.2.trans (hb.mono HF2.out.2.size)))
      have hr1 := HW.out.2.1.below HF5.out.2
      have HR1 := Lib.hid hr1
      obtain ⟨d0, d1, f0, f1, ht⟩ := hr1.facts
      have HS := Lib.hid (And.intro HW.out.1.size HF2.out.2.size)
      clear hf hb hr1 hb5
      go_wp2_with fail
      refine bodyPost_ret (v := .agg #[.bool b5, .slice a5 k5 c5]) (by simp [results, Tryz.results70, go_sem, d0, d1]) rfl ?_
      have hz : z < 0 := of_decide_eq_true HZ.out
      exact int_end (HW.out.1.trans (HF5.out.2.mono HW.out.1.size)) (by omega) HR1.out ((by have := shr_neg hz n; rw [if_pos HM.out] at this; exact this : sgnI true (z.natAbs / 2 ^ n) = z / 2 ^ n) ▸ HF5.out.1) (by have := HS.out; omega)
end
end Go.Proofs.YtkpjikaobjpkoaaGreatDoor
