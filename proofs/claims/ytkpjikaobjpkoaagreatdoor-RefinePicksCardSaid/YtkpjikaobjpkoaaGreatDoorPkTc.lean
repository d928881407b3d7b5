/-
  The reference's naturals: walks of Shr, Shl.
-/
import Derived.Test.YtkpjikaobjpkoaaGreatDoorPkSeSf
namespace Go.Proofs.YtkpjikaobjpkoaaGreatDoor
open Go.RowKit

theorem rshl_step {B s K c d c' e R q k t : Nat} (hs : s + B ^ K * c = B ^ q * (R * t)) (hK : K = k + q) (hx : d + B * c' = e * R + c) :
    s + B ^ K * d + B ^ (K + 1) * c' = B ^ q * (R * (t + B ^ k * e)) := by
  have e1 : B ^ q * (R * (t + B ^ k * e)) = B ^ q * (R * t) + B ^ K * (e * R) := by
    rw [Nat.mul_add, Nat.mul_add, hK, Nat.pow_add, Nat.mul_comm R (_ * e), Nat.mul_assoc (B ^ k) e R, Nat.mul_comm (B ^ k) (B ^ q), Nat.mul_assoc (B ^ q) (B ^ k)]
  rw [e1, ← hs, Nat.pow_succ, Nat.mul_assoc, Nat.add_assoc, ← Nat.mul_add, hx, Nat.mul_add]
  omega
theorem rshl_end {l o : List Nat} {n c : Nat} (_hl : Limbs l) (ho : o.length = n / 32 + (l.length + 1)) (hc : c = 0)
    (hv : valF (el o) (n / 32 + (l.length + 1)) + 4294967296 ^ (n / 32 + (l.length + 1)) * c = 4294967296 ^ (n / 32) * (2 ^ (n % 32) * valF (el l) (l.length + 1))) : val o = val l * 2 ^ n := by
  rw [val_upto (l := o) (Nat.le_of_eq ho), val_upto (l := l) (n := l.length + 1) (by omega)]
  rw [hc, Nat.mul_zero, Nat.add_zero] at hv
  rw [hv, ← Nat.mul_assoc, ← pow_words, Nat.mul_comm]
section
variable {w : World}
set_option maxRecDepth 100000 in
set_option maxHeartbeats 4000000 in
theorem rshr_any {v : Value} {l : List Nat} (h : NatSl w v l) (hn : l.length ≤ 10000000) (n : Nat) (hn1 : n ≤ 1048576) : Calls Tryz.prog 50 #[v, .int .i64 (n : Int)] w (NatP (val l / 2 ^ n) w) := by
  have HA := Lib.hid (fun w' (hb : Below w.heap.size w w') k => rat_calls (h.below hb) k)
  have HL := Lib.hid h.2
  obtain ⟨a, c, x, rfl, _⟩ := h.form
  clear h
  obtain ⟨q, hq⟩ : ∃ q, n / 32 = q := ⟨_, rfl⟩
  obtain ⟨r, hr⟩ : ∃ r, n % 32 = r := ⟨_, rfl⟩
  have hq1 : (n : Int).tdiv 32 = (q : Int) := by rw [Int.tdiv_eq_ediv_of_nonneg (by omega)]; omega
  have hr1 : (n : Int).tmod 32 = (r : Int) := by rw [Int.tmod_eq_emod_of_nonneg (by omega)]; omega
  have hr32 : r < 32 := by omega
  have hr2 : (r : Int) % 18446744073709551616 = (r : Int) := by omega
  have hqb : q ≤ 32768 := by omega
  have HQ := Lib.hid (And.intro hq hr)
  obtain ⟨m, hm⟩ : ∃ m, l.length - q = m := ⟨_, rfl⟩
  have HM := Lib.hid hm
  have hlb : (l.length : Int) ≤ 10000000 := by omega
  clear hq hr hm
  go_enter Tryz.func50, Tryz.ntmps50
  go_wp2_with fail
  go_loopg [5, 6] m (fun gh ov iv wr => ∃ (k : Nat) (o : List Nat), gh + k = m ∧ iv = .int .i64 ((q + k : Nat) : Int) ∧ o.length = k ∧ NatOw wr w.heap.size ov o ∧
    valF (fun i => el l (i + q)) k + 4294967296 ^ k * (el l (k + q) % 2 ^ r) = el l q % 2 ^ r + 2 ^ r * valF (el o) k ∧ Below w.heap.size w wr)
  case atStart => exact ⟨0, [], rfl, by simp, rfl, ⟨World.ownsRow_nil _ _ _ _, fun x hx => by simp at hx⟩, by simp [valF], Below.refl _ _⟩
  case round =>
    obtain ⟨k, o, hk, rfl, hol, hO, hv, hb⟩ := hrel
    have HK := Lib.hid hk
    have HO := Lib.hid hO
    have HOL := Lib.hid hol
    have HV := Lib.hid hv
    have HBW := Lib.hid hb
    have hkm : k ≤ 10000000 := by have := HM.out; omega
    obtain ⟨j, hj⟩ : ∃ j, q + k = j := ⟨_, rfl⟩
    have HJ := Lib.hid hj
    rw [hj]
    have hjb : (j : Int) ≤ 20000000 := by omega
    clear hO hv hb hol
    by_cases hlt : k < m
    · have hlt' : (j : Int) < l.length := by have := HM.out; omega
      have HQ1 := Lib.hid (HA.out _ HBW.out j)
      obtain ⟨j1, hj1⟩ : ∃ j1, j + 1 = j1 := ⟨_, rfl⟩
      have HQ2 := Lib.hid (HA.out _ HBW.out j1)
      have b1 := el_lt HL.out j
      have b2 := el_lt HL.out j1
      obtain ⟨x1, hx1⟩ : ∃ d, el l j = d := ⟨_, rfl⟩
      obtain ⟨y1, hy1⟩ : ∃ d, el l j1 = d := ⟨_, rfl⟩
      rw [hx1] at HQ1 b1
      rw [hy1] at HQ2 b2
      obtain ⟨s, hs⟩ : ∃ s, x1 + 4294967296 * y1 = s := ⟨_, rfl⟩
      have eor : bits .or .u64 (x1 : Int) ((y1 : Int) * 4294967296) = (s : Int) := by
        rw [bits_or_comm, bits_join .u64 64 (by decide) wraps_u64 32 ((y1 : Int) * 4294967296) (x1 : Int) (by omega) (by omega) (by omega) (by omega) (by omega) (by omega)]
        omega
      obtain ⟨t, ht⟩ : ∃ t, s / 2 ^ r = t := ⟨_, rfl⟩
      obtain ⟨d, hd⟩ : ∃ d, t % 4294967296 = d := ⟨_, rfl⟩
      have e2 : (s : Int) / 2 ^ r = (t : Int) := by rw [← ht]; exact div_pow_cast s r
      have e3 : (t : Int) % 4294967296 = (d : Int) := by omega
      have HDD := Lib.hid (show d < 4294967296 by omega)
      have ej1 : (j : Int) + 1 = (j1 : Int) := by omega
      have hj1b : (j1 : Int) ≤ 20000001 := by omega
      have hj0 : (0 : Int) ≤ j := by omega
      have HS := Lib.hid (show (el l (k + q) + 4294967296 * el l (k + 1 + q)) / 2 ^ r % 4294967296 = d by rw [show k + 1 + q = j1 by omega, show k + q = j by omega, hx1, hy1, ← hd, ← ht, ← hs])
      clear hx1 hy1 hs ht hd hj hj1
      go_wp2_with fail
      refine HQ1.out.mono ?_
      rintro e w' ⟨rfl, rfl⟩
      go_wp2_with fail
      refine HQ2.out.mono ?_
      rintro e w' ⟨rfl, rfl⟩
      go_wp2_with (at_builtin; refine app32 rfl _ _ rfl w.heap.size (by have := HBW.out.size; simp; omega) _ o k HOL.out rfl (natOw_alloc HO.out _) wr.heap.size d rfl (heap_alloc_new wr _) HDD.out (by omega) ?_; intro gg capn w5 hown5 hbel5; have HO5 := Lib.hid hown5; have HB5 := Lib.hid (hbel5 w (HBW.out.alloc HBW.out.size _)); clear hown5 hbel5)
      go_roundg (m - (k + 1))
      case measure => have := HK.out; omega
      case rel =>
        refine ⟨k + 1, o ++ [d], by have := HK.out; omega, by have := HJ.out; go_num, by rw [List.length_append, HOL.out]; rfl, HO5.out, ?_, HB5.out⟩
        rw [valF_app HOL.out]
        exact shr_step (f := fun i => el l (i + q)) (Nat.pow_pos (by decide)) (pow_split hr32) (el_lt HL.out _) HS.out HV.out
    · obtain rfl : k = m := by omega
      have hlt' : ¬ (j : Int) < l.length := by have := HM.out; omega
      have HE := Lib.hid (show val o = val l / 2 ^ n by
        by_cases hql : q ≤ l.length
        · exact shr_end (m := k) HL.out (by rw [HQ.out.1]; have := HM.out; omega) HOL.out (by rw [HQ.out.1, HQ.out.2]; exact HV.out)
        · have hk0 : k = 0 := by have := HM.out; omega
          have ho0 : o = [] := List.eq_nil_of_length_eq_zero (by rw [HOL.out, hk0])
          rw [ho0, pow_words n, HQ.out.1]
          refine (Nat.div_eq_of_lt (Nat.lt_of_lt_of_le ?_ (Nat.le_mul_of_pos_right _ (Nat.pow_pos (by decide))))).symm
          rw [val_valF]
          exact Nat.lt_of_lt_of_le (valF_bound (fun j => el_lt HL.out j) _) (Nat.pow_le_pow_right (by decide) (by omega)))
      have HT := Lib.hid (rtrim_calls HO.out.sl (by rw [HOL.out]; omega))
      go_wp2_with fail
      refine HT.out.mono ?_
      rintro e w' ⟨v', rfl, hf, hb⟩
      have HF := Lib.hid (show NatF w' w.heap.size v' (val l / 2 ^ n) from HE.out ▸ hf.base HBW.out.size)
      have HB9 := Lib.hid (HBW.out.trans (hb.mono HBW.out.size))
      clear hf hb
      go_wp2_with fail
      go_ret
      exact ⟨_, rfl, HF.out, HB9.out⟩
set_option maxRecDepth 100000 in
set_option maxHeartbeats 4000000 in
theorem rshl_any {v : Value} {l : List Nat} (h : NatSl w v l) (hn : l.length ≤ 10000000) (n : Nat) (hn1 : n ≤ 1048576) : Calls Tryz.prog 102 #[v, .int .i64 (n : Int)] w (NatP (val l * 2 ^ n) w) := by
  have HA := Lib.hid (fun w' (hb : Below w.heap.size w w') k => rat_calls (h.below hb) k)
  have HL := Lib.hid h.2
  obtain ⟨a, c, x, rfl, _⟩ := h.form
  clear h
  obtain ⟨q, hq⟩ : ∃ q, n / 32 = q := ⟨_, rfl⟩
  obtain ⟨r, hr⟩ : ∃ r, n % 32 = r := ⟨_, rfl⟩
  have hq1 : (n : Int).tdiv 32 = (q : Int) := by rw [Int.tdiv_eq_ediv_of_nonneg (by omega)]; omega
  have hr1 : (n : Int).tmod 32 = (r : Int) := by rw [Int.tmod_eq_emod_of_nonneg (by omega)]; omega
  have hr32 : r < 32 := by omega
  have hr2 : (r : Int) % 18446744073709551616 = (r : Int) := by omega
  have hqb : q ≤ 32768 := by omega
  have HQ := Lib.hid (And.intro hq hr)
  have hlb : (l.length : Int) ≤ 10000000 := by omega
  have hR31 := pow_le_31 hr32
  have hR0 : 0 < 2 ^ r := Nat.pow_pos (by decide)
  obtain ⟨R, hR⟩ : ∃ R, 2 ^ r = R := ⟨_, rfl⟩
  rw [hR] at hR31 hR0
  have HR := Lib.hid hR
  obtain ⟨i0, hi0, hz0, hz1, hz2⟩ := info_parts infoU32
  clear hq hr hR
  go_enter Tryz.func102, Tryz.ntmps102
  go_wp2_with (refine wpList_make_full w rfl (.tmp 10) (.tmp 10) 22 rfl w.heap.size 143 i0 _ 1 Tryz.underlying22 hi0 hz0 hz1 _ _ _ _ q rfl rfl rfl rfl (by rw [hz2]; omega) (by unfold maxLen; omega) (Nat.le_refl _) ?_; intro w1 ho hg)
  have hb1 : Below w.heap.size w w1 := (Below.refl _ _).grown hg (Nat.le_refl _) (by intro k hk; cases hk)
  rw [u32_zeros] at ho
  have hO : NatOw w1 w.heap.size (.slice (some ⟨w.heap.size, 0, none⟩) q q) (List.replicate q 0) := ⟨by rw [List.length_replicate]; exact ho, limbs_zeros _⟩
  have HO := Lib.hid hO
  have HB1 := Lib.hid hb1
  clear ho hg hb1 hO hi0 hz0 hz1 hz2
  go_wp2_with fail
  go_loopg [5, 6, 7] (l.length + 1) (fun gh ov cv iv wr => ∃ (k cr : Nat) (o : List Nat), gh + k = l.length + 1 ∧ iv = .int .i64 (k : Int) ∧ cv = .int .u64 (cr : Int) ∧ cr < R ∧ o.length = q + k ∧ NatOw wr w.heap.size ov o ∧
    valF (el o) (q + k) + 4294967296 ^ (q + k) * cr = 4294967296 ^ q * (R * valF (el l) k) ∧ (k = l.length + 1 → cr = 0) ∧ Below w.heap.size w wr)
  case atStart => exact ⟨0, 0, List.replicate q 0, rfl, rfl, rfl, hR0, List.length_replicate, HO.out, by simp only [Nat.add_zero, Nat.mul_zero, valF]; exact valF_zeros (fun j => el_zeros q j) q, fun _ => rfl, HB1.out⟩
  case round =>
    obtain ⟨k, cr, o, hk, rfl, rfl, hcr, hol, hO, hv, hlast, hb⟩ := hrel
    have HK := Lib.hid hk
    have HO := Lib.hid hO
    have HOL := Lib.hid hol
    have HV := Lib.hid hv
    have HLA := Lib.hid hlast
    have HBW := Lib.hid hb
    have hk63 : (k : Int) ≤ 20000000 := by omega
    clear hO hv hb hol hlast
    by_cases hlt : k < l.length + 1
    · have hlt' : (k : Int) ≤ l.length := by omega
      have HQ1 := Lib.hid (HA.out _ HBW.out k)
      have b1 := el_lt HL.out k
      obtain ⟨x1, hx1⟩ : ∃ d, el l k = d := ⟨_, rfl⟩
      rw [hx1] at HQ1 b1
      have HX := Lib.hid hx1
      obtain ⟨y, hy⟩ : ∃ y, x1 * R = y := ⟨_, rfl⟩
      have hyb : y < 9223372036854775808 := by
        rw [← hy]
        exact Nat.lt_of_lt_of_le (Nat.mul_lt_mul_of_pos_right b1 hR0) (by omega)
      obtain ⟨s, hs⟩ : ∃ s, y + cr = s := ⟨_, rfl⟩
      have e0 : (x1 : Int) * 2 ^ r = (y : Int) := by rw [mul_pow_cast, HR.out, hy]
      have e1 : (y : Int) % 18446744073709551616 = (y : Int) := by omega
      have eor : bits .or .u64 (y : Int) (cr : Int) = (s : Int) := by
        rw [bits_join .u64 64 (by decide) wraps_u64 r (y : Int) (cr : Int) (by omega) (by rw [← hy, ← HR.out]; have := Nat.mul_mod_left x1 (2 ^ r); exact_mod_cast this) (by omega) (by omega) (by rw [← two_pow_cast, HR.out]; omega) (by omega)]
        omega
      obtain ⟨d, hd⟩ : ∃ d, s % 4294967296 = d := ⟨_, rfl⟩
      obtain ⟨c', hc'⟩ : ∃ c, s / 4294967296 = c := ⟨_, rfl⟩
      have e3 : (s : Int) % 4294967296 = (d : Int) := by omega
      have e4 : (s : Int) / 4294967296 = (c' : Int) := by omega
      have hsb : s < 18446744073709551616 := by omega
      have HDD := Lib.hid (show d < 4294967296 by omega)
      have HS := Lib.hid (show d + 4294967296 * c' = x1 * R + cr by omega)
      have HC := Lib.hid (show c' < R by
        rw [← hc', Nat.div_lt_iff_lt_mul (by decide), ← hs, ← hy]
        have h1 : (x1 + 1) * R ≤ 4294967296 * R := Nat.mul_le_mul_right R (by omega)
        rw [Nat.add_mul, Nat.one_mul] at h1
        rw [Nat.mul_comm R]
        omega)
      have HCL := Lib.hid (show k + 1 = l.length + 1 → c' = 0 by
        intro hkl
        have hz : x1 = 0 := by rw [← hx1]; exact el_past (by omega)
        rw [hz, Nat.zero_mul] at hy
        rw [← hc', ← hs, ← hy]
        exact Nat.div_eq_of_lt (by omega))
      clear hx1 hy hs hd hc'
      go_wp2_with fail
      refine HQ1.out.mono ?_
      rintro e w' ⟨rfl, rfl⟩
      go_wp2_with (at_builtin; refine app32 rfl _ _ rfl w.heap.size (by have := HBW.out.size; simp; omega) _ o (q + k) HOL.out rfl (natOw_alloc HO.out _) wr.heap.size d rfl (heap_alloc_new wr _) HDD.out (by omega) ?_; intro gg capn w5 hown5 hbel5; have HO5 := Lib.hid hown5; have HB5 := Lib.hid (hbel5 w (HBW.out.alloc HBW.out.size _)); clear hown5 hbel5)
      go_roundg (l.length + 1 - (k + 1))
      case measure => have := HK.out; omega
      case rel =>
        refine ⟨k + 1, c', o ++ [d], by have := HK.out; omega, by go_num, rfl, HC.out, by rw [List.length_append, HOL.out]; rfl, HO5.out, ?_, HCL.out, HB5.out⟩
        rw [← Nat.add_assoc, valF_app HOL.out, valF_succ (el l), HX.out]
        exact rshl_step HV.out (Nat.add_comm q k) HS.out
    · obtain rfl : k = l.length + 1 := by omega
      have hlt' : ¬ ((l.length + 1 : Nat) : Int) ≤ l.length := by omega
      have hlt2 : ¬ ((l.length : Int) + 1 ≤ l.length) := by omega
      have HE := Lib.hid (rshl_end (n := n) HL.out (by rw [HQ.out.1]; exact HOL.out) (HLA.out rfl) (by rw [HQ.out.1, HQ.out.2, HR.out]; exact HV.out))
      have HT := Lib.hid (rtrim_calls HO.out.sl (by rw [HOL.out]; omega))
      go_wp2_with fail
      refine HT.out.mono ?_
      rintro e w' ⟨v', rfl, hf, hb⟩
      have HF := Lib.hid (show NatF w' w.heap.size v' (val l * 2 ^ n) from HE.out ▸ hf.base HBW.out.size)
      have HB9 := Lib.hid (HBW.out.trans (hb.mono HBW.out.size))
      clear hf hb
      go_wp2_with fail
      go_ret
      exact ⟨_, rfl, HF.out, HB9.out⟩
end
end Go.Proofs.YtkpjikaobjpkoaaGreatDoor
