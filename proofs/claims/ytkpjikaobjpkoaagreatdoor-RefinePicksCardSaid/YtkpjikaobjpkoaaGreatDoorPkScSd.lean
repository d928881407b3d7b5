/-
  The reference's naturals: walks of Bit, Zeros, Bits.
-/
import Derived.Test.YtkpjikaobjpkoaaGreatDoorPkSaSb
namespace Go.Proofs.YtkpjikaobjpkoaaGreatDoor
open Go.RowKit

/-- The i-th binary digit. -/
def bitB (n i : Nat) : Bool := decide (n / 2 ^ i % 2 = 1)
theorem el_div {l : List Nat} (hl : Limbs l) (q : Nat) : val l / 4294967296 ^ q % 4294967296 = el l q := by
  by_cases hq : q < l.length
  · obtain ⟨m, hm⟩ : ∃ m, l.length = q + (m + 1) := ⟨l.length - q - 1, by omega⟩
    have h0 := valF_shift (fun i => el l (i + q)) 1 m
    rw [val_high hl hm, Nat.add_comm m 1, h0]
    have h1 := el_lt hl q
    simp only [valF, Nat.pow_zero, Nat.zero_add, Nat.one_mul, Nat.pow_one]
    omega
  · rw [el_past (by omega), Nat.div_eq_of_lt]
    rw [val_valF]
    exact Nat.lt_of_lt_of_le (valF_bound (fun j => el_lt hl j) _) (Nat.pow_le_pow_right (by decide) (by omega))
theorem bit_el {l : List Nat} (hl : Limbs l) (i : Nat) : val l / 2 ^ i % 2 = el l (i / 32) / 2 ^ (i % 32) % 2 := by
  rw [← el_div hl, pow_words i, ← Nat.div_div_eq_div_mul]
  generalize val l / 4294967296 ^ (i / 32) = x
  have hr : i % 32 < 32 := Nat.mod_lt _ (by decide)
  generalize i % 32 = r at hr
  obtain ⟨t, ht⟩ : ∃ t, 4294967296 = 2 ^ r * (2 * 2 ^ t) := ⟨31 - r, by rw [← Nat.pow_succ', ← Nat.pow_add, show r + (31 - r + 1) = 32 by omega]⟩
  have h1 := Nat.div_add_mod x 4294967296
  generalize x % 4294967296 = y at h1 ⊢
  generalize x / 4294967296 = z at h1
  rw [← h1, ht, Nat.mul_assoc, Nat.mul_add_div (Nat.pow_pos (by decide)), Nat.mul_assoc]
  omega
theorem bit_false {n i : Nat} (h : bitB n i = false) : n / 2 ^ i % 2 = 0 := by
  have := of_decide_eq_false h
  omega
theorem mod_bits {n : Nat} : ∀ k, (∀ j, j < k → bitB n j = false) → n % 2 ^ k = 0
  | 0, _ => by rw [Nat.pow_zero, Nat.mod_one]
  | k + 1, h => by rw [Nat.mod_pow_succ, mod_bits k fun j hj => h j (by omega), bit_false (h k (by omega)), Nat.mul_zero]
theorem tz_bits {n k : Nat} (h : ∀ j, j < k → bitB n j = false) (hk : bitB n k = true) : tzN n = k := by
  have h1 := mod_bits k h
  have h2 := of_decide_eq_true hk
  refine tz_eq (m := n / 2 ^ k / 2) ?_
  have h3 := Nat.div_add_mod n (2 ^ k)
  rw [h1, Nat.add_zero] at h3
  rw [show 2 * (n / 2 ^ k / 2) + 1 = n / 2 ^ k by omega]
  exact h3.symm
theorem lt_bits {n k : Nat} : ∀ d, n < 2 ^ (k + d) → (∀ j, k ≤ j → j < k + d → bitB n j = false) → n < 2 ^ k
  | 0, h, _ => h
  | d + 1, h, hz => by
    refine lt_bits d ?_ fun j h1 h2 => hz j h1 (by omega)
    have h1 := bit_false (hz (k + d) (by omega) (by omega))
    rw [← Nat.add_assoc, Nat.pow_succ] at h
    have h2 : n / 2 ^ (k + d) < 2 := Nat.div_lt_of_lt_mul h
    refine (Nat.div_eq_zero_iff_lt (Nat.pow_pos (n := k + d) (show 0 < 2 by decide))).1 ?_
    generalize n / 2 ^ (k + d) = y at h1 h2 ⊢
    omega
theorem blen_bits {n k : Nat} (h : n < 2 ^ (k + 1)) (hk : bitB n k = true) : blen n = k + 1 := by
  refine blen_eq ?_ h
  have h2 := of_decide_eq_true hk
  refine Nat.le_of_not_lt fun hlt => ?_
  rw [Nat.div_eq_of_lt hlt] at h2
  omega
theorem val_lt_bits {l : List Nat} (hl : Limbs l) : val l < 2 ^ (32 * l.length) := by
  rw [val_valF, Nat.pow_mul]
  exact valF_bound (fun j => el_lt hl j) _

section
variable {w : World}
set_option maxHeartbeats 1000000 in
theorem rbit_any {v : Value} {l : List Nat} (h : NatSl w v l) (i : Nat) (hi : i ≤ 4000000000) : Calls Tryz.prog 103 #[v, .int .i64 (i : Int)] w (Pure0 (.bool (bitB (val l) i)) w) := by
  have HL := Lib.hid (bit_el h.2 i)
  obtain ⟨q, hq⟩ : ∃ q, i / 32 = q := ⟨_, rfl⟩
  obtain ⟨r, hr⟩ : ∃ r, i % 32 = r := ⟨_, rfl⟩
  have HA := Lib.hid (rat_calls h q)
  have hb := el_lt h.2 q
  rw [hq, hr] at HL
  obtain ⟨d, hd⟩ : ∃ d, el l q = d := ⟨_, rfl⟩
  rw [hd] at HA HL hb
  obtain ⟨t, ht⟩ : ∃ t, d / 2 ^ r = t := ⟨_, rfl⟩
  have htd : t ≤ d := by rw [← ht]; exact Nat.div_le_self _ _
  rw [ht] at HL
  have hq1 : (i : Int).tdiv 32 = (q : Int) := by rw [Int.tdiv_eq_ediv_of_nonneg (by omega)]; omega
  have hr1 : (i : Int).tmod 32 = (r : Int) := by rw [Int.tmod_eq_emod_of_nonneg (by omega)]; omega
  have hr32 : r < 32 := by omega
  have hqb : q ≤ 134217728 := by omega
  have hr2 : (r : Int) % 18446744073709551616 = (r : Int) := by omega
  have e3 : (d : Int) / 2 ^ r = (t : Int) := by rw [div_pow_cast, ht]
  obtain ⟨b, hb2⟩ : ∃ b, t % 2 = b := ⟨_, rfl⟩
  rw [hb2] at HL
  have e4 : (t : Int).tmod 2 = (b : Int) := by rw [Int.tmod_eq_emod_of_nonneg (by omega)]; omega
  have e5 : ((b : Int) == 1) = decide (b = 1) := by rw [Bool.eq_iff_iff, beq_iff_eq, decide_eq_true_iff]; omega
  have HB := Lib.hid (show bitB (val l) i = decide (b = 1) by unfold bitB; rw [HL.out])
  have i0 : (0 : Int) ≤ i := by omega
  have bb : b < 2 := by omega
  clear hd ht hb2 hq hr
  obtain ⟨a, c, x, rfl, _⟩ := h.form
  go_enter Tryz.func103, Tryz.ntmps103
  go_wp2_with fail
  refine HA.out.mono ?_
  rintro e w' ⟨rfl, rfl⟩
  go_wp2_with fail
  go_ret
  exact pure_mk (by rw [HB.out]; rfl)
set_option maxHeartbeats 1000000 in
theorem rzeros_any {v : Value} {l : List Nat} (h : NatSl w v l) (hn : l.length ≤ 1000000) : Calls Tryz.prog 48 #[v] w (Pure0 (.int .i64 (tzN (val l) : Nat)) w) := by
  have HB := Lib.hid (fun i (hi : i ≤ 4000000000) => rbit_any h i hi)
  have HV := Lib.hid (val_lt_bits h.2)
  obtain ⟨a, c, x, rfl, _⟩ := h.form
  clear h
  obtain ⟨n, hn0⟩ : ∃ n, val l = n := ⟨_, rfl⟩
  rw [hn0] at HB HV ⊢
  clear hn0
  obtain ⟨m, hm⟩ : ∃ m, 32 * l.length = m := ⟨_, rfl⟩
  rw [hm] at HV
  have e1 : 32 * (l.length : Int) = (m : Int) := by omega
  have hmb : m ≤ 32000000 := by omega
  have hlb : (l.length : Int) ≤ 1000000 := by omega
  clear hm
  go_enter Tryz.func48, Tryz.ntmps48
  go_wp2_with fail
  go_loop [3] (fun i => ∃ k : Nat, k ≤ m ∧ i = .int .i64 k ∧ ∀ j, j < k → bitB n j = false) (fun i => (m - intOf i).toNat)
  case atStart => exact ⟨0, Nat.zero_le _, rfl, fun j h1 => by omega⟩
  case round =>
    obtain ⟨k, hk, rfl, hz⟩ := hrel
    have HZ := Lib.hid hz
    clear hz
    by_cases hlt : k < m
    · have hlt' : (k : Int) < m := by omega
      have HQ := Lib.hid (HB.out k (by omega))
      go_wp2_with fail
      refine HQ.out.mono ?_
      rintro e w' ⟨rfl, rfl⟩
      cases hbk : bitB n k
      · have HZ1 := Lib.hid hbk
        clear hbk
        go_wp2_with fail
        go_round
        case rel => exact ⟨k + 1, by omega, by go_num, fun j h1 => by
          by_cases e : j = k
          · rw [e]; exact HZ1.out
          · exact HZ.out j (by omega)⟩
        case measure => simp [intOf]; omega
      · have HE := Lib.hid (tz_bits HZ.out hbk)
        clear hbk
        go_wp2_with fail
        go_ret
        exact pure_mk (by rw [HE.out]; rfl)
    · have hlt' : ¬ (k : Int) < m := by omega
      have HE := Lib.hid (show tzN n = 0 by
        have h1 := mod_bits k HZ.out
        rw [show k = m by omega, Nat.mod_eq_of_lt HV.out] at h1
        rw [h1]; exact tz_zero)
      go_wp2_with fail
      go_ret
      exact pure_mk (by rw [HE.out]; rfl)
set_option maxHeartbeats 1000000 in
theorem rbits_any {v : Value} {l : List Nat} (h : NatSl w v l) (hn : l.length ≤ 1000000) : Calls Tryz.prog 107 #[v] w (Pure0 (.int .i64 (blen (val l) : Nat)) w) := by
  have HB := Lib.hid (fun i (hi : i ≤ 4000000000) => rbit_any h i hi)
  have HV := Lib.hid (val_lt_bits h.2)
  obtain ⟨a, c, x, rfl, _⟩ := h.form
  clear h
  obtain ⟨n, hn0⟩ : ∃ n, val l = n := ⟨_, rfl⟩
  rw [hn0] at HB HV ⊢
  clear hn0
  obtain ⟨m, hm⟩ : ∃ m, 32 * l.length = m := ⟨_, rfl⟩
  rw [hm] at HV
  have e1 : 32 * (l.length : Int) = (m : Int) := by omega
  have hmb : m ≤ 32000000 := by omega
  have hlb : (l.length : Int) ≤ 1000000 := by omega
  clear hm
  go_enter Tryz.func107, Tryz.ntmps107
  go_wp2_with fail
  go_loop [3] (fun i => ∃ k : Nat, k ≤ m ∧ i = .int .i64 k ∧ ∀ j, k ≤ j → j < m → bitB n j = false) (fun i => (intOf i).toNat)
  case atStart => exact ⟨m, Nat.le_refl _, rfl, fun j h1 h2 => by omega⟩
  case round =>
    obtain ⟨k, hk, rfl, hz⟩ := hrel
    have HZ := Lib.hid (show n < 2 ^ k by
      obtain ⟨d, hd⟩ : ∃ d, m = k + d := ⟨m - k, by omega⟩
      refine lt_bits d (by rw [← hd]; exact HV.out) fun j h1 h2 => hz j h1 (by omega))
    have HZ2 := Lib.hid hz
    clear hz
    by_cases hlt : 0 < k
    · have hlt' : (0 : Int) < k := by omega
      obtain ⟨i, rfl⟩ : ∃ i, k = i + 1 := ⟨k - 1, by omega⟩
      have HQ := Lib.hid (HB.out i (by omega))
      have ei : ((i + 1 : Nat) : Int) - 1 = i := by omega
      go_wp2_with fail
      refine HQ.out.mono ?_
      rintro e w' ⟨rfl, rfl⟩
      cases hbk : bitB n i
      · have HZ1 := Lib.hid hbk
        clear hbk
        go_wp2_with fail
        go_round
        case rel => exact ⟨i, by omega, by go_num, fun j h1 h2 => by
          by_cases e : j = i
          · rw [e]; exact HZ1.out
          · exact HZ2.out j (by omega) h2⟩
        case measure => simp [intOf]
      · have HE := Lib.hid (blen_bits HZ.out hbk)
        clear hbk
        go_wp2_with fail
        go_ret
        exact pure_mk (by rw [HE.out]; rfl)
    · obtain rfl : k = 0 := by omega
      have HE := Lib.hid (show blen n = 0 by
        have := HZ.out
        rw [Nat.pow_zero] at this
        rw [show n = 0 by omega, blen_zero])
      go_wp2_with fail
      go_ret
      exact pure_mk (by rw [HE.out]; rfl)
end
end Go.Proofs.YtkpjikaobjpkoaaGreatDoor
/-
  The reference's naturals: walks of Cmp, Same.
-/
namespace Go.Proofs.YtkpjikaobjpkoaaGreatDoor
open Go.RowKit

theorem val_upto {l : List Nat} {n : Nat} (h : l.length ≤ n) : val l = valF (el l) n := by
  rw [val_valF]
  exact (valF_zero h fun j h1 _ => el_past h1).symm

section
variable {w : World}
set_option maxHeartbeats 2000000 in
theorem rcmp_any {v u : Value} {l m : List Nat} (h : NatSl w v l) (h' : NatSl w u m) (hn : l.length ≤ 100000000) (hn' : m.length ≤ 100000000) : Calls Tryz.prog 109 #[v, u] w (Pure0 (.int .i64 (cmpI (val l) (val m))) w) := by
  have HA := Lib.hid (fun k => rat_calls h k)
  have HB := Lib.hid (fun k => rat_calls h' k)
  have HL := Lib.hid (el_lt h.2)
  have HM := Lib.hid (el_lt h'.2)
  obtain ⟨a, c, x, rfl, _⟩ := h.form
  obtain ⟨a', c', x', rfl, _⟩ := h'.form
  clear h h'
  obtain ⟨n, hm⟩ : ∃ n, max l.length m.length = n := ⟨_, rfl⟩
  have HV := Lib.hid (show val l = valF (el l) n ∧ val m = valF (el m) n from ⟨val_upto (by omega), val_upto (by omega)⟩)
  have e1 : max (l.length : Int) (m.length : Int) = (n : Int) := by omega
  have hnb : n ≤ 100000000 := by omega
  clear hm
  go_enter Tryz.func109, Tryz.ntmps109
  go_wp2_with fail
  go_loop [5] (fun iv => ∃ k : Nat, k ≤ n ∧ ((k = 0 ∧ iv = .int .i64 (-1)) ∨ (0 < k ∧ iv = .int .i64 ((k - 1 : Nat) : Int))) ∧ (∀ j, k ≤ j → j < n → el l j = el m j)) (fun i => (intOf i + 1).toNat)
  case atStart =>
    refine ⟨n, Nat.le_refl _, ?_, fun j h1 h2 => by omega⟩
    by_cases e : n = 0
    · exact .inl ⟨e, by subst e; rfl⟩
    · exact .inr ⟨by omega, by congr 1; omega⟩
  case round =>
    obtain ⟨k, hk, hiv, heq⟩ := hrel
    have HE := Lib.hid heq
    clear heq
    rcases hiv with ⟨rfl, rfl⟩ | ⟨hk0, rfl⟩
    · have HQ := Lib.hid (show cmpI (val l) (val m) = 0 by
        refine cmpI_eq ?_
        rw [HV.out.1, HV.out.2]
        exact valF_eq fun j hj => HE.out j (Nat.zero_le _) hj)
      go_wp2_with fail
      go_ret
      exact pure_mk (by rw [HQ.out]; rfl)
    · obtain ⟨i, hi⟩ : ∃ i, k - 1 = i := ⟨_, rfl⟩
      rw [hi]
      obtain rfl : k = i + 1 := by omega
      have hin : i < n := by omega
      clear hi
      have HQ1 := Lib.hid (HA.out i)
      have HQ2 := Lib.hid (HB.out i)
      obtain ⟨d1, hd1⟩ : ∃ d, el l i = d := ⟨_, rfl⟩
      obtain ⟨d2, hd2⟩ : ∃ d, el m i = d := ⟨_, rfl⟩
      rw [hd1] at HQ1
      rw [hd2] at HQ2
      have HD := Lib.hid (And.intro hd1 hd2)
      have hi0 : (0 : Int) ≤ i := by omega
      clear hd1 hd2
      rcases Nat.lt_trichotomy d1 d2 with hlt | hde | hlt
      · have hlt' : (d1 : Int) < d2 := by omega
        have HQ := Lib.hid (show cmpI (val l) (val m) = -1 by
          refine cmpI_lt ?_
          rw [HV.out.1, HV.out.2]
          exact valF_lt HL.out (i := i) (by rw [HD.out.1, HD.out.2]; exact hlt) hin fun j h1 h2 => HE.out j h1 h2)
        go_wp2_with fail
        refine HQ1.out.mono ?_
        rintro e w' ⟨rfl, rfl⟩
        go_wp2_with fail
        refine HQ2.out.mono ?_
        rintro e w' ⟨rfl, rfl⟩
        go_wp2_with fail
        go_ret
        exact pure_mk (by rw [HQ.out]; rfl)
      · subst hde
        go_wp2_with fail
        refine HQ1.out.mono ?_
        rintro e w' ⟨rfl, rfl⟩
        go_wp2_with fail
        refine HQ2.out.mono ?_
        rintro e w' ⟨rfl, rfl⟩
        go_wp2_with fail
        refine HQ1.out.mono ?_
        rintro e w' ⟨rfl, rfl⟩
        go_wp2_with fail
        refine HQ2.out.mono ?_
        rintro e w' ⟨rfl, rfl⟩
        go_wp2_with fail
        go_round
        case rel =>
          refine ⟨i, by omega, ?_, fun j h1 h2 => ?_⟩
          · by_cases e : i = 0
            · exact .inl ⟨e, by subst e; rfl⟩
            · exact .inr ⟨by omega, by congr 1; omega⟩
          · by_cases e : j = i
            · rw [e, HD.out.1, HD.out.2]
            · exact HE.out j (by omega) h2
        case measure => simp [intOf]
      · have hlt' : (d2 : Int) < d1 := by omega
        have hlt2 : ¬ (d1 : Int) < d2 := by omega
        have HQ := Lib.hid (show cmpI (val l) (val m) = 1 by
          refine cmpI_gt ?_
          rw [HV.out.1, HV.out.2]
          exact valF_lt HM.out (i := i) (by rw [HD.out.1, HD.out.2]; exact hlt) hin fun j h1 h2 => (HE.out j h1 h2).symm)
        go_wp2_with fail
        refine HQ1.out.mono ?_
        rintro e w' ⟨rfl, rfl⟩
        go_wp2_with fail
        refine HQ2.out.mono ?_
        rintro e w' ⟨rfl, rfl⟩
        go_wp2_with fail
        refine HQ1.out.mono ?_
        rintro e w' ⟨rfl, rfl⟩
        go_wp2_with fail
        refine HQ2.out.mono ?_
        rintro e w' ⟨rfl, rfl⟩
        go_wp2_with fail
        go_ret
        exact pure_mk (by rw [HQ.out]; rfl)
set_option maxHeartbeats 1000000 in
theorem rsame_calls {v u : Value} {n m : Nat} (h : NatR w v n) (h' : NatR w u m) (hs : Sm n) (hs' : Sm m) : Calls Tryz.prog 80 #[v, u] w (Pure0 (.bool (decide (n = m))) w) := by
  obtain ⟨l, hl, hz, rfl, hn⟩ := h.lim hs
  obtain ⟨l', hl', hz', rfl, hn'⟩ := h'.lim hs'
  have HC := Lib.hid (rcmp_any hl hl' (by omega) (by omega))
  obtain ⟨a, c, x, rfl, _⟩ := hl.form
  obtain ⟨a', c', x', rfl, _⟩ := hl'.form
  by_cases hlen : l.length = l'.length
  · have e1 : ((l.length : Int) == (l'.length : Int)) = true := by rw [beq_iff_eq]; omega
    rcases Nat.lt_trichotomy (val l) (val l') with hlt | heq | hlt
    · rw [cmpI_lt hlt] at HC
      have HE := Lib.hid (show decide (val l = val l') = false from decide_eq_false (by omega))
      clear h h' hl hl' hlt hlen
      go_enter Tryz.func80, Tryz.ntmps80
      go_wp2_with fail
      refine HC.out.mono ?_
      rintro e w' ⟨rfl, rfl⟩
      go_wp2_with fail
      go_ret
      exact pure_mk (by rw [HE.out]; rfl)
    · rw [cmpI_eq heq] at HC
      have HE := Lib.hid (show decide (val l = val l') = true from decide_eq_true heq)
      clear h h' hl hl' heq hlen
      go_enter Tryz.func80, Tryz.ntmps80
      go_wp2_with fail
      refine HC.out.mono ?_
      rintro e w' ⟨rfl, rfl⟩
      go_wp2_with fail
      go_ret
      exact pure_mk (by rw [HE.out]; rfl)
    · rw [cmpI_gt hlt] at HC
      have HE := Lib.hid (show decide (val l = val l') = false from decide_eq_false (by omega))
      clear h h' hl hl' hlt hlen
      go_enter Tryz.func80, Tryz.ntmps80
      go_wp2_with fail
      refine HC.out.mono ?_
      rintro e w' ⟨rfl, rfl⟩
      go_wp2_with fail
      go_ret
      exact pure_mk (by rw [HE.out]; rfl)
  · have e1 : ((l.length : Int) == (l'.length : Int)) = false := by rw [beq_eq_false_iff_ne]; omega
    have HE := Lib.hid (show decide (val l = val l') = false from decide_eq_false (by
      rcases Nat.lt_or_gt_of_ne hlen with hlt | hlt
      · have := val_lt_sz (m := l') hl.2 (by omega); omega
      · have := val_lt_sz (m := l) hl'.2 (by omega); omega))
    clear h h' hl hl' hlen HC
    go_enter Tryz.func80, Tryz.ntmps80
    go_wp2_with fail
    go_ret
    exact pure_mk (by rw [HE.out]; rfl)
end
end Go.Proofs.YtkpjikaobjpkoaaGreatDoor
