/-
  Naturals: walks of Bits, Bit, Low.
-/
import Derived.Test.YtkpjikaobjpkoaaGreatDoorPkRe
import Derived.Test.YtkpjikaobjpkoaaGreatDoorPkSLen32
namespace Go.Proofs.YtkpjikaobjpkoaaGreatDoor
open Go.RowKit

/-- The number of binary digits. -/
def bitsN (l : List Nat) : Nat := if szN l = 0 then 0 else 32 * (szN l - 1) + Lib.bitLen (el l (szN l - 1))

theorem bitLenAux_le : ∀ f x, Lib.bitLenAux f x ≤ f
  | 0, _ => by simp [Lib.bitLenAux]
  | f + 1, x => by
    have ih := bitLenAux_le f (x / 2)
    unfold Lib.bitLenAux
    split <;> omega
theorem bitLen_le32 {x : Nat} (h : x < 4294967296) : Lib.bitLen x ≤ 32 := by
  have h1 := Lib.bitLenAux_fuel 32 x h 64 (by omega)
  have h2 := bitLenAux_le 32 x
  have h3 : Lib.bitLen x = Lib.bitLenAux 64 x := rfl
  omega

section
variable {w : World}

set_option maxHeartbeats 1000000 in
theorem bits_any {v : Value} {l : List Nat} (h : NatSl w v l) (hn : l.length ≤ 100000000) : Calls Tryz.prog 115 #[v] w (Pure0 (.int .i64 (bitsN l)) w) := by
  have HS := Lib.hid (size_any h)
  have hs := szN_le l
  have HL := Lib.hid h.2
  obtain ⟨a, c, x, rfl, ha, hc, hm, hcell⟩ := h.form
  have HC := Lib.hid hcell
  have HA := Lib.hid ha
  unfold maxLen at hm
  clear h hcell ha
  obtain ⟨n, hsn⟩ : ∃ n, szN l = n := ⟨_, rfl⟩
  rw [hsn] at HS hs
  by_cases h0 : n = 0
  · have HB := Lib.hid (show bitsN l = 0 by unfold bitsN; rw [if_pos (by omega)])
    subst h0
    clear hsn
    go_enter Tryz.func115, Tryz.ntmps115
    go_wp2_with fail
    refine HS.out.mono ?_
    rintro e w' ⟨rfl, rfl⟩
    go_wp2_with fail
    go_ret
    exact pure_mk (by rw [HB.out]; rfl)
  · obtain ⟨k, rfl⟩ : ∃ k, n = k + 1 := ⟨n - 1, by omega⟩
    have hk : k < l.length := by omega
    obtain rfl := HA.out (by omega)
    have q1 := HC.out k hk
    obtain ⟨d, hd⟩ : ∃ d, l.getD k 0 = d := ⟨_, rfl⟩
    have bd : d < 4294967296 := by rw [← hd]; exact limbs_get HL.out k
    have HB := Lib.hid (show bitsN l = 32 * k + Lib.bitLen d by
      unfold bitsN
      rw [if_neg (by omega), hsn, Nat.add_sub_cancel, show el l k = d from hd])
    rw [hd] at q1
    have HQ := Lib.hid (fun w' => bits_Len32 (d : Int) w' (by omega) (by omega))
    have hbl := bitLen_le32 bd
    obtain ⟨y, hy⟩ : ∃ y, Lib.bitLen d = y := ⟨_, rfl⟩
    rw [hy] at hbl
    have HY := Lib.hid hy
    have hkb : (((k + 1 : Nat) : Int) == 0) = false := by rw [Bool.eq_false_iff]; intro e; rw [beq_iff_eq] at e; omega
    have hkb2 : ((k : Int) + 1 == 0) = false := by rw [Bool.eq_false_iff]; intro e; rw [beq_iff_eq] at e; omega
    clear hy
    have e1 : ((k + 1 : Nat) : Int) - 1 = (k : Int) := by omega
    have k0 : (0 : Int) ≤ k := by omega
    have k1 : (k : Int) < l.length := by omega
    clear hd hsn h0
    go_enter Tryz.func115, Tryz.ntmps115
    go_wp2_with fail
    refine HS.out.mono ?_
    rintro e w' ⟨rfl, rfl⟩
    go_wp2_with fail
    refine (HQ.out _).mono ?_
    rintro e w' ⟨rfl, rfl⟩
    rw [show ((d : Int)).toNat = d by omega, HY.out]
    go_wp2_with fail
    go_ret
    exact pure_mk (by rw [HB.out, HY.out]; first | rfl | (congr 1; omega))
theorem add_zero_addr (x : Addr) : x.add 0 = x := by
  unfold Addr.add
  split <;> simp_all
theorem bit0_any {v : Value} {l : List Nat} (h : NatSl w v l) (hn : l.length ≤ 100000000) : Calls Tryz.prog 158 #[v, .int .i64 0] w (Pure0 (.bool (decide (val l % 2 = 1))) w) := by
  obtain ⟨a, c, x, rfl, ha, hc, hm, hcell⟩ := h.form
  unfold maxLen at hm
  by_cases h0 : 0 < l.length
  · obtain rfl := ha h0
    have q1 := hcell 0 h0
    obtain ⟨x1, hx1⟩ : ∃ d, l.getD 0 0 = d := ⟨_, rfl⟩
    rw [hx1, add_zero_addr] at q1
    have bx : x1 < 4294967296 := by rw [← hx1]; exact limbs_get h.2 0
    have HV := Lib.hid (show val l % 2 = x1 % 2 by
      have : val l = el l 0 + 4294967296 * val (l.drop 1) := by
        cases l with
        | nil => simp at h0
        | cons y l => rfl
      rw [this, show el l 0 = x1 from hx1]; omega)
    have h0' : (0 : Int) < (l.length : Int) := by omega
    obtain ⟨d, hd⟩ : ∃ d, x1 % 2 = d := ⟨_, rfl⟩
    have eand : bits .and .u32 (x1 : Int) 1 = (d : Int) := by
      have := bits_mask .u32 32 (by decide) wraps_u32 1 (by decide) (x1 : Int) (by omega) (by omega)
      rw [show ((2 : Int) ^ 1 - 1) = 1 by decide] at this
      rw [this]; omega
    have HD := Lib.hid hd
    clear h ha hcell hx1 h0 hd
    go_enter Tryz.func158, Tryz.ntmps158
    go_wp2_with fail
    go_ret
    exact pure_mk (by rw [HV.out, HD.out]; show Value.bool ((d : Int) == 1) = Value.bool (decide (d = 1)); congr 1; rw [Bool.eq_iff_iff, beq_iff_eq, decide_eq_true_iff]; omega)
  · have HV := Lib.hid (show val l % 2 = 0 by
      cases l with
      | nil => rfl
      | cons y l => simp at h0)
    have h0' : ¬ (0 : Int) < (l.length : Int) := by omega
    clear h ha hcell h0
    go_enter Tryz.func158, Tryz.ntmps158
    go_wp2_with fail
    go_ret
    exact pure_mk (by rw [HV.out]; rfl)
theorem low_val {l : List Nat} (hl : Limbs l) {n q r : Nat} (hq : n / 32 = q) (hr : n % 32 = r) (hlt : q < l.length) {o : List Nat} (ho : o.length = q + 1) (h1 : ∀ j, j < q → el o j = el l j) (h2 : el o q = el l q % 2 ^ r) : val o = val l % 2 ^ n := by
  have hr32 : r < 32 := by omega
  obtain ⟨m, hm⟩ : ∃ m, l.length = q + 1 + m := ⟨l.length - (q + 1), by omega⟩
  have e1 : val l = valF (el l) q + 4294967296 ^ q * (el l q + 4294967296 * valF (fun i => el l (i + (q + 1))) m) := by
    rw [val_valF l, hm, valF_shift, valF_succ, Nat.mul_add, Nat.pow_succ, Nat.mul_assoc]
    omega
  have hb := valF_bound (fun j => el_lt hl j) q
  rw [val_valF o, ho, valF_succ, valF_eq h1, h2, pow_words n, hq, hr, Nat.mod_mul, e1, Nat.add_mul_mod_self_left, Nat.mod_eq_of_lt hb, Nat.add_mul_div_left _ _ (pow_pos_b q), Nat.div_eq_of_lt hb, Nat.zero_add]
  congr 2
  rw [← pow_split hr32, Nat.mul_assoc, Nat.add_mul_mod_self_left]
set_option maxRecDepth 100000 in
set_option maxHeartbeats 2000000 in
theorem low_any {v : Value} {l : List Nat} (h : NatSl w v l) (hn : l.length ≤ 100000000) (n : Nat) (hn1 : n ≤ 1048576) : Calls Tryz.prog 125 #[v, .int .i64 (n : Int)] w (NatP (val l % 2 ^ n) w) := by
  have HL := Lib.hid (And.intro h h.2)
  have HP := Lib.hid (places_any (w := w) n hn1)
  obtain ⟨a, c, x, rfl, ha, hc, hm, hcell⟩ := h.form
  unfold maxLen at hm
  obtain ⟨q, hq⟩ : ∃ q, n / 32 = q := ⟨_, rfl⟩
  obtain ⟨r, hr⟩ : ∃ r, n % 32 = r := ⟨_, rfl⟩
  have hq1 : (n : Int).tdiv 32 = (q : Int) := by rw [Int.tdiv_eq_ediv_of_nonneg (by omega)]; omega
  have hr1 : (n : Int).tmod 32 = (r : Int) := by rw [Int.tmod_eq_emod_of_nonneg (by omega)]; omega
  have hr32 : r < 32 := by omega
  have hr2 : (r : Int) % 18446744073709551616 = (r : Int) := by omega
  have hqb : q ≤ 32768 := by omega
  have HQ := Lib.hid (And.intro hq hr)
  clear hq hr
  by_cases hlen : l.length ≤ q
  · have hlen' : (l.length : Int) ≤ (q : Int) := by omega
    have HT := Lib.hid (trim_any h (by omega))
    have HV := Lib.hid (show val l % 2 ^ n = val l by
      rw [pow_words n, HQ.out.1]
      refine Nat.mod_eq_of_lt (Nat.lt_of_lt_of_le ?_ (Nat.le_mul_of_pos_right _ (Nat.pow_pos (by decide))))
      rw [val_valF]
      exact Nat.lt_of_lt_of_le (valF_bound (fun j => el_lt HL.out.2 j) _) (Nat.pow_le_pow_right (by decide) hlen))
    clear h ha hcell
    go_enter Tryz.func125, Tryz.ntmps125
    go_wp2_with fail
    refine HP.out.mono ?_
    rintro e w' ⟨rfl, rfl⟩
    go_wp2_with fail
    refine HT.out.mono ?_
    rintro e w' ⟨v', rfl, hf, hb⟩
    have HF := Lib.hid (And.intro hf hb)
    clear hf hb
    go_wp2_with fail
    go_ret
    exact ⟨_, rfl, by rw [HV.out]; exact HF.out.1, HF.out.2⟩
  · have hlen' : ¬ (l.length : Int) ≤ (q : Int) := by omega
    obtain rfl := ha (by omega)
    have htk : NatSl w (.slice (some x) (q + 1) c) (l.take (q + 1)) := h.take (by omega)
    have htl : (l.take (q + 1)).length = q + 1 := by rw [List.length_take, Nat.min_eq_left (by omega)]
    have HT := Lib.hid (clone_any htk (by omega))
    have hq2 : (q : Int) + 1 ≤ (c : Int) := by omega
    have hq3 : (0 : Int) ≤ (q : Int) + 1 := by omega
    have HTL := Lib.hid (And.intro htl (show q < l.length by omega))
    have e1 : ((q : Int) + 1).toNat = q + 1 := by omega
    clear h ha hcell htk htl
    go_enter Tryz.func125, Tryz.ntmps125
    go_wp2_with fail
    refine HP.out.mono ?_
    rintro e w' ⟨rfl, rfl⟩
    go_wp2_with fail
    refine HT.out.mono ?_
    rintro e w1 ⟨v', rfl, ho, hb⟩
    have ho' := ho
    obtain ⟨⟨ho0, hoo⟩, hol⟩ := ho'
    rcases hoo with ⟨_, h0⟩ | ⟨g, cap, cur, rfl, h1, _, h3, h4, _⟩
    · exfalso; rw [HTL.out.1] at h0; omega
    rw [HTL.out.1] at ho h3 ⊢
    have hO1 := ho.1
    rw [HTL.out.1] at hO1
    have hfr := hO1.frozenAt q
    obtain ⟨x1, hx1⟩ : ∃ x1, el (l.take (q + 1)) q = x1 := ⟨_, rfl⟩
    have q1 : w1.cell? ⟨g, q, none⟩ = some (.int .u32 (x1 : Int)) := by rw [← hx1]; exact own_cell hO1 (u32_get (by rw [HTL.out.1]; omega))
    have HX := Lib.hid hx1
    have HO := Lib.hid (And.intro ho hb)
    have hqq : (q : Int) < (q : Int) + 1 := by omega
    have hq0 : (0 : Int) ≤ (q : Int) := by omega
    have hg : w.heap.size ≤ g := h1
    have HG := Lib.hid hg
    have HC4 := Lib.hid h3
    clear ho hb ho0 hol h1 h3 h4 hO1 hx1 hg
    obtain ⟨d, hd⟩ : ∃ d, x1 % 2 ^ r = d := ⟨_, rfl⟩
    have hr31 := pow_le_31 hr32
    have hrp : 0 < 2 ^ r := Nat.pow_pos (by decide)
    have bx : x1 < 4294967296 := by rw [← HX.out]; exact el_lt HO.out.1.2 q
    have emask : ((2 : Int) ^ r - 1) % 4294967296 = 2 ^ r - 1 := by
      have : (2 : Int) ^ r = ((2 ^ r : Nat) : Int) := (Int.natCast_pow 2 r).symm
      rw [this]; omega
    have eand : bits .and .u32 (x1 : Int) ((2 ^ r - 1) % 4294967296) = (d : Int) := by
      rw [emask, bits_mask .u32 32 (by decide) wraps_u32 r (by omega) (x1 : Int) (by omega) (by omega), ← hd]
      exact (Int.natCast_emod x1 (2 ^ r)).symm
    have hdb : d < 4294967296 := by rw [← hd]; exact Nat.lt_of_le_of_lt (Nat.mod_le _ _) bx
    have HS := Lib.hid (HO.out.1.set (k := q) hdb)
    have HV := Lib.hid (show val ((l.take (q + 1)).set q d) = val l % 2 ^ n from low_val HL.out.2 HQ.out.1 HQ.out.2 HTL.out.2 (by rw [List.length_set]; exact HTL.out.1)
      (fun j hj => by rw [el_set d (by rw [HTL.out.1]; omega), if_neg (by omega)]; unfold el; rw [List.getD_eq_getElem?_getD, List.getD_eq_getElem?_getD, List.getElem?_take, if_pos (by omega)])
      (by
        rw [el_set d (by rw [HTL.out.1]; omega), if_pos rfl, ← hd, ← HX.out]
        congr 1
        unfold el; rw [List.getD_eq_getElem?_getD, List.getD_eq_getElem?_getD, List.getElem?_take, if_pos (by omega)]))
    have HZ := Lib.hid (size_any HS.out.sl)
    have HT2 := Lib.hid HS.out.trim
    have hzl := szN_le ((l.take (q + 1)).set q d)
    rw [List.length_set, HTL.out.1] at hzl
    obtain ⟨z, hz⟩ : ∃ z, szN ((l.take (q + 1)).set q d) = z := ⟨_, rfl⟩
    rw [hz] at HZ HT2 hzl
    have b1 : (0 : Int) ≤ z := by omega
    have b2 : (z : Int) ≤ (cap : Int) := by have := HC4.out; omega
    clear hd hr31 hrp emask hdb hz
    go_wp2_with fail
    refine HZ.out.mono ?_
    rintro e w' ⟨rfl, rfl⟩
    go_wp2_with fail
    go_ret
    exact ⟨_, rfl, HV.out ▸ HT2.out.base (Nat.le_refl _), HO.out.2.setCell HG.out _⟩
end
end Go.Proofs.YtkpjikaobjpkoaaGreatDoor
