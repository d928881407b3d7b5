/-
  Naturals: how often 2 divides a number; walks of math/bits.TrailingZeros32 and Zeros.
-/
import Derived.Test.YtkpjikaobjpkoaaGreatDoorPkRcRd
import Derived.Lib.TrailingZeros
namespace Go.Proofs.YtkpjikaobjpkoaaGreatDoor
open Go.RowKit

theorem odd_uniq {a b m k : Nat} (h : 2 ^ a * (2 * m + 1) = 2 ^ b * (2 * k + 1)) : a = b := by
  rcases Nat.lt_trichotomy a b with hl | he | hl
  · obtain ⟨d, rfl⟩ : ∃ d, b = a + (d + 1) := ⟨b - a - 1, by omega⟩
    rw [Nat.pow_add, Nat.mul_assoc] at h
    have := Nat.eq_of_mul_eq_mul_left (Nat.pow_pos (by decide)) h
    rw [Nat.pow_succ, Nat.mul_comm (2 ^ d) 2, Nat.mul_assoc] at this
    omega
  · exact he
  · obtain ⟨d, rfl⟩ : ∃ d, a = b + (d + 1) := ⟨a - b - 1, by omega⟩
    rw [Nat.pow_add, Nat.mul_assoc] at h
    have := Nat.eq_of_mul_eq_mul_left (Nat.pow_pos (by decide)) h
    rw [Nat.pow_succ, Nat.mul_comm (2 ^ d) 2, Nat.mul_assoc] at this
    omega
open Classical in
/-- How often 2 divides a number (0 at 0). -/
noncomputable def tzN (n : Nat) : Nat := if h : ∃ t m, n = 2 ^ t * (2 * m + 1) then Classical.choose h else 0
theorem tz_eq {n t m : Nat} (h : n = 2 ^ t * (2 * m + 1)) : tzN n = t := by
  have he : ∃ t m, n = 2 ^ t * (2 * m + 1) := ⟨t, m, h⟩
  unfold tzN
  rw [dif_pos he]
  obtain ⟨k, hk⟩ := Classical.choose_spec he
  exact odd_uniq (hk.symm.trans h)
theorem tz_zero : tzN 0 = 0 := by
  unfold tzN
  rw [dif_neg]
  rintro ⟨t, m, h⟩
  have : 0 < 2 ^ t * (2 * m + 1) := Nat.mul_pos (Nat.pow_pos (by decide)) (by omega)
  omega
theorem odd_part : ∀ n : Nat, n ≠ 0 → ∃ t m, n = 2 ^ t * (2 * m + 1) := fun n => by
  induction n using Nat.strongRecOn with
  | _ n ih =>
    intro h0
    rcases Nat.mod_two_eq_zero_or_one n with h | h
    · obtain ⟨t, m, e⟩ := ih (n / 2) (by omega) (by omega)
      exact ⟨t + 1, m, by rw [Nat.pow_succ, Nat.mul_comm (2 ^ t) 2, Nat.mul_assoc, ← e]; omega⟩
    · exact ⟨0, n / 2, by rw [Nat.pow_zero, Nat.one_mul]; omega⟩
/-- The low limb that is not zero decides. -/
theorem tz_limb {l : List Nat} {i c m : Nat} (hi : i < l.length) (hz : ∀ j, j < i → el l j = 0) (hx : el l i = 2 ^ c * (2 * m + 1)) (hc : c < 32) : tzN (val l) = 32 * i + c := by
  have h1 : val l = 4294967296 ^ i * val (l.drop i) := by
    have e : l.length = i + (l.length - i) := by omega
    rw [val_valF l, e, valF_shift, valF_eq (g := fun _ => 0) (fun j hj => hz j hj), valF_zeros (fun _ => rfl), Nat.zero_add, val_valF (l.drop i), List.length_drop]
    congr 1
    exact valF_eq fun j _ => by unfold el; rw [List.getD_eq_getElem?_getD, List.getD_eq_getElem?_getD, List.getElem?_drop, Nat.add_comm]
  have h2 : val (l.drop i) = el l i + 4294967296 * val (l.drop (i + 1)) := by
    rw [List.drop_eq_getElem_cons hi]
    show l[i] + _ = _
    unfold el
    rw [List.getD_eq_getElem?_getD, List.getElem?_eq_getElem hi]; rfl
  obtain ⟨d, hd⟩ : ∃ d, 32 = c + (d + 1) := ⟨31 - c, by omega⟩
  have h3 : (4294967296 : Nat) = 2 ^ c * (2 ^ d * 2) := by rw [← Nat.pow_succ, ← Nat.pow_add, ← hd]
  refine tz_eq (m := m + 2 ^ d * val (l.drop (i + 1))) ?_
  rw [h1, h2, hx, Nat.pow_add, Nat.pow_mul, show (2 : Nat) ^ 32 = 4294967296 by decide, Nat.mul_assoc]
  congr 1
  conv => lhs; rw [h3]
  rw [Nat.mul_assoc, ← Nat.mul_add]
  congr 1
  rw [Nat.mul_add, Nat.mul_comm (2 ^ d) 2, Nat.mul_assoc]
  omega
/-- The table of math/bits lies in the world. -/
def TabAt (w : World) : Prop := ∀ j, j < 32 → w.cell? ⟨0, j, none⟩ = some (.int .u8 (Lib.deBruijn32tab.getD j 0 : Nat))
theorem bits_and_u32_nat (a b : Nat) (ha : a < 4294967296) (hb : b < 4294967296) : bits .and .u32 (a : Int) (b : Int) = ((a &&& b : Nat) : Int) := (bits_nat .u32 32 (by decide) wraps_u32 a b (lt_32 ha) (lt_32 hb)).1
theorem tz32_key (x a : Nat) (hx : x < 4294967296) (hx0 : x ≠ 0) (hlow : x &&& (4294967296 - x) = a) :
    bits BinOp.and IntKind.u32 (x : Int) (-(x : Int) % 4294967296) * 125613361 % 4294967296 / 134217728 = ((a * 125613361 % 4294967296 / 134217728 : Nat) : Int) := by
  have e1 : -(x : Int) % 4294967296 = ((4294967296 - x : Nat) : Int) := by omega
  rw [e1, bits_and_u32_nat x _ hx (by omega), hlow]
  omega

section
variable {w : World}
theorem tz32_any (x : Nat) (hx : x < 4294967296) (hx0 : x ≠ 0) (hT : TabAt w) : Calls Tryz.prog 164 #[.int .u32 (x : Int)] w fun e w' => (∃ c m : Nat, x = 2 ^ c * (2 * m + 1) ∧ c < 32 ∧ e = .returned (.int .i64 (c : Int))) ∧ w = w' := by
  obtain ⟨hlow, hk⟩ := Lib.lowest_bit 32 x hx0 hx
  have hk' : Lib.ctz 32 x < 32 := hk
  obtain ⟨c, hc⟩ : ∃ c, Lib.ctz 32 x = c := ⟨_, rfl⟩
  have hm : ∃ m, x = 2 ^ c * (2 * m + 1) := by
    obtain ⟨m, h1, _⟩ := Lib.ctzFrom_spec 32 x (Nat.pos_of_ne_zero hx0) hx
    refine ⟨m, ?_⟩
    rw [← hc]
    unfold Lib.ctz
    rw [if_neg hx0]
    exact h1
  have HM := Lib.hid hm
  clear hm
  rw [hc] at hlow hk'
  obtain ⟨hi, htab⟩ := Lib.deBruijn32_at c hk'
  have key := tz32_key x _ hx hx0 hlow
  obtain ⟨idx, hidx⟩ : ∃ idx, 2 ^ c * 125613361 % 4294967296 / 134217728 = idx := ⟨_, rfl⟩
  rw [hidx] at hi htab key
  have hcell := hT idx hi
  rw [htab] at hcell
  have HK := Lib.hid hk'
  have hxb : ((x : Int) == 0) = false := by simpa using hx0
  have hi0 : (0 : Int) ≤ (idx : Int) := by omega
  have hi1 : (idx : Int) < 32 := by omega
  clear hlow hk hc hidx htab
  go_enter Tryz.func164, Tryz.ntmps164
  go_wp2_with (simp only [key])
  go_ret
  obtain ⟨m, hm⟩ := HM.out
  exact ⟨⟨c, m, hm, HK.out, rfl⟩, rfl⟩
set_option maxHeartbeats 1000000 in
theorem zeros_any {v : Value} {l : List Nat} (h : NatSl w v l) (hn : l.length ≤ 100000000) (hT : TabAt w) : Calls Tryz.prog 120 #[v] w (Pure0 (.int .i64 (tzN (val l) : Nat)) w) := by
  have HL := Lib.hid (And.intro h.2 hT)
  obtain ⟨a, c, x, rfl, ha, hc, hm, hcell⟩ := h.form
  have HC := Lib.hid hcell
  have HA := Lib.hid ha
  unfold maxLen at hm
  clear h hcell ha hT
  go_enter Tryz.func120, Tryz.ntmps120
  go_wp2_with fail
  go_loop [7] (fun i => ∃ k : Nat, k ≤ l.length ∧ i = .int .i64 k ∧ ∀ j, j < k → el l j = 0) (fun i => l.length - (intOf i).toNat)
  case atStart => exact ⟨0, by omega, rfl, fun j h => by omega⟩
  case round =>
    obtain ⟨k, hk, rfl, hz⟩ := hrel
    have HZ := Lib.hid hz
    clear hz
    by_cases hlt : k < l.length
    · obtain rfl := HA.out (by omega)
      have q1 := HC.out k hlt
      obtain ⟨x1, hx1⟩ : ∃ d, l.getD k 0 = d := ⟨_, rfl⟩
      rw [hx1] at q1
      have bx : x1 < 4294967296 := by rw [← hx1]; exact limbs_get HL.out.1 k
      have HX := Lib.hid (show el l k = x1 from hx1)
      have hlt' : (k : Int) < (l.length : Int) := by omega
      have hk0 : (0 : Int) ≤ k := by omega
      clear hx1
      by_cases hx0 : x1 = 0
      · subst hx0
        go_wp2_with fail
        go_round
        case rel => exact ⟨k + 1, by omega, by go_num, fun j h1 => by
          by_cases e : j = k
          · rw [e]; exact HX.out
          · exact HZ.out j (by omega)⟩
        case measure => simp [intOf]; omega
      · have hxb : ((x1 : Int) == 0) = false := by simpa using hx0
        have HQ := Lib.hid (tz32_any (w := w) x1 bx hx0 HL.out.2)
        have HL2 := Lib.hid hlt
        have hkb : (k : Int) ≤ 100000000 := by omega
        go_wp2_with fail
        refine HQ.out.mono ?_
        rintro e w' ⟨⟨cz, mz, h1, h2, rfl⟩, rfl⟩
        have hcz : (cz : Int) < 32 := by omega
        have HE := Lib.hid (tz_limb HL2.out HZ.out (by rw [HX.out]; exact h1) h2)
        clear h1
        go_wp2_with fail
        go_ret
        exact pure_mk (by rw [HE.out]; congr 1)
    · have HE := Lib.hid (show tzN (val l) = 0 by
        rw [val_valF l, valF_eq (g := fun _ => 0) (fun j hj => HZ.out j (by omega)), valF_zeros (fun _ => rfl)]
        exact tz_zero)
      obtain rfl : k = l.length := by omega
      clear hlt
      go_wp2_with fail
      go_ret
      exact pure_mk (by rw [HE.out]; rfl)
end
end Go.Proofs.YtkpjikaobjpkoaaGreatDoor
