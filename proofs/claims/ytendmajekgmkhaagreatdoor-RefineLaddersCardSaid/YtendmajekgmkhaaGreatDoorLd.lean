/-
  Mod of the mill, walked: the remainder of Euclid's division by a positive number.
-/
import Derived.Test.YtendmajekgmkhaaGreatDoorLc
namespace Go.Proofs.YtendmajekgmkhaaGreatDoor
open Go Go.RowKit
theorem tmod_cases (v n : Int) (hn : 1 ≤ n) : (v % n = v.tmod n ∧ 0 ≤ v.tmod n) ∨ (v % n = v.tmod n + n ∧ v.tmod n < 0 ∧ -n < v.tmod n) := by
  have hm0 := Int.emod_nonneg v (b := n) (by omega)
  have hm1 := Int.emod_lt_of_pos v (b := n) (by omega)
  rcases Int.le_total 0 v with h | h
  · exact .inl ⟨(Int.tmod_eq_emod_of_nonneg h).symm, by rw [Int.tmod_eq_emod_of_nonneg h]; exact hm0⟩
  · have e : v.tmod n = -((-v) % n) := by
      have := Int.neg_tmod v n
      rw [Int.tmod_eq_emod_of_nonneg (a := -v) (by omega)] at this
      omega
    have hk0 := Int.emod_nonneg (-v) (b := n) (by omega)
    have hk1 := Int.emod_lt_of_pos (-v) (b := n) (by omega)
    have hd := Int.emod_add_mul_ediv (-v) n
    by_cases hz : (-v) % n = 0
    · left
      have : v % n = 0 := by
        have h1 : n ∣ -v := Int.dvd_of_emod_eq_zero hz
        exact Int.emod_eq_zero_of_dvd ((Int.dvd_neg).1 h1)
      rw [e, hz, this]; simp
    · right
      have : v % n = n - (-v) % n := by
        have h2 : v = (n - (-v) % n) + n * (-((-v) / n) - 1) := by
          have := Int.mul_sub n (-((-v) / n)) 1
          have h3 := Int.mul_neg n ((-v) / n)
          omega
        have h4 := Int.add_mul_emod_self_left (n - (-v) % n) n (-((-v) / n) - 1)
        rw [← h2] at h4
        rw [h4]
        exact Int.emod_eq_of_lt (by omega) (by omega)
      omega

theorem mod_neg (v n : Int) (hn : 1 ≤ n) (hn' : n ≤ 9223372036854775807) (_hv : -9223372036854775808 ≤ v) (h : v.tmod n < 0) : wrap64 (v.tmod n + n) = v % n := by
  rcases tmod_cases v n hn with ⟨_, h2⟩ | ⟨h1, _, h3⟩
  · omega
  · rw [h1]; exact IntWalk.wrap64_in _ ⟨by omega, by omega⟩

theorem mod_pos (v n : Int) (hn : 1 ≤ n) (h : 0 ≤ v.tmod n) : v.tmod n = v % n := by
  rcases tmod_cases v n hn with ⟨h1, _⟩ | ⟨_, h2, _⟩
  · exact h1.symm
  · omega

set_option maxHeartbeats 400000 in
theorem mod_any (v n : Int) (hn : 1 ≤ n) (hn' : n ≤ 9223372036854775807) (hv : -9223372036854775808 ≤ v) (w : World) :
    Calls Tryz.prog 5 #[.int .i64 v, .int .i64 n] w fun e w' => e = .returned (.int .i64 (v % n)) ∧ w' = w := by
  go_enter Tryz.func5, Tryz.ntmps5
  go_wp2
  all_goals go_ret
  · rename_i h
    exact ⟨by rw [mod_neg v n hn hn' hv h]; rfl, rfl⟩
  · rename_i h
    exact ⟨by rw [mod_pos v n hn h]; rfl, rfl⟩
end Go.Proofs.YtendmajekgmkhaaGreatDoor
