/-
  Mod of the mill and the two functions Enough, walked.
-/
import Derived.Test.YtlijkiecbdbnpaaGreatDoorProg
import Derived.WalkKit
import Derived.Lib.Hide
namespace Go.Proofs.YtlijkiecbdbnpaaGreatDoor
open Go Go.RowKit
theorem tmod_cases (v n : Int) (hn : 1 ≤ n) : (v % n = v.tmod n ∧ 0 ≤ v.tmod n) ∨ (v % n = v.tmod n + n ∧ v.tmod n < 0 ∧ -n < v.tmod n) := by
  have hm0 := Int.emod_nonneg v (b := n) (by omega)
  have hm1 := Int.emod_lt_of_pos v (b := n) (by omega)
  rcases Int.le_total 0 v with h | h
  · exact .inl ⟨(Int.tmod_eq_emod_of_nonneg h).symm, by rw [Int.tmod_eq_emod_of_nonneg h]; exact hm0⟩
  · have e : v.tmod n = -((-v) % n) := by
      have := Int.neg_tmod v n
      rw [Int.tmod_eq_emod_of_nonneg (a := -v) (by omega)] at this
      omega
    have hk0 := Int.emod_nonneg (-v) (b := n) (by omega)
    have hk1 := Int.emod_lt_of_pos (-v) (b := n) (by omega)
    have hd := Int.emod_add_mul_ediv (-v) n
    by_cases hz : (-v) % n = 0
    · left
      have : v % n = 0 := by
        have h1 : n ∣ -v := Int.dvd_of_emod_eq_zero hz
        exact Int.emod_eq_zero_of_dvd ((Int.dvd_neg).1 h1)
      rw [e, hz, this]; simp
    · right
      have : v % n = n - (-v) % n := by
        have h2 : v = (n - (-v) % n) + n * (-((-v) / n) - 1) := by
          have := Int.mul_sub n (-((-v) / n)) 1
          have h3 := Int.mul_neg n ((-v) / n)
          omega
        have h4 := Int.add_mul_emod_self_left (n - (-v) % n) n (-((-v) / n) - 1)
        rw [← h2] at h4
        rw [h4]
        exact Int.emod_eq_of_lt (by omega) (by omega)
      omega

theorem mod_neg (v n : Int) (hn : 1 ≤ n) (hn' : n ≤ 9223372036854775807) (_hv : -9223372036854775808 ≤ v) (h : v.tmod n < 0) : wrap64 (v.tmod n + n) = v % n := by
  rcases tmod_cases v n hn with ⟨_, h2⟩ | ⟨h1, _, h3⟩
  · omega
  · rw [h1]; exact IntWalk.wrap64_in _ ⟨by omega, by omega⟩

theorem mod_pos (v n : Int) (hn : 1 ≤ n) (h : 0 ≤ v.tmod n) : v.tmod n = v % n := by
  rcases tmod_cases v n hn with ⟨h1, _⟩ | ⟨_, h2, _⟩
  · exact h1.symm
  · omega

set_option maxHeartbeats 400000 in
theorem mod_any (v n : Int) (hn : 1 ≤ n) (hn' : n ≤ 9223372036854775807) (hv : -9223372036854775808 ≤ v) (w : World) :
    Calls Tryz.prog 5 #[.int .i64 v, .int .i64 n] w fun e w' => e = .returned (.int .i64 (v % n)) ∧ w' = w := by
  go_enter Tryz.func5, Tryz.ntmps5
  go_wp2
  all_goals go_ret
  · rename_i h
    exact ⟨by rw [mod_neg v n hn hn' hv h]; rfl, rfl⟩
  · rename_i h
    exact ⟨by rw [mod_pos v n hn h]; rfl, rfl⟩

def enough (d k p : Int) : Int := if d < 1 ∨ 40 < d ∨ k < 1 ∨ 200 < k ∨ p < 0 ∨ 512 < p then 0 else 2 * (p + 16 + d * (8 * k + 80))
theorem enough_bad {d k p : Int} (h : d < 1 ∨ 40 < d ∨ k < 1 ∨ 200 < k ∨ p < 0 ∨ 512 < p) : enough d k p = 0 := if_pos h
theorem prod_in {d k : Int} (h1 : 1 ≤ d) (h2 : d ≤ 40) (h3 : 1 ≤ k) (h4 : k ≤ 200) : 0 ≤ d * (8 * k + 80) ∧ d * (8 * k + 80) ≤ 67200 :=
  ⟨Int.mul_nonneg (by omega) (by omega), by have := Int.mul_le_mul h2 (show 8 * k + 80 ≤ 1680 by omega) (by omega) (by omega); omega⟩
set_option maxHeartbeats 1000000 in
theorem enough6_bad (d k p : Int) (w : World) (h : d < 1 ∨ 40 < d ∨ k < 1 ∨ 200 < k ∨ p < 0 ∨ 512 < p) : Calls Tryz.prog 6 #[.int .i64 d, .int .i64 k, .int .i64 p] w fun e w' => e = .returned (.int .i64 0) ∧ w' = w := by
  by_cases h1 : d < 1
  · clear h
    go_enter Tryz.func6, Tryz.ntmps6
    go_wp2
    go_ret
    exact ⟨rfl, rfl⟩
  · skip
    by_cases h2 : 40 < d
    · clear h
      go_enter Tryz.func6, Tryz.ntmps6
      go_wp2
      go_ret
      exact ⟨rfl, rfl⟩
    · skip
      by_cases h3 : k < 1
      · clear h
        go_enter Tryz.func6, Tryz.ntmps6
        go_wp2
        go_ret
        exact ⟨rfl, rfl⟩
      · skip
        by_cases h4 : 200 < k
        · clear h
          go_enter Tryz.func6, Tryz.ntmps6
          go_wp2
          go_ret
          exact ⟨rfl, rfl⟩
        · skip
          by_cases h5 : p < 0
          · clear h
            go_enter Tryz.func6, Tryz.ntmps6
            go_wp2
            go_ret
            exact ⟨rfl, rfl⟩
          · skip
            have h6 : 512 < p := by omega
            clear h
            go_enter Tryz.func6, Tryz.ntmps6
            go_wp2
            go_ret
            exact ⟨rfl, rfl⟩
set_option maxHeartbeats 1000000 in
theorem enough6_good (d k p : Int) (w : World) (h1 : ¬ d < 1) (h2 : ¬ 40 < d) (h3 : ¬ k < 1) (h4 : ¬ 200 < k) (h5 : ¬ p < 0) (h6 : ¬ 512 < p) (x : Int) (hx : d * (8 * k + 80) = x) (hx0 : 0 ≤ x) (hx1 : x ≤ 67200) :
    Calls Tryz.prog 6 #[.int .i64 d, .int .i64 k, .int .i64 p] w fun e w' => e = .returned (.int .i64 (2 * (p + 16 + x))) ∧ w' = w := by
  go_enter Tryz.func6, Tryz.ntmps6
  go_wp2
  go_ret
  exact ⟨rfl, rfl⟩
theorem enough6 (d k p : Int) (w : World) : Calls Tryz.prog 6 #[.int .i64 d, .int .i64 k, .int .i64 p] w fun e w' => e = .returned (.int .i64 (enough d k p)) ∧ w' = w := by
  by_cases h : d < 1 ∨ 40 < d ∨ k < 1 ∨ 200 < k ∨ p < 0 ∨ 512 < p
  · rw [enough, if_pos h]; exact enough6_bad d k p w h
  · rw [enough, if_neg h]
    obtain ⟨h0, h1⟩ := prod_in (d := d) (k := k) (by omega) (by omega) (by omega) (by omega)
    exact enough6_good d k p w (by omega) (by omega) (by omega) (by omega) (by omega) (by omega) _ rfl h0 h1
set_option maxHeartbeats 1000000 in
theorem enough7_bad (d k p : Int) (w : World) (h : d < 1 ∨ 40 < d ∨ k < 1 ∨ 200 < k ∨ p < 0 ∨ 512 < p) : Calls Tryz.prog 7 #[.int .i64 d, .int .i64 k, .int .i64 p] w fun e w' => e = .returned (.int .i64 0) ∧ w' = w := by
  by_cases h1 : d < 1
  · clear h
    go_enter Tryz.func7, Tryz.ntmps7
    go_wp2
    go_ret
    exact ⟨rfl, rfl⟩
  · skip
    by_cases h2 : 40 < d
    · clear h
      go_enter Tryz.func7, Tryz.ntmps7
      go_wp2
      go_ret
      exact ⟨rfl, rfl⟩
    · skip
      by_cases h3 : k < 1
      · clear h
        go_enter Tryz.func7, Tryz.ntmps7
        go_wp2
        go_ret
        exact ⟨rfl, rfl⟩
      · skip
        by_cases h4 : 200 < k
        · clear h
          go_enter Tryz.func7, Tryz.ntmps7
          go_wp2
          go_ret
          exact ⟨rfl, rfl⟩
        · skip
          by_cases h5 : p < 0
          · clear h
            go_enter Tryz.func7, Tryz.ntmps7
            go_wp2
            go_ret
            exact ⟨rfl, rfl⟩
          · skip
            have h6 : 512 < p := by omega
            clear h
            go_enter Tryz.func7, Tryz.ntmps7
            go_wp2
            go_ret
            exact ⟨rfl, rfl⟩
set_option maxHeartbeats 1000000 in
theorem enough7_good (d k p : Int) (w : World) (h1 : ¬ d < 1) (h2 : ¬ 40 < d) (h3 : ¬ k < 1) (h4 : ¬ 200 < k) (h5 : ¬ p < 0) (h6 : ¬ 512 < p) (x : Int) (hx : d * (8 * k + 80) = x) (hx0 : 0 ≤ x) (hx1 : x ≤ 67200) :
    Calls Tryz.prog 7 #[.int .i64 d, .int .i64 k, .int .i64 p] w fun e w' => e = .returned (.int .i64 (2 * (p + 16 + x))) ∧ w' = w := by
  go_enter Tryz.func7, Tryz.ntmps7
  go_wp2
  go_ret
  exact ⟨rfl, rfl⟩
theorem enough7 (d k p : Int) (w : World) : Calls Tryz.prog 7 #[.int .i64 d, .int .i64 k, .int .i64 p] w fun e w' => e = .returned (.int .i64 (enough d k p)) ∧ w' = w := by
  by_cases h : d < 1 ∨ 40 < d ∨ k < 1 ∨ 200 < k ∨ p < 0 ∨ 512 < p
  · rw [enough, if_pos h]; exact enough7_bad d k p w h
  · rw [enough, if_neg h]
    obtain ⟨h0, h1⟩ := prod_in (d := d) (k := k) (by omega) (by omega) (by omega) (by omega)
    exact enough7_good d k p w (by omega) (by omega) (by omega) (by omega) (by omega) (by omega) _ rfl h0 h1
end Go.Proofs.YtlijkiecbdbnpaaGreatDoor
