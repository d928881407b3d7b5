/-
  Walks of the small functions: order, Light, Mod, isLetter, isDigit, inWord, Word (of the lexer and of the reference).
-/
import Derived.Test.YtalmfmijjbpnpaaRows
import Derived.WalkKit
import Derived.WalkSpells
import Derived.WalkLawsBesides
import Derived.BigQuiet
import Derived.Lib.Hide
namespace Go.Proofs.Ytalmfmijjbpnpaa
open Go.RowKit

/-- The call returns v, and nothing but the count of draws has moved. -/
def Same (v : Value) (w : World) (e : Ending) (w' : World) : Prop := e = .returned v ∧ ∃ n, w' = w.drewN n

/-- The call returns v, and nothing at all has moved. -/
def Pure0 (v : Value) (w : World) (e : Ending) (w' : World) : Prop := e = .returned v ∧ w = w'

theorem pure_mk {v v' : Value} {w : World} (h : v' = v) : Pure0 v w (.returned v') w := ⟨by rw [h], rfl⟩
theorem pure_bool {b b' : Bool} {w : World} (h : b' = b) : Pure0 (.bool b) w (.returned (.bool b')) w := pure_mk (by rw [h])
theorem pure_int {k : IntKind} {b b' : Int} {w : World} (h : b' = b) : Pure0 (.int k b) w (.returned (.int k b')) w := pure_mk (by rw [h])
theorem same_mk {v v' : Value} {w : World} (h : v' = v) : Same v w (.returned v') w := ⟨by rw [h], 0, rfl⟩
theorem same_bool {b b' : Bool} {w : World} (h : b' = b) : Same (.bool b) w (.returned (.bool b')) w := same_mk (by rw [h])
theorem same_int {k : IntKind} {b b' : Int} {w : World} (h : b' = b) : Same (.int k b) w (.returned (.int k b')) w := same_mk (by rw [h])
theorem same_drew {v v' : Value} {w : World} {n : Nat} (h : v' = v) : Same v w (.returned v') (w.drewN n) := ⟨by rw [h], n, rfl⟩

def isLetB (c : UInt8) : Bool := (97 ≤ c && c ≤ 122) || (65 ≤ c && c ≤ 90)
def isDigB (c : UInt8) : Bool := 48 ≤ c && c ≤ 57
def inWordB (c : UInt8) : Bool := isLetB c || isDigB c || c == 95

set_option maxHeartbeats 400000 in
theorem isLetter_any (c : UInt8) (w : World) :
    Calls Try.prog 87 #[.int .u8 c.toNat] w (Pure0 (.bool (isLetB c)) w) := by
  go_enter Try.func87, Try.ntmps87
  go_wp2
  all_goals go_ret
  all_goals
    refine pure_bool ?_
    rw [Bool.eq_iff_iff]; simp [isLetB, UInt8.le_iff_toNat_le]; omega

set_option maxHeartbeats 400000 in
theorem isDigit_any (c : UInt8) (w : World) :
    Calls Try.prog 93 #[.int .u8 c.toNat] w (Pure0 (.bool (isDigB c)) w) := by
  go_enter Try.func93, Try.ntmps93
  go_wp2
  all_goals go_ret
  all_goals
    refine pure_bool ?_
    rw [Bool.eq_iff_iff]; simp [isDigB, UInt8.le_iff_toNat_le]; omega

set_option maxHeartbeats 400000 in
theorem letter_any (c : UInt8) (w : World) :
    Calls Try.prog 90 #[.int .u8 c.toNat] w (Pure0 (.bool (isLetB c)) w) := by
  go_enter Try.func90, Try.ntmps90
  go_wp2
  all_goals go_ret
  all_goals
    refine pure_bool ?_
    rw [Bool.eq_iff_iff]; simp [isLetB, UInt8.le_iff_toNat_le]; omega

set_option maxHeartbeats 400000 in
theorem digit_any (c : UInt8) (w : World) :
    Calls Try.prog 91 #[.int .u8 c.toNat] w (Pure0 (.bool (isDigB c)) w) := by
  go_enter Try.func91, Try.ntmps91
  go_wp2
  all_goals go_ret
  all_goals
    refine pure_bool ?_
    rw [Bool.eq_iff_iff]; simp [isDigB, UInt8.le_iff_toNat_le]; omega

set_option maxHeartbeats 400000 in
theorem inWord_any (c : UInt8) (w : World) :
    Calls Try.prog 88 #[.int .u8 c.toNat] w (Pure0 (.bool (inWordB c)) w) := by
  cases hl : isLetB c <;> cases hd : isDigB c
  all_goals
    have H : inWordB c = (isLetB c || isDigB c || c == 95) := rfl
    rw [hl, hd] at H
    have H' := Lib.hid H
    clear H
    have HL := Lib.hid hl
    have HD := Lib.hid hd
    clear hl hd
    go_enter Try.func88, Try.ntmps88
    go_wp2_with fail
    refine (isLetter_any _ _).mono ?_
    rintro e w' ⟨rfl, rfl⟩
    rw [HL.out]
    go_wp2_with (go_at_call 93; refine (isDigit_any _ _).mono ?_; rintro e w' ⟨rfl, rfl⟩; rw [HD.out])
    all_goals go_ret
    all_goals refine pure_mk ?_
    all_goals rw [H'.out]
    all_goals refine congrArg Value.bool ?_
    all_goals (rw [Bool.eq_iff_iff]; simp [← UInt8.toNat_inj]; try omega)

def ordI (a b : ByteArray) : Int := if Op.bytesLess a.toList b.toList then -1 else if a.toList = b.toList then 0 else 1

set_option maxHeartbeats 400000 in
theorem order_any (a b : ByteArray) (w : World) :
    Calls Try.prog 65 #[.string a, .string b] w (Pure0 (.int .i64 (ordI a b)) w) := by
  go_enter Try.func65, Try.ntmps65
  go_wp2
  all_goals go_ret
  all_goals
    refine pure_int ?_
  all_goals simp_all [ordI]

theorem tmod_cases (v n : Int) (hn : 1 ≤ n) : (v % n = v.tmod n ∧ 0 ≤ v.tmod n) ∨ (v % n = v.tmod n + n ∧ v.tmod n < 0 ∧ -n < v.tmod n) := by
  have hm0 := Int.emod_nonneg v (b := n) (by omega)
  have hm1 := Int.emod_lt_of_pos v (b := n) (by omega)
  rcases Int.le_total 0 v with h | h
  · exact .inl ⟨(Int.tmod_eq_emod_of_nonneg h).symm, by rw [Int.tmod_eq_emod_of_nonneg h]; exact hm0⟩
  · have e : v.tmod n = -((-v) % n) := by
      have := Int.neg_tmod v n
      rw [Int.tmod_eq_emod_of_nonneg (a := -v) (by omega)] at this
      omega
    have hk0 := Int.emod_nonneg (-v) (b := n) (by omega)
    have hk1 := Int.emod_lt_of_pos (-v) (b := n) (by omega)
    have hd := Int.emod_add_mul_ediv (-v) n
    by_cases hz : (-v) % n = 0
    · left
      have : v % n = 0 := by
        have h1 : n ∣ -v := Int.dvd_of_emod_eq_zero hz
        exact Int.emod_eq_zero_of_dvd ((Int.dvd_neg).1 h1)
      rw [e, hz, this]; simp
    · right
      have : v % n = n - (-v) % n := by
        have h2 : v = (n - (-v) % n) + n * (-((-v) / n) - 1) := by
          have := Int.mul_sub n (-((-v) / n)) 1
          have h3 := Int.mul_neg n ((-v) / n)
          omega
        have h4 := Int.add_mul_emod_self_left (n - (-v) % n) n (-((-v) / n) - 1)
        rw [← h2] at h4
        rw [h4]
        exact Int.emod_eq_of_lt (by omega) (by omega)
      omega

theorem mod_neg (v n : Int) (hn : 1 ≤ n) (hn' : n ≤ 9223372036854775807) (_hv : -9223372036854775808 ≤ v) (h : v.tmod n < 0) : wrap64 (v.tmod n + n) = v % n := by
  rcases tmod_cases v n hn with ⟨_, h2⟩ | ⟨h1, _, h3⟩
  · omega
  · rw [h1]; exact IntWalk.wrap64_in _ ⟨by omega, by omega⟩

theorem mod_pos (v n : Int) (hn : 1 ≤ n) (h : 0 ≤ v.tmod n) : v.tmod n = v % n := by
  rcases tmod_cases v n hn with ⟨h1, _⟩ | ⟨_, h2, _⟩
  · exact h1.symm
  · omega

set_option maxHeartbeats 400000 in
theorem mod_any (v n : Int) (hn : 1 ≤ n) (hn' : n ≤ 9223372036854775807) (hv : -9223372036854775808 ≤ v) (_hv' : v ≤ 9223372036854775807) (w : World) :
    Calls Try.prog 12 #[.int .i64 v, .int .i64 n] w (Pure0 (.int .i64 (v % n)) w) := by
  go_enter Try.func12, Try.ntmps12
  go_wp2
  all_goals go_ret
  all_goals refine pure_int ?_
  · rename_i h
    exact mod_neg v n hn hn' hv h
  · rename_i h
    exact mod_pos v n hn h

set_option maxHeartbeats 400000 in
theorem light_any (a : Option Addr) (n c : Nat) (w : World) (hn : n ≤ 9223372036854775807) :
    Calls Try.prog 9 #[.slice a n c] w (Pure0 (.bool (decide (n ≤ 120))) w) := by
  go_enter Try.func9, Try.ntmps9
  go_wp2
  go_ret
  refine pure_bool ?_
  rw [Bool.eq_iff_iff]; simp; try omega

end Go.Proofs.Ytalmfmijjbpnpaa
