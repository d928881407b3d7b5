/-
  Walks of word, Word and known of the reference.
-/
import Derived.Test.YtalmfmijjbpnpaaLoDEF
namespace Go.Proofs.Ytalmfmijjbpnpaa
open Go.RowKit

/-- The byte may stand there. -/
def okAt (s : ByteArray) (j : Nat) (h : j < s.size) : Bool := isLetB s[j] || (decide (0 < j) && (isDigB s[j] || s[j] == 95))

theorem okAt_in {s : ByteArray} {j : Nat} {h : j < s.size} (ho : okAt s j h = true) : inWordB s[j] = true := by
  unfold okAt at ho
  unfold inWordB
  revert ho
  cases isLetB s[j] <;> cases isDigB s[j] <;> cases s[j] == 95 <;> simp

theorem okAt_zero {s : ByteArray} {h : 0 < s.size} : okAt s 0 h = isLetB s[0] := by unfold okAt; simp
theorem okAt_pos {s : ByteArray} {j : Nat} {h : j < s.size} (h0 : 0 < j) : okAt s j h = inWordB s[j] := by
  unfold okAt inWordB
  simp [h0, Bool.or_assoc]

/-- What word returns. -/
def Word85 (s : ByteArray) (w : World) (e : Ending) (w' : World) : Prop :=
  ∃ i : Nat, i ≤ s.size ∧ e = .returned (.int .i64 i) ∧ w = w' ∧ (∀ j, ∀ h : j < s.size, j < i → okAt s j h = true) ∧ ∀ h : i < s.size, okAt s i h = false

set_option maxRecDepth 100000 in
set_option maxHeartbeats 1000000 in
theorem word85 (s : ByteArray) (hs : s.size ≤ maxLen) (w : World) : Calls Try.prog 85 #[.string s] w (Word85 s w) := by
  unfold maxLen at hs
  go_enter Try.func85, Try.ntmps85
  go_wp2_with fail
  go_loop [3] (fun i => ∃ k : Nat, k ≤ s.size ∧ i = .int .i64 k ∧ ∀ j, ∀ h : j < s.size, j < k → okAt s j h = true) (fun i => s.size - (intOf i).toNat)
  case atStart => exact ⟨0, Nat.zero_le _, rfl, fun j _ h => absurd h (Nat.not_lt_zero _)⟩
  case round =>
    obtain ⟨k, hk, rfl, hall⟩ := hrel
    have HA := Lib.hid hall
    clear hall
    by_cases hlt : k < s.size
    · have hlt' : (k : Int) < s.size := by omega
      cases ho : okAt s k hlt
      · have HO := Lib.hid ho
        have hl : isLetB s[k] = false := by revert ho; unfold okAt; cases isLetB s[k] <;> simp
        by_cases h0 : k = 0
        · have HL := Lib.hid hl
          subst h0
          clear hl ho
          go_wp2_with (go_at_call 90; refine (letter_any _ _).mono ?_; rintro e w' ⟨rfl, rfl⟩; rw [HL.out])
          all_goals
            go_ret
            exact ⟨0, by omega, rfl, rfl, HA.out, fun _ => HO.out⟩
        · have hd : isDigB s[k] = false := by revert ho; unfold okAt; cases isDigB s[k] <;> simp <;> omega
          have hu : (s[k] == 95) = false := by revert ho; unfold okAt; cases s[k] == 95 <;> simp <;> omega
          have hu' : ¬ s[k].toNat = 95 := by
            intro e
            rw [Bool.eq_false_iff] at hu
            apply hu
            rw [beq_iff_eq]
            exact UInt8.toNat_inj.1 e
          have HL := Lib.hid hl
          have HD := Lib.hid hd
          have hk0 : (0 : Int) < k := by omega
          have hu2 : ((s[k].toNat : Int) == 95) = false := by simp; omega
          clear hl ho hd hu
          go_wp2_with (first | (go_at_call 90; refine (letter_any _ _).mono ?_; rintro e w' ⟨rfl, rfl⟩; rw [HL.out]) | (go_at_call 91; refine (digit_any _ _).mono ?_; rintro e w' ⟨rfl, rfl⟩; rw [HD.out]))
          all_goals
            go_ret
            exact ⟨k, by omega, rfl, rfl, HA.out, fun _ => HO.out⟩
      · have HO := Lib.hid ho
        have hst : ∀ j, ∀ h : j < s.size, j < k + 1 → okAt s j h = true := fun j h hj => by
          by_cases e : j = k
          · subst e; exact ho
          · exact HA.out j h (by omega)
        have HS := Lib.hid hst
        clear hst
        cases hl : isLetB s[k]
        · have h0 : 0 < k := by
            rcases Nat.eq_zero_or_pos k with rfl | h
            · rw [okAt_zero, hl] at ho; cases ho
            · exact h
          have hk0 : (0 : Int) < k := by omega
          have HL := Lib.hid hl
          cases hd : isDigB s[k]
          · have hu : s[k].toNat = 95 := by
              rw [okAt_pos h0] at ho
              unfold inWordB at ho
              rw [hl, hd] at ho
              rw [show s[k] = 95 by simpa using ho]; rfl
            have hu2 : ((s[k].toNat : Int) == 95) = true := by rw [beq_iff_eq]; omega
            have HD := Lib.hid hd
            clear hl ho hd hu
            go_wp2_with (first | (go_at_call 90; refine (letter_any _ _).mono ?_; rintro e w' ⟨rfl, rfl⟩; rw [HL.out]) | (go_at_call 91; refine (digit_any _ _).mono ?_; rintro e w' ⟨rfl, rfl⟩; rw [HD.out]))
            all_goals
              go_round
              case rel => exact ⟨k + 1, by omega, by go_num, HS.out⟩
              case measure => simp [intOf]; omega
          · have HD := Lib.hid hd
            clear hl ho hd
            go_wp2_with (first | (go_at_call 90; refine (letter_any _ _).mono ?_; rintro e w' ⟨rfl, rfl⟩; rw [HL.out]) | (go_at_call 91; refine (digit_any _ _).mono ?_; rintro e w' ⟨rfl, rfl⟩; rw [HD.out]))
            all_goals
              go_round
              case rel => exact ⟨k + 1, by omega, by go_num, HS.out⟩
              case measure => simp [intOf]; omega
        · have HL := Lib.hid hl
          clear hl ho
          go_wp2_with (go_at_call 90; refine (letter_any _ _).mono ?_; rintro e w' ⟨rfl, rfl⟩; rw [HL.out])
          all_goals
            go_round
            case rel => exact ⟨k + 1, by omega, by go_num, HS.out⟩
            case measure => simp [intOf]; omega
    · obtain rfl : k = s.size := by omega
      go_wp2
      go_ret
      exact ⟨s.size, Nat.le_refl _, rfl, rfl, HA.out, fun h => absurd h (Nat.lt_irrefl _)⟩

set_option maxHeartbeats 1000000 in
theorem word62 (s : ByteArray) (hs : s.size ≤ maxLen) (w : World) : Calls Try.prog 62 #[.string s] w (Pure0 (.bool (wordB s)) w) := by
  by_cases h0 : s.size = 0
  · obtain ⟨⟨l⟩⟩ := s
    have hl : l = [] := List.eq_nil_of_length_eq_zero h0
    subst hl
    go_enter Try.func62, Try.ntmps62
    go_wp2
    all_goals go_ret
    all_goals exact pure_bool rfl
  · have hne := nonempty_of s h0
    by_cases h1 : 24 < s.size
    · go_enter Try.func62, Try.ntmps62
      go_wp2
      all_goals go_ret
      all_goals exact pure_bool (wordB_false (.inl h1)).symm
    · have HS := Lib.hid hs
      have hd24 : decide ((s.size : Int) ≤ 24) = true := by simp; omega
      clear hs
      go_enter Try.func62, Try.ntmps62
      go_wp2_with fail
      refine (word85 s HS.out _).mono ?_
      rintro e w' ⟨i, hi, rfl, rfl, hall, hno⟩
      have HA := Lib.hid hall
      have HN := Lib.hid hno
      clear hall hno
      go_wp2_with fail
      all_goals go_ret
      all_goals
        refine pure_bool ?_
        by_cases e : i = s.size
        · subst e
          rw [wordB_true (by omega) (by omega) (by rw [← okAt_zero]; exact HA.out 0 (by omega) (by omega)) (fun k h => okAt_in (HA.out k h h))]
          simp
        · have hlt : i < s.size := by omega
          have hn := HN.out hlt
          rw [wordB_false]
          · simp; omega
          · rcases Nat.eq_zero_or_pos i with rfl | hp
            · exact .inr (.inl ⟨hlt, by rw [← okAt_zero]; exact hn⟩)
            · exact .inr (.inr ⟨i, hlt, by rw [← okAt_pos hp]; exact hn⟩)

set_option maxHeartbeats 400000 in
theorem known80 (name : ByteArray) (ok : Bool) (hn : name.size ≤ maxLen) (w : World) : Calls Try.prog 80 #[.string name, .bool ok] w (Pure0 (.int .i64 (missE name ok)) w) := by
  cases hw : wordB name <;> cases ok
  all_goals
    have HW := Lib.hid hw
    clear hw
    go_enter Try.func80, Try.ntmps80
    go_wp2_with fail
    refine (word62 name hn _).mono ?_
    rintro e w' ⟨rfl, rfl⟩
    rw [HW.out]
    go_wp2_with fail
    go_ret
    refine pure_int ?_
    unfold missE
    rw [HW.out]
    rfl

end Go.Proofs.Ytalmfmijjbpnpaa
