/-
  Walks of Word (of the lexer and of the reference).
-/
import Derived.Test.YtalmfmijjbpnpaaA
namespace Go.Proofs.Ytalmfmijjbpnpaa
open Go.RowKit

def wordL : List UInt8 → Bool
  | [] => false
  | c :: l => decide (l.length ≤ 23) && isLetB c && l.all inWordB

def wordB (s : ByteArray) : Bool := wordL s.data.toList

theorem inWord_of_letter {c : UInt8} (h : isLetB c = true) : inWordB c = true := by simp [inWordB, h]

theorem size_len (s : ByteArray) : s.data.toList.length = s.size := by rw [Array.length_toList]; exact ByteArray.size_data
theorem get_list (s : ByteArray) (k : Nat) (h : k < s.size) : s.data.toList[k]? = some s[k] := by
  rw [List.getElem?_eq_getElem (by rw [size_len]; exact h)]; rfl

theorem wordB_false {s : ByteArray} (h : 24 < s.size ∨ (∃ h0 : 0 < s.size, isLetB s[0] = false) ∨ ∃ k, ∃ h : k < s.size, inWordB s[k] = false) : wordB s = false := by
  unfold wordB
  have e := size_len s
  have g := get_list s
  generalize s.data.toList = l at e g
  cases l with
  | nil => rfl
  | cons c l =>
    rw [Bool.eq_false_iff]
    intro hw
    simp only [wordL, Bool.and_eq_true, decide_eq_true_eq, List.all_eq_true] at hw
    obtain ⟨⟨h1, h2⟩, h3⟩ := hw
    simp only [List.length_cons] at e
    rcases h with h | ⟨h0, h⟩ | ⟨k, hk, h⟩
    · omega
    · have := g 0 h0
      simp at this
      rw [← this, h2] at h
      cases h
    · have := g k hk
      cases k with
      | zero => simp at this; rw [← this, inWord_of_letter h2] at h; cases h
      | succ k =>
        simp only [List.getElem?_cons_succ] at this
        rw [h3 _ (List.mem_of_getElem? this)] at h
        cases h

theorem wordB_true {s : ByteArray} (h1 : s.size ≤ 24) (h0 : 0 < s.size) (h2 : isLetB s[0] = true) (h3 : ∀ k, ∀ h : k < s.size, inWordB s[k] = true) : wordB s = true := by
  unfold wordB
  have e := size_len s
  have g := get_list s
  generalize s.data.toList = l at e g
  cases l with
  | nil => simp at e; omega
  | cons c l =>
    simp only [List.length_cons] at e
    simp only [wordL, Bool.and_eq_true, decide_eq_true_eq, List.all_eq_true]
    refine ⟨⟨by omega, ?_⟩, ?_⟩
    · have := g 0 h0
      simp at this
      rw [this]; exact h2
    · intro x hx
      obtain ⟨k, hk, rfl⟩ := List.getElem_of_mem hx
      have := g (k + 1) (by omega)
      simp only [List.getElem?_cons_succ, List.getElem?_eq_getElem hk, Option.some.injEq] at this
      rw [this]; exact h3 _ _

theorem nonempty_of (s : ByteArray) (h : ¬ s.size = 0) : s.toList.isEmpty = false := by
  rw [Bool.eq_false_iff]
  intro hh
  rw [List.isEmpty_iff] at hh
  apply h
  have : s.toList.length = 0 := by rw [hh]; rfl
  rw [ByteArray.toList_eq s] at this
  rw [← size_len]; exact this

set_option maxHeartbeats 400000 in
theorem lexWord_any (s : ByteArray) (hs : s.size ≤ maxLen) (w : World) :
    Calls Try.prog 68 #[.string s] w (Pure0 (.bool (wordB s)) w) := by
  unfold maxLen at hs
  by_cases h0 : s.size = 0
  · obtain ⟨⟨l⟩⟩ := s
    have hl : l = [] := List.eq_nil_of_length_eq_zero h0
    subst hl
    go_enter Try.func68, Try.ntmps68
    go_wp2
    all_goals go_ret
    all_goals exact pure_bool rfl
  · have hne := nonempty_of s h0
    by_cases h1 : 24 < s.size
    · go_enter Try.func68, Try.ntmps68
      go_wp2
      all_goals go_ret
      all_goals exact pure_bool (wordB_false (.inl h1)).symm
    · cases hl : isLetB s[0]
      · have HL := Lib.hid hl
        clear hl
        go_enter Try.func68, Try.ntmps68
        go_wp2_with (go_at_call 87; refine (isLetter_any _ _).mono ?_; rintro e w' ⟨rfl, rfl⟩; rw [HL.out])
        all_goals go_ret
        all_goals exact pure_bool (wordB_false (.inr (.inl ⟨by omega, HL.out⟩))).symm
      · have HL := Lib.hid hl
        clear hl
        have hd24 : decide (24 < (s.size : Int)) = false := by simp; omega
        go_enter Try.func68, Try.ntmps68
        go_wp2_with (go_at_call 87; refine (isLetter_any _ _).mono ?_; rintro e w' ⟨rfl, rfl⟩; rw [HL.out])
        go_loop [19] (fun i => ∃ k : Nat, k ≤ s.size ∧ i = .int .i64 k ∧ ∀ j, ∀ h : j < s.size, j < k → inWordB s[j] = true) (fun i => s.size - (intOf i).toNat)
        case atStart => exact ⟨0, Nat.zero_le _, rfl, fun j _ h => absurd h (Nat.not_lt_zero _)⟩
        case round =>
          obtain ⟨k, hk, rfl, hall⟩ := hrel
          have HA := Lib.hid hall
          clear hall
          by_cases hlt : k < s.size
          · cases hw : inWordB s[k]
            · have HW := Lib.hid hw
              clear hw
              go_wp2_with (go_at_call 88; refine (inWord_any _ _).mono ?_; rintro e w' ⟨rfl, rfl⟩; rw [HW.out])
              go_ret
              exact pure_bool (wordB_false (.inr (.inr ⟨k, hlt, HW.out⟩))).symm
            · have HW := Lib.hid hw
              clear hw
              go_wp2_with (go_at_call 88; refine (inWord_any _ _).mono ?_; rintro e w' ⟨rfl, rfl⟩; rw [HW.out])
              go_round
              case rel =>
                refine ⟨k + 1, by omega, by go_num, fun j h hj => ?_⟩
                by_cases e : j = k
                · subst e; exact HW.out
                · exact HA.out j h (by omega)
              case measure => simp [intOf]; omega
          · go_wp2
            go_ret
            exact pure_bool (wordB_true (by omega) (by omega) HL.out (fun j h => HA.out j h (by omega))).symm

end Go.Proofs.Ytalmfmijjbpnpaa
