/-
  One round of the law: the two ladders for the same precision and fuel are found equal.
-/
import Derived.Test.YtendmajekgmkhaaGreatDoorLd
namespace Go.Proofs.YtendmajekgmkhaaGreatDoor
open Go Go.RowKit
/-- The number of rungs is one. -/
theorem lad_one {p f : Int} {k k' : Nat} (_hok : okLad p f) (h : (∀ j, j < k → 2 ^ j * (p + 8) ≤ f) ∧ f < 2 ^ k * (p + 8)) (h' : (∀ j, j < k' → 2 ^ j * (p + 8) ≤ f) ∧ f < 2 ^ k' * (p + 8)) : k = k' := by
  rcases Nat.lt_trichotomy k k' with h1 | h1 | h1
  · have := h'.1 k h1; have := h.2; omega
  · exact h1
  · have := h.1 k' h1; have := h'.2; omega
theorem lad_len {p f : Int} {k : Nat} (h : okLad p f → (∀ j, j < k → 2 ^ j * (p + 8) ≤ f) ∧ f < 2 ^ k * (p + 8)) (h0 : ¬ okLad p f → k = 0) : k ≤ 20 := by
  by_cases hok : okLad p f
  · rcases Nat.lt_or_ge k 21 with h1 | h1
    · omega
    · have h2 := (h hok).1 20 (by omega)
      have := hok.1
      have := hok.2.2.2
      omega
  · have := h0 hok; omega
theorem lad_same {p f : Int} {k k' : Nat} (h : okLad p f → (∀ j, j < k → 2 ^ j * (p + 8) ≤ f) ∧ f < 2 ^ k * (p + 8)) (h0 : ¬ okLad p f → k = 0)
    (h' : okLad p f → (∀ j, j < k' → 2 ^ j * (p + 8) ≤ f) ∧ f < 2 ^ k' * (p + 8)) (h0' : ¬ okLad p f → k' = 0) : k = k' := by
  by_cases hok : okLad p f
  · exact lad_one hok (h hok) (h' hok)
  · rw [h0 hok, h0' hok]
theorem ownsRow_form {w : World} {base : Nat} {v : Value} {n : Nat} {xs : List Value} (h : w.ownsRow base 3 1 v n xs) : ∃ a c, v = .slice a n c := by
  rcases h.2 with ⟨rfl, rfl⟩ | ⟨g, cap, cur, rfl, _⟩
  · exact ⟨_, _, rfl⟩
  · exact ⟨_, _, rfl⟩
theorem ownsRow_later {w w' : World} {base : Nat} {v : Value} {n : Nat} {xs : List Value} (h : w.ownsRow base 3 1 v n xs) (hb : Below w.heap.size w w') : w'.ownsRow base 3 1 v n xs := by
  obtain ⟨hl, h | ⟨g, cap, cur, rfl, h1, h2, h3⟩⟩ := h
  · exact ⟨hl, .inl h⟩
  · exact ⟨hl, .inr ⟨g, cap, cur, rfl, h1, by rw [hb.block g (Array.getElem?_eq_some_iff.1 h2).1]; exact h2, h3⟩⟩
theorem ownsRow_base {w : World} {base base' : Nat} {v : Value} {n : Nat} {xs : List Value} (h : w.ownsRow base 3 1 v n xs) (hb : base' ≤ base) : w.ownsRow base' 3 1 v n xs := by
  obtain ⟨hl, h | ⟨g, cap, cur, rfl, h1, h2⟩⟩ := h
  · exact ⟨hl, .inl h⟩
  · exact ⟨hl, .inr ⟨g, cap, cur, rfl, by omega, h2⟩⟩
end Go.Proofs.YtendmajekgmkhaaGreatDoor
