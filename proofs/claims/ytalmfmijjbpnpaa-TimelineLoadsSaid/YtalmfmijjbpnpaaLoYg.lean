/-
  Two timelines of the call's own, the program's and the reference's, from operation to operation. No walk stands here.
-/
import Derived.Test.YtalmfmijjbpnpaaLoYf
namespace Go.Proofs.Ytalmfmijjbpnpaa
open Go.RowKit

/-- At t a timeline of the program that holds H, at u one of the reference that holds K, apart; what was there when the call began (in W0) is as it was; the blocks of D are as they were in Wd. -/
def Tw (W0 : World) (D : Nat → Prop) (Wd : World) (t u : Nat) (H K : Hist) (w : World) : Prop :=
  WF H ∧ WF K ∧ ∃ m m', Rep w 67 t H m ∧ Rep w 56 u K m' ∧ (∀ k, m.owns t k → W0.heap.size ≤ k ∧ ¬ D k ∧ ¬ m'.owns u k) ∧ (∀ k, m'.owns u k → W0.heap.size ≤ k ∧ ¬ D k) ∧
    Below W0.heap.size W0 w ∧ (∀ k, D k → k < Wd.heap.size ∧ w.heap[k]? = Wd.heap[k]?) ∧ Wd.heap.size ≤ w.heap.size

section
variable {W0 Wd w : World} {D : Nat → Prop} {t u : Nat} {H H' K K' : Hist} {v : Value} {f : Nat} {args : Array Value}

/-- The call returns v and leaves such timelines. -/
def TwR (v : Value) (W0 : World) (D : Nat → Prop) (Wd : World) (t u : Nat) (H K : Hist) (e : Ending) (w' : World) : Prop := e = .returned v ∧ Tw W0 D Wd t u H K w'

theorem Tw.below_of (h : Tw W0 D Wd t u H K w) : Below W0.heap.size W0 w := by obtain ⟨_, _, _, _, _, _, _, _, h, _⟩ := h; exact h
theorem Tw.kept (h : Tw W0 D Wd t u H K w) {k : Nat} (hk : D k) : w.heap[k]? = Wd.heap[k]? := by obtain ⟨_, _, _, _, _, _, _, _, _, h, _⟩ := h; exact (h k hk).2
theorem Tw.later {w' : World} (h : Tw W0 D Wd t u H K w) (hb : Below w.heap.size w w') : Tw W0 D Wd t u H K w' := by
  obtain ⟨hw, hw', m, m', hr, hr', ho, ho', hB, hD, hs⟩ := h
  exact ⟨hw, hw', m, m', hr.below hb, hr'.below hb, ho, ho', hB.trans (hb.mono hB.size), fun k hk => ⟨(hD k hk).1, (hb.block k (by have := (hD k hk).1; omega)).trans (hD k hk).2⟩, Nat.le_trans hs hb.size⟩
/-- Other blocks may be watched from now on, if they are new and none of the timelines'. -/
theorem Tw.watch (h : Tw W0 D Wd t u H K w) {w' : World} (hb : Below w.heap.size w w') (D' : Nat → Prop) (hD' : ∀ k, D' k → w.heap.size ≤ k ∧ k < w'.heap.size) : Tw W0 D' w' t u H K w' := by
  obtain ⟨hw, hw', m, m', hr, hr', ho, ho', hB, hD, hs⟩ := h
  exact ⟨hw, hw', m, m', hr.below hb, hr'.below hb, fun k hk => ⟨(ho k hk).1, fun hd => by have := hr.lt hk; have := (hD' k hd).1; omega, (ho k hk).2.2⟩,
    fun k hk => ⟨(ho' k hk).1, fun hd => by have := hr'.lt hk; have := (hD' k hd).1; omega⟩, hB.trans (hb.mono hB.size), fun k hk => ⟨(hD' k hk).2, rfl⟩, Nat.le_refl _⟩

theorem tw_left (h : Tw W0 D Wd t u H K w) (hw' : WF H') (hc : ∀ m, Rep w 67 t H m → Calls Try.prog f args w (Mut v H' 67 t m w)) : Calls Try.prog f args w (TwR v W0 D Wd t u H' K) := by
  obtain ⟨hw, hwK, m, m', hr, hr', ho, ho', hB, hD, hs⟩ := h
  refine (hc m hr).mono ?_
  rintro e w' ⟨rfl, m1, hr1, hf, ho1⟩
  have hsz := hB.size
  refine ⟨rfl, hw', hwK, m1, m', hr1, hr'.frame hf (fun k hk hk' => (ho k hk').2.2 hk), fun k hk => ?_, ho', ?_, fun k hk => ?_, Nat.le_trans hs hf.size⟩
  · rcases ho1 k hk with h | h
    · exact ho k h
    · exact ⟨by omega, fun hd => by have := (hD k hd).1; omega, fun hq => by have := hr'.lt hq; omega⟩
  · exact hB.trans (hf.below_of (fun k hk hS => by have := (ho k hS).1; omega) hsz)
  · have := (hD k hk).1
    exact ⟨this, (hf.block k (by omega) (fun hS => (ho k hS).2.1 hk)).trans (hD k hk).2⟩

theorem tw_right (h : Tw W0 D Wd t u H K w) (hw' : WF K') (hc : ∀ m, Rep w 56 u K m → Calls Try.prog f args w (Mut v K' 56 u m w)) : Calls Try.prog f args w (TwR v W0 D Wd t u H K') := by
  obtain ⟨hw, hwK, m, m', hr, hr', ho, ho', hB, hD, hs⟩ := h
  refine (hc m' hr').mono ?_
  rintro e w' ⟨rfl, m1, hr1, hf, ho1⟩
  have hsz := hB.size
  refine ⟨rfl, hw, hw', m, m1, hr.frame hf (fun k hk hk' => (ho k hk).2.2 hk'), hr1, fun k hk => ⟨(ho k hk).1, (ho k hk).2.1, fun hq => ?_⟩, fun k hk => ?_, ?_, fun k hk => ?_, Nat.le_trans hs hf.size⟩
  · rcases ho1 k hq with h | h
    · exact (ho k hk).2.2 h
    · have := hr.lt hk; omega
  · rcases ho1 k hk with h | h
    · exact ho' k h
    · exact ⟨by omega, fun hd => by have := (hD k hd).1; omega⟩
  · exact hB.trans (hf.below_of (fun k hk hS => by have := (ho' k hS).1; omega) hsz)
  · have := (hD k hk).1
    exact ⟨this, (hf.block k (by omega) (fun hS => (ho' k hS).2 hk)).trans (hD k hk).2⟩

theorem tw_quietL (h : Tw W0 D Wd t u H K w) (hc : ∀ m, Rep w 67 t H m → Calls Try.prog f args w (Quiet v w)) : Calls Try.prog f args w (TwR v W0 D Wd t u H K) := by
  obtain ⟨hw, hwK, m, m', hr, hr', ho⟩ := h
  refine (hc m hr).mono ?_
  rintro e w' ⟨rfl, hb⟩
  exact ⟨rfl, Tw.later ⟨hw, hwK, m, m', hr, hr', ho⟩ hb⟩
theorem tw_quietR (h : Tw W0 D Wd t u H K w) (hc : ∀ m, Rep w 56 u K m → Calls Try.prog f args w (Quiet v w)) : Calls Try.prog f args w (TwR v W0 D Wd t u H K) := by
  obtain ⟨hw, hwK, m, m', hr, hr', ho⟩ := h
  refine (hc m' hr').mono ?_
  rintro e w' ⟨rfl, hb⟩
  exact ⟨rfl, Tw.later ⟨hw, hwK, m, m', hr, hr', ho⟩ hb⟩
/-- A timeline of the program that was made anew takes the place of the old one. -/
theorem tw_made (h : Tw W0 D Wd t u H K w) (hw1 : WF H') (hc : ∀ m, Rep w 67 t H m → Calls Try.prog f args w (Made 67 H' w)) :
    Calls Try.prog f args w fun e w' => ∃ t', TwR (.pointer (some ⟨t', 0, none⟩)) W0 D Wd t' u H' K e w' := by
  obtain ⟨hw, hwK, m, m', hr, hr', ho, ho', hB, hD, hs⟩ := h
  refine (hc m hr).mono ?_
  rintro e w' ⟨t1, m1, rfl, hr1, ho1, hb⟩
  have hsz := hB.size
  refine ⟨t1, rfl, hw1, hwK, m1, m', hr1, hr'.below hb, fun k hk => ⟨by have := ho1 k hk; omega, fun hd => by have := ho1 k hk; have := (hD k hd).1; omega, fun hq => by have := ho1 k hk; have := hr'.lt hq; omega⟩, ho', hB.trans (hb.mono hsz),
    fun k hk => ⟨(hD k hk).1, (hb.block k (by have := (hD k hk).1; omega)).trans (hD k hk).2⟩, Nat.le_trans hs hb.size⟩
/-- Two new timelines. -/
theorem tw_new {w1 w2 : World} {m m' : View} (hw : WF H) (hb : Below W0.heap.size W0 w) (hr : Rep w1 67 t H m) (ho : ∀ k, m.owns t k → w.heap.size ≤ k) (hb1 : Below w.heap.size w w1)
    (hr' : Rep w2 56 u H m') (ho' : ∀ k, m'.owns u k → w1.heap.size ≤ k) (hb2 : Below w1.heap.size w1 w2) : Tw W0 (fun _ => False) W0 t u H H w2 := by
  have h0 := hb.size
  have h1 := hb1.size
  have h2 := hb2.size
  exact ⟨hw, hw, m, m', hr.below hb2, hr', fun k hk => ⟨by have := ho k hk; omega, fun e => e, fun hq => by have := hr.lt hk; have := ho' k hq; omega⟩, fun k hk => ⟨by have := ho' k hk; omega, fun e => e⟩,
    (hb.trans (hb1.mono h0)).trans (hb2.mono (by omega)), fun k hk => hk.elim, by omega⟩
end

end Go.Proofs.Ytalmfmijjbpnpaa
