/-
  sizes, in plain terms: what its two rows hold.
-/
import Derived.Test.YtfdaghhplijpeaaGreatDoorLmOxOy
namespace Go.Proofs.YtfdaghhplijpeaaGreatDoor
open Go Go.RowKit

/-- The sizes S and depths D of the first i nodes of l, all of which fit. -/
structure SzI (l : List Nd) (S D : List Int) (i : Nat) : Prop where
  ls : S.length = i
  ld : D.length = i
  s1 : ∀ j, j < i → 1 ≤ S.getD j 0 ∧ S.getD j 0 ≤ (j : Int) + 1
  d1 : ∀ j, j < i → 1 ≤ D.getD j 0 ∧ D.getD j 0 ≤ (j : Int) + 1
  fit : ∀ j, j < i → FitsN j (l.getD j nd0)
theorem getD_snoc {l : List Int} {x : Int} {j i : Nat} (hl : l.length = i) (hj : j < i + 1) : (l ++ [x]).getD j 0 = if j < i then l.getD j 0 else x := by
  rw [List.getD_eq_getElem?_getD, List.getElem?_append]
  by_cases h : j < i
  · rw [if_pos (by omega), if_pos h, List.getD_eq_getElem?_getD]
  · rw [if_neg (by omega), if_neg h, show j - l.length = 0 by omega]; rfl
theorem SzI.next {l : List Nd} {S D : List Int} {i : Nat} (h : SzI l S D i) {s d : Int} (hs : 1 ≤ s ∧ s ≤ (i : Int) + 1) (hd : 1 ≤ d ∧ d ≤ (i : Int) + 1) (hf : FitsN i (l.getD i nd0)) : SzI l (S ++ [s]) (D ++ [d]) (i + 1) where
  ls := by simp [h.ls]
  ld := by simp [h.ld]
  s1 := fun j hj => by
    rw [getD_snoc h.ls hj]
    split
    · exact h.s1 j (by assumption)
    · have : j = i := by omega
      subst this; exact hs
  d1 := fun j hj => by
    rw [getD_snoc h.ld hj]
    split
    · exact h.d1 j (by assumption)
    · have : j = i := by omega
      subst this; exact hd
  fit := fun j hj => by
    by_cases h0 : j < i
    · exact h.fit j h0
    · have : j = i := by omega
      subst this; exact hf
/-- The loop of sizes, i nodes gone through. -/
structure SzW (w wr : World) (sv dv : Value) (S D : List Int) (i : Nat) (l : List Nd) : Prop where
  srow : wr.ownsRow w.heap.size 3 1 sv S.length (ints S)
  drow : wr.ownsRow w.heap.size 3 1 dv D.length (ints D)
  apart : ∀ k, sv.ownBlock = some k → dv.ownBlock ≠ some k
  inv : SzI l S D i
  below : Below w.heap.size w wr
theorem SzW.later {w wr w' : World} {sv dv : Value} {S D : List Int} {i : Nat} {l : List Nd} (h : SzW w wr sv dv S D i l) (hb : Below wr.heap.size wr w') : SzW w w' sv dv S D i l :=
  ⟨own_frame h.srow (Fr.of_below (S := fun _ => False) hb) (fun _ _ e => e), own_frame h.drow (Fr.of_below (S := fun _ => False) hb) (fun _ _ e => e), h.apart, h.inv, h.below.trans (hb.mono h.below.size)⟩
/-- Behind the append to the sizes. -/
theorem SzW.half {w wr w9 : World} {sv dv : Value} {S D : List Int} {i g : Nat} {l : List Nd} {o : Obj} (h : SzW w wr sv dv S D i l) (f1 : Fr (fun k => sv.ownBlock = some k) (wr.alloc o) w9) (g1 : sv.ownBlock = some g ∨ (wr.alloc o).heap.size ≤ g) :
    w9.ownsRow w.heap.size 3 1 dv D.length (ints D) ∧ Below w.heap.size w w9 ∧ dv.ownBlock ≠ some g := by
  have hF : Fr (fun k => sv.ownBlock = some k) wr w9 := ((Fr.refl (fun k => sv.ownBlock = some k) wr).alloc o).trans f1 (fun _ _ e => e)
  refine ⟨own_frame h.drow hF (fun k hk e => h.apart k e hk), h.below.trans (hF.below_of (fun k hk e => by have := (h.srow.lt k e).1; omega) h.below.size), fun e => ?_⟩
  rcases g1 with g1 | g1
  · exact h.apart g g1 e
  · have := (h.drow.lt g e).2; simp at g1; omega
theorem SzW.next {w wr w9 w10 : World} {sv dv : Value} {S D : List Int} {i g g' cap cap' : Nat} {l : List Nd} {o o' : Obj} {s d : Int} (h : SzW w wr sv dv S D i l)
    (h1 : w9.ownsRow w.heap.size 3 1 (.slice (some ⟨g, 0, none⟩) (S.length + 1) cap) (S.length + 1) (ints S ++ [.int .i64 s])) (f1 : Fr (fun k => sv.ownBlock = some k) (wr.alloc o) w9) (g1 : sv.ownBlock = some g ∨ (wr.alloc o).heap.size ≤ g)
    (h2 : w10.ownsRow w.heap.size 3 1 (.slice (some ⟨g', 0, none⟩) (D.length + 1) cap') (D.length + 1) (ints D ++ [.int .i64 d])) (f2 : Fr (fun k => dv.ownBlock = some k) (w9.alloc o') w10) (g2 : dv.ownBlock = some g' ∨ (w9.alloc o').heap.size ≤ g')
    (hs : 1 ≤ s ∧ s ≤ (i : Int) + 1) (hd : 1 ≤ d ∧ d ≤ (i : Int) + 1) (hf : FitsN i (l.getD i nd0)) :
    SzW w w10 (.slice (some ⟨g, 0, none⟩) (S.length + 1) cap) (.slice (some ⟨g', 0, none⟩) (D.length + 1) cap') (S ++ [s]) (D ++ [d]) (i + 1) l := by
  obtain ⟨q1, q2, q3⟩ := h.half f1 g1
  have hF : Fr (fun k => dv.ownBlock = some k) w9 w10 := ((Fr.refl (fun k => dv.ownBlock = some k) w9).alloc o').trans f2 (fun _ _ e => e)
  have e1 : ints (S ++ [s]) = ints S ++ [.int .i64 s] := by simp [ints]
  have e2 : ints (D ++ [d]) = ints D ++ [.int .i64 d] := by simp [ints]
  refine ⟨?_, ?_, fun k hk hk' => ?_, h.inv.next hs hd hf, q2.trans (hF.below_of (fun k hk e => by have := (q1.lt k e).1; omega) q2.size)⟩
  · rw [e1, List.length_append]
    exact own_frame h1 hF (fun k hk e => by
      have e3 : g = k := by simpa [Value.ownBlock] using hk
      subst e3; exact q3 e)
  · rw [e2, List.length_append]; exact h2
  · have e3 : g = k := by simpa [Value.ownBlock] using hk
    have e4 : g' = k := by simpa [Value.ownBlock] using hk'
    subst e3; subst e4
    rcases g2 with g2 | g2
    · exact q3 g2
    · have := (h1.lt g' rfl).2; simp at g2; omega
theorem szW_start (w : World) (l : List Nd) : SzW w w (.slice none 0 0) (.slice none 0 0) [] [] 0 l :=
  ⟨World.ownsRow_nil _ _ _ _, World.ownsRow_nil _ _ _ _, fun k h => by simp [Value.ownBlock] at h, ⟨rfl, rfl, fun j h => by omega, fun j h => by omega, fun j h => by omega⟩, Below.refl _ _⟩
theorem fitsN0 {n : Nat} {k a b m : Int} {t : ByteArray} (h : arity k = 0) (ha : a = 0) (hb : b = 0) : FitsN n ⟨k, a, b, m, t⟩ :=
  ⟨fun x hx => by unfold args at hx; rw [if_pos h] at hx; simp at hx, fun _ => ha, fun _ => hb⟩
theorem fitsN1 {n : Nat} {k a b m : Int} {t : ByteArray} (h : arity k = 1) (ha : 0 ≤ a ∧ a < (n : Int)) (hb : b = 0) : FitsN n ⟨k, a, b, m, t⟩ :=
  ⟨fun x hx => by unfold args at hx; rw [if_neg (by simp only; omega), if_pos h] at hx; simp at hx; rw [hx]; exact ha, fun e => by simp only at e; omega, fun _ => hb⟩
theorem fitsN2 {n : Nat} {k a b m : Int} {t : ByteArray} (h : arity k = 2) (ha : 0 ≤ a ∧ a < (n : Int)) (hb : 0 ≤ b ∧ b < (n : Int)) : FitsN n ⟨k, a, b, m, t⟩ :=
  ⟨fun x hx => by unfold args at hx; rw [if_neg (by simp only; omega), if_neg (by simp only; omega)] at hx; simp at hx; rcases hx with rfl | rfl; exact ha; exact hb, fun e => by simp only at e; omega, fun e => by simp only at e; omega⟩
end Go.Proofs.YtfdaghhplijpeaaGreatDoor
