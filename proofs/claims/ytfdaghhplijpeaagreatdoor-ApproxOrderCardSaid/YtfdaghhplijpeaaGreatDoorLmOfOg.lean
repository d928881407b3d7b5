/-
  The heap's order, in plain terms; walk of up.
-/
import Derived.Test.YtfdaghhplijpeaaGreatDoorLmOcOdOe
namespace Go.Proofs.YtfdaghhplijpeaaGreatDoor
open Go Go.RowKit

/-- The order of a heap, but for the place j. -/
def HOx (l : List Int) (j : Nat) : Prop :=
  (∀ i, 0 < i → i < l.length → i ≠ j → l.getD i 0 ≤ l.getD ((i - 1) / 2) 0) ∧
  (0 < j → ∀ i, 0 < i → i < l.length → (i - 1) / 2 = j → l.getD i 0 ≤ l.getD ((j - 1) / 2) 0)
def HO (l : List Int) : Prop := ∀ i, 0 < i → i < l.length → l.getD i 0 ≤ l.getD ((i - 1) / 2) 0
theorem swapped_get {l : List Int} {i j : Nat} (hi : i < l.length) (hj : j < l.length) (k : Nat) : (swapped l i j).getD k 0 = if k = j then l.getD i 0 else if k = i then l.getD j 0 else l.getD k 0 := by
  unfold swapped
  rw [List.getD_eq_getElem?_getD, List.getElem?_set]
  by_cases h1 : j = k
  · subst h1; simp [hj]
  · rw [if_neg h1, if_neg (fun e => h1 e.symm), List.getElem?_set]
    by_cases h2 : i = k
    · subst h2; simp [hi]
    · rw [if_neg h2, if_neg (fun e => h2 e.symm), List.getD_eq_getElem?_getD]
theorem mem_getD {l : List Int} {x : Int} : x ∈ l ↔ ∃ k, k < l.length ∧ l.getD k 0 = x := by
  rw [List.mem_iff_getElem?]
  constructor
  · rintro ⟨k, h⟩
    obtain ⟨h1, h2⟩ := List.getElem?_eq_some_iff.1 h
    exact ⟨k, h1, by rw [List.getD_eq_getElem?_getD, h]; rfl⟩
  · rintro ⟨k, h1, h2⟩
    refine ⟨k, ?_⟩
    rw [List.getD_eq_getElem?_getD, List.getElem?_eq_getElem h1] at h2
    rw [List.getElem?_eq_getElem h1]; simpa using h2
theorem mem_swapped {l : List Int} {i j : Nat} (hi : i < l.length) (hj : j < l.length) (x : Int) : x ∈ swapped l i j ↔ x ∈ l := by
  rw [mem_getD, mem_getD]
  constructor
  · rintro ⟨k, h1, h2⟩
    rw [swapped_length] at h1
    rw [swapped_get hi hj] at h2
    split at h2
    · exact ⟨i, hi, h2⟩
    · split at h2
      · exact ⟨j, hj, h2⟩
      · exact ⟨k, h1, h2⟩
  · rintro ⟨k, h1, h2⟩
    by_cases e1 : k = j
    · subst e1
      refine ⟨i, by rw [swapped_length]; exact hi, ?_⟩
      rw [swapped_get hi hj]
      by_cases e : i = k
      · subst e; rw [if_pos rfl]; exact h2
      · rw [if_neg e, if_pos rfl]; exact h2
    · by_cases e2 : k = i
      · subst e2
        exact ⟨j, by rw [swapped_length]; exact hj, by rw [swapped_get hi hj, if_pos rfl]; exact h2⟩
      · exact ⟨k, by rw [swapped_length]; exact h1, by rw [swapped_get hi hj, if_neg e1, if_neg e2]; exact h2⟩
theorem up_stop {l : List Int} {j : Nat} (h : HOx l j) (hs : j = 0 ∨ ¬ l.getD ((j - 1) / 2) 0 < l.getD j 0) : HO l := fun i h0 hl => by
  by_cases e : i = j
  · subst e
    rcases hs with hs | hs
    · omega
    · omega
  · exact h.1 i h0 hl e
theorem up_step {l : List Int} {j : Nat} (h : HOx l j) (hj : 0 < j) (hjl : j < l.length) (hs : l.getD ((j - 1) / 2) 0 < l.getD j 0) : HOx (swapped l ((j - 1) / 2) j) ((j - 1) / 2) := by
  have hp : (j - 1) / 2 < l.length := by omega
  obtain ⟨h1, h2⟩ := h
  refine ⟨fun i i0 il hne => ?_, fun hp0 i i0 il hi => ?_⟩
  · rw [swapped_length] at il
    rw [swapped_get hp hjl, swapped_get hp hjl]
    by_cases e1 : i = j
    · subst e1
      rw [if_pos rfl, if_neg (by omega), if_pos rfl]; omega
    · rw [if_neg e1, if_neg hne]
      by_cases e2 : (i - 1) / 2 = j
      · rw [if_pos e2]; exact h2 hj i i0 il e2
      · rw [if_neg e2]
        by_cases e3 : (i - 1) / 2 = (j - 1) / 2
        · rw [if_pos e3]
          have := h1 i i0 il e1
          rw [e3] at this
          omega
        · rw [if_neg e3]; exact h1 i i0 il e1
  · rw [swapped_length] at il
    rw [swapped_get hp hjl, swapped_get hp hjl]
    have hpp : ((j - 1) / 2 - 1) / 2 ≠ j := by omega
    have hpq : ((j - 1) / 2 - 1) / 2 ≠ (j - 1) / 2 := by omega
    rw [if_neg hpp, if_neg hpq]
    have hq := h1 ((j - 1) / 2) hp0 hp (by omega)
    by_cases e1 : i = j
    · subst e1; rw [if_pos rfl]; exact hq
    · rw [if_neg e1, if_neg (by omega)]
      have := h1 i i0 il e1
      rw [hi] at this
      omega
end Go.Proofs.YtfdaghhplijpeaaGreatDoor
/-
  Walks of the heap's up and Push.
-/
namespace Go.Proofs.YtfdaghhplijpeaaGreatDoor
open Go Go.RowKit

/-- What a heap's list may become: its order, its length, its members stand; of the old blocks only its row's may change. -/
def UpR (w : World) (B q : Nat) (v : Value) (l : List Int) (l' : List Int) (wr : World) : Prop :=
  HeapR wr B q v l' ∧ l'.length = l.length ∧ (∀ x, x ∈ l' ↔ x ∈ l) ∧ Fr (fun k => v.ownBlock = some k) w wr
theorem upR_quiet {w wr w1 : World} {B q : Nat} {v : Value} {l l' : List Int} (h : UpR w B q v l l' wr) (hf : Fr (fun _ => False) wr w1) : UpR w B q v l l' w1 :=
  ⟨h.1.quiet hf, h.2.1, h.2.2.1, h.2.2.2.trans hf (fun _ _ e => e.elim)⟩
theorem upR_swap {w wr w1 : World} {B q : Nat} {v : Value} {l l' : List Int} {i j : Nat} (h : UpR w B q v l l' wr) (hi : i < l'.length) (hj : j < l'.length) (h2 : HeapR w1 B q v (swapped l' i j)) (hf : Fr (fun k => v.ownBlock = some k) wr w1) : UpR w B q v l (swapped l' i j) w1 :=
  ⟨h2, by rw [swapped_length]; exact h.2.1, fun x => (mem_swapped hi hj x).trans (h.2.2.1 x), h.2.2.2.trans hf (fun _ _ e => e)⟩
theorem run_Less (q : Nat) : ∀ (n : Nat) (w : World), Sem.run Tryz.prog (method (n + 1) 66 (.pointer (some ⟨q, 0, none⟩)) "Less") w = .ok (411, .pointer (some ⟨q, 0, none⟩)) w := fun _ _ => by kernel_rfl
theorem run_Swap (q : Nat) : ∀ (n : Nat) (w : World), Sem.run Tryz.prog (method (n + 1) 66 (.pointer (some ⟨q, 0, none⟩)) "Swap") w = .ok (414, .pointer (some ⟨q, 0, none⟩)) w := fun _ _ => by kernel_rfl
theorem run_Len (q : Nat) : ∀ (n : Nat) (w : World), Sem.run Tryz.prog (method (n + 1) 66 (.pointer (some ⟨q, 0, none⟩)) "Len") w = .ok (25, .pointer (some ⟨q, 0, none⟩)) w := fun _ _ => by kernel_rfl
theorem run_Push (q : Nat) : ∀ (n : Nat) (w : World), Sem.run Tryz.prog (method (n + 1) 66 (.pointer (some ⟨q, 0, none⟩)) "Push") w = .ok (413, .pointer (some ⟨q, 0, none⟩)) w := fun _ _ => by kernel_rfl
theorem run_Pop (q : Nat) : ∀ (n : Nat) (w : World), Sem.run Tryz.prog (method (n + 1) 66 (.pointer (some ⟨q, 0, none⟩)) "Pop") w = .ok (412, .pointer (some ⟨q, 0, none⟩)) w := fun _ _ => by kernel_rfl
set_option maxRecDepth 100000 in
set_option maxHeartbeats 4000000 in
theorem up_calls {w : World} {B q : Nat} {v : Value} {l : List Int} (h : HeapR w B q v l) (j : Nat) (hj : j < l.length) (hl : l.length ≤ 10000) (ho : HOx l j) :
    Calls Tryz.prog 46 #[heapI q, .int .i64 j] w fun e w' => e = .returned (.tuple #[]) ∧ ∃ l', UpR w B q v l l' w' ∧ HO l' := by
  have H := Lib.hid h
  have HOX := Lib.hid ho
  have HJ := Lib.hid (And.intro hj hl)
  clear h ho hj hl
  have rl := run_Less q
  have rs := run_Swap q
  unfold heapI ptr
  go_enter Tryz.func46, Tryz.ntmps46
  go_wp2_with fail
  go_loopw [1] (fun jv wr => ∃ k l', jv = .int .i64 ((k : Nat) : Int) ∧ k < l'.length ∧ UpR w B q v l l' wr ∧ HOx l' k) (fun jv _ => (intOf jv).toNat)
  case atStart => exact ⟨j, l, rfl, HJ.out.1, ⟨H.out, rfl, fun _ => Iff.rfl, Fr.refl _ _⟩, HOX.out⟩
  case round =>
    obtain ⟨k, l', rfl, hk, hu, hx⟩ := hrel
    have HU := Lib.hid hu
    have HX := Lib.hid hx
    have HK := Lib.hid hk
    have hk2 : k ≤ 10000 := by have := hu.2.1; have := HJ.out.2; omega
    clear hu hx hk
    by_cases k0 : k = 0
    · subst k0
      go_wp2_with fail
      refine bodyPost_end (results_none rfl _ _ _) rfl ?_
      exact ⟨rfl, _, HU.out, up_stop HX.out (.inl rfl)⟩
    · obtain ⟨p, hp⟩ : ∃ p, (k - 1) / 2 = p := ⟨_, rfl⟩
      obtain ⟨m, hm⟩ : ∃ m : Int, (k : Int) - 1 = m := ⟨_, rfl⟩
      have hw1 : IntKind.i64.wrap ((k : Int) - 1) = m := by rw [← hm]; exact IntWalk.i64_in _ ⟨by omega, by omega⟩
      have hw2 : IntKind.i64.wrap (m.tdiv 2) = (p : Int) := by
        rw [← hm, IntWalk.i64_quo _ _ ⟨by omega, by omega, by omega⟩]; omega
      have hpk : p < k := by omega
      have hne : ((p : Int) == (k : Int)) = false := by simp; omega
      have HP := Lib.hid hp
      have HPK := Lib.hid (And.intro hpk k0)
      clear hp hm hpk k0 hk2
      go_wp2_with fail
      have hpl : p < l'.length := by have := HPK.out.1; have := HK.out; omega
      have hll : l'.length ≤ 10000 := by have := HU.out.2.1; have := HJ.out.2; omega
      refine (less_calls HU.out.1 HK.out hpl hll).mono ?_
      rintro e w1 ⟨rfl, hf1⟩
      have U1 := Lib.hid (upR_quiet HU.out hf1)
      have HL := Lib.hid (And.intro hpl hll)
      clear hf1 hpl hll
      by_cases hlt : l'.getD p 0 < l'.getD k 0
      · have hd : decide (l'.getD p 0 < l'.getD k 0) = true := by simpa using hlt
        rw [hd]
        have HLT := Lib.hid hlt
        clear hlt hd
        go_wp2_with fail
        refine (swap_calls U1.out.1 HL.out.1 HK.out HL.out.2).mono ?_
        rintro e w2 ⟨rfl, h2, hf2⟩
        have U2 := Lib.hid (upR_swap U1.out HL.out.1 HK.out h2 hf2)
        clear h2 hf2
        go_wp2_with fail
        go_roundw
        case rel => exact ⟨p, _, rfl, by rw [swapped_length]; exact HL.out.1, U2.out, by rw [← HP.out] at HLT ⊢; exact up_step HX.out (by have := HPK.out.2; omega) HK.out HLT.out⟩
        case measure => have := HPK.out.1; simp [intOf]; omega
      · have hd : decide (l'.getD p 0 < l'.getD k 0) = false := by simpa using hlt
        rw [hd]
        have HLT := Lib.hid hlt
        clear hlt hd
        go_wp2_with fail
        refine bodyPost_end (results_none rfl _ _ _) rfl ?_
        exact ⟨rfl, _, U1.out, up_stop HX.out (.inr (by rw [HP.out]; exact Int.not_lt.2 HLT.out))⟩
theorem push_HOx {l : List Int} (h : HO l) (x : Int) : HOx (l ++ [x]) l.length := by
  have g : ∀ i, i < l.length → (l ++ [x]).getD i 0 = l.getD i 0 := fun i hi => by
    rw [List.getD_eq_getElem?_getD, List.getElem?_append_left hi, List.getD_eq_getElem?_getD]
  refine ⟨fun i h0 h1 h2 => ?_, fun _ i h0 h1 h2 => ?_⟩
  · have hi : i < l.length := by simp at h1; omega
    rw [g i hi, g _ (by omega)]
    exact h i h0 hi
  · simp at h1; omega
set_option maxRecDepth 100000 in
set_option maxHeartbeats 4000000 in
theorem heapPush_calls {w : World} {B q : Nat} {v : Value} {l : List Int} (h : HeapR w B q v l) (hB : B ≤ w.heap.size) (hl : l.length < 10000) (ho : HO l) (x : Int) :
    Calls Tryz.prog 28 #[heapI q, .iface 3 (.int .i64 x)] w fun e w' => e = .returned (.tuple #[]) ∧ ∃ v' l', HeapR w' B q v' l' ∧ HO l' ∧ l'.length = l.length + 1 ∧ (∀ y, y ∈ l' ↔ y = x ∨ y ∈ l) ∧
      (∀ k, v'.ownBlock = some k → v.ownBlock = some k ∨ w.heap.size ≤ k) ∧ Fr (fun k => k = q ∨ v.ownBlock = some k) w w' := by
  have H := Lib.hid h
  have HOL := Lib.hid (And.intro ho (And.intro hB hl))
  clear h ho hB hl
  have rp := run_Push q
  have rn := run_Len q
  unfold heapI
  unfold ptr
  go_enter Tryz.func28, Tryz.ntmps28
  go_wp2_with fail
  refine (numPush_calls H.out HOL.out.2.1 (by have := HOL.out.2.2; omega) x).mono ?_
  rintro e w1 ⟨rfl, v1, h1, hv1, hf1⟩
  have H1 := Lib.hid h1
  have HF1 := Lib.hid (And.intro hv1 hf1)
  clear h1 hv1 hf1
  go_wp2_with fail
  refine (len_calls H1.out).mono ?_
  rintro e w2 ⟨rfl, rfl⟩
  have hlen : (((l ++ [x]).length : Nat) : Int) - 1 = (l.length : Int) := by simp
  obtain ⟨n, hn⟩ : ∃ n, (l ++ [x]).length = n := ⟨_, rfl⟩
  obtain ⟨m, hm⟩ : ∃ m, l.length = m := ⟨_, rfl⟩
  rw [hn, hm] at hlen
  rw [hn]
  have hw : IntKind.i64.wrap ((n : Int) - 1) = (m : Int) := by rw [hlen]; exact IntWalk.i64_in _ ⟨by omega, by have := HOL.out.2.2; omega⟩
  have HN := Lib.hid hn
  have HM := Lib.hid hm
  clear hn hm hlen
  go_wp2_with fail
  refine (up_calls H1.out m (by rw [← HM.out]; simp) (by have := HOL.out.2.2; simp; omega) (by rw [← HM.out]; exact push_HOx HOL.out.1 x)).mono ?_
  rintro e w3 ⟨rfl, l', hu, ho'⟩
  have HU := Lib.hid (And.intro hu ho')
  clear hu ho'
  go_wp2_with fail
  refine bodyPost_end (results_none rfl _ _ _) rfl ?_
  refine ⟨rfl, v1, l', HU.out.1.1, HU.out.2, by rw [HU.out.1.2.1]; simp, fun y => (HU.out.1.2.2.1 y).trans (by simp [or_comm]), HF1.out.1, ?_⟩
  refine HF1.out.2.trans HU.out.1.2.2.2 fun k hk e => ?_
  rcases HF1.out.1 k e with h | h
  · exact .inr h
  · omega
end Go.Proofs.YtfdaghhplijpeaaGreatDoor
