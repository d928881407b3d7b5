/-
  Walks of approx.Order at a number that is no node; of the reference's Has.
-/
import Derived.Test.YtfdaghhplijpeaaGreatDoorLmOlOm
namespace Go.Proofs.YtfdaghhplijpeaaGreatDoor
open Go Go.RowKit

set_option maxRecDepth 100000 in
set_option maxHeartbeats 2000000 in
theorem order_bad {W : World} {B p : Nat} {v m : Value} {L : List Nd} (hg : GraphR W B p v m L) (hl : L.length ≤ 4096) {i : Int} (hi : i < 0 ∨ (L.length : Int) ≤ i) :
    Calls Tryz.prog 9 #[ptr p, .int .i64 i] W fun e w' => e = .returned (.slice none 0 0) ∧ Below W.heap.size W w' := by
  have G := Lib.hid (And.intro hg (And.intro hl hi))
  have hp : p < W.heap.size := (Array.getElem?_eq_some_iff.1 hg.blk).1
  clear hg hl hi
  unfold ptr
  go_enter Tryz.func9, Tryz.ntmps9
  go_wp2_with fail
  refine (node_bad G.out.1 G.out.2.2 (by have := G.out.2.1; omega)).mono ?_
  rintro e w1 ⟨rfl, hf1⟩
  have HF1 := Lib.hid (hf1.below.alloc hf1.size (.cells #[.int .i64 0, .int .i64 0, .int .i64 0, .int .i64 0, .string ByteArray.empty] 63))
  clear hf1
  unfold ndVal nd0
  go_wp2_with fail
  go_ret
  exact ⟨rfl, HF1.out⟩
/-- The reference's graph lies in block p: its nodes are L, in the row v. -/
structure RefR (w : World) (B p : Nat) (v : Value) (L : List Nd) : Prop where
  blk : w.heap[p]? = some (.cells #[v] 31 (0, 0))
  nds : NdsR w B v L
theorem RefR.frame {w w' : World} {B p : Nat} {v : Value} {L : List Nd} {S : Nat → Prop} (h : RefR w B p v L) (hf : Fr S w w') (h1 : ¬ S p) (h2 : ∀ k, v.ownBlock = some k → ¬ S k) : RefR w' B p v L :=
  ⟨(hf.block p (Array.getElem?_eq_some_iff.1 h.blk).1 h1).trans h.blk, h.nds.frame hf h2⟩
theorem RefR.below {w w' : World} {B p : Nat} {v : Value} {L : List Nd} (h : RefR w B p v L) (hb : Below w.heap.size w w') : RefR w' B p v L :=
  h.frame (S := fun _ => False) (Fr.of_below hb) (fun e => e) (fun _ _ e => e)
set_option maxRecDepth 100000 in
set_option maxHeartbeats 2000000 in
theorem has_calls {w : World} {B p : Nat} {v : Value} {L : List Nd} (h : RefR w B p v L) (_hl : L.length ≤ 10000) (i : Int) :
    Calls Tryz.prog 29 #[ptr p, .int .i64 i] w fun e w' => e = .returned (.bool (decide (0 ≤ i) && decide (i < (L.length : Int)))) ∧ w' = w := by
  have b0 := cell_of_blk h.blk 0
  simp only [List.getElem?_toArray, List.getElem?_cons_zero] at b0
  obtain ⟨a, c, rfl⟩ := h.nds.slice
  obtain ⟨n, hn⟩ : ∃ n, L.length = n := ⟨_, rfl⟩
  rw [hn] at b0 ⊢
  clear h hn
  unfold ptr
  by_cases h0 : 0 ≤ i
  · go_enter Tryz.func29, Tryz.ntmps29
    go_wp2_with fail
    go_ret
    exact ⟨by simp [h0], rfl⟩
  · go_enter Tryz.func29, Tryz.ntmps29
    go_wp2_with fail
    go_ret
    exact ⟨by simp; omega, rfl⟩
end Go.Proofs.YtfdaghhplijpeaaGreatDoor
/-
  The reference's marks, in plain terms: what is marked in the end is what can be reached.
-/
namespace Go.Proofs.YtfdaghhplijpeaaGreatDoor
open Go Go.RowKit

def mkd (M : List Bool) (j : Nat) : Bool := M.getD j false
theorem mk_set {M : List Bool} {i : Nat} (hi : i < M.length) (b : Bool) (j : Nat) : mkd (M.set i b) j = if i = j then b else mkd M j := by
  unfold mkd
  rw [List.getD_eq_getElem?_getD, List.getElem?_set]
  by_cases e : i = j
  · subst e; simp [hi]
  · rw [if_neg e, if_neg e, List.getD_eq_getElem?_getD]
theorem mk_rep (n j : Nat) : mkd (List.replicate n false) j = false := by
  unfold mkd
  rw [List.getD_eq_getElem?_getD, List.getElem?_replicate]
  split <;> rfl
theorem getD_mem {l : List Int} {k : Nat} (hk : k < l.length) : l.getD k 0 ∈ l := mem_getD.2 ⟨k, hk, rfl⟩
/-- The marks when the nodes behind i have been gone through. -/
structure MkI (L : List Nd) (id : Nat) (M : List Bool) (i : Int) : Prop where
  len : M.length = L.length
  sound : ∀ j : Nat, j < L.length → mkd M j = true → Reach L (id : Int) (j : Int)
  self : mkd M id = true
  cl : ∀ j : Nat, i < (j : Int) → j < L.length → mkd M j = true → ∀ a ∈ args (L.getD j nd0), mkd M a.toNat = true
/-- The marks while the operands of node i are gone through, k of them done; M0: the marks before. -/
structure MkJ (L : List Nd) (id : Nat) (M0 M : List Bool) (i k : Nat) : Prop where
  len : M.length = L.length
  mono : ∀ j, mkd M0 j = true → mkd M j = true
  sound : ∀ j : Nat, j < L.length → mkd M j = true → Reach L (id : Int) (j : Int)
  at_ : mkd M i = mkd M0 i
  done : ∀ a ∈ (args (L.getD i nd0)).take k, mkd M0 i = true → mkd M a.toNat = true
  above : ∀ j, i < j → mkd M j = mkd M0 j
theorem mkI_start {L : List Nd} {id : Nat} (hid : id < L.length) : MkI L id ((List.replicate L.length false).set id true) id where
  len := by simp
  sound := fun j hj h => by
    rw [mk_set (by simp; omega)] at h
    by_cases e : id = j
    · subst e; exact .self
    · rw [if_neg e, mk_rep] at h; cases h
  self := by rw [mk_set (by simp; omega), if_pos rfl]
  cl := fun j hj hl h => by
    rw [mk_set (by simp; omega), if_neg (by omega), mk_rep] at h
    cases h
theorem mkJ_start {L : List Nd} {id : Nat} {M : List Bool} {i : Nat} (h : MkI L id M i) : MkJ L id M M i 0 :=
  ⟨h.len, fun _ h => h, h.sound, rfl, fun a ha => by simp at ha, fun _ _ => rfl⟩
theorem mkJ_step {L : List Nd} {id : Nat} {M0 M : List Bool} {i k : Nat} (hL : Ahead L) (h : MkJ L id M0 M i k) (hi : i < L.length) (hk : k < (args (L.getD i nd0)).length) {a : Nat} (ha : (args (L.getD i nd0)).getD k 0 = (a : Int)) :
    a < i ∧ MkJ L id M0 (M.set a (mkd M a || mkd M i)) i (k + 1) := by
  have hmem : ((a : Nat) : Int) ∈ args (L.getD i nd0) := by
    rw [← ha]; exact getD_mem hk
  have hai := hL i hi _ hmem
  have hlt : a < i := by omega
  have hal : a < M.length := by rw [h.len]; omega
  refine ⟨hlt, ⟨by simp [h.len], fun j hj => ?_, fun j hj hm => ?_, ?_, fun y hy h0 => ?_, fun j hj => by rw [mk_set hal, if_neg (by omega)]; exact h.above j hj⟩⟩
  · rw [mk_set hal]
    by_cases e : a = j
    · subst e; rw [if_pos rfl, h.mono _ hj]; rfl
    · rw [if_neg e]; exact h.mono j hj
  · rw [mk_set hal] at hm
    by_cases e : a = j
    · subst e
      rw [if_pos rfl, Bool.or_eq_true] at hm
      rcases hm with hm | hm
      · exact h.sound _ hj hm
      · refine .step (h.sound i hi hm) ?_
        unfold ndAt
        exact hmem
    · rw [if_neg e] at hm; exact h.sound j hj hm
  · rw [mk_set hal, if_neg (by omega)]; exact h.at_
  · rw [mk_set hal]
    rw [List.take_add_one, List.mem_append] at hy
    by_cases e : a = y.toNat
    · rw [if_pos e, h.at_, h0, Bool.or_true]
    · rw [if_neg e]
      rcases hy with hy | hy
      · exact h.done y hy h0
      · have e2 : (args (L.getD i nd0))[k]? = some ((args (L.getD i nd0)).getD k 0) := by
          generalize args (L.getD i nd0) = zs at hk
          rw [List.getD_eq_getElem?_getD, List.getElem?_eq_getElem hk]; rfl
        rw [e2, ha] at hy
        simp only [Option.toList_some, List.mem_singleton] at hy
        exfalso
        apply e
        rw [hy]; rfl
theorem mkJ_end {L : List Nd} {id : Nat} {M0 M : List Bool} {i : Nat} (h0 : MkI L id M0 i) (h : MkJ L id M0 M i (args (L.getD i nd0)).length) : MkI L id M ((i : Int) - 1) where
  len := h.len
  sound := h.sound
  self := h.mono _ h0.self
  cl := fun j hj hl hm a ha => by
    by_cases e : j = i
    · subst e
      have hd := h.done
      rw [List.take_length] at hd
      exact hd a ha (by rw [← h.at_]; exact hm)
    · exact h.mono _ (h0.cl j (by omega) hl (by rw [← h.above j (by omega)]; exact hm) a ha)
theorem mkI_end {L : List Nd} {id : Nat} {M : List Bool} (hL : Ahead L) (hid : id < L.length) (h : MkI L id M (-1)) (j : Nat) (hj : j < L.length) : mkd M j = true ↔ Reach L (id : Int) (j : Int) := by
  refine ⟨h.sound j hj, fun hr => ?_⟩
  have key : ∀ x : Int, Reach L (id : Int) x → mkd M x.toNat = true := fun x hx => by
    induction hx with
    | self => exact h.self
    | step hx ha ih =>
      rename_i x a
      have hb := hx.bound hL (by omega) (by omega)
      exact h.cl x.toNat (by omega) (by omega) ih a ha
  exact key j hr
end Go.Proofs.YtfdaghhplijpeaaGreatDoor
