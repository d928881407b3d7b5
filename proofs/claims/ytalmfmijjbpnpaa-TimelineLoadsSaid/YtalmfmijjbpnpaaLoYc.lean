/-
  What TimelineLimits makes of a history: plain facts, no walk.
-/
import Derived.Test.YtalmfmijjbpnpaaLoUVW
import Derived.Test.YtalmfmijjbpnpaaLoYb
namespace Go.Proofs.Ytalmfmijjbpnpaa
open Go.RowKit

/-- The names: a letter, then the k-th small letter. -/
def nameK (c : UInt8) (k : Nat) : ByteArray := ⟨#[c, UInt8.ofNat (97 + k)]⟩
def xN : ByteArray := ⟨#[120]⟩

theorem nameK_word : ∀ k : Fin 16, wordB (nameK 98 k) = true ∧ wordB (nameK 115 k) = true := by decide
theorem nameK_inj : ∀ c : UInt8, ∀ j k : Nat, j < 16 → k < 16 → nameK c j = nameK c k → j = k := by
  intro c j k hj hk h
  unfold nameK at h
  injection h with h
  have h1 := congrArg (fun a : Array UInt8 => a.toList) h
  simp only [List.cons.injEq] at h1
  have h2 := congrArg UInt8.toNat h1.2.1
  rw [UInt8.toNat_ofNat', UInt8.toNat_ofNat'] at h2
  omega
theorem nameK_ne (c : UInt8) (k : Nat) : nameK c k ≠ mainN ∧ nameK c k ≠ xN := by
  constructor
  · intro h
    have h1 : (2 : Nat) = 4 := congrArg ByteArray.size h
    cases h1
  · intro h
    have h1 : (2 : Nat) = 1 := congrArg ByteArray.size h
    cases h1

/-- After the branches of 1 to k - 1. -/
structure LB (k : Nat) (H : Hist) : Prop where
  wf : WF H
  len : H.bs.length = k
  nms : ∀ nm ∈ bnames H, nm = mainN ∨ ∃ j, 1 ≤ j ∧ j < k ∧ nm = nameK 98 j
  main : mainN ∈ bnames H
  vs : H.vs.length = 1
  ss : H.ss = []

theorem hasN_false {H : Hist} {nm : ByteArray} (hw : WF H) (h : ¬ nm ∈ bnames H) : hasN nm (bnames H) = false := by
  rw [Bool.eq_false_iff]; intro e; exact h ((hasN_iff hw.sb).1 e)
theorem hasS_false {H : Hist} {nm : ByteArray} (hw : WF H) (h : ¬ nm ∈ snames H) : hasN nm (snames H) = false := by
  rw [Bool.eq_false_iff]; intro e; exact h ((hasN_iff hw.sn).1 e)

theorem LB.step {k : Nat} {H : Hist} (h : LB k H) (h1 : 1 ≤ k) (hk : k < 16) : cBranch H (nameK 98 k) = 0 ∧ LB (k + 1) (mBranch H (nameK 98 k)) := by
  have hno : ¬ nameK 98 k ∈ bnames H := by
    intro hm
    rcases h.nms _ hm with e | ⟨j, _, hj, e⟩
    · exact (nameK_ne _ _).1 e
    · have := nameK_inj _ _ _ hk (by omega) e; omega
  have hc : cBranch H (nameK 98 k) = 0 := by
    unfold cBranch takenE
    rw [if_pos (nameK_word ⟨k, hk⟩).1, hasN_false h.wf hno, if_neg (by simp), if_neg (by rw [h.len]; omega)]
  have hw := wf_branch h.wf (nameK 98 k)
  have e : mBranch H (nameK 98 k) = { H with bs := ins H.bs (rank (nameK 98 k) (bnames H)) ⟨nameK 98 k, hdN H, []⟩ } := if_pos hc
  have hrk : rank (nameK 98 k) (bnames H) ≤ H.bs.length := by have := rank_le (nameK 98 k) (bnames H); simpa [bnames] using this
  have hn : bnames (mBranch H (nameK 98 k)) = ins (bnames H) (rank (nameK 98 k) (bnames H)) (nameK 98 k) := by rw [e]; exact map_ins _ _ _ _
  refine ⟨hc, hw, ?_, ?_, ?_, ?_, ?_⟩
  · rw [e]; show (ins _ _ _).length = _; rw [length_ins _ _ _ hrk, h.len]
  · intro nm hm
    rw [hn] at hm
    rcases mem_ins hm with rfl | hm
    · exact .inr ⟨k, h1, by omega, rfl⟩
    · rcases h.nms _ hm with e | ⟨j, hj0, hj, e⟩
      · exact .inl e
      · exact .inr ⟨j, hj0, by omega, e⟩
  · rw [hn]; exact mem_ins_of (.inr h.main)
  · rw [e]; exact h.vs
  · rw [e]; exact h.ss

theorem lb_new : LB 1 (newH 0) where
  wf := wf_new 0
  len := rfl
  nms := fun nm hm => .inl (by rw [show bnames (newH 0) = [mainN] from rfl, List.mem_singleton] at hm; exact hm)
  main := by rw [show bnames (newH 0) = [mainN] from rfl]; exact List.mem_singleton.2 rfl
  vs := rfl
  ss := rfl

/-- After the snapshots of 0 to k - 1. -/
structure LS (k : Nat) (H : Hist) : Prop where
  wf : WF H
  len : H.bs.length = 16
  no : ¬ xN ∈ bnames H
  main : mainN ∈ bnames H
  vs : H.vs.length = 1
  ls : H.ss.length = k
  nms : ∀ nm ∈ snames H, ∃ j, j < k ∧ nm = nameK 115 j
  sa : 0 < k → nameK 115 0 ∈ snames H

theorem LB.done {H : Hist} (h : LB 16 H) : LS 0 H where
  wf := h.wf
  len := h.len
  no := fun hm => by
    rcases h.nms _ hm with e | ⟨j, _, _, e⟩
    · revert e; decide
    · exact (nameK_ne _ _).2 e.symm
  main := h.main
  vs := h.vs
  ls := by rw [h.ss]; rfl
  nms := fun nm hm => by unfold snames at hm; rw [h.ss] at hm; cases hm
  sa := fun h => absurd h (Nat.lt_irrefl _)

theorem LS.step {k : Nat} {H : Hist} (h : LS k H) (hk : k < 16) : cSnap H (nameK 115 k) = 0 ∧ LS (k + 1) (mSnap H (nameK 115 k)) := by
  have hno : ¬ nameK 115 k ∈ snames H := by
    intro hm
    obtain ⟨j, hj, e⟩ := h.nms _ hm
    have := nameK_inj _ _ _ hk (by omega) e; omega
  have hc : cSnap H (nameK 115 k) = 0 := by
    unfold cSnap takenE
    rw [if_pos (nameK_word ⟨k, hk⟩).2, hasS_false h.wf hno, if_neg (by simp), if_neg (by rw [h.ls]; omega)]
  have hw := wf_snap h.wf (nameK 115 k)
  have e : mSnap H (nameK 115 k) = { H with ss := ins H.ss (rank (nameK 115 k) (snames H)) ⟨nameK 115 k, hdN H⟩ } := if_pos hc
  have hrk : rank (nameK 115 k) (snames H) ≤ H.ss.length := by have := rank_le (nameK 115 k) (snames H); simpa [snames] using this
  have hn : snames (mSnap H (nameK 115 k)) = ins (snames H) (rank (nameK 115 k) (snames H)) (nameK 115 k) := by rw [e]; exact map_ins _ _ _ _
  have hbn : bnames (mSnap H (nameK 115 k)) = bnames H := by rw [e]; rfl
  refine ⟨hc, hw, ?_, ?_, ?_, ?_, ?_, ?_, ?_⟩
  · rw [e]; exact h.len
  · rw [hbn]; exact h.no
  · rw [hbn]; exact h.main
  · rw [e]; exact h.vs
  · rw [e]; show (ins _ _ _).length = _; rw [length_ins _ _ _ hrk, h.ls]
  · intro nm hm
    rw [hn] at hm
    rcases mem_ins hm with rfl | hm
    · exact ⟨k, by omega, rfl⟩
    · obtain ⟨j, hj, e⟩ := h.nms _ hm
      exact ⟨j, by omega, e⟩
  · intro _
    rw [hn]
    rcases Nat.eq_zero_or_pos k with rfl | h0
    · exact mem_ins_of (.inl rfl)
    · exact mem_ins_of (.inr (h.sa h0))

/-- After the limits of names were tried, and k - 1 commits. -/
structure LC (k : Nat) (H : Hist) : Prop where
  wf : WF H
  len : H.vs.length = k
  sa : hasN (nameK 115 0) (snames H) = true
  hd : 1 < k → hdN H ≠ 0

theorem LS.done {H : Hist} (h : LS 16 H) : cBranch H xN = 7 ∧ mBranch H xN = H ∧ cSnap H xN = 7 ∧ mSnap H xN = H ∧ cBranch H mainN = 16 ∧ mBranch H mainN = H ∧ cSnap H (nameK 115 0) = 16 ∧ mSnap H (nameK 115 0) = H ∧ LC 1 H := by
  have hsx : ¬ xN ∈ snames H := fun hm => by obtain ⟨j, _, e⟩ := h.nms _ hm; exact (nameK_ne _ _).2 e.symm
  have hsa := (hasN_iff h.wf.sn).2 (h.sa (by omega))
  have c1 : cBranch H xN = 7 := by
    unfold cBranch takenE
    rw [if_pos (by decide), hasN_false h.wf h.no, if_neg (by simp), if_pos (by rw [h.len]; omega)]
  have c2 : cSnap H xN = 7 := by
    unfold cSnap takenE
    rw [if_pos (by decide), hasS_false h.wf hsx, if_neg (by simp), if_pos (by rw [h.ls]; omega)]
  have c3 : cBranch H mainN = 16 := by
    unfold cBranch takenE
    rw [if_pos (by decide), (hasN_iff h.wf.sb).2 h.main, if_pos rfl]
  have c4 : cSnap H (nameK 115 0) = 16 := by
    unfold cSnap takenE
    rw [if_pos (by decide), hsa, if_pos rfl]
  refine ⟨c1, if_neg (by rw [c1]; decide), c2, if_neg (by rw [c2]; decide), c3, if_neg (by rw [c3]; decide), c4, if_neg (by rw [c4]; decide), h.wf, h.vs, hsa, fun h => absurd h (Nat.lt_irrefl _)⟩

theorem LC.step {k : Nat} {H : Hist} (h : LC k H) (h1 : 1 ≤ k) (hk : k < 1000) (x : Int) : cCommit H x = 0 ∧ LC (k + 1) (mCommit H x) := by
  obtain ⟨c, s, v⟩ := commit_sum h.wf (by rw [h.len]; exact hk) x
  refine ⟨c, s.wf, by rw [v, List.length_append, List.length_singleton, h.len], ?_, fun _ => ?_⟩
  · rw [show snames (mCommit H x) = snames H by unfold snames; rw [s.ss]]; exact h.sa
  · rw [hdN_of s.cl, h.len]
    show ((k : Int)).toNat ≠ 0
    omega

/-- What was undone is redone: nothing has changed. -/
theorem redo_undo {H : Hist} (hw : WF H) (h0 : hdN H ≠ 0) : cUndo H = 0 ∧ cRedo (mUndo H) = 0 ∧ mRedo (mUndo H) = H := by
  obtain ⟨c, s, v⟩ := undo_sum hw h0
  have hrd : (curLn (mUndo H)).rd = (curLn H).rd ++ [(hdN H : Int)] := by rw [s.cl]
  have hne : (curLn (mUndo H)).rd ≠ [] := by rw [hrd]; simp
  refine ⟨c, if_neg hne, ?_⟩
  obtain ⟨hl, hnm, _⟩ := ci_lt hw
  have hci : ci (mUndo H) = ci H := by unfold ci; rw [s.cur, s.bn]
  have hlast : lastRd (mUndo H) = (hdN H : Int) := by unfold lastRd; rw [hrd]; simp
  have hline : (⟨(mUndo H).cur, lastRd (mUndo H), (curLn (mUndo H)).rd.dropLast⟩ : Ln) = curLn H := by
    rw [hlast, hrd, s.cur, List.dropLast_concat, ← (hd_eq hw).1, ← hnm]
  have e1 : mRedo (mUndo H) = setCur (mUndo H) (curLn H) := by unfold mRedo; rw [if_neg hne, hline]
  have e2 : mUndo H = setCur H ⟨H.cur, parOf H, (curLn H).rd ++ [(hdN H : Int)]⟩ := if_neg h0
  rw [e1]
  unfold setCur
  rw [hci, e2]
  unfold setCur
  show ({ H with bs := (H.bs.set (ci H) _).set (ci H) (curLn H) } : Hist) = H
  rw [List.set_set]
  have : H.bs.set (ci H) (curLn H) = H.bs := by
    apply List.ext_getElem?
    intro j
    rw [List.getElem?_set]
    split
    · rename_i e
      subst e
      try rw [if_pos hl]
      unfold curLn
      rw [List.getD_eq_getElem?_getD, List.getElem?_eq_getElem hl]; rfl
    · rfl
  rw [this]

theorem LC.done {H : Hist} (h : LC 1000 H) (n : Int) : cCommit H n = 7 ∧ mCommit H n = H ∧ cRest H (nameK 115 0) = 7 ∧ mRest H (nameK 115 0) = H := by
  have hl : 1000 ≤ H.vs.length := by rw [h.len]; omega
  have hm : missE (nameK 115 0) (hasN (nameK 115 0) (snames H)) = 0 := by
    unfold missE
    rw [if_pos (by decide), h.sa, if_pos rfl]
  exact ⟨if_pos hl, if_pos hl, by unfold cRest; rw [if_pos hm]; exact if_pos hl, by unfold mRest; rw [if_pos hm]; exact if_pos hl⟩

end Go.Proofs.Ytalmfmijjbpnpaa
