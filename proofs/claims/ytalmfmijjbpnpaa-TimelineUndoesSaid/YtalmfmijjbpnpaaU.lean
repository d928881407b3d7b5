/-
  What Commit, Undo, Redo, Switch make of a history, said of its branches. No walk stands here.
-/
import Derived.Test.YtalmfmijjbpnpaaT
namespace Go.Proofs.Ytalmfmijjbpnpaa
open Go.RowKit

/-- H' is H but for the current branch, which is l, and for the versions. -/
structure CSum (H H' : Hist) (l : Ln) : Prop where
  wf : WF H'
  cur : H'.cur = H.cur
  bn : bnames H' = bnames H
  cl : curLn H' = l
  oth : ∀ nm, nm ≠ H.cur → hasN nm (bnames H) = true → look H' nm = look H nm
  ss : H'.ss = H.ss

theorem csum_setCur {H : Hist} {vs : List Ver} (hw : WF { H with vs := vs }) {l : Ln} (hl : l.nm = H.cur) (hw' : WF (setCur { H with vs := vs } l)) : CSum H (setCur { H with vs := vs } l) l where
  wf := hw'
  cur := rfl
  bn := bnames_set hw hl
  cl := curLn_setCur hw hl
  oth := fun nm hn hh => by rw [look_setCur hw hl hh, if_neg hn]; rfl
  ss := rfl

section
variable {H : Hist}

theorem commit_sum (hw : WF H) (hlt : H.vs.length < 1000) (r : Int) : cCommit H r = 0 ∧ CSum H (mCommit H r) ⟨H.cur, H.vs.length, []⟩ ∧ (mCommit H r).vs = H.vs ++ [⟨(curLn H).hd, r⟩] := by
  have h1 : ¬ 1000 ≤ H.vs.length := by omega
  have hc := hw.hd _ (ci_lt hw).2.2
  have hwf := wf_commit hw r
  have e : mCommit H r = setCur { H with vs := H.vs ++ [⟨(curLn H).hd, r⟩] } ⟨H.cur, H.vs.length, []⟩ := if_neg h1
  refine ⟨if_neg h1, ?_, by rw [e]; rfl⟩
  rw [e] at hwf ⊢
  exact csum_setCur (hw.addV hlt hc.1 hc.2) rfl hwf

theorem undo_sum (hw : WF H) (h0 : hdN H ≠ 0) : cUndo H = 0 ∧ CSum H (mUndo H) ⟨H.cur, parOf H, (curLn H).rd ++ [(hdN H : Int)]⟩ ∧ (mUndo H).vs = H.vs := by
  have hwf := wf_undo hw
  have e : mUndo H = setCur { H with vs := H.vs } ⟨H.cur, parOf H, (curLn H).rd ++ [(hdN H : Int)]⟩ := if_neg h0
  refine ⟨if_neg h0, ?_, by rw [e]; rfl⟩
  rw [e] at hwf ⊢
  exact csum_setCur hw rfl hwf

theorem redo_sum (hw : WF H) (h0 : (curLn H).rd ≠ []) : cRedo H = 0 ∧ CSum H (mRedo H) ⟨H.cur, lastRd H, (curLn H).rd.dropLast⟩ ∧ (mRedo H).vs = H.vs := by
  have hwf := wf_redo hw
  have e : mRedo H = setCur { H with vs := H.vs } ⟨H.cur, lastRd H, (curLn H).rd.dropLast⟩ := if_neg h0
  refine ⟨if_neg h0, ?_, by rw [e]; rfl⟩
  rw [e] at hwf ⊢
  exact csum_setCur hw rfl hwf

theorem switch_sum (hw : WF H) {name : ByteArray} (hn : hasN name (bnames H) = true) : cSwitch H name = 0 ∧ mSwitch H name = { H with cur := name } := by
  have hb : wordB name = true := by
    have := hw.bw _ (get_of_mem hn)
    rwa [(look_nm hn).1] at this
  have hc : cSwitch H name = 0 := by unfold cSwitch missE; rw [if_pos hb, hn, if_pos rfl]
  exact ⟨hc, if_pos hc⟩

theorem hdN_of {l : Ln} (h : curLn H = l) : hdN H = l.hd.toNat := by unfold hdN; rw [h]

/-! #### the example of the chapter -/
theorem cur_new (root : Int) : curLn (newH root) = ⟨mainN, 0, []⟩ ∧ hdN (newH root) = 0 ∧ rootOf (newH root) = root := by
  have h1 : rank mainN [mainN] = 0 := by unfold rank; rw [ltN_irrefl]; rfl
  have e : curLn (newH root) = ⟨mainN, 0, []⟩ := by
    show ([⟨mainN, 0, []⟩] : List Ln).getD (rank mainN [mainN]) default = _
    rw [h1]; rfl
  have h2 : hdN (newH root) = 0 := by rw [hdN_of e]; rfl
  refine ⟨e, h2, ?_⟩
  unfold rootOf
  rw [h2]; rfl

def A1 : Hist := mCommit (newH 7) 8
def A2 : Hist := mUndo A1
def A3 : Hist := mRedo A2
theorem awake_facts : cUndo (newH 7) = 15 ∧ mUndo (newH 7) = newH 7 ∧ cCommit (newH 7) 8 = 0 ∧ cUndo A1 = 0 ∧ cRedo A2 = 0 ∧ hdN A3 = 1 ∧ rootOf A3 = 8 ∧ cBranch A3 mainN = 16 := by
  have hw0 := wf_new 7
  obtain ⟨c0, h0, r0⟩ := cur_new 7
  obtain ⟨e1, s1, v1⟩ := commit_sum hw0 (by show 1 < 1000; omega) 8
  have h1 : hdN A1 = 1 := by rw [hdN_of (H := A1) s1.cl]; rfl
  obtain ⟨e2, s2, v2⟩ := undo_sum (H := A1) s1.wf (by rw [h1]; omega)
  have hrd : (curLn A2).rd = [1] := by
    have : curLn A2 = _ := s2.cl
    have h1' : curLn A1 = _ := s1.cl
    rw [this, h1', h1]; rfl
  obtain ⟨e3, s3, v3⟩ := redo_sum (H := A2) s2.wf (by rw [hrd]; simp)
  have c3 : curLn A3 = ⟨mainN, 1, []⟩ := by
    have : curLn A3 = _ := s3.cl
    have hc : A2.cur = mainN := by rw [show A2.cur = A1.cur from s2.cur, show A1.cur = _ from s1.cur]; rfl
    rw [this]
    unfold lastRd
    rw [hrd, hc]; rfl
  have h3 : hdN A3 = 1 := by rw [hdN_of c3]; rfl
  have hv : A3.vs = [⟨-1, 7⟩, ⟨0, 8⟩] := by
    rw [show A3.vs = A2.vs from v3, show A2.vs = A1.vs from v2, show A1.vs = _ from v1, c0]; rfl
  have hbn : bnames A3 = [mainN] := by rw [show bnames A3 = _ from s3.bn, show bnames A2 = _ from s2.bn, show bnames A1 = _ from s1.bn]; rfl
  refine ⟨if_pos h0, if_pos h0, e1, e2, e3, h3, ?_, ?_⟩
  · unfold rootOf; rw [h3, hv]; rfl
  · unfold cBranch takenE
    rw [if_pos (by decide), hbn, (hasN_iff (List.pairwise_singleton _ _)).2 (List.mem_singleton.2 rfl), if_pos rfl]

end

end Go.Proofs.Ytalmfmijjbpnpaa
