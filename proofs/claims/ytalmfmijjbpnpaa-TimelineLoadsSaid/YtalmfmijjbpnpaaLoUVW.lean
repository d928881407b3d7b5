/-
  What Commit, Undo, Redo, Switch make of a history, said of its branches. No walk stands here.
-/
import Derived.Test.YtalmfmijjbpnpaaLoT
namespace Go.Proofs.Ytalmfmijjbpnpaa
open Go.RowKit

/-- H' is H but for the current branch, which is l, and for the versions. -/
structure CSum (H H' : Hist) (l : Ln) : Prop where
  wf : WF H'
  cur : H'.cur = H.cur
  bn : bnames H' = bnames H
  cl : curLn H' = l
  oth : ∀ nm, nm ≠ H.cur → hasN nm (bnames H) = true → look H' nm = look H nm
  ss : H'.ss = H.ss

theorem csum_setCur {H : Hist} {vs : List Ver} (hw : WF { H with vs := vs }) {l : Ln} (hl : l.nm = H.cur) (hw' : WF (setCur { H with vs := vs } l)) : CSum H (setCur { H with vs := vs } l) l where
  wf := hw'
  cur := rfl
  bn := bnames_set hw hl
  cl := curLn_setCur hw hl
  oth := fun nm hn hh => by rw [look_setCur hw hl hh, if_neg hn]; rfl
  ss := rfl

section
variable {H : Hist}

theorem commit_sum (hw : WF H) (hlt : H.vs.length < 1000) (r : Int) : cCommit H r = 0 ∧ CSum H (mCommit H r) ⟨H.cur, H.vs.length, []⟩ ∧ (mCommit H r).vs = H.vs ++ [⟨(curLn H).hd, r⟩] := by
  have h1 : ¬ 1000 ≤ H.vs.length := by omega
  have hc := hw.hd _ (ci_lt hw).2.2
  have hwf := wf_commit hw r
  have e : mCommit H r = setCur { H with vs := H.vs ++ [⟨(curLn H).hd, r⟩] } ⟨H.cur, H.vs.length, []⟩ := if_neg h1
  refine ⟨if_neg h1, ?_, by rw [e]; rfl⟩
  rw [e] at hwf ⊢
  exact csum_setCur (hw.addV hlt hc.1 hc.2) rfl hwf

theorem undo_sum (hw : WF H) (h0 : hdN H ≠ 0) : cUndo H = 0 ∧ CSum H (mUndo H) ⟨H.cur, parOf H, (curLn H).rd ++ [(hdN H : Int)]⟩ ∧ (mUndo H).vs = H.vs := by
  have hwf := wf_undo hw
  have e : mUndo H = setCur { H with vs := H.vs } ⟨H.cur, parOf H, (curLn H).rd ++ [(hdN H : Int)]⟩ := if_neg h0
  refine ⟨if_neg h0, ?_, by rw [e]; rfl⟩
  rw [e] at hwf ⊢
  exact csum_setCur hw rfl hwf

theorem redo_sum (hw : WF H) (h0 : (curLn H).rd ≠ []) : cRedo H = 0 ∧ CSum H (mRedo H) ⟨H.cur, lastRd H, (curLn H).rd.dropLast⟩ ∧ (mRedo H).vs = H.vs := by
  have hwf := wf_redo hw
  have e : mRedo H = setCur { H with vs := H.vs } ⟨H.cur, lastRd H, (curLn H).rd.dropLast⟩ := if_neg h0
  refine ⟨if_neg h0, ?_, by rw [e]; rfl⟩
  rw [e] at hwf ⊢
  exact csum_setCur hw rfl hwf

theorem switch_sum (hw : WF H) {name : ByteArray} (hn : hasN name (bnames H) = true) : cSwitch H name = 0 ∧ mSwitch H name = { H with cur := name } := by
  have hb : wordB name = true := by
    have := hw.bw _ (get_of_mem hn)
    rwa [(look_nm hn).1] at this
  have hc : cSwitch H name = 0 := by unfold cSwitch missE; rw [if_pos hb, hn, if_pos rfl]
  exact ⟨hc, if_pos hc⟩

theorem hdN_of {l : Ln} (h : curLn H = l) : hdN H = l.hd.toNat := by unfold hdN; rw [h]

/-! #### the example of the chapter -/
theorem cur_new (root : Int) : curLn (newH root) = ⟨mainN, 0, []⟩ ∧ hdN (newH root) = 0 ∧ rootOf (newH root) = root := by
  have h1 : rank mainN [mainN] = 0 := by unfold rank; rw [ltN_irrefl]; rfl
  have e : curLn (newH root) = ⟨mainN, 0, []⟩ := by
    show ([⟨mainN, 0, []⟩] : List Ln).getD (rank mainN [mainN]) default = _
    rw [h1]; rfl
  have h2 : hdN (newH root) = 0 := by rw [hdN_of e]; rfl
  refine ⟨e, h2, ?_⟩
  unfold rootOf
  rw [h2]; rfl

def A1 : Hist := mCommit (newH 7) 8
def A2 : Hist := mUndo A1
def A3 : Hist := mRedo A2
theorem awake_facts : cUndo (newH 7) = 15 ∧ mUndo (newH 7) = newH 7 ∧ cCommit (newH 7) 8 = 0 ∧ cUndo A1 = 0 ∧ cRedo A2 = 0 ∧ hdN A3 = 1 ∧ rootOf A3 = 8 ∧ cBranch A3 mainN = 16 := by
  have hw0 := wf_new 7
  obtain ⟨c0, h0, r0⟩ := cur_new 7
  obtain ⟨e1, s1, v1⟩ := commit_sum hw0 (by show 1 < 1000; omega) 8
  have h1 : hdN A1 = 1 := by rw [hdN_of (H := A1) s1.cl]; rfl
  obtain ⟨e2, s2, v2⟩ := undo_sum (H := A1) s1.wf (by rw [h1]; omega)
  have hrd : (curLn A2).rd = [1] := by
    have : curLn A2 = _ := s2.cl
    have h1' : curLn A1 = _ := s1.cl
    rw [this, h1', h1]; rfl
  obtain ⟨e3, s3, v3⟩ := redo_sum (H := A2) s2.wf (by rw [hrd]; simp)
  have c3 : curLn A3 = ⟨mainN, 1, []⟩ := by
    have : curLn A3 = _ := s3.cl
    have hc : A2.cur = mainN := by rw [show A2.cur = A1.cur from s2.cur, show A1.cur = _ from s1.cur]; rfl
    rw [this]
    unfold lastRd
    rw [hrd, hc]; rfl
  have h3 : hdN A3 = 1 := by rw [hdN_of c3]; rfl
  have hv : A3.vs = [⟨-1, 7⟩, ⟨0, 8⟩] := by
    rw [show A3.vs = A2.vs from v3, show A2.vs = A1.vs from v2, show A1.vs = _ from v1, c0]; rfl
  have hbn : bnames A3 = [mainN] := by rw [show bnames A3 = _ from s3.bn, show bnames A2 = _ from s2.bn, show bnames A1 = _ from s1.bn]; rfl
  refine ⟨if_pos h0, if_pos h0, e1, e2, e3, h3, ?_, ?_⟩
  · unfold rootOf; rw [h3, hv]; rfl
  · unfold cBranch takenE
    rw [if_pos (by decide), hbn, (hasN_iff (List.pairwise_singleton _ _)).2 (List.mem_singleton.2 rfl), if_pos rfl]

end

end Go.Proofs.Ytalmfmijjbpnpaa
/-
  The walk of awake.
-/
namespace Go.Proofs.Ytalmfmijjbpnpaa
open Go.RowKit

section
variable {w : World}

set_option maxRecDepth 100000 in
set_option maxHeartbeats 1000000 in
theorem awake8 : Calls Try.prog 8 #[] w (Quiet (.bool true) w) := by
  obtain ⟨f1, f2, f3, f4, f5, f6, f7, f8⟩ := awake_facts
  have F := Lib.hid (⟨f1, f2, f3, f4, f5, f6, f7, f8⟩ : cUndo (newH 7) = 15 ∧ mUndo (newH 7) = newH 7 ∧ cCommit (newH 7) 8 = 0 ∧ cUndo A1 = 0 ∧ cRedo A2 = 0 ∧ hdN A3 = 1 ∧ rootOf A3 = 8 ∧ cBranch A3 mainN = 16)
  clear f1 f2 f3 f4 f5 f6 f7 f8
  go_enter Try.func8, Try.ntmps8
  go_wp2_with fail
  refine (st_new (W0 := w) (Below.refl _ _) 7).mono ?_
  rintro e w1 ⟨t, rfl, h1⟩
  have H1 := Lib.hid h1
  clear h1
  go_wp2_with fail
  refine (st_undo H1.out).mono ?_
  rw [F.out.1, F.out.2.1]
  rintro e w2 ⟨rfl, h2⟩
  have H2 := Lib.hid h2
  clear h2 H1
  go_wp2_with fail
  refine (st_commit H2.out 8).mono ?_
  rw [F.out.2.2.1]
  rintro e w3 ⟨rfl, h3⟩
  have H3 := Lib.hid (show St w (fun _ => False) w t A1 w3 from h3)
  clear h3 H2
  go_wp2_with fail
  refine (st_undo H3.out).mono ?_
  rw [F.out.2.2.2.1]
  rintro e w4 ⟨rfl, h4⟩
  have H4 := Lib.hid (show St w (fun _ => False) w t A2 w4 from h4)
  clear h4 H3
  go_wp2_with fail
  refine (st_redo H4.out).mono ?_
  rw [F.out.2.2.2.2.1]
  rintro e w5 ⟨rfl, h5⟩
  have H5 := Lib.hid (show St w (fun _ => False) w t A3 w5 from h5)
  clear h5 H4
  go_wp2_with fail
  refine (st_head H5.out).mono ?_
  rw [F.out.2.2.2.2.2.1]
  rintro e w6 ⟨rfl, h6⟩
  have H6 := Lib.hid h6
  clear h6 H5
  go_wp2_with fail
  refine (st_root H6.out).mono ?_
  rw [F.out.2.2.2.2.2.2.1]
  rintro e w7 ⟨rfl, h7⟩
  have H7 := Lib.hid h7
  clear h7 H6
  go_wp2_with fail
  refine (st_branch H7.out mainN (by decide)).mono ?_
  rw [F.out.2.2.2.2.2.2.2]
  rintro e w8 ⟨rfl, h8⟩
  have H8 := Lib.hid h8
  clear h8 H7
  go_wp2_with fail
  go_ret
  exact ⟨rfl, H8.out.below_of⟩

end

end Go.Proofs.Ytalmfmijjbpnpaa
/-
  What TimelineForks makes of a history: plain facts, no walk.
-/
namespace Go.Proofs.Ytalmfmijjbpnpaa
open Go.RowKit

def sideN : ByteArray := ⟨#[115, 105, 100, 101]⟩
/-- A row of commits. -/
def commits : Hist → List Int → Hist
  | H, [] => H
  | H, x :: xs => commits (mCommit H x) xs
theorem commits_snoc : ∀ (xs : List Int) (H : Hist) (x : Int), commits H (xs ++ [x]) = mCommit (commits H xs) x
  | [], _, _ => rfl
  | _ :: xs, H, x => commits_snoc xs (mCommit H _) x

section
variable {H H' H'' : Hist} {l l' : Ln}
theorem CSum.rfl' (hw : WF H) : CSum H H (curLn H) := ⟨hw, rfl, rfl, rfl, fun _ _ _ => rfl, rfl⟩
theorem CSum.trans (h : CSum H H' l) (h' : CSum H' H'' l') : CSum H H'' l' where
  wf := h'.wf
  cur := h'.cur.trans h.cur
  bn := h'.bn.trans h.bn
  cl := h'.cl
  oth := fun nm hn hh => (h'.oth nm (by rw [h.cur]; exact hn) (by rw [h.bn]; exact hh)).trans (h.oth nm hn hh)
  ss := h'.ss.trans h.ss

theorem commits_sum : ∀ (xs : List Int) (H : Hist), WF H → H.vs.length + xs.length ≤ 1000 → ∃ l, CSum H (commits H xs) l ∧ (commits H xs).vs.length = H.vs.length + xs.length
  | [], H, hw, _ => ⟨_, CSum.rfl' hw, rfl⟩
  | x :: xs, H, hw, hn => by
    rw [List.length_cons] at hn
    obtain ⟨_, s, v⟩ := commit_sum hw (by omega) x
    have hv : (mCommit H x).vs.length = H.vs.length + 1 := by rw [v, List.length_append, List.length_singleton]
    obtain ⟨l, s', v'⟩ := commits_sum xs _ s.wf (by omega)
    exact ⟨l, s.trans s', by show (commits (mCommit H x) xs).vs.length = _; rw [v', hv, List.length_cons]; omega⟩
end

theorem curLn_cur (H : Hist) (nm : ByteArray) : curLn { H with cur := nm } = look H nm := rfl
theorem look_cur (H : Hist) (c nm : ByteArray) : look { H with cur := c } nm = look H nm := rfl
theorem bnames_cur (H : Hist) (c : ByteArray) : bnames { H with cur := c } = bnames H := rfl
theorem vs_cur (H : Hist) (c : ByteArray) : ({ H with cur := c } : Hist).vs = H.vs := rfl

section
variable (xs ys : List Int) (a b : Int)
def F1 : Hist := commits (newH 0) xs
def F2 : Hist := mBranch (F1 xs) sideN
def F3 : Hist := mSwitch (F2 xs) sideN
def F4 : Hist := commits (F3 xs) ys
def F5 : Hist := mCommit (F4 xs ys) a
def F6 : Hist := mUndo (F5 xs ys a)
def F7 : Hist := mSwitch (F6 xs ys a) mainN
def F8 : Hist := mCommit (F7 xs ys a) b
def F9 : Hist := mSwitch (F8 xs ys a b) sideN
def F10 : Hist := mRedo (F9 xs ys a b)
def F11 : Hist := mSwitch (F10 xs ys a b) mainN

structure Forks : Prop where
  b1 : cBranch (F1 xs) sideN = 0
  s2 : cSwitch (F2 xs) sideN = 0
  h6 : hdN (F6 xs ys a) = hdN (F4 xs ys)
  s6 : cSwitch (F6 xs ys a) mainN = 0
  h7 : hdN (F7 xs ys a) = hdN (F1 xs)
  l8 : hdN (F8 xs ys a b) < (F8 xs ys a b).vs.length
  p8 : ((F8 xs ys a b).vs.getD (hdN (F8 xs ys a b)) default).par = hdN (F1 xs)
  s8 : cSwitch (F8 xs ys a b) sideN = 0
  h9 : hdN (F9 xs ys a b) = hdN (F4 xs ys)
  r9 : cRedo (F9 xs ys a b) = 0
  o10 : rootOf (F10 xs ys a b) = a
  s10 : cSwitch (F10 xs ys a b) mainN = 0
  h11 : hdN (F11 xs ys a b) = hdN (F8 xs ys a b)
  o11 : rootOf (F11 xs ys a b) = b

theorem getD_append_at {α : Type} {l : List α} {x d : α} {y : List α} {n : Nat} (h : n = l.length) : (l ++ x :: y).getD n d = x := by
  rw [h, List.getD_eq_getElem?_getD, List.getElem?_append_right (Nat.le_refl _), Nat.sub_self]; rfl

set_option maxHeartbeats 2000000 in
theorem forks (hx : xs.length ≤ 120) (hy : ys.length ≤ 120) : Forks xs ys a b := by
  have hw0 := wf_new 0
  have hv0 : (newH 0).vs.length = 1 := rfl
  obtain ⟨l1, c1, v1⟩ := commits_sum xs (newH 0) hw0 (by omega)
  rw [show commits (newH 0) xs = F1 xs from rfl] at c1 v1
  have cur1 : (F1 xs).cur = mainN := c1.cur
  have bn1 : bnames (F1 xs) = [mainN] := c1.bn
  have hm1 : hasN mainN (bnames (F1 xs)) = true := by rw [bn1, hasN_iff (List.pairwise_singleton _ _)]; exact List.mem_singleton.2 rfl
  have hs1 : hasN sideN (bnames (F1 xs)) = false := by
    rw [bn1, Bool.eq_false_iff, ne_eq, hasN_iff (List.pairwise_singleton _ _), List.mem_singleton]
    decide
  have L1 : curLn (F1 xs) = look (F1 xs) mainN := by rw [curLn_look, cur1]
  have b1 : cBranch (F1 xs) sideN = 0 := by
    have hl : (F1 xs).bs.length = 1 := by
      have := congrArg List.length bn1
      simpa [bnames] using this
    unfold cBranch takenE
    rw [if_pos (by decide), hs1, if_neg (by simp), if_neg (by omega)]
  obtain ⟨k1, k2, k3, k4⟩ := look_branch c1.wf b1 hm1
  have hw2 := wf_branch c1.wf sideN
  rw [show mBranch (F1 xs) sideN = F2 xs from rfl] at k1 k2 k3 k4 hw2
  have e2 : F2 xs = { F1 xs with bs := ins (F1 xs).bs (rank sideN (bnames (F1 xs))) ⟨sideN, hdN (F1 xs), []⟩ } := if_pos b1
  have vs2 : (F2 xs).vs = (F1 xs).vs := by rw [e2]
  obtain ⟨s2, e3⟩ := switch_sum hw2 k4
  have hw3 := wf_switch hw2 sideN
  rw [show mSwitch (F2 xs) sideN = F3 xs from rfl] at e3 hw3
  have cur3 : (F3 xs).cur = sideN := by rw [e3]
  have vs3 : (F3 xs).vs.length = 1 + xs.length := by rw [e3, vs_cur, vs2, v1, hv0]
  have bn3 : bnames (F3 xs) = bnames (F2 xs) := by rw [e3, bnames_cur]
  have look3 : look (F3 xs) mainN = look (F1 xs) mainN := by rw [← k1, e3, look_cur]
  have hm3 : hasN mainN (bnames (F3 xs)) = true := by rw [bn3]; exact k2
  have hs3 : hasN sideN (bnames (F3 xs)) = true := by rw [bn3]; exact k4
  have hne : mainN ≠ sideN := by decide
  obtain ⟨l4, c4, v4⟩ := commits_sum ys (F3 xs) hw3 (by omega)
  rw [show commits (F3 xs) ys = F4 xs ys from rfl] at c4 v4
  have look4 : look (F4 xs ys) mainN = look (F1 xs) mainN := (c4.oth _ (by rw [cur3]; exact hne) hm3).trans look3
  obtain ⟨_, c5, v5⟩ := commit_sum c4.wf (by omega) a
  rw [show mCommit (F4 xs ys) a = F5 xs ys a from rfl] at c5 v5
  have hd5 : hdN (F5 xs ys a) = (F4 xs ys).vs.length := by rw [hdN_of c5.cl]; rfl
  obtain ⟨_, c6, v6⟩ := undo_sum c5.wf (by rw [hd5, v4, vs3]; omega)
  rw [show mUndo (F5 xs ys a) = F6 xs ys a from rfl] at c6 v6
  have par5 : parOf (F5 xs ys a) = (curLn (F4 xs ys)).hd := by
    unfold parOf
    rw [hd5, v5, getD_append_at rfl]
  have h6 : hdN (F6 xs ys a) = hdN (F4 xs ys) := by rw [hdN_of c6.cl, hdN_of (H := F4 xs ys) rfl, par5]
  have c46 := c5.trans c6
  have c36 := c4.trans c46
  have cur6 : (F6 xs ys a).cur = sideN := c36.cur.trans cur3
  have hm6 : hasN mainN (bnames (F6 xs ys a)) = true := by rw [c36.bn]; exact hm3
  have hs6 : hasN sideN (bnames (F6 xs ys a)) = true := by rw [c36.bn]; exact hs3
  have look6 : look (F6 xs ys a) mainN = look (F1 xs) mainN := (c36.oth _ (by rw [cur3]; exact hne) hm3).trans look3
  obtain ⟨s6, e7⟩ := switch_sum c6.wf hm6
  have hw7 := wf_switch c6.wf mainN
  rw [show mSwitch (F6 xs ys a) mainN = F7 xs ys a from rfl] at e7 hw7
  have cur7 : (F7 xs ys a).cur = mainN := by rw [e7]
  have cl7 : curLn (F7 xs ys a) = curLn (F1 xs) := by
    rw [curLn_look, cur7, L1, ← look6, e7, look_cur]
  have h7 : hdN (F7 xs ys a) = hdN (F1 xs) := by rw [hdN_of cl7]; rfl
  have bn7 : bnames (F7 xs ys a) = bnames (F6 xs ys a) := by rw [e7, bnames_cur]
  have vs7 : (F7 xs ys a).vs = (F4 xs ys).vs ++ [⟨(curLn (F4 xs ys)).hd, a⟩] := by rw [e7, vs_cur, v6, v5]
  have lv7 : (F7 xs ys a).vs.length = (F4 xs ys).vs.length + 1 := by rw [vs7, List.length_append, List.length_singleton]
  have ls7 : look (F7 xs ys a) sideN = ⟨sideN, (curLn (F4 xs ys)).hd, [((F4 xs ys).vs.length : Int)]⟩ := by
    have hh : look (F7 xs ys a) sideN = curLn (F6 xs ys a) := by rw [curLn_look, cur6, e7, look_cur]
    rw [hh, c6.cl, par5, hd5, c5.cl, show (F5 xs ys a).cur = sideN from (c4.trans c5).cur.trans cur3]; rfl
  obtain ⟨_, c8, v8⟩ := commit_sum hw7 (by omega) b
  rw [show mCommit (F7 xs ys a) b = F8 xs ys a b from rfl] at c8 v8
  have hd8 : hdN (F8 xs ys a b) = (F7 xs ys a).vs.length := by rw [hdN_of c8.cl]; rfl
  have hs7 : hasN sideN (bnames (F7 xs ys a)) = true := by rw [bn7]; exact hs6
  have hm7 : hasN mainN (bnames (F7 xs ys a)) = true := by rw [bn7]; exact hm6
  have hs8 : hasN sideN (bnames (F8 xs ys a b)) = true := by rw [c8.bn]; exact hs7
  have hm8 : hasN mainN (bnames (F8 xs ys a b)) = true := by rw [c8.bn]; exact hm7
  have p8 : ((F8 xs ys a b).vs.getD (hdN (F8 xs ys a b)) default).par = hdN (F1 xs) := by
    rw [hd8, v8, getD_append_at rfl]
    show (curLn (F7 xs ys a)).hd = _
    rw [cl7]
    exact (hd_eq c1.wf).1
  obtain ⟨s8, e9⟩ := switch_sum c8.wf hs8
  have hw9 := wf_switch c8.wf sideN
  rw [show mSwitch (F8 xs ys a b) sideN = F9 xs ys a b from rfl] at e9 hw9
  have cur9 : (F9 xs ys a b).cur = sideN := by rw [e9]
  have cl9 : curLn (F9 xs ys a b) = ⟨sideN, (curLn (F4 xs ys)).hd, [((F4 xs ys).vs.length : Int)]⟩ := by
    rw [← ls7, ← c8.oth sideN (by rw [cur7]; exact hne.symm) hs7, curLn_look, cur9, e9, look_cur]
  have h9 : hdN (F9 xs ys a b) = hdN (F4 xs ys) := by rw [hdN_of cl9]; rfl
  obtain ⟨r9, c10, v10⟩ := redo_sum hw9 (by rw [cl9]; simp)
  rw [show mRedo (F9 xs ys a b) = F10 xs ys a b from rfl] at c10 v10
  have last9 : lastRd (F9 xs ys a b) = ((F4 xs ys).vs.length : Int) := by unfold lastRd; rw [cl9]; rfl
  have hd10 : hdN (F10 xs ys a b) = (F4 xs ys).vs.length := by rw [hdN_of c10.cl, last9]; rfl
  have vs10 : (F10 xs ys a b).vs = (F4 xs ys).vs ++ (⟨(curLn (F4 xs ys)).hd, a⟩ : Ver) :: [⟨(curLn (F7 xs ys a)).hd, b⟩] := by
    rw [v10, e9, vs_cur, v8, vs7, List.append_assoc, List.singleton_append]
  have o10 : rootOf (F10 xs ys a b) = a := by
    unfold rootOf
    rw [hd10, vs10, getD_append_at rfl]
  have bn9 : bnames (F9 xs ys a b) = bnames (F8 xs ys a b) := by rw [e9, bnames_cur]
  have hm10 : hasN mainN (bnames (F10 xs ys a b)) = true := by rw [c10.bn, bn9]; exact hm8
  obtain ⟨s10, e11⟩ := switch_sum c10.wf hm10
  rw [show mSwitch (F10 xs ys a b) mainN = F11 xs ys a b from rfl] at e11
  have cl11 : curLn (F11 xs ys a b) = curLn (F8 xs ys a b) := by
    have i1 : curLn (F11 xs ys a b) = look (F10 xs ys a b) mainN := by rw [e11, curLn_cur]
    have i2 : look (F9 xs ys a b) mainN = look (F8 xs ys a b) mainN := by rw [e9, look_cur]
    rw [i1, c10.oth mainN (by rw [cur9]; exact hne) (by rw [bn9]; exact hm8), i2, curLn_look, c8.cur, cur7]
  have h11 : hdN (F11 xs ys a b) = hdN (F8 xs ys a b) := by rw [hdN_of cl11]; rfl
  have o11 : rootOf (F11 xs ys a b) = b := by
    have e : (F11 xs ys a b).vs = (F7 xs ys a).vs ++ [⟨(curLn (F7 xs ys a)).hd, b⟩] := by
      rw [e11, vs_cur, vs10, vs7, List.append_assoc, List.singleton_append]
    unfold rootOf
    rw [h11, hd8, e, getD_append_at rfl]
  exact ⟨b1, s2, h6, s6, h7, by rw [hd8, v8, List.length_append, List.length_singleton]; omega, p8, s8, h9, r9, o10, s10, h11, o11⟩

end

end Go.Proofs.Ytalmfmijjbpnpaa
