/-
  What TimelineForks makes of a history: plain facts, no walk.
-/
import Derived.Test.YtalmfmijjbpnpaaV
namespace Go.Proofs.Ytalmfmijjbpnpaa
open Go.RowKit

def sideN : ByteArray := ⟨#[115, 105, 100, 101]⟩
/-- A row of commits. -/
def commits : Hist → List Int → Hist
  | H, [] => H
  | H, x :: xs => commits (mCommit H x) xs
theorem commits_snoc : ∀ (xs : List Int) (H : Hist) (x : Int), commits H (xs ++ [x]) = mCommit (commits H xs) x
  | [], _, _ => rfl
  | _ :: xs, H, x => commits_snoc xs (mCommit H _) x

section
variable {H H' H'' : Hist} {l l' : Ln}
theorem CSum.rfl' (hw : WF H) : CSum H H (curLn H) := ⟨hw, rfl, rfl, rfl, fun _ _ _ => rfl, rfl⟩
theorem CSum.trans (h : CSum H H' l) (h' : CSum H' H'' l') : CSum H H'' l' where
  wf := h'.wf
  cur := h'.cur.trans h.cur
  bn := h'.bn.trans h.bn
  cl := h'.cl
  oth := fun nm hn hh => (h'.oth nm (by rw [h.cur]; exact hn) (by rw [h.bn]; exact hh)).trans (h.oth nm hn hh)
  ss := h'.ss.trans h.ss

theorem commits_sum : ∀ (xs : List Int) (H : Hist), WF H → H.vs.length + xs.length ≤ 1000 → ∃ l, CSum H (commits H xs) l ∧ (commits H xs).vs.length = H.vs.length + xs.length
  | [], H, hw, _ => ⟨_, CSum.rfl' hw, rfl⟩
  | x :: xs, H, hw, hn => by
    rw [List.length_cons] at hn
    obtain ⟨_, s, v⟩ := commit_sum hw (by omega) x
    have hv : (mCommit H x).vs.length = H.vs.length + 1 := by rw [v, List.length_append, List.length_singleton]
    obtain ⟨l, s', v'⟩ := commits_sum xs _ s.wf (by omega)
    exact ⟨l, s.trans s', by show (commits (mCommit H x) xs).vs.length = _; rw [v', hv, List.length_cons]; omega⟩
end

theorem curLn_cur (H : Hist) (nm : ByteArray) : curLn { H with cur := nm } = look H nm := rfl
theorem look_cur (H : Hist) (c nm : ByteArray) : look { H with cur := c } nm = look H nm := rfl
theorem bnames_cur (H : Hist) (c : ByteArray) : bnames { H with cur := c } = bnames H := rfl
theorem vs_cur (H : Hist) (c : ByteArray) : ({ H with cur := c } : Hist).vs = H.vs := rfl

section
variable (xs ys : List Int) (a b : Int)
def F1 : Hist := commits (newH 0) xs
def F2 : Hist := mBranch (F1 xs) sideN
def F3 : Hist := mSwitch (F2 xs) sideN
def F4 : Hist := commits (F3 xs) ys
def F5 : Hist := mCommit (F4 xs ys) a
def F6 : Hist := mUndo (F5 xs ys a)
def F7 : Hist := mSwitch (F6 xs ys a) mainN
def F8 : Hist := mCommit (F7 xs ys a) b
def F9 : Hist := mSwitch (F8 xs ys a b) sideN
def F10 : Hist := mRedo (F9 xs ys a b)
def F11 : Hist := mSwitch (F10 xs ys a b) mainN

structure Forks : Prop where
  b1 : cBranch (F1 xs) sideN = 0
  s2 : cSwitch (F2 xs) sideN = 0
  h6 : hdN (F6 xs ys a) = hdN (F4 xs ys)
  s6 : cSwitch (F6 xs ys a) mainN = 0
  h7 : hdN (F7 xs ys a) = hdN (F1 xs)
  l8 : hdN (F8 xs ys a b) < (F8 xs ys a b).vs.length
  p8 : ((F8 xs ys a b).vs.getD (hdN (F8 xs ys a b)) default).par = hdN (F1 xs)
  s8 : cSwitch (F8 xs ys a b) sideN = 0
  h9 : hdN (F9 xs ys a b) = hdN (F4 xs ys)
  r9 : cRedo (F9 xs ys a b) = 0
  o10 : rootOf (F10 xs ys a b) = a
  s10 : cSwitch (F10 xs ys a b) mainN = 0
  h11 : hdN (F11 xs ys a b) = hdN (F8 xs ys a b)
  o11 : rootOf (F11 xs ys a b) = b

theorem getD_append_at {α : Type} {l : List α} {x d : α} {y : List α} {n : Nat} (h : n = l.length) : (l ++ x :: y).getD n d = x := by
  rw [h, List.getD_eq_getElem?_getD, List.getElem?_append_right (Nat.le_refl _), Nat.sub_self]; rfl

set_option maxHeartbeats 2000000 in
theorem forks (hx : xs.length ≤ 120) (hy : ys.length ≤ 120) : Forks xs ys a b := by
  have hw0 := wf_new 0
  have hv0 : (newH 0).vs.length = 1 := rfl
  obtain ⟨l1, c1, v1⟩ := commits_sum xs (newH 0) hw0 (by omega)
  rw [show commits (newH 0) xs = F1 xs from rfl] at c1 v1
  have cur1 : (F1 xs).cur = mainN := c1.cur
  have bn1 : bnames (F1 xs) = [mainN] := c1.bn
  have hm1 : hasN mainN (bnames (F1 xs)) = true := by rw [bn1, hasN_iff (List.pairwise_singleton _ _)]; exact List.mem_singleton.2 rfl
  have hs1 : hasN sideN (bnames (F1 xs)) = false := by
    rw [bn1, Bool.eq_false_iff, ne_eq, hasN_iff (List.pairwise_singleton _ _), List.mem_singleton]
    decide
  have L1 : curLn (F1 xs) = look (F1 xs) mainN := by rw [curLn_look, cur1]
  have b1 : cBranch (F1 xs) sideN = 0 := by
    have hl : (F1 xs).bs.length = 1 := by
      have := congrArg List.length bn1
      simpa [bnames] using this
    unfold cBranch takenE
    rw [if_pos (by decide), hs1, if_neg (by simp), if_neg (by omega)]
  obtain ⟨k1, k2, k3, k4⟩ := look_branch c1.wf b1 hm1
  have hw2 := wf_branch c1.wf sideN
  rw [show mBranch (F1 xs) sideN = F2 xs from rfl] at k1 k2 k3 k4 hw2
  have e2 : F2 xs = { F1 xs with bs := ins (F1 xs).bs (rank sideN (bnames (F1 xs))) ⟨sideN, hdN (F1 xs), []⟩ } := if_pos b1
  have vs2 : (F2 xs).vs = (F1 xs).vs := by rw [e2]
  obtain ⟨s2, e3⟩ := switch_sum hw2 k4
  have hw3 := wf_switch hw2 sideN
  rw [show mSwitch (F2 xs) sideN = F3 xs from rfl] at e3 hw3
  have cur3 : (F3 xs).cur = sideN := by rw [e3]
  have vs3 : (F3 xs).vs.length = 1 + xs.length := by rw [e3, vs_cur, vs2, v1, hv0]
  have bn3 : bnames (F3 xs) = bnames (F2 xs) := by rw [e3, bnames_cur]
  have look3 : look (F3 xs) mainN = look (F1 xs) mainN := by rw [← k1, e3, look_cur]
  have hm3 : hasN mainN (bnames (F3 xs)) = true := by rw [bn3]; exact k2
  have hs3 : hasN sideN (bnames (F3 xs)) = true := by rw [bn3]; exact k4
  have hne : mainN ≠ sideN := by decide
  obtain ⟨l4, c4, v4⟩ := commits_sum ys (F3 xs) hw3 (by omega)
  rw [show commits (F3 xs) ys = F4 xs ys from rfl] at c4 v4
  have look4 : look (F4 xs ys) mainN = look (F1 xs) mainN := (c4.oth _ (by rw [cur3]; exact hne) hm3).trans look3
  obtain ⟨_, c5, v5⟩ := commit_sum c4.wf (by omega) a
  rw [show mCommit (F4 xs ys) a = F5 xs ys a from rfl] at c5 v5
  have hd5 : hdN (F5 xs ys a) = (F4 xs ys).vs.length := by rw [hdN_of c5.cl]; rfl
  obtain ⟨_, c6, v6⟩ := undo_sum c5.wf (by rw [hd5, v4, vs3]; omega)
  rw [show mUndo (F5 xs ys a) = F6 xs ys a from rfl] at c6 v6
  have par5 : parOf (F5 xs ys a) = (curLn (F4 xs ys)).hd := by
    unfold parOf
    rw [hd5, v5, getD_append_at rfl]
  have h6 : hdN (F6 xs ys a) = hdN (F4 xs ys) := by rw [hdN_of c6.cl, hdN_of (H := F4 xs ys) rfl, par5]
  have c46 := c5.trans c6
  have c36 := c4.trans c46
  have cur6 : (F6 xs ys a).cur = sideN := c36.cur.trans cur3
  have hm6 : hasN mainN (bnames (F6 xs ys a)) = true := by rw [c36.bn]; exact hm3
  have hs6 : hasN sideN (bnames (F6 xs ys a)) = true := by rw [c36.bn]; exact hs3
  have look6 : look (F6 xs ys a) mainN = look (F1 xs) mainN := (c36.oth _ (by rw [cur3]; exact hne) hm3).trans look3
  obtain ⟨s6, e7⟩ := switch_sum c6.wf hm6
  have hw7 := wf_switch c6.wf mainN
  rw [show mSwitch (F6 xs ys a) mainN = F7 xs ys a from rfl] at e7 hw7
  have cur7 : (F7 xs ys a).cur = mainN := by rw [e7]
  have cl7 : curLn (F7 xs ys a) = curLn (F1 xs) := by
    rw [curLn_look, cur7, L1, ← look6, e7, look_cur]
  have h7 : hdN (F7 xs ys a) = hdN (F1 xs) := by rw [hdN_of cl7]; rfl
  have bn7 : bnames (F7 xs ys a) = bnames (F6 xs ys a) := by rw [e7, bnames_cur]
  have vs7 : (F7 xs ys a).vs = (F4 xs ys).vs ++ [⟨(curLn (F4 xs ys)).hd, a⟩] := by rw [e7, vs_cur, v6, v5]
  have lv7 : (F7 xs ys a).vs.length = (F4 xs ys).vs.length + 1 := by rw [vs7, List.length_append, List.length_singleton]
  have ls7 : look (F7 xs ys a) sideN = ⟨sideN, (curLn (F4 xs ys)).hd, [((F4 xs ys).vs.length : Int)]⟩ := by
    have hh : look (F7 xs ys a) sideN = curLn (F6 xs ys a) := by rw [curLn_look, cur6, e7, look_cur]
    rw [hh, c6.cl, par5, hd5, c5.cl, show (F5 xs ys a).cur = sideN from (c4.trans c5).cur.trans cur3]; rfl
  obtain ⟨_, c8, v8⟩ := commit_sum hw7 (by omega) b
  rw [show mCommit (F7 xs ys a) b = F8 xs ys a b from rfl] at c8 v8
  have hd8 : hdN (F8 xs ys a b) = (F7 xs ys a).vs.length := by rw [hdN_of c8.cl]; rfl
  have hs7 : hasN sideN (bnames (F7 xs ys a)) = true := by rw [bn7]; exact hs6
  have hm7 : hasN mainN (bnames (F7 xs ys a)) = true := by rw [bn7]; exact hm6
  have hs8 : hasN sideN (bnames (F8 xs ys a b)) = true := by rw [c8.bn]; exact hs7
  have hm8 : hasN mainN (bnames (F8 xs ys a b)) = true := by rw [c8.bn]; exact hm7
  have p8 : ((F8 xs ys a b).vs.getD (hdN (F8 xs ys a b)) default).par = hdN (F1 xs) := by
    rw [hd8, v8, getD_append_at rfl]
    show (curLn (F7 xs ys a)).hd = _
    rw [cl7]
    exact (hd_eq c1.wf).1
  obtain ⟨s8, e9⟩ := switch_sum c8.wf hs8
  have hw9 := wf_switch c8.wf sideN
  rw [show mSwitch (F8 xs ys a b) sideN = F9 xs ys a b from rfl] at e9 hw9
  have cur9 : (F9 xs ys a b).cur = sideN := by rw [e9]
  have cl9 : curLn (F9 xs ys a b) = ⟨sideN, (curLn (F4 xs ys)).hd, [((F4 xs ys).vs.length : Int)]⟩ := by
    rw [← ls7, ← c8.oth sideN (by rw [cur7]; exact hne.symm) hs7, curLn_look, cur9, e9, look_cur]
  have h9 : hdN (F9 xs ys a b) = hdN (F4 xs ys) := by rw [hdN_of cl9]; rfl
  obtain ⟨r9, c10, v10⟩ := redo_sum hw9 (by rw [cl9]; simp)
  rw [show mRedo (F9 xs ys a b) = F10 xs ys a b from rfl] at c10 v10
  have last9 : lastRd (F9 xs ys a b) = ((F4 xs ys).vs.length : Int) := by unfold lastRd; rw [cl9]; rfl
  have hd10 : hdN (F10 xs ys a b) = (F4 xs ys).vs.length := by rw [hdN_of c10.cl, last9]; rfl
  have vs10 : (F10 xs ys a b).vs = (F4 xs ys).vs ++ (⟨(curLn (F4 xs ys)).hd, a⟩ : Ver) :: [⟨(curLn (F7 xs ys a)).hd, b⟩] := by
    rw [v10, e9, vs_cur, v8, vs7, List.append_assoc, List.singleton_append]
  have o10 : rootOf (F10 xs ys a b) = a := by
    unfold rootOf
    rw [hd10, vs10, getD_append_at rfl]
  have bn9 : bnames (F9 xs ys a b) = bnames (F8 xs ys a b) := by rw [e9, bnames_cur]
  have hm10 : hasN mainN (bnames (F10 xs ys a b)) = true := by rw [c10.bn, bn9]; exact hm8
  obtain ⟨s10, e11⟩ := switch_sum c10.wf hm10
  rw [show mSwitch (F10 xs ys a b) mainN = F11 xs ys a b from rfl] at e11
  have cl11 : curLn (F11 xs ys a b) = curLn (F8 xs ys a b) := by
    have i1 : curLn (F11 xs ys a b) = look (F10 xs ys a b) mainN := by rw [e11, curLn_cur]
    have i2 : look (F9 xs ys a b) mainN = look (F8 xs ys a b) mainN := by rw [e9, look_cur]
    rw [i1, c10.oth mainN (by rw [cur9]; exact hne) (by rw [bn9]; exact hm8), i2, curLn_look, c8.cur, cur7]
  have h11 : hdN (F11 xs ys a b) = hdN (F8 xs ys a b) := by rw [hdN_of cl11]; rfl
  have o11 : rootOf (F11 xs ys a b) = b := by
    have e : (F11 xs ys a b).vs = (F7 xs ys a).vs ++ [⟨(curLn (F7 xs ys a)).hd, b⟩] := by
      rw [e11, vs_cur, vs10, vs7, List.append_assoc, List.singleton_append]
    unfold rootOf
    rw [h11, hd8, e, getD_append_at rfl]
  exact ⟨b1, s2, h6, s6, h7, by rw [hd8, v8, List.length_append, List.length_singleton]; omega, p8, s8, h9, r9, o10, s10, h11, o11⟩

end

end Go.Proofs.Ytalmfmijjbpnpaa
