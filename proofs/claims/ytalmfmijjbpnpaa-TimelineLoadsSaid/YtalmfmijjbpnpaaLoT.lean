/-
  One timeline of the call's own, from operation to operation; what the operations make of a history.
-/
import Derived.Test.YtalmfmijjbpnpaaLoS
namespace Go.Proofs.Ytalmfmijjbpnpaa
open Go.RowKit

/-- A timeline of the call's own, at t: it holds H; what was there when the call began (in W0) is as it was; the blocks of D, none of them its own, are as they were in Wd. -/
def St (W0 : World) (D : Nat → Prop) (Wd : World) (t : Nat) (H : Hist) (w : World) : Prop :=
  WF H ∧ ∃ m, Rep w 67 t H m ∧ (∀ k, m.owns t k → W0.heap.size ≤ k ∧ ¬ D k) ∧ Below W0.heap.size W0 w ∧ (∀ k, D k → k < Wd.heap.size ∧ w.heap[k]? = Wd.heap[k]?) ∧ Wd.heap.size ≤ w.heap.size

/-- The call returns v and leaves such a timeline. -/
def StR (v : Value) (W0 : World) (D : Nat → Prop) (Wd : World) (t : Nat) (H : Hist) (e : Ending) (w' : World) : Prop := e = .returned v ∧ St W0 D Wd t H w'

section
variable {W0 Wd w : World} {D : Nat → Prop} {t : Nat} {H H' : Hist} {v : Value} {f : Nat} {args : Array Value}

theorem St.below_of (h : St W0 D Wd t H w) : Below W0.heap.size W0 w := by obtain ⟨_, m, _, _, h, _⟩ := h; exact h
theorem St.wf (h : St W0 D Wd t H w) : WF H := h.1
theorem St.kept (h : St W0 D Wd t H w) {k : Nat} (hk : D k) : w.heap[k]? = Wd.heap[k]? := by obtain ⟨_, m, _, _, _, h, _⟩ := h; exact (h k hk).2
theorem St.later {w' : World} (h : St W0 D Wd t H w) (hb : Below w.heap.size w w') : St W0 D Wd t H w' := by
  obtain ⟨hw, m, hr, ho, hB, hD, hs⟩ := h
  exact ⟨hw, m, hr.below hb, ho, hB.trans (hb.mono hB.size), fun k hk => ⟨(hD k hk).1, (hb.block k (by have := (hD k hk).1; omega)).trans (hD k hk).2⟩, Nat.le_trans hs hb.size⟩

theorem st_quiet (h : St W0 D Wd t H w) (hc : ∀ m, Rep w 67 t H m → Calls Try.prog f args w (Quiet v w)) : Calls Try.prog f args w (StR v W0 D Wd t H) := by
  obtain ⟨hw, m, hr, ho⟩ := h
  refine (hc m hr).mono ?_
  rintro e w' ⟨rfl, hb⟩
  exact ⟨rfl, St.later ⟨hw, m, hr, ho⟩ hb⟩
theorem st_mut (h : St W0 D Wd t H w) (hw' : WF H') (hc : ∀ m, Rep w 67 t H m → Calls Try.prog f args w (Mut v H' 67 t m w)) : Calls Try.prog f args w (StR v W0 D Wd t H') := by
  obtain ⟨hw, m, hr, ho, hB, hD, hs⟩ := h
  refine (hc m hr).mono ?_
  rintro e w' ⟨rfl, m', hr', hf, ho'⟩
  have hsz := hB.size
  refine ⟨rfl, hw', m', hr', fun k hk => ?_, ?_, fun k hk => ?_, Nat.le_trans hs hf.size⟩
  · rcases ho' k hk with h | h
    · exact ho k h
    · exact ⟨by omega, fun hd => by have := (hD k hd).1; omega⟩
  · exact hB.trans (hf.below_of (fun k hk hS => by have := (ho k hS).1; omega) hsz)
  · have := (hD k hk).1
    exact ⟨this, (hf.block k (by omega) (fun hS => (ho k hS).2 hk)).trans (hD k hk).2⟩
theorem st_new (h : Below W0.heap.size W0 w) (root : Int) : Calls Try.prog 10 #[.int .i64 root] w fun e w' => ∃ t, StR (.pointer (some ⟨t, 0, none⟩)) W0 (fun _ => False) W0 t (newH root) e w' := by
  refine (new10 root).mono ?_
  rintro e w' ⟨t, m, rfl, hr, ho, hb⟩
  have hsz := h.size
  exact ⟨t, rfl, wf_new root, m, hr, fun k hk => ⟨by have := ho k hk; omega, fun e => e⟩, h.trans (hb.mono hsz), fun k hk => hk.elim, Nat.le_trans hsz hb.size⟩
/-- Blocks that lie apart may be watched from now on. -/
theorem St.watch (h : St W0 D Wd t H w) {w' : World} (hb : Below w.heap.size w w') (D' : Nat → Prop) (hD' : ∀ k, D' k → w.heap.size ≤ k ∧ k < w'.heap.size) : St W0 D' w' t H w' := by
  obtain ⟨hw, m, hr, ho, hB, hD, hs⟩ := h
  exact ⟨hw, m, hr.below hb, fun k hk => ⟨(ho k hk).1, fun hd => by have := hr.lt hk; have := (hD' k hd).1; omega⟩, hB.trans (hb.mono hB.size), fun k hk => ⟨(hD' k hk).2, rfl⟩, Nat.le_refl _⟩
theorem st_head (h : St W0 D Wd t H w) : Calls Try.prog 13 #[.pointer (some ⟨t, 0, none⟩)] w (StR (.int .i64 (hdN H)) W0 D Wd t H) := st_quiet h fun _ hr => head13 hr h.1
theorem st_root (h : St W0 D Wd t H w) : Calls Try.prog 19 #[.pointer (some ⟨t, 0, none⟩)] w (StR (.int .i64 (rootOf H)) W0 D Wd t H) := st_quiet h fun _ hr => root19 hr h.1
theorem st_commit (h : St W0 D Wd t H w) (root : Int) : Calls Try.prog 11 #[.pointer (some ⟨t, 0, none⟩), .int .i64 root] w (StR (.int .i64 (cCommit H root)) W0 D Wd t (mCommit H root)) :=
  st_mut h (wf_commit h.1 root) fun _ hr => commit11 hr h.1 root
theorem st_undo (h : St W0 D Wd t H w) : Calls Try.prog 16 #[.pointer (some ⟨t, 0, none⟩)] w (StR (.int .i64 (cUndo H)) W0 D Wd t (mUndo H)) :=
  st_mut h (wf_undo h.1) fun _ hr => undo16 hr h.1
theorem st_redo (h : St W0 D Wd t H w) : Calls Try.prog 18 #[.pointer (some ⟨t, 0, none⟩)] w (StR (.int .i64 (cRedo H)) W0 D Wd t (mRedo H)) :=
  st_mut h (wf_redo h.1) fun _ hr => redo18 hr h.1
theorem st_switch (h : St W0 D Wd t H w) (name : ByteArray) (hn : name.size ≤ maxLen) : Calls Try.prog 15 #[.pointer (some ⟨t, 0, none⟩), .string name] w (StR (.int .i64 (cSwitch H name)) W0 D Wd t (mSwitch H name)) :=
  st_mut h (wf_switch h.1 name) fun _ hr => switch15 hr h.1 name hn
theorem st_branch (h : St W0 D Wd t H w) (name : ByteArray) (hn : name.size ≤ maxLen) : Calls Try.prog 14 #[.pointer (some ⟨t, 0, none⟩), .string name] w (StR (.int .i64 (cBranch H name)) W0 D Wd t (mBranch H name)) :=
  st_mut h (wf_branch h.1 name) fun _ hr => branch14 hr h.1 name hn
theorem st_snap (h : St W0 D Wd t H w) (name : ByteArray) (hn : name.size ≤ maxLen) : Calls Try.prog 20 #[.pointer (some ⟨t, 0, none⟩), .string name] w (StR (.int .i64 (cSnap H name)) W0 D Wd t (mSnap H name)) :=
  st_mut h (wf_snap h.1 name) fun _ hr => snapshot20 hr h.1 name hn
end

/-! ### what the operations make of a history -/
/-- The branch of a name. -/
def look (H : Hist) (nm : ByteArray) : Ln := H.bs.getD (rank nm (bnames H)) default

theorem curLn_look (H : Hist) : curLn H = look H H.cur := rfl

theorem look_nm {H : Hist} {nm : ByteArray} (h : hasN nm (bnames H) = true) : (look H nm).nm = nm ∧ rank nm (bnames H) < H.bs.length := by
  unfold hasN at h
  rw [decide_eq_true_eq] at h
  have hl := (List.getElem?_eq_some_iff.1 h).1
  have hl' : rank nm (bnames H) < H.bs.length := by simpa [bnames] using hl
  refine ⟨?_, hl'⟩
  have h2 : (H.bs.map (·.nm))[rank nm (bnames H)]? = some nm := h
  rw [List.getElem?_map] at h2
  unfold look
  rw [List.getD_eq_getElem?_getD]
  revert h2
  cases H.bs[rank nm (bnames H)]? with
  | none => intro h; cases h
  | some x => intro h; simpa using h

section
variable {H : Hist}

theorem look_setCur (hw : WF H) {l : Ln} (hl : l.nm = H.cur) {nm : ByteArray} (hn : hasN nm (bnames H) = true) : look (setCur H l) nm = if nm = H.cur then l else look H nm := by
  obtain ⟨h1, h2, h3⟩ := ci_lt hw
  have hb := bnames_set hw hl
  unfold look
  rw [hb]
  show (H.bs.set (ci H) l).getD _ _ = _
  split
  · rename_i e
    subst e
    rw [List.getD_eq_getElem?_getD, show rank H.cur (bnames H) = ci H from rfl, List.getElem?_set_self h1]; rfl
  · rename_i e
    have hne : ci H ≠ rank nm (bnames H) := by
      intro hh
      apply e
      rw [← (look_nm hn).1, ← (look_nm hw.cur).1]
      unfold look
      rw [← hh]; rfl
    rw [List.getD_eq_getElem?_getD, List.getElem?_set_ne hne, ← List.getD_eq_getElem?_getD]

theorem curLn_setCur (hw : WF H) {l : Ln} (hl : l.nm = H.cur) : curLn (setCur H l) = l := by
  rw [curLn_look]
  show look (setCur H l) H.cur = l
  rw [look_setCur hw hl hw.cur, if_pos rfl]

theorem getD_ins {α : Type} (l : List α) (i : Nat) (x d : α) (hi : i ≤ l.length) (j : Nat) : (ins l i x).getD j d = if j < i then l.getD j d else if j = i then x else l.getD (j - 1) d := by
  unfold ins
  rw [List.getD_eq_getElem?_getD, List.getElem?_append, List.length_take, Nat.min_eq_left hi]
  split
  · rename_i h
    rw [List.getElem?_take, if_pos h, List.getD_eq_getElem?_getD]
  · rename_i h
    split
    · rename_i e
      subst e
      rw [Nat.sub_self]; rfl
    · rename_i e
      obtain ⟨k, hk⟩ : ∃ k, j - i = k + 1 := ⟨j - i - 1, by omega⟩
      rw [hk, List.getElem?_cons_succ, List.getElem?_drop, List.getD_eq_getElem?_getD]
      congr 2
      omega

theorem look_of_get {H : Hist} {j : Nat} {l : Ln} (hs : SortedN (bnames H)) (h : H.bs[j]? = some l) : look H l.nm = l := by
  have hn : hasN l.nm (bnames H) = true := (hasN_iff hs).2 (List.mem_map_of_mem (List.mem_of_getElem? h))
  obtain ⟨h1, h2⟩ := look_nm hn
  have hj := (List.getElem?_eq_some_iff.1 h).1
  have e : rank l.nm (bnames H) = j := by
    have hp := List.pairwise_iff_getElem.1 hs
    have hlen : (bnames H).length = H.bs.length := by simp [bnames]
    have g1 : (bnames H)[rank l.nm (bnames H)]'(by omega) = l.nm := by
      unfold hasN at hn
      rw [decide_eq_true_eq] at hn
      exact (List.getElem?_eq_some_iff.1 hn).2
    have g2 : (bnames H)[j]'(by omega) = l.nm := by
      have : (bnames H)[j]? = some l.nm := by unfold bnames; rw [List.getElem?_map, h]; rfl
      exact (List.getElem?_eq_some_iff.1 this).2
    rcases Nat.lt_trichotomy (rank l.nm (bnames H)) j with hlt | heq | hgt
    · have := hp _ _ (by omega) (by omega) hlt
      rw [g1, g2, ltN_irrefl] at this; cases this
    · exact heq
    · have := hp _ _ (by omega) (by omega) hgt
      rw [g1, g2, ltN_irrefl] at this; cases this
  unfold look
  rw [e, List.getD_eq_getElem?_getD, h]; rfl

theorem get_of_mem {H : Hist} {nm : ByteArray} (h : hasN nm (bnames H) = true) : look H nm ∈ H.bs := by
  obtain ⟨_, h2⟩ := look_nm h
  unfold look
  rw [List.getD_eq_getElem?_getD, List.getElem?_eq_getElem h2]
  exact List.getElem_mem _

/-- In a history whose names are sorted a branch of the list is the one of its name. -/
theorem look_mem {H : Hist} {l : Ln} (hs : SortedN (bnames H)) (h : l ∈ H.bs) : look H l.nm = l := by
  obtain ⟨j, hj, e⟩ := List.getElem_of_mem h
  exact look_of_get hs (by rw [List.getElem?_eq_getElem hj, e])

theorem look_branch (hw : WF H) {name : ByteArray} (hc : cBranch H name = 0) {nm : ByteArray} (hn : hasN nm (bnames H) = true) :
    look (mBranch H name) nm = look H nm ∧ hasN nm (bnames (mBranch H name)) = true ∧ look (mBranch H name) name = ⟨name, hdN H, []⟩ ∧ hasN name (bnames (mBranch H name)) = true := by
  have hw' := wf_branch hw name
  have e : mBranch H name = { H with bs := ins H.bs (rank name (bnames H)) ⟨name, hdN H, []⟩ } := if_pos hc
  have h1 : look H nm ∈ (mBranch H name).bs := by rw [e]; exact mem_ins_of (.inr (get_of_mem hn))
  have h2 : (⟨name, hdN H, []⟩ : Ln) ∈ (mBranch H name).bs := by rw [e]; exact mem_ins_of (.inl rfl)
  have k1 := look_mem hw'.sb h1
  have k2 := look_mem hw'.sb h2
  rw [(look_nm hn).1] at k1
  refine ⟨k1, (hasN_iff hw'.sb).2 ?_, k2, (hasN_iff hw'.sb).2 (List.mem_map.2 ⟨_, h2, rfl⟩)⟩
  exact List.mem_map.2 ⟨_, h1, (look_nm hn).1⟩

end

end Go.Proofs.Ytalmfmijjbpnpaa
