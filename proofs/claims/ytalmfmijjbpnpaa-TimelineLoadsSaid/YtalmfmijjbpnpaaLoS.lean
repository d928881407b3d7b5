/-
  Each operation leaves a well-formed history well-formed. No walk stands here.
-/
import Derived.Test.YtalmfmijjbpnpaaLoQ
import Derived.Test.YtalmfmijjbpnpaaLoR
namespace Go.Proofs.Ytalmfmijjbpnpaa
open Go.RowKit

/-! ### sorted names -/
theorem sortedN_cons {a : ByteArray} {l : List ByteArray} (h : SortedN (a :: l)) : (∀ b ∈ l, ltN a b = true) ∧ SortedN l := List.pairwise_cons.1 h

theorem hasN_iff {x : ByteArray} : ∀ {l : List ByteArray}, SortedN l → (hasN x l = true ↔ x ∈ l)
  | [], _ => by simp [hasN]
  | a :: l, h => by
    obtain ⟨h1, h2⟩ := sortedN_cons h
    have ih := hasN_iff (x := x) h2
    unfold hasN at ih ⊢
    rw [decide_eq_true_eq] at ih ⊢
    unfold rank
    by_cases hl : ltN a x = true
    · rw [if_pos hl, List.getElem?_cons_succ, ih, List.mem_cons]
      constructor
      · exact .inr
      · rintro (rfl | h)
        · rw [ltN_irrefl] at hl; cases hl
        · exact h
    · rw [if_neg hl, List.getElem?_cons_zero, Option.some.injEq, List.mem_cons]
      constructor
      · exact fun e => .inl e.symm
      · rintro (e | h)
        · exact e.symm
        · exact absurd (h1 x h) hl

theorem sorted_ins {x : ByteArray} : ∀ {l : List ByteArray}, SortedN l → hasN x l = false → SortedN (ins l (rank x l) x)
  | [], _, _ => List.pairwise_singleton _ _
  | a :: l, h, hx => by
    have hx' : ¬ x ∈ a :: l := by rw [← hasN_iff h, hx]; simp
    obtain ⟨h1, h2⟩ := sortedN_cons h
    unfold rank
    by_cases hl : ltN a x = true
    · rw [if_pos hl]
      show SortedN (a :: ins l (rank x l) x)
      have hxl : hasN x l = false := by
        rw [Bool.eq_false_iff]
        intro hh
        exact hx' (List.mem_cons_of_mem _ ((hasN_iff h2).1 hh))
      refine List.pairwise_cons.2 ⟨fun b hb => ?_, sorted_ins h2 hxl⟩
      rcases mem_ins hb with rfl | hb
      · exact hl
      · exact h1 b hb
    · rw [if_neg hl]
      show SortedN (x :: a :: l)
      have hxa : ltN x a = true := ltN_total (by simpa using hl) (fun e => hx' (by rw [e]; exact List.mem_cons_self))
      refine List.pairwise_cons.2 ⟨fun b hb => ?_, h⟩
      rcases List.mem_cons.1 hb with rfl | hb
      · exact hxa
      · exact ltN_trans hxa (h1 b hb)

theorem mem_ins_of {α : Type} {l : List α} {i : Nat} {x y : α} (h : y = x ∨ y ∈ l) : y ∈ ins l i x := by
  unfold ins
  rcases h with rfl | h
  · exact List.mem_append_right _ List.mem_cons_self
  · rw [← List.take_append_drop i l] at h
    rcases List.mem_append.1 h with h | h
    · exact List.mem_append_left _ h
    · exact List.mem_append_right _ (List.mem_cons_of_mem _ h)

def del {α : Type} (l : List α) (i : Nat) : List α := l.take i ++ l.drop (i + 1)
theorem map_del {α β : Type} (f : α → β) (l : List α) (i : Nat) : (del l i).map f = del (l.map f) i := by
  unfold del; simp [List.map_take, List.map_drop]
theorem mem_del {α : Type} {l : List α} {i : Nat} {y : α} (h : y ∈ del l i) : y ∈ l := by
  unfold del at h
  rcases List.mem_append.1 h with h | h
  · exact List.mem_of_mem_take h
  · exact List.mem_of_mem_drop h
theorem del_sublist {α : Type} (l : List α) (i : Nat) : (del l i).Sublist l := by
  unfold del
  conv => rhs; rw [← List.take_append_drop i l]
  refine List.Sublist.append (List.Sublist.refl _) ?_
  rw [← List.drop_drop, List.drop_one]
  exact List.tail_sublist _
theorem mem_del_of {α : Type} {l : List α} {i : Nat} {x y : α} (hx : l[i]? = some x) (hy : y ∈ l) (hne : y ≠ x) : y ∈ del l i := by
  unfold del
  rw [← List.take_append_drop i l] at hy
  rcases List.mem_append.1 hy with h | h
  · exact List.mem_append_left _ h
  · have hl := (List.getElem?_eq_some_iff.1 hx).1
    rw [List.drop_eq_getElem_cons hl] at h
    rcases List.mem_cons.1 h with h | h
    · rw [List.getElem?_eq_getElem hl] at hx
      exact absurd (h.trans (by simpa using hx)) hne
    · exact List.mem_append_right _ h
theorem length_del {α : Type} {l : List α} {i : Nat} (h : i < l.length) : (del l i).length = l.length - 1 := by
  unfold del; rw [List.length_append, List.length_take, List.length_drop]; omega

/-! ### the versions to redo -/
theorem leadsR_append {vs : List Ver} (x : List Ver) : ∀ {l : List Int} {a : Int}, leadsR vs a l → leadsR (vs ++ x) a l
  | [], _, _ => trivial
  | r :: l, a, h => by
    obtain ⟨h0, h1, h2, h3⟩ := h
    refine ⟨h0, by rw [List.length_append]; omega, ?_, leadsR_append x h3⟩
    rw [List.getD_eq_getElem?_getD, List.getElem?_append_left (by omega), ← List.getD_eq_getElem?_getD]
    exact h2

theorem getD_append_left {vs x : List Ver} {i : Nat} (h : i < vs.length) : (vs ++ x).getD i default = vs.getD i default := by
  rw [List.getD_eq_getElem?_getD, List.getElem?_append_left h, ← List.getD_eq_getElem?_getD]

/-! ### the operations -/
section
variable {H : Hist}

theorem bnames_set (hw : WF H) {l : Ln} (hl : l.nm = H.cur) : bnames (setCur H l) = bnames H := by
  obtain ⟨h1, h2, h3⟩ := ci_lt hw
  unfold bnames setCur
  show (H.bs.set (ci H) l).map (·.nm) = H.bs.map (·.nm)
  rw [List.map_set, hl, ← h2]
  apply List.ext_getElem?
  intro j
  rw [List.getElem?_set]
  split
  · rename_i e
    subst e
    rw [if_pos (by rw [List.length_map]; exact h1), List.getElem?_map]
    unfold curLn
    rw [List.getD_eq_getElem?_getD, List.getElem?_eq_getElem h1]; rfl
  · rfl

theorem WF.setCur (hw : WF H) {l : Ln} (hl : l.nm = H.cur) (h0 : 0 ≤ l.hd) (h1 : l.hd < H.vs.length) (h2 : leadsR H.vs l.hd l.rd.reverse) : WF (setCur H l) where
  v1 := hw.v1
  v2 := hw.v2
  b1 := by show 1 ≤ (H.bs.set _ _).length; rw [List.length_set]; exact hw.b1
  b2 := by show (H.bs.set _ _).length ≤ 16; rw [List.length_set]; exact hw.b2
  s2 := hw.s2
  sb := by rw [bnames_set hw hl]; exact hw.sb
  sn := hw.sn
  cur := by rw [bnames_set hw hl]; exact hw.cur
  bw := by
    intro b hb
    rcases mem_set_cases hb with rfl | ⟨j, _, hj⟩
    · rw [hl, ← (ci_lt hw).2.1]; exact hw.bw _ (ci_lt hw).2.2
    · exact hw.bw b (List.mem_of_getElem? hj)
  sw := hw.sw
  par0 := hw.par0
  par := hw.par
  hd := by
    intro b hb
    rcases mem_set_cases hb with rfl | ⟨j, _, hj⟩
    · exact ⟨h0, h1⟩
    · exact hw.hd b (List.mem_of_getElem? hj)
  rd := by
    intro b hb
    rcases mem_set_cases hb with rfl | ⟨j, _, hj⟩
    · exact h2
    · exact hw.rd b (List.mem_of_getElem? hj)
  sv := hw.sv

theorem WF.addV (hw : WF H) (hn : H.vs.length < 1000) {p root : Int} (h0 : 0 ≤ p) (h1 : p < H.vs.length) : WF { H with vs := H.vs ++ [⟨p, root⟩] } where
  v1 := by rw [List.length_append]; simp
  v2 := by rw [List.length_append, List.length_singleton]; omega
  b1 := hw.b1
  b2 := hw.b2
  s2 := hw.s2
  sb := hw.sb
  sn := hw.sn
  cur := hw.cur
  bw := hw.bw
  sw := hw.sw
  par0 := by
    have := hw.v1
    show ((H.vs ++ _).getD 0 default).par = -1
    rw [getD_append_left (by omega)]; exact hw.par0
  par := by
    intro i hi hl
    have hl' : i < H.vs.length + 1 := by simpa using hl
    show 0 ≤ ((H.vs ++ _).getD i default).par ∧ ((H.vs ++ _).getD i default).par < i
    by_cases e : i < H.vs.length
    · rw [getD_append_left e]; exact hw.par i hi e
    · have e' : i = H.vs.length := by omega
      subst e'
      rw [List.getD_eq_getElem?_getD, List.getElem?_append_right (Nat.le_refl _), Nat.sub_self]
      exact ⟨h0, h1⟩
  hd := fun b hb => by have := hw.hd b hb; rw [List.length_append]; simp; omega
  rd := fun b hb => leadsR_append _ (hw.rd b hb)
  sv := fun s hs => by have := hw.sv s hs; rw [List.length_append]; simp; omega

theorem wf_new (root : Int) : WF (newH root) where
  v1 := Nat.le_refl _
  v2 := by show 1 ≤ 1000; omega
  b1 := Nat.le_refl _
  b2 := by show 1 ≤ 16; omega
  s2 := Nat.zero_le _
  sb := List.pairwise_singleton _ _
  sn := List.Pairwise.nil
  cur := (hasN_iff (List.pairwise_singleton _ _)).2 (List.mem_singleton.2 rfl)
  bw := by
    intro b hb
    rw [show (newH root).bs = [⟨mainN, 0, []⟩] from rfl, List.mem_singleton] at hb
    rw [hb]
    decide
  sw := fun b hb => by cases hb
  par0 := rfl
  par := fun i h0 h1 => by have h1' : i < 1 := h1; omega
  hd := by
    intro b hb
    rw [show (newH root).bs = [⟨mainN, 0, []⟩] from rfl, List.mem_singleton] at hb
    rw [hb]
    exact ⟨Int.le_refl _, by show (0 : Int) < 1; omega⟩
  rd := by
    intro b hb
    rw [show (newH root).bs = [⟨mainN, 0, []⟩] from rfl, List.mem_singleton] at hb
    rw [hb]
    trivial
  sv := fun b hb => by cases hb

theorem wf_commit (hw : WF H) (root : Int) : WF (mCommit H root) := by
  unfold mCommit
  split
  · exact hw
  · rename_i h
    obtain ⟨he, hl⟩ := hd_eq hw
    have hc := hw.hd _ (ci_lt hw).2.2
    have := (hw.addV (root := root) (by omega) hc.1 hc.2).setCur (l := ⟨H.cur, H.vs.length, []⟩) rfl (by show (0 : Int) ≤ H.vs.length; omega) (by show (H.vs.length : Int) < (H.vs ++ _).length; rw [List.length_append]; simp; omega) trivial
    exact this

theorem wf_undo (hw : WF H) : WF (mUndo H) := by
  unfold mUndo
  split
  · exact hw
  · rename_i h
    obtain ⟨he, hl⟩ := hd_eq hw
    have hp := hw.par (hdN H) (by omega) hl
    refine hw.setCur rfl hp.1 (by show (H.vs.getD (hdN H) default).par < _; omega) ?_
    show leadsR H.vs (parOf H) ((curLn H).rd ++ [(hdN H : Int)]).reverse
    rw [List.reverse_append, List.reverse_singleton, List.singleton_append]
    refine ⟨by omega, by omega, ?_, ?_⟩
    · rw [Int.toNat_natCast]; rfl
    · rw [← he]; exact hw.rd _ (ci_lt hw).2.2

theorem wf_redo (hw : WF H) : WF (mRedo H) := by
  unfold mRedo
  split
  · exact hw
  · rename_i h
    have hr := hw.rd _ (ci_lt hw).2.2
    have e : (curLn H).rd.reverse = lastRd H :: (curLn H).rd.dropLast.reverse := by
      have h1 : (curLn H).rd = (curLn H).rd.dropLast ++ [lastRd H] := by
        unfold lastRd
        rw [List.getLastD_eq_getLast?, List.getLast?_eq_some_getLast h]
        exact (List.dropLast_concat_getLast h).symm
      conv => lhs; rw [h1]
      rw [List.reverse_append, List.reverse_singleton, List.singleton_append]
    rw [e] at hr
    obtain ⟨h0, h1, _, h3⟩ := hr
    exact hw.setCur rfl h0 h1 h3

theorem wf_switch (hw : WF H) (name : ByteArray) : WF (mSwitch H name) := by
  unfold mSwitch
  split
  · rename_i h
    unfold cSwitch missE at h
    split at h
    · split at h
      · rename_i hh
        exact { hw with cur := hh }
      · cases h
    · cases h
  · exact hw

theorem takenE_zero {name : ByteArray} {ok : Bool} {n : Nat} (h : takenE name ok n = 0) : wordB name = true ∧ ok = false ∧ n < 16 := by
  unfold takenE at h
  split at h
  · rename_i hw
    split at h
    · cases h
    · rename_i ho
      split at h
      · cases h
      · exact ⟨hw, by simpa using ho, by omega⟩
  · cases h

theorem wf_branch (hw : WF H) (name : ByteArray) : WF (mBranch H name) := by
  unfold mBranch
  split
  · rename_i h
    obtain ⟨h1, h2, h3⟩ := takenE_zero h
    obtain ⟨he, hl⟩ := hd_eq hw
    have hrk : rank name (bnames H) ≤ H.bs.length := by have := rank_le name (bnames H); simpa [bnames] using this
    have hn : bnames { H with bs := ins H.bs (rank name (bnames H)) ⟨name, hdN H, []⟩ } = ins (bnames H) (rank name (bnames H)) name := map_ins _ _ _ _
    have hs : SortedN (ins (bnames H) (rank name (bnames H)) name) := sorted_ins hw.sb h2
    exact {
      v1 := hw.v1
      v2 := hw.v2
      b1 := by show 1 ≤ (ins _ _ _).length; rw [length_ins _ _ _ hrk]; omega
      b2 := by show (ins _ _ _).length ≤ 16; rw [length_ins _ _ _ hrk]; omega
      s2 := hw.s2
      sb := by rw [hn]; exact hs
      sn := hw.sn
      cur := by rw [hn, hasN_iff hs]; exact mem_ins_of (.inr ((hasN_iff hw.sb).1 hw.cur))
      bw := fun b hb => by
        rcases mem_ins hb with rfl | hb
        · exact h1
        · exact hw.bw b hb
      sw := hw.sw
      par0 := hw.par0
      par := hw.par
      hd := fun b hb => by
        rcases mem_ins hb with rfl | hb
        · exact ⟨by show (0 : Int) ≤ hdN H; omega, by show (hdN H : Int) < H.vs.length; omega⟩
        · exact hw.hd b hb
      rd := fun b hb => by
        rcases mem_ins hb with rfl | hb
        · trivial
        · exact hw.rd b hb
      sv := hw.sv }
  · exact hw

theorem wf_snap (hw : WF H) (name : ByteArray) : WF (mSnap H name) := by
  unfold mSnap
  split
  · rename_i h
    obtain ⟨h1, h2, h3⟩ := takenE_zero h
    obtain ⟨he, hl⟩ := hd_eq hw
    have hrk : rank name (snames H) ≤ H.ss.length := by have := rank_le name (snames H); simpa [snames] using this
    have hn : snames { H with ss := ins H.ss (rank name (snames H)) ⟨name, hdN H⟩ } = ins (snames H) (rank name (snames H)) name := map_ins _ _ _ _
    exact { hw with
      s2 := by show (ins _ _ _).length ≤ 16; rw [length_ins _ _ _ hrk]; omega
      sn := by rw [hn]; exact sorted_ins hw.sn h2
      sw := fun b hb => by
        rcases mem_ins hb with rfl | hb
        · exact h1
        · exact hw.sw b hb
      sv := fun b hb => by
        rcases mem_ins hb with rfl | hb
        · exact ⟨by show (0 : Int) ≤ hdN H; omega, by show (hdN H : Int) < H.vs.length; omega⟩
        · exact hw.sv b hb }
  · exact hw

end

end Go.Proofs.Ytalmfmijjbpnpaa
