/-
  The operations of two timelines, one after the other; what one act makes of a history. No walk stands here.
-/
import Derived.Test.YtalmfmijjbpnpaaLoZg
import Derived.Test.YtalmfmijjbpnpaaLoZi
import Derived.Test.YtalmfmijjbpnpaaLoZk
import Derived.Test.YtalmfmijjbpnpaaLoZm
import Derived.Test.YtalmfmijjbpnpaaLoYe
import Derived.Test.YtalmfmijjbpnpaaLoYg
namespace Go.Proofs.Ytalmfmijjbpnpaa
open Go.RowKit

section
variable {W0 Wd w : World} {D : Nat → Prop} {t u : Nat} {H K : Hist}

theorem twl_commit (h : Tw W0 D Wd t u H K w) (n : Int) : Calls Try.prog 11 #[.pointer (some ⟨t, 0, none⟩), .int .i64 n] w (TwR (.int .i64 (cCommit H n)) W0 D Wd t u (mCommit H n) K) :=
  tw_left h (wf_commit h.1 n) fun _ hr => commit11 hr h.1 n
theorem twl_undo (h : Tw W0 D Wd t u H K w) : Calls Try.prog 16 #[.pointer (some ⟨t, 0, none⟩)] w (TwR (.int .i64 (cUndo H)) W0 D Wd t u (mUndo H) K) :=
  tw_left h (wf_undo h.1) fun _ hr => undo16 hr h.1
theorem twl_redo (h : Tw W0 D Wd t u H K w) : Calls Try.prog 18 #[.pointer (some ⟨t, 0, none⟩)] w (TwR (.int .i64 (cRedo H)) W0 D Wd t u (mRedo H) K) :=
  tw_left h (wf_redo h.1) fun _ hr => redo18 hr h.1
theorem twl_branch (h : Tw W0 D Wd t u H K w) (name : ByteArray) (hn : name.size ≤ maxLen) : Calls Try.prog 14 #[.pointer (some ⟨t, 0, none⟩), .string name] w (TwR (.int .i64 (cBranch H name)) W0 D Wd t u (mBranch H name) K) :=
  tw_left h (wf_branch h.1 name) fun _ hr => branch14 hr h.1 name hn
theorem twl_switch (h : Tw W0 D Wd t u H K w) (name : ByteArray) (hn : name.size ≤ maxLen) : Calls Try.prog 15 #[.pointer (some ⟨t, 0, none⟩), .string name] w (TwR (.int .i64 (cSwitch H name)) W0 D Wd t u (mSwitch H name) K) :=
  tw_left h (wf_switch h.1 name) fun _ hr => switch15 hr h.1 name hn
theorem twl_remove (h : Tw W0 D Wd t u H K w) (name : ByteArray) (hn : name.size ≤ maxLen) : Calls Try.prog 49 #[.pointer (some ⟨t, 0, none⟩), .string name] w (TwR (.int .i64 (cRemove H name)) W0 D Wd t u (mRemove H name) K) :=
  tw_left h (wf_remove h.1 name) fun _ hr => remove49 hr h.1 name hn
theorem twl_snap (h : Tw W0 D Wd t u H K w) (name : ByteArray) (hn : name.size ≤ maxLen) : Calls Try.prog 20 #[.pointer (some ⟨t, 0, none⟩), .string name] w (TwR (.int .i64 (cSnap H name)) W0 D Wd t u (mSnap H name) K) :=
  tw_left h (wf_snap h.1 name) fun _ hr => snapshot20 hr h.1 name hn
theorem twl_rest (h : Tw W0 D Wd t u H K w) (name : ByteArray) (hn : name.size ≤ maxLen) : Calls Try.prog 21 #[.pointer (some ⟨t, 0, none⟩), .string name] w (TwR (.int .i64 (cRest H name)) W0 D Wd t u (mRest H name) K) :=
  tw_left h (wf_rest h.1 name) fun _ hr => restore21 hr h.1 name hn
theorem twl_forget (h : Tw W0 D Wd t u H K w) (name : ByteArray) (hn : name.size ≤ maxLen) : Calls Try.prog 53 #[.pointer (some ⟨t, 0, none⟩), .string name] w (TwR (.int .i64 (cForget H name)) W0 D Wd t u (mForget H name) K) :=
  tw_left h (wf_forget h.1 name) fun _ hr => forget53 hr h.1 name hn

theorem twr_commit (h : Tw W0 D Wd t u H K w) (n : Int) : Calls Try.prog 44 #[.pointer (some ⟨u, 0, none⟩), .int .i64 n] w (TwR (.int .i64 (cCommit K n)) W0 D Wd t u H (mCommit K n)) :=
  tw_right h (wf_commit h.2.1 n) fun _ hr => refCommit44 hr h.2.1 n
theorem twr_undo (h : Tw W0 D Wd t u H K w) : Calls Try.prog 45 #[.pointer (some ⟨u, 0, none⟩)] w (TwR (.int .i64 (cUndo K)) W0 D Wd t u H (mUndo K)) :=
  tw_right h (wf_undo h.2.1) fun _ hr => refUndo45 hr h.2.1
theorem twr_redo (h : Tw W0 D Wd t u H K w) : Calls Try.prog 46 #[.pointer (some ⟨u, 0, none⟩)] w (TwR (.int .i64 (cRedo K)) W0 D Wd t u H (mRedo K)) :=
  tw_right h (wf_redo h.2.1) fun _ hr => refRedo46 hr h.2.1
theorem twr_branch (h : Tw W0 D Wd t u H K w) (name : ByteArray) (hn : name.size ≤ maxLen) : Calls Try.prog 47 #[.pointer (some ⟨u, 0, none⟩), .string name] w (TwR (.int .i64 (cBranch K name)) W0 D Wd t u H (mBranch K name)) :=
  tw_right h (wf_branch h.2.1 name) fun _ hr => refBranch47 hr h.2.1 name hn
theorem twr_switch (h : Tw W0 D Wd t u H K w) (name : ByteArray) (hn : name.size ≤ maxLen) : Calls Try.prog 48 #[.pointer (some ⟨u, 0, none⟩), .string name] w (TwR (.int .i64 (cSwitch K name)) W0 D Wd t u H (mSwitch K name)) :=
  tw_right h (wf_switch h.2.1 name) fun _ hr => refSwitch48 hr h.2.1 name hn
theorem twr_remove (h : Tw W0 D Wd t u H K w) (name : ByteArray) (hn : name.size ≤ maxLen) : Calls Try.prog 50 #[.pointer (some ⟨u, 0, none⟩), .string name] w (TwR (.int .i64 (cRemove K name)) W0 D Wd t u H (mRemove K name)) :=
  tw_right h (wf_remove h.2.1 name) fun _ hr => refRemove50 hr h.2.1 name hn
theorem twr_snap (h : Tw W0 D Wd t u H K w) (name : ByteArray) (hn : name.size ≤ maxLen) : Calls Try.prog 51 #[.pointer (some ⟨u, 0, none⟩), .string name] w (TwR (.int .i64 (cSnap K name)) W0 D Wd t u H (mSnap K name)) :=
  tw_right h (wf_snap h.2.1 name) fun _ hr => refSnapshot51 hr h.2.1 name hn
theorem twr_rest (h : Tw W0 D Wd t u H K w) (name : ByteArray) (hn : name.size ≤ maxLen) : Calls Try.prog 52 #[.pointer (some ⟨u, 0, none⟩), .string name] w (TwR (.int .i64 (cRest K name)) W0 D Wd t u H (mRest K name)) :=
  tw_right h (wf_rest h.2.1 name) fun _ hr => refRestore52 hr h.2.1 name hn
theorem twr_forget (h : Tw W0 D Wd t u H K w) (name : ByteArray) (hn : name.size ≤ maxLen) : Calls Try.prog 54 #[.pointer (some ⟨u, 0, none⟩), .string name] w (TwR (.int .i64 (cForget K name)) W0 D Wd t u H (mForget K name)) :=
  tw_right h (wf_forget h.2.1 name) fun _ hr => refForget54 hr h.2.1 name hn

theorem tw_copy (h : Tw W0 D Wd t u H K w) : Calls Try.prog 55 #[.pointer (some ⟨t, 0, none⟩)] w fun e w' => ∃ t', TwR (.pointer (some ⟨t', 0, none⟩)) W0 D Wd t' u H K e w' :=
  tw_made h h.1 fun _ hr => copy55 hr h.1

/-- Blocks that are new are watched besides. -/
theorem Tw.more (h : Tw W0 D Wd t u H K w) {w' : World} (hb : Below w.heap.size w w') : Tw W0 (fun k => D k ∨ (w.heap.size ≤ k ∧ k < w'.heap.size)) w' t u H K w' := by
  obtain ⟨hw, hw', m, m', hr, hr', ho, ho', hB, hD, hs⟩ := h
  refine ⟨hw, hw', m, m', hr.below hb, hr'.below hb, fun k hk => ⟨(ho k hk).1, ?_, (ho k hk).2.2⟩, fun k hk => ⟨(ho' k hk).1, ?_⟩, hB.trans (hb.mono hB.size), fun k hk => ⟨?_, rfl⟩, Nat.le_refl _⟩
  · rintro (hd | hd)
    · exact (ho k hk).2.1 hd
    · have := hr.lt hk; omega
  · rintro (hd | hd)
    · exact (ho' k hk).2 hd
    · have := hr'.lt hk; omega
  · rcases hk with hd | hd
    · have := (hD k hd).1; have := hb.size; omega
    · exact hd.2
theorem Tw.less (h0 : Tw W0 D Wd t u H K w) {w' w2 : World} (hb : Below w.heap.size w w') {t1 u1 : Nat} {H1 K1 : Hist} (h : Tw W0 (fun k => D k ∨ (w.heap.size ≤ k ∧ k < w'.heap.size)) w' t1 u1 H1 K1 w2) : Tw W0 D Wd t1 u1 H1 K1 w2 := by
  obtain ⟨_, _, _, _, _, _, _, _, _, hD0, hs0⟩ := h0
  obtain ⟨hw, hw', m, m', hr, hr', ho, ho', hB, hD, hs⟩ := h
  refine ⟨hw, hw', m, m', hr, hr', fun k hk => ⟨(ho k hk).1, fun hd => (ho k hk).2.1 (.inl hd), (ho k hk).2.2⟩, fun k hk => ⟨(ho' k hk).1, fun hd => (ho' k hk).2 (.inl hd)⟩, hB, fun k hk => ?_, ?_⟩
  · have h1 := hD0 k hk
    exact ⟨h1.1, ((hD k (.inl hk)).2.trans (hb.block k (by omega))).trans h1.2⟩
  · have := hb.size; omega
end

/-- What a call makes of a history. -/
def actM (H : Hist) (kind n : Int) (name : ByteArray) : Hist :=
  if kind % 16 < 4 then mCommit H n else if kind % 16 < 7 then mUndo H else if kind % 16 < 9 then mRedo H else if kind % 16 = 9 then mBranch H name else if kind % 16 = 10 then mSwitch H name
  else if kind % 16 = 11 then mRemove H name else if kind % 16 = 12 then mSnap H name else if kind % 16 = 13 then mRest H name else if kind % 16 = 14 then mForget H name else H

theorem wf_act {H : Hist} (hw : WF H) (kind n : Int) (name : ByteArray) : WF (actM H kind n name) := by
  unfold actM
  repeat' split
  · exact wf_commit hw n
  · exact wf_undo hw
  · exact wf_redo hw
  · exact wf_branch hw name
  · exact wf_switch hw name
  · exact wf_remove hw name
  · exact wf_snap hw name
  · exact wf_rest hw name
  · exact wf_forget hw name
  · exact hw

end Go.Proofs.Ytalmfmijjbpnpaa
