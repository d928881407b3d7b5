/-
  The walk of awake.
-/
import Derived.Test.YtalmfmijjbpnpaaU
namespace Go.Proofs.Ytalmfmijjbpnpaa
open Go.RowKit

section
variable {w : World}

set_option maxRecDepth 100000 in
set_option maxHeartbeats 1000000 in
theorem awake8 : Calls Try.prog 8 #[] w (Quiet (.bool true) w) := by
  obtain ⟨f1, f2, f3, f4, f5, f6, f7, f8⟩ := awake_facts
  have F := Lib.hid (⟨f1, f2, f3, f4, f5, f6, f7, f8⟩ : cUndo (newH 7) = 15 ∧ mUndo (newH 7) = newH 7 ∧ cCommit (newH 7) 8 = 0 ∧ cUndo A1 = 0 ∧ cRedo A2 = 0 ∧ hdN A3 = 1 ∧ rootOf A3 = 8 ∧ cBranch A3 mainN = 16)
  clear f1 f2 f3 f4 f5 f6 f7 f8
  go_enter Try.func8, Try.ntmps8
  go_wp2_with fail
  refine (st_new (W0 := w) (Below.refl _ _) 7).mono ?_
  rintro e w1 ⟨t, rfl, h1⟩
  have H1 := Lib.hid h1
  clear h1
  go_wp2_with fail
  refine (st_undo H1.out).mono ?_
  rw [F.out.1, F.out.2.1]
  rintro e w2 ⟨rfl, h2⟩
  have H2 := Lib.hid h2
  clear h2 H1
  go_wp2_with fail
  refine (st_commit H2.out 8).mono ?_
  rw [F.out.2.2.1]
  rintro e w3 ⟨rfl, h3⟩
  have H3 := Lib.hid (show St w (fun _ => False) w t A1 w3 from h3)
  clear h3 H2
  go_wp2_with fail
  refine (st_undo H3.out).mono ?_
  rw [F.out.2.2.2.1]
  rintro e w4 ⟨rfl, h4⟩
  have H4 := Lib.hid (show St w (fun _ => False) w t A2 w4 from h4)
  clear h4 H3
  go_wp2_with fail
  refine (st_redo H4.out).mono ?_
  rw [F.out.2.2.2.2.1]
  rintro e w5 ⟨rfl, h5⟩
  have H5 := Lib.hid (show St w (fun _ => False) w t A3 w5 from h5)
  clear h5 H4
  go_wp2_with fail
  refine (st_head H5.out).mono ?_
  rw [F.out.2.2.2.2.2.1]
  rintro e w6 ⟨rfl, h6⟩
  have H6 := Lib.hid h6
  clear h6 H5
  go_wp2_with fail
  refine (st_root H6.out).mono ?_
  rw [F.out.2.2.2.2.2.2.1]
  rintro e w7 ⟨rfl, h7⟩
  have H7 := Lib.hid h7
  clear h7 H6
  go_wp2_with fail
  refine (st_branch H7.out mainN (by decide)).mono ?_
  rw [F.out.2.2.2.2.2.2.2]
  rintro e w8 ⟨rfl, h8⟩
  have H8 := Lib.hid h8
  clear h8 H7
  go_wp2_with fail
  go_ret
  exact ⟨rfl, H8.out.below_of⟩

end

end Go.Proofs.Ytalmfmijjbpnpaa
