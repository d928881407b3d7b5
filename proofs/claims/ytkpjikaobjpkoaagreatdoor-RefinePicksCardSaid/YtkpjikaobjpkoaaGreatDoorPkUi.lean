/-
  The row of RefinePicks holds, and its card: whatever the interval and the precision, the law returns true (program and reference pick the same number, and it is right), and the arguments read as before. Conditions: the package's tables read as the program's text lays them, and the text lays them so (the tie).
-/
import Derived.Test.YtkpjikaobjpkoaaGreatDoorPkUh
import Derived.Test.YtkpjikaobjpkoaaGreatDoorPkUj
import Derived.Test.YtkpjikaobjpkoaaGreatDoorPkUk
import Derived.Test.YtkpjikaobjpkoaaGreatDoorTie
import Derived.Test.YtkpjikaobjpkoaaGreatDoorCards
import Derived.SevenTiedAt
namespace Go.Proofs.YtkpjikaobjpkoaaGreatDoor
open Go Go.RowKit Go.ChangeShapes Go.WideShapes Go.ChangeAt
theorem over : Rows.refinePicksRow.holds Tryz.pinned (OpenSpec.ofChange Rows.refinePicksSpec) :=
  OpenClaim.holds_of_wide 3 Tryz.f3 rfl rfl rfl rfl rfl rfl rfl ⟨rfl, rfl, rfl, rfl, rfl⟩ rfl rfl rfl rfl rfl (by kernel_rfl) Tryz.func3 closed
    (of_decide_eq_true (by kernel_rfl)) (by unfold Func.isWrapper; first | (rw [if_pos (by decide +kernel)]; kernel_rfl) | (rw [if_neg (by decide +kernel)]; exact ⟨rfl, rfl⟩))
    (fun os started H enc _ => lifted os started H enc)
theorem refinePicks_proved : Rows.RefinePicksCardSaid :=
  Claim7.holds_tied_plain_at .later [] [.data, .data, .pinned] true (true, "279e3887b3149b6b96aea005c35bc4e17d7eecca74a82bd90683d94a193523c7") true
    over (fun _ h => by cases h) (by kernel_rfl) (fun _ h => by cases h) refinePicks_row_tie rfl ⟨rfl, rfl⟩ (by kernel_rfl) rfl
    (fun f fn hf hfn => by
      obtain rfl : f = 3 := Option.some.inj ((show Tryz.prog.funcNamed "exactreal/exactreallaw25.RefinePicks" = some 3 by kernel_rfl).symm.trans hf) |>.symm
      obtain rfl : fn = Tryz.f3 := (Option.some.inj (Tryz.func3.symm.trans hfn)).symm
      exact ⟨by kernel_rfl, fun j t ht => by
        rw [Tryz.params3] at ht
        have hm : t ∈ [28, 3] := by simpa using Array.mem_of_getElem? ht
        have hall : ([28, 3].all fun u => !Tryz.prog.wantsStandIn u) = true := by kernel_rfl
        exact (show Tryz.prog.wantsStandIn t = false by simpa using List.all_eq_true.1 hall t hm)⟩)
    goes_fact
end Go.Proofs.YtkpjikaobjpkoaaGreatDoor
