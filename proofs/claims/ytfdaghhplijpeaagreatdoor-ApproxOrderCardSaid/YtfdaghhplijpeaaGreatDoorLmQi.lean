/-
  The row of ApproxOrder holds, and its card: whatever the list of numbers and the number of a node, the law returns true (program and reference name the same nodes as needed), and the arguments read as before. Conditions: the package's tables read as the program's text lays them, and the text lays them so (the tie).
-/
import Derived.Test.YtfdaghhplijpeaaGreatDoorLmQh
import Derived.Test.YtfdaghhplijpeaaGreatDoorLmQj
import Derived.Test.YtfdaghhplijpeaaGreatDoorLmQk
import Derived.Test.YtfdaghhplijpeaaGreatDoorTie
import Derived.Test.YtfdaghhplijpeaaGreatDoorCards
import Derived.SevenTiedAt
namespace Go.Proofs.YtfdaghhplijpeaaGreatDoor
open Go Go.RowKit Go.ChangeShapes Go.WideShapes Go.ChangeAt
theorem over : Rows.approxOrderRow.holds Tryz.pinned (OpenSpec.ofChange Rows.approxOrderSpec) :=
  OpenClaim.holds_of_wide 3 Tryz.f3 rfl rfl rfl rfl rfl rfl rfl ⟨rfl, rfl, rfl, rfl, rfl⟩ rfl rfl rfl rfl rfl (by kernel_rfl) Tryz.func3 closed
    (of_decide_eq_true (by kernel_rfl)) (by unfold Func.isWrapper; first | (rw [if_pos (by decide +kernel)]; kernel_rfl) | (rw [if_neg (by decide +kernel)]; exact ⟨rfl, rfl⟩))
    (fun os started H enc _ => lifted os started H enc)
theorem approxOrder_proved : Rows.ApproxOrderCardSaid :=
  Claim7.holds_tied_plain_at .later [] [.data, .data, .pinned] true (true, "681bdcb18c106dc23363b8e39956eea57ca6ec6ceb19f10f53fa40ff361c5a6f") true
    over (fun _ h => by cases h) (by kernel_rfl) (fun _ h => by cases h) approxOrder_row_tie rfl ⟨rfl, rfl⟩ (by kernel_rfl) rfl
    (fun f fn hf hfn => by
      obtain rfl : f = 3 := Option.some.inj ((show Tryz.prog.funcNamed "exactreal/exactreallaw24.ApproxOrder" = some 3 by kernel_rfl).symm.trans hf) |>.symm
      obtain rfl : fn = Tryz.f3 := (Option.some.inj (Tryz.func3.symm.trans hfn)).symm
      exact ⟨by kernel_rfl, fun j t ht => by
        rw [Tryz.params3] at ht
        have hm : t ∈ [22, 3] := by simpa using Array.mem_of_getElem? ht
        have hall : ([22, 3].all fun u => !Tryz.prog.wantsStandIn u) = true := by kernel_rfl
        exact (show Tryz.prog.wantsStandIn t = false by simpa using List.all_eq_true.1 hall t hm)⟩)
    goes_fact
end Go.Proofs.YtfdaghhplijpeaaGreatDoor
