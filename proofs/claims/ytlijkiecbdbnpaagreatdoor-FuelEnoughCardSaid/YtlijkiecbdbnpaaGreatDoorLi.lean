/-
  The row of FuelEnough holds, and its card: whatever the three integers depth, k and p, the law returns true (the program says the same amount of fuel as the reference, and the examples of its chapter come out), and the arguments read as before. Conditions: the package's tables read as the program's text lays them, and the text lays them so (the tie).
-/
import Derived.Test.YtlijkiecbdbnpaaGreatDoorLh
import Derived.Test.YtlijkiecbdbnpaaGreatDoorLj
import Derived.Test.YtlijkiecbdbnpaaGreatDoorTie
import Derived.Test.YtlijkiecbdbnpaaGreatDoorCards
import Derived.SevenTiedAt
namespace Go.Proofs.YtlijkiecbdbnpaaGreatDoor
open Go Go.RowKit Go.ChangeShapes Go.WideShapes Go.ChangeAt
theorem over : Rows.fuelEnoughRow.holds Tryz.pinned (OpenSpec.ofChange Rows.fuelEnoughSpec) :=
  OpenClaim.holds_of_wide 3 Tryz.f3 rfl rfl rfl rfl rfl rfl rfl ⟨rfl, rfl, rfl, rfl, rfl⟩ rfl rfl rfl rfl rfl (by kernel_rfl) Tryz.func3 closed
    (of_decide_eq_true (by kernel_rfl)) (by unfold Func.isWrapper; first | (rw [if_pos (by decide +kernel)]; kernel_rfl) | (rw [if_neg (by decide +kernel)]; exact ⟨rfl, rfl⟩))
    (fun os started H enc _ => lifted os started H enc)
theorem fuelEnough_proved : Rows.FuelEnoughCardSaid :=
  Claim7.holds_tied_plain_at .later [] [.data, .data, .pinned] true (true, "ea29a819769f1a07bdde426dbb02f012be4f73a6649064141b34bc26f79fd871") true
    over (fun _ h => by cases h) (by kernel_rfl) (fun _ h => by cases h) fuelEnough_row_tie rfl ⟨rfl, rfl⟩ (by kernel_rfl) rfl
    (fun f fn hf hfn => by
      obtain rfl : f = 3 := Option.some.inj ((show Tryz.prog.funcNamed "exactreal/exactreallaw27.FuelEnough" = some 3 by kernel_rfl).symm.trans hf) |>.symm
      obtain rfl : fn = Tryz.f3 := (Option.some.inj (Tryz.func3.symm.trans hfn)).symm
      exact ⟨by kernel_rfl, fun j t ht => by
        rw [Tryz.params3] at ht
        have hm : t ∈ [3] := by simpa using Array.mem_of_getElem? ht
        have hall : ([3].all fun u => !Tryz.prog.wantsStandIn u) = true := by kernel_rfl
        exact (show Tryz.prog.wantsStandIn t = false by simpa using List.all_eq_true.1 hall t hm)⟩)
    (by kernel_rfl)
end Go.Proofs.YtlijkiecbdbnpaaGreatDoor
