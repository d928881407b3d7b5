/-
  The row of RefineLadders holds, and its card: whatever the two integers p and fuel, the law returns true (the program's ladder of working precisions is the reference's, and the examples of its chapter come out), and the arguments read as before. Conditions: the package's tables read as the program's text lays them, and the text lays them so (the tie).
-/
import Derived.Test.YtendmajekgmkhaaGreatDoorLh
import Derived.Test.YtendmajekgmkhaaGreatDoorLj
import Derived.Test.YtendmajekgmkhaaGreatDoorTie
import Derived.Test.YtendmajekgmkhaaGreatDoorCards
import Derived.SevenTiedAt
namespace Go.Proofs.YtendmajekgmkhaaGreatDoor
open Go Go.RowKit Go.ChangeShapes Go.WideShapes Go.ChangeAt
theorem over : Rows.refineLaddersRow.holds Tryz.pinned (OpenSpec.ofChange Rows.refineLaddersSpec) :=
  OpenClaim.holds_of_wide 3 Tryz.f3 rfl rfl rfl rfl rfl rfl rfl ⟨rfl, rfl, rfl, rfl, rfl⟩ rfl rfl rfl rfl rfl (by kernel_rfl) Tryz.func3 closed
    (of_decide_eq_true (by kernel_rfl)) (by unfold Func.isWrapper; first | (rw [if_pos (by decide +kernel)]; kernel_rfl) | (rw [if_neg (by decide +kernel)]; exact ⟨rfl, rfl⟩))
    (fun os started H enc _ => lifted os started H enc)
theorem refineLadders_proved : Rows.RefineLaddersCardSaid :=
  Claim7.holds_tied_plain_at .later [] [.data, .data, .pinned] true (true, "606be6930e525122ac719dbad3bcc80bd3def2378d409bcfbd3a285b00f02f41") true
    over (fun _ h => by cases h) (by kernel_rfl) (fun _ h => by cases h) refineLadders_row_tie rfl ⟨rfl, rfl⟩ (by kernel_rfl) rfl
    (fun f fn hf hfn => by
      obtain rfl : f = 3 := Option.some.inj ((show Tryz.prog.funcNamed "exactreal/exactreallaw25.RefineLadders" = some 3 by kernel_rfl).symm.trans hf) |>.symm
      obtain rfl : fn = Tryz.f3 := (Option.some.inj (Tryz.func3.symm.trans hfn)).symm
      exact ⟨by kernel_rfl, fun j t ht => by
        rw [Tryz.params3] at ht
        have hm : t ∈ [3] := by simpa using Array.mem_of_getElem? ht
        have hall : ([3].all fun u => !Tryz.prog.wantsStandIn u) = true := by kernel_rfl
        exact (show Tryz.prog.wantsStandIn t = false by simpa using List.all_eq_true.1 hall t hm)⟩)
    (by kernel_rfl)
end Go.Proofs.YtendmajekgmkhaaGreatDoor
