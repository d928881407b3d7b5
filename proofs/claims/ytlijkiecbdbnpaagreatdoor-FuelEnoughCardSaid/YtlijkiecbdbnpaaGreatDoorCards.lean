/-
  DERIVED. GIVEN WITH THE SEED: THE CARDS: each row of YtlijkiecbdbnpaaGreatDoorRows.lean that lists a variable, with what it lists TIED to the program's text (the seventh form; the later family's looks); each row that meets fmt, with fmt's text TOLD by the authors' own Lean function (tested against real Go, not proved from fmt's source: count such statements apart). THE CARD IS WHAT COUNTS. Prove the row's statement (the work); the ties are given (YtlijkiecbdbnpaaGreatDoorTie.lean); close each card by the builder's one call (the guide's Derived/Test/ToyasCard.lean, 'card_holds'). Laid BY PROGRAM, IN A SANDBOX (cutbox-door.mjs). By AI agents, Wed Nov 11 2026. No macro, syntax, notation, axiom, sorry.
-/
import Derived.Test.YtlijkiecbdbnpaaGreatDoorRows
import GoSem.ClaimSeven
namespace Go.Proofs.YtlijkiecbdbnpaaGreatDoor
namespace Rows

/-- THE TIED CARD OF 'exactreallaw27.FuelEnough'. -/
def fuelEnoughCard : Claim7 := { stood := { row := fuelEnoughRow, standIns := [], harness := (true, "ea29a819769f1a07bdde426dbb02f012be4f73a6649064141b34bc26f79fd871"), looks := true }, kinds := [], alts := [], laidByText := true, laidKinds := [.data, .data, .pinned], laidTests := true, laidLooks := .later }
def FuelEnoughCardSaid : Prop := Claim7.holds Tryz.pinned (.plain (OpenSpec.ofChange fuelEnoughSpec)) fuelEnoughCard

/-- THE SECOND FORM's CARD OF 'exactreallaw27.FuelEnough'. -/
def fuelEnoughUptoCard : Claim7 := { stood := { row := fuelEnoughUptoRow, standIns := [], harness := (true, "ea29a819769f1a07bdde426dbb02f012be4f73a6649064141b34bc26f79fd871"), looks := true }, kinds := [], alts := [], laidByText := true, laidKinds := [.data, .data, .pinned], laidTests := true, laidLooks := .later }
def FuelEnoughUptoCardSaid : Prop := Claim7.holds Tryz.pinned (.plain (OpenSpec.upto fuelEnoughSpec)) fuelEnoughUptoCard
end Rows
end Go.Proofs.YtlijkiecbdbnpaaGreatDoor
