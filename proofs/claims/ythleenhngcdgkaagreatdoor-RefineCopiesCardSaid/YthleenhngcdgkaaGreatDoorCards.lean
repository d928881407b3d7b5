/-
  DERIVED. GIVEN WITH THE SEED: THE CARDS: each row of YthleenhngcdgkaaGreatDoorRows.lean that lists a variable, with what it lists TIED to the program's text (the seventh form; the later family's looks); each row that meets fmt, with fmt's text TOLD by the authors' own Lean function (tested against real Go, not proved from fmt's source: count such statements apart). THE CARD IS WHAT COUNTS. Prove the row's statement (the work); the ties are given (YthleenhngcdgkaaGreatDoorTie.lean); close each card by the builder's one call (the guide's Derived/Test/ToyasCard.lean, 'card_holds'). Laid BY PROGRAM, IN A SANDBOX (cutbox-door.mjs). By AI agents, Wed Nov 11 2026. No macro, syntax, notation, axiom, sorry.
-/
import Derived.Test.YthleenhngcdgkaaGreatDoorRows
import GoSem.ClaimSeven
namespace Go.Proofs.YthleenhngcdgkaaGreatDoor
namespace Rows

/-- THE TIED CARD OF 'exactreallaw25.RefineCopies'. -/
def refineCopiesCard : Claim7 := { stood := { row := refineCopiesRow, standIns := [], harness := (true, "373bdff8b339602d58468f6eb95257e962748b2c17e08f91450a50da85c1c983"), looks := true }, kinds := [], alts := [], laidByText := true, laidKinds := [.data, .data, .pinned], laidTests := true, laidLooks := .later }
def RefineCopiesCardSaid : Prop := Claim7.holds Tryz.pinned (.plain (OpenSpec.ofChange refineCopiesSpec)) refineCopiesCard

/-- THE SECOND FORM's CARD OF 'exactreallaw25.RefineCopies'. -/
def refineCopiesUptoCard : Claim7 := { stood := { row := refineCopiesUptoRow, standIns := [], harness := (true, "373bdff8b339602d58468f6eb95257e962748b2c17e08f91450a50da85c1c983"), looks := true }, kinds := [], alts := [], laidByText := true, laidKinds := [.data, .data, .pinned], laidTests := true, laidLooks := .later }
def RefineCopiesUptoCardSaid : Prop := Claim7.holds Tryz.pinned (.plain (OpenSpec.upto refineCopiesSpec)) refineCopiesUptoCard
end Rows
end Go.Proofs.YthleenhngcdgkaaGreatDoor
