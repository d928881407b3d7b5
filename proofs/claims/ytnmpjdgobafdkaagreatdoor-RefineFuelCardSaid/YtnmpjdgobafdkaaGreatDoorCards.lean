/-
  DERIVED. GIVEN WITH THE SEED: THE CARDS: each row of YtnmpjdgobafdkaaGreatDoorRows.lean that lists a variable, with what it lists TIED to the program's text (the seventh form; the later family's looks); each row that meets fmt, with fmt's text TOLD by the authors' own Lean function (tested against real Go, not proved from fmt's source: count such statements apart). THE CARD IS WHAT COUNTS. Prove the row's statement (the work); the ties are given (YtnmpjdgobafdkaaGreatDoorTie.lean); close each card by the builder's one call (the guide's Derived/Test/ToyasCard.lean, 'card_holds'). Laid BY PROGRAM, IN A SANDBOX (cutbox-door.mjs). By AI agents, Wed Nov 11 2026. No macro, syntax, notation, axiom, sorry.
-/
import Derived.Test.YtnmpjdgobafdkaaGreatDoorRows
import GoSem.ClaimSeven
namespace Go.Proofs.YtnmpjdgobafdkaaGreatDoor
namespace Rows

/-- THE TIED CARD OF 'exactreallaw25.RefineFuel'. -/
def refineFuelCard : Claim7 := { stood := { row := refineFuelRow, standIns := [], harness := (true, "d6b397e069a5cdd0b5a46b2cbd07e134217da797646a7a6a38eaa60568ec7fae"), looks := true }, kinds := [], alts := [], laidByText := true, laidKinds := [.data, .data, .pinned], laidTests := true, laidLooks := .later }
def RefineFuelCardSaid : Prop := Claim7.holds Tryz.pinned (.plain (OpenSpec.ofChange refineFuelSpec)) refineFuelCard

/-- THE SECOND FORM's CARD OF 'exactreallaw25.RefineFuel'. -/
def refineFuelUptoCard : Claim7 := { stood := { row := refineFuelUptoRow, standIns := [], harness := (true, "d6b397e069a5cdd0b5a46b2cbd07e134217da797646a7a6a38eaa60568ec7fae"), looks := true }, kinds := [], alts := [], laidByText := true, laidKinds := [.data, .data, .pinned], laidTests := true, laidLooks := .later }
def RefineFuelUptoCardSaid : Prop := Claim7.holds Tryz.pinned (.plain (OpenSpec.upto refineFuelSpec)) refineFuelUptoCard
end Rows
end Go.Proofs.YtnmpjdgobafdkaaGreatDoor
