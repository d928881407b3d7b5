/-
  DERIVED. GIVEN WITH THE SEED: THE CARDS: each row of YtendmajekgmkhaaGreatDoorRows.lean that lists a variable, with what it lists TIED to the program's text (the seventh form; the later family's looks); each row that meets fmt, with fmt's text TOLD by the authors' own Lean function (tested against real Go, not proved from fmt's source: count such statements apart). THE CARD IS WHAT COUNTS. Prove the row's statement (the work); the ties are given (YtendmajekgmkhaaGreatDoorTie.lean); close each card by the builder's one call (the guide's Derived/Test/ToyasCard.lean, 'card_holds'). Laid BY PROGRAM, IN A SANDBOX (cutbox-door.mjs). By AI agents, Wed Nov 11 2026. No macro, syntax, notation, axiom, sorry.
-/
import Derived.Test.YtendmajekgmkhaaGreatDoorRows
import GoSem.ClaimSeven
namespace Go.Proofs.YtendmajekgmkhaaGreatDoor
namespace Rows

/-- THE TIED CARD OF 'exactreallaw25.RefineLadders'. -/
def refineLaddersCard : Claim7 := { stood := { row := refineLaddersRow, standIns := [], harness := (true, "606be6930e525122ac719dbad3bcc80bd3def2378d409bcfbd3a285b00f02f41"), looks := true }, kinds := [], alts := [], laidByText := true, laidKinds := [.data, .data, .pinned], laidTests := true, laidLooks := .later }
def RefineLaddersCardSaid : Prop := Claim7.holds Tryz.pinned (.plain (OpenSpec.ofChange refineLaddersSpec)) refineLaddersCard

/-- THE SECOND FORM's CARD OF 'exactreallaw25.RefineLadders'. -/
def refineLaddersUptoCard : Claim7 := { stood := { row := refineLaddersUptoRow, standIns := [], harness := (true, "606be6930e525122ac719dbad3bcc80bd3def2378d409bcfbd3a285b00f02f41"), looks := true }, kinds := [], alts := [], laidByText := true, laidKinds := [.data, .data, .pinned], laidTests := true, laidLooks := .later }
def RefineLaddersUptoCardSaid : Prop := Claim7.holds Tryz.pinned (.plain (OpenSpec.upto refineLaddersSpec)) refineLaddersUptoCard
end Rows
end Go.Proofs.YtendmajekgmkhaaGreatDoor
