/-
  DERIVED. GIVEN WITH THE SEED: THE CARDS: each row of YtkpjikaobjpkoaaGreatDoorRows.lean that lists a variable, with what it lists TIED to the program's text (the seventh form; the later family's looks); each row that meets fmt, with fmt's text TOLD by the authors' own Lean function (tested against real Go, not proved from fmt's source: count such statements apart). THE CARD IS WHAT COUNTS. Prove the row's statement (the work); the ties are given (YtkpjikaobjpkoaaGreatDoorTie.lean); close each card by the builder's one call (the guide's Derived/Test/ToyasCard.lean, 'card_holds'). Laid BY PROGRAM, IN A SANDBOX (cutbox-door.mjs). By AI agents, Wed Nov 11 2026. No macro, syntax, notation, axiom, sorry.
-/
import Derived.Test.YtkpjikaobjpkoaaGreatDoorRows
import GoSem.ClaimSeven
namespace Go.Proofs.YtkpjikaobjpkoaaGreatDoor
namespace Rows

/-- THE TIED CARD OF 'exactreallaw25.RefinePicks'. -/
def refinePicksCard : Claim7 := { stood := { row := refinePicksRow, standIns := [], harness := (true, "279e3887b3149b6b96aea005c35bc4e17d7eecca74a82bd90683d94a193523c7"), looks := true }, kinds := [], alts := [], laidByText := true, laidKinds := [.data, .data, .pinned], laidTests := true, laidLooks := .later }
def RefinePicksCardSaid : Prop := Claim7.holds Tryz.pinned (.plain (OpenSpec.ofChange refinePicksSpec)) refinePicksCard

/-- THE SECOND FORM's CARD OF 'exactreallaw25.RefinePicks'. -/
def refinePicksUptoCard : Claim7 := { stood := { row := refinePicksUptoRow, standIns := [], harness := (true, "279e3887b3149b6b96aea005c35bc4e17d7eecca74a82bd90683d94a193523c7"), looks := true }, kinds := [], alts := [], laidByText := true, laidKinds := [.data, .data, .pinned], laidTests := true, laidLooks := .later }
def RefinePicksUptoCardSaid : Prop := Claim7.holds Tryz.pinned (.plain (OpenSpec.upto refinePicksSpec)) refinePicksUptoCard
end Rows
end Go.Proofs.YtkpjikaobjpkoaaGreatDoor
