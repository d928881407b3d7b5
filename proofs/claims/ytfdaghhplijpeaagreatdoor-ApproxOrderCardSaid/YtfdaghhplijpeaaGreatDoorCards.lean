/-
  DERIVED. GIVEN WITH THE SEED: THE CARDS: each row of YtfdaghhplijpeaaGreatDoorRows.lean that lists a variable, with what it lists TIED to the program's text (the seventh form; the later family's looks); each row that meets fmt, with fmt's text TOLD by the authors' own Lean function (tested against real Go, not proved from fmt's source: count such statements apart). THE CARD IS WHAT COUNTS. Prove the row's statement (the work); the ties are given (YtfdaghhplijpeaaGreatDoorTie.lean); close each card by the builder's one call (the guide's Derived/Test/ToyasCard.lean, 'card_holds'). Laid BY PROGRAM, IN A SANDBOX (cutbox-door.mjs). By AI agents, Wed Nov 11 2026. No macro, syntax, notation, axiom, sorry.
-/
import Derived.Test.YtfdaghhplijpeaaGreatDoorRows
import GoSem.ClaimSeven
namespace Go.Proofs.YtfdaghhplijpeaaGreatDoor
namespace Rows

/-- THE TIED CARD OF 'exactreallaw24.ApproxOrder'. -/
def approxOrderCard : Claim7 := { stood := { row := approxOrderRow, standIns := [], harness := (true, "681bdcb18c106dc23363b8e39956eea57ca6ec6ceb19f10f53fa40ff361c5a6f"), looks := true }, kinds := [], alts := [], laidByText := true, laidKinds := [.data, .data, .pinned], laidTests := true, laidLooks := .later }
def ApproxOrderCardSaid : Prop := Claim7.holds Tryz.pinned (.plain (OpenSpec.ofChange approxOrderSpec)) approxOrderCard

/-- THE SECOND FORM's CARD OF 'exactreallaw24.ApproxOrder'. -/
def approxOrderUptoCard : Claim7 := { stood := { row := approxOrderUptoRow, standIns := [], harness := (true, "681bdcb18c106dc23363b8e39956eea57ca6ec6ceb19f10f53fa40ff361c5a6f"), looks := true }, kinds := [], alts := [], laidByText := true, laidKinds := [.data, .data, .pinned], laidTests := true, laidLooks := .later }
def ApproxOrderUptoCardSaid : Prop := Claim7.holds Tryz.pinned (.plain (OpenSpec.upto approxOrderSpec)) approxOrderUptoCard
end Rows
end Go.Proofs.YtfdaghhplijpeaaGreatDoor
