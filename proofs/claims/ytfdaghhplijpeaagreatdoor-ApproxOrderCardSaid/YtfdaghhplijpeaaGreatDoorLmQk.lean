/-
  A closed fact of the card, by itself (beside the others it takes more memory than a process has).
-/
import Derived.Test.YtfdaghhplijpeaaGreatDoorRows
import Derived.Test.YtfdaghhplijpeaaGreatDoorCards
import Derived.KernelRfl
namespace Go.Proofs.YtfdaghhplijpeaaGreatDoor
open Go
set_option maxRecDepth 100000 in
theorem goes_fact : false = Rows.approxOrderRow.goesBy Tryz.prog := by kernel_rfl
end Go.Proofs.YtfdaghhplijpeaaGreatDoor
