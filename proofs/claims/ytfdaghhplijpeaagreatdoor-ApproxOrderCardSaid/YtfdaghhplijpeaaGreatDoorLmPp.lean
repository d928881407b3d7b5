/- A part of the law's sanity check, carried out by the kernel. -/
import Derived.Test.YtfdaghhplijpeaaGreatDoorLmPn
namespace Go.Proofs.YtfdaghhplijpeaaGreatDoor
open Go Go.RowKit Go.Ev
set_option maxRecDepth 1000000 in
theorem pB_ok : isErr 5 pB = true := by kernel_rfl
end Go.Proofs.YtfdaghhplijpeaaGreatDoor
