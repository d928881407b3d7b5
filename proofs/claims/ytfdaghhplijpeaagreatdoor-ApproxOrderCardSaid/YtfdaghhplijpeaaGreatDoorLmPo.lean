/- A part of the law's sanity check, carried out by the kernel. -/
import Derived.Test.YtfdaghhplijpeaaGreatDoorLmPn
namespace Go.Proofs.YtfdaghhplijpeaaGreatDoor
open Go Go.RowKit Go.Ev
set_option maxRecDepth 1000000 in
theorem chain_ok : chain = true := by kernel_rfl
end Go.Proofs.YtfdaghhplijpeaaGreatDoor
