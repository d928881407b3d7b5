/- Calls of awake, carried out by the kernel. -/
import Derived.Test.YtlijkiecbdbnpaaGreatDoorAw
namespace Go.Proofs.YtlijkiecbdbnpaaGreatDoor
open Go Go.Ev
set_option maxRecDepth 1000000 in
theorem qM_ok : (vrOk qM && isIntBool 0 false (vrV qM)) = true := by kernel_rfl
end Go.Proofs.YtlijkiecbdbnpaaGreatDoor
