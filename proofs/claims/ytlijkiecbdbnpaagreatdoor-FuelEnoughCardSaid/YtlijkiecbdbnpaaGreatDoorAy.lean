/- Calls of awake, carried out by the kernel. -/
import Derived.Test.YtlijkiecbdbnpaaGreatDoorAw
namespace Go.Proofs.YtlijkiecbdbnpaaGreatDoor
open Go Go.Ev
set_option maxRecDepth 1000000 in
theorem qL_ok : (vrOk qL && isIntBool 2 true (vrV qL)) = true := by kernel_rfl
end Go.Proofs.YtlijkiecbdbnpaaGreatDoor
