/- Calls of awake, carried out by the kernel. -/
import Derived.Test.YtlijkiecbdbnpaaGreatDoorAw
namespace Go.Proofs.YtlijkiecbdbnpaaGreatDoor
open Go Go.Ev
set_option maxRecDepth 1000000 in
theorem pL_ok : (vrOk pL && sliceIntInt (vrV pL)) = true := by kernel_rfl
set_option maxRecDepth 1000000 in
theorem pM_ok : (vrOk pM && sliceIntInt (vrV pM)) = true := by kernel_rfl
end Go.Proofs.YtlijkiecbdbnpaaGreatDoor
