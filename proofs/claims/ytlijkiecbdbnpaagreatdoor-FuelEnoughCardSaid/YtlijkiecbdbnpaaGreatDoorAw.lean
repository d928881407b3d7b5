/- The examples that awake, the law's first call, checks come out true in every world in which the table of math/bits lies; the calls that it makes are carried out by the kernel (parts Ev1 to Ev8). -/
import Derived.Test.YtlijkiecbdbnpaaGreatDoorEv8
import Derived.Test.YtlijkiecbdbnpaaGreatDoorChecked
import Derived.KernelRfl
namespace Go.Proofs.YtlijkiecbdbnpaaGreatDoor
open Go Go.Ev
/-- The table of math/bits. -/
def tab : List Value := [.int .u8 0, .int .u8 1, .int .u8 28, .int .u8 2, .int .u8 29, .int .u8 14, .int .u8 24, .int .u8 3, .int .u8 30, .int .u8 22, .int .u8 20, .int .u8 15, .int .u8 25, .int .u8 17, .int .u8 4, .int .u8 8,
  .int .u8 31, .int .u8 27, .int .u8 13, .int .u8 23, .int .u8 21, .int .u8 19, .int .u8 16, .int .u8 7, .int .u8 26, .int .u8 12, .int .u8 18, .int .u8 6, .int .u8 11, .int .u8 5, .int .u8 10, .int .u8 9]
def tabs : Nat → Option (List Value) := fun g => match g with
  | 3 => some tab
  | _ => none
noncomputable def pL : VR := callG (Env.of Tryz.prog tabs) 200 8 [.str [49, 47, 51]] (emptyHeap 1)
noncomputable def pM : VR := callG (Env.of Tryz.prog tabs) 200 8 [.str [115, 113, 114, 116, 40, 112, 105, 32, 45, 32, 112, 105, 41]] (emptyHeap 1)
noncomputable def qL : VR := callG (Env.of Tryz.prog tabs) 200 9 [tup0 (vrV pL), .int .i64 20] (vrH pL)
noncomputable def qM : VR := callG (Env.of Tryz.prog tabs) 200 9 [tup0 (vrV pM), .int .i64 20] (vrH pM)
end Go.Proofs.YtlijkiecbdbnpaaGreatDoor
