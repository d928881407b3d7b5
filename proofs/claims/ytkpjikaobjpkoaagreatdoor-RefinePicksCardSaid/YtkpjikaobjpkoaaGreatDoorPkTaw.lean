/- The examples that awake, the law's first call, checks come out true in every world in which the table of math/bits lies; the calls that it makes are carried out by the kernel. -/
import Derived.Test.YtkpjikaobjpkoaaGreatDoorPkEv9
import Derived.Test.YtkpjikaobjpkoaaGreatDoorChecked
import Derived.KernelRfl
namespace Go.Proofs.YtkpjikaobjpkoaaGreatDoor
open Go Go.Ev
/-- The table of math/bits. -/
def tab : List Value := [.int .u8 0, .int .u8 1, .int .u8 28, .int .u8 2, .int .u8 29, .int .u8 14, .int .u8 24, .int .u8 3, .int .u8 30, .int .u8 22, .int .u8 20, .int .u8 15, .int .u8 25, .int .u8 17, .int .u8 4, .int .u8 8,
  .int .u8 31, .int .u8 27, .int .u8 13, .int .u8 23, .int .u8 21, .int .u8 19, .int .u8 16, .int .u8 7, .int .u8 26, .int .u8 12, .int .u8 18, .int .u8 6, .int .u8 11, .int .u8 5, .int .u8 10, .int .u8 9]
def tabF : Nat → Option (List Value) := fun g => match g with
  | 0 => some tab
  | _ => none
set_option maxRecDepth 1000000 in
theorem awake_run : isTrue (callG (Env.of Tryz.prog (tabsOf tabF)) 200 4 [] (emptyHeap 1)) = true := by kernel_rfl
theorem mixed : Tryz.prog.follows .mixedOrders = true := by kernel_rfl
theorem awake_calls {W : World} (h : ∃ rest e fz, W.heap[0]? = some (.cells ⟨tab ++ rest⟩ e fz)) :
    Calls Tryz.prog 4 #[] W fun e W' => e = .returned (.bool true) ∧ RowKit.Below W.heap.size W W' :=
  calls_true mixed rfl awake_run fun g l hg => by
    unfold tabsOf tabF at hg
    dsimp only at hg
    split at hg
    · cases hg; exact h
    · cases hg
end Go.Proofs.YtkpjikaobjpkoaaGreatDoor
