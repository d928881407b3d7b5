/- refineFuel_proved. -/
import Derived.Test.YtnmpjdgobafdkaaGreatDoorPmbj
import Derived.KernelRfl
set_option maxRecDepth 100000
set_option maxHeartbeats 16000000
set_option linter.all false
noncomputable section
namespace Go.Proofs.YtnmpjdgobafdkaaGreatDoor
section
open Go Go.Ev
set_option maxRecDepth 1000000 in
def aEp:isTrue (zI (Env.of Tryz.prog (Ec yY)) 200 4 [] (sY 1))=true:=by kernel_rfl
def aEq {W:World} (h: ∃rest e fz,W.heap[0]? =some (.cells ⟨E6++rest⟩ e fz)):
 Calls Tryz.prog 4 #[] W fun e W'=>e= .returned (.bool true)/\RowKit.Below W.heap.size W W':=
 ap9 mixed rfl aEp fun g l hg=>by
  unfold Ec yY at hg;dsimp only at hg;split at hg
  ·cases hg;exact h
  ·cases hg
end
end Go.Proofs.YtnmpjdgobafdkaaGreatDoor
