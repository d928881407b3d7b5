/- refineCopies_proved. -/
import Derived.Test.YthleenhngcdgkaaGreatDoorPmbb
import Derived.KernelRfl
set_option maxRecDepth 100000
set_option maxHeartbeats 16000000
set_option linter.all false
noncomputable section
namespace Go.Proofs.YthleenhngcdgkaaGreatDoor
section
open Go Go.Ev
set_option maxRecDepth 1000000 in
def aFx:isTrue (vB (Env.of Tryz.prog (zc vY)) 200 4 [] (qs 1))=true:=by kernel_rfl
def aFy {W:World} (h: ∃rest e fz,W.heap[0]? =some (.cells ⟨FF++rest⟩ e fz)):
 Calls Tryz.prog 4 #[] W fun e W'=>e= .returned (.bool true)/\RowKit.Below W.heap.size W W':=
 aq1 mixed rfl aFx fun g l hg=>by
  unfold zc vY at hg;dsimp only at hg;split at hg
  ·cases hg;exact h
  ·cases hg
end
end Go.Proofs.YthleenhngcdgkaaGreatDoor
