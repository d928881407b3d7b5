/- The evaluator of closed calls, part Gi: what the program computes on given inputs, read by the kernel; sound in every world (part Gh). -/
import Derived.Test.YtendmajekgmkhaaGreatDoorGh
import Derived.Below
set_option linter.unusedVariables false
set_option linter.unusedSimpArgs false
set_option linter.unnecessarySimpa false
namespace Go.Ev
noncomputable def isTrue : VR → Bool
  | .ok (.bool b) _ => b
  | _ => false
theorem emptyHeap_dom (n : Nat) (x : Pos) : ¬ dom (emptyHeap n) x := fun h => h (by
  show ((DTree.leaf : DTree Cell).get noCell x).obj = .free
  rw [DTree.get_leaf]; rfl)
theorem emptyHeap_at (n : Nat) (x : Pos) : (emptyHeap n).at x = noCell := DTree.get_leaf _
/-- A call without arguments that the evaluator sees return true returns true, wherever it is made. -/
theorem calls_true {P : Program} (hmix : P.follows .mixedOrders = true) {G : Tabs} {n f : Nat} (h : isTrue (callG (Env.of P G) n f [] (emptyHeap 1)) = true) {W : World}
    (hg : ∀ g l, G g = some l → ∃ rest e fz, W.heap[g]? = some (.cells ⟨l ++ rest⟩ e fz)) :
    Calls P f #[] W fun e W' => e = .returned (.bool true) ∧ RowKit.Below W.heap.size W W' := by
  cases hc : callG (Env.of P G) n f [] (emptyHeap 1) with
  | fail => rw [hc] at h; cases h
  | ok v h' =>
    rw [hc] at h
    have hv : v = .bool true := by
      cases v <;> first | (cases h; done) | (rename_i b; cases b <;> first | rfl | cases h)
    subst hv
    let m0 : Mp := ⟨fun _ => 0, fun _ => 0⟩
    have r0 : Rep (Env.of P G).gl m0 (emptyHeap 1) W :=
      { blk := fun n hn => absurd hn (emptyHeap_dom 1 n)
        fresh := fun n hn => absurd hn (emptyHeap_dom 1 n)
        apart := fun n k hn => absurd hn (emptyHeap_dom 1 n)
        mem := fun n k hn => absurd hn (emptyHeap_dom 1 n)
        rts := fun n hn => absurd hn (emptyHeap_dom 1 n)
        ins := fun n => by rw [emptyHeap_at]; exact trivial
        glob := fun g l hl => ⟨hg g l hl, fun n hn => absurd hn (emptyHeap_dom 1 n)⟩ }
    have := (callG_sound hmix G n f [] (emptyHeap 1) (.bool true) h' hc).2 m0 W r0 trivial (fun d hd => by cases hd)
    exact Calls.mono this fun e W' ⟨m', he, _, g, _⟩ => ⟨he, ⟨g.os, g.tape, g.output, g.size, fun b hb => g.keep b hb fun n hn => absurd hn (emptyHeap_dom 1 n)⟩⟩
end Go.Ev
