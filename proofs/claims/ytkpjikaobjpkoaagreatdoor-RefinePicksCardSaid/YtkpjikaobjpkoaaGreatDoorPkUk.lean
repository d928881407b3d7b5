/-
  A closed fact of the card: no function of the translation starts a goroutine.
-/
import Derived.Test.YtkpjikaobjpkoaaGreatDoorRows
import Derived.Test.YtkpjikaobjpkoaaGreatDoorCards
import Derived.KernelRfl
namespace Go.Proofs.YtkpjikaobjpkoaaGreatDoor
open Go
theorem goes_none {P : Program} (h : P.funcs.any Func.goes = false) (f : FuncId) : P.goes f = false := by
  have h1 : ∀ g : Nat, (P.funcs[g]?).any Func.goes = false := fun g => by
    cases hg : P.funcs[g]? with
    | none => rfl
    | some fn =>
      rw [Array.any_eq_false] at h
      obtain ⟨hlt, e⟩ := Array.getElem?_eq_some_iff.1 hg
      have := h g hlt
      rw [e] at this
      simpa using this
  unfold Program.goes
  rw [h, Bool.and_false, Bool.or_false]
  simp [h1]
set_option maxRecDepth 100000 in
theorem no_goes : Tryz.prog.funcs.any Func.goes = false := by kernel_rfl
theorem goesBy_none {P : Program} {c : OpenClaim} (hs : c.start = .entering) (h : P.funcs.any Func.goes = false) : false = c.goesBy P := by
  unfold OpenClaim.goesBy Program.goesAt Program.goesFrom
  rw [hs]
  cases hf : P.funcNamed c.func with
  | none => rfl
  | some f => show false = (P.goes f || false); rw [goes_none h]; rfl
theorem goes_fact : false = Rows.refinePicksRow.goesBy Tryz.prog := goesBy_none rfl no_goes
end Go.Proofs.YtkpjikaobjpkoaaGreatDoor
