/-
  What the row's premise on the package's tables gives the walk: the table of math/bits lies in its block.
-/
import Derived.Test.YtkpjikaobjpkoaaGreatDoorPkTk
import Derived.Test.YtkpjikaobjpkoaaGreatDoorRows
import Derived.ProofKit
import Derived.LaidMore
import Derived.OpenShut
import Derived.MakeChecks
namespace Go.Proofs.YtkpjikaobjpkoaaGreatDoor
open Go Go.RowKit Go.ChangeShapes Go.WideShapes Go.ChangeAt
theorem gTab : Tryz.prog.globalNamed "math/bits.deBruijn32tab" = some 0 := by kernel_rfl
theorem tT : (Tryz.prog.globals[0]?).map (·.type) = some 215 := by kernel_rfl
theorem uT : Tryz.prog.underlying 215 = some (.array 32 5) := by kernel_rfl
theorem uE : Tryz.prog.underlying 5 = some (.int .u8) := by kernel_rfl
theorem cE : Tryz.prog.cellsOf 5 = 1 := by kernel_rfl
theorem cT : Tryz.prog.cellsOf 215 = 32 := by kernel_rfl
def ns : List Int := [0, 1, 28, 2, 29, 14, 24, 3, 30, 22, 20, 15, 25, 17, 4, 8, 31, 27, 13, 23, 21, 19, 16, 7, 26, 12, 18, 6, 11, 5, 10, 9]
theorem tab_eq : tab = ns.map (Value.int .u8) := rfl
theorem laid_eq : (Rows.laid_math_bits_deBruijn32tab : DataW Unit) = .agg (ns.map fun n => .lit (.int .u8 n)) := rfl
theorem tab_of {W : World} (h : laidMetH Tryz.prog Rows.refinePicksRow.laid W) : ∃ rest e fz, W.heap[0]? = some (.cells ⟨tab ++ rest⟩ e fz) := by
  rw [MakeChecks.laidMetH_plain _ _ _ (by kernel_rfl)] at h
  obtain ⟨ps, ⟨g0, t0, cs0, f0, p0, q0, hg0, ht0, hv0, hd0, _⟩, _, _⟩ := h
  obtain rfl := Option.some.inj (gTab.symm.trans hg0)
  obtain rfl := Option.some.inj (tT.symm.trans ht0)
  obtain ⟨xs, m1, rfl, hx, hlen, hn, hel⟩ := DataW.trod_array uT hd0
  rw [laid_eq] at hx
  simp only [Prod.mk.injEq, DataW.agg.injEq] at hx
  rw [cT] at hlen
  have hcs : cs0.toList = tab := by
    apply List.ext_getElem?
    intro i
    by_cases hi : i < 32
    · have h0 := hel i hi
      have hix : i < xs.length := by omega
      rw [List.getElem?_eq_getElem hix, cE] at h0
      obtain ⟨k, e1, e2, _⟩ := DataW.trod_int uE h0
      have h1 : (ns.map fun n => (DataW.lit (.int .u8 n) : DataW Unit))[i]? = some (xs[i]).1 := by rw [hx.1]; simp [hix]
      rw [e2, List.getElem?_map] at h1
      rw [tab_eq, List.getElem?_map]
      cases hq : ns[i]? with
      | none => rw [hq] at h1; cases h1
      | some n =>
        rw [hq] at h1
        simp at h1
        subst h1
        have h2 := congrArg (fun l => l[0]?) e1
        simp at h2
        simpa using h2
    · rw [List.getElem?_eq_none (by omega), List.getElem?_eq_none (by rw [tab_eq]; simp [ns]; omega)]
  simp only [World.var?, gTab, Option.bind_some] at hv0
  split at hv0
  · rename_i c e fz hb
    cases hv0
    exact ⟨[], e, fz, by rw [hb, List.append_nil, ← hcs]⟩
  · cases hv0
end Go.Proofs.YtkpjikaobjpkoaaGreatDoor
