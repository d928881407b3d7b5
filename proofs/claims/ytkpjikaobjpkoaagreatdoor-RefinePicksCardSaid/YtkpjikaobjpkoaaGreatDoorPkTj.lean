/-
  The law RefinePicks on symbols: three precisions, and for each three intervals, unrolled.
-/
import Derived.Test.YtkpjikaobjpkoaaGreatDoorPkThTi
import Derived.Test.YtkpjikaobjpkoaaGreatDoorPkTaw
namespace Go.Proofs.YtkpjikaobjpkoaaGreatDoor
open Go.RowKit Go.Ev

theorem tab_map : tab = (List.range 32).map fun j => Value.int .u8 (Lib.deBruijn32tab.getD j 0 : Nat) := by kernel_rfl
/-- Where the cells of the table lie, its block lies. -/
theorem tab_blk {w : World} (h : TabAt w) : ∃ rest e fz, w.heap[0]? = some (.cells ⟨tab ++ rest⟩ e fz) := by
  have h0 := h 0 (by decide)
  unfold World.cell? at h0
  cases hb : w.heap[0]? with
  | none => simp only [hb] at h0; cases h0
  | some o =>
    cases o with
    | cells cs e fz =>
      refine ⟨cs.toList.drop 32, e, fz, ?_⟩
      have hc : ∀ j, j < 32 → cs[j]? = some (.int .u8 (Lib.deBruijn32tab.getD j 0 : Nat)) := fun j hj => by
        have h1 := h j hj
        unfold World.cell? at h1
        simp only [hb] at h1
        exact h1
      have e1 : cs.toList.take 32 = tab := by
        apply List.ext_getElem?
        intro i
        by_cases hi : i < 32
        · rw [List.getElem?_take, if_pos hi, Array.getElem?_toList, hc i hi]
          rw [tab_map, List.getElem?_map, List.getElem?_range hi]
          rfl
        · rw [List.getElem?_eq_none (by rw [List.length_take]; omega), List.getElem?_eq_none (by show 32 ≤ _; omega)]
      rw [← e1, List.take_append_drop]
    | _ => simp only [hb] at h0; cases h0
theorem awake_con : Con Tryz.prog TabAt 4 [] (IsV (.bool true)) :=
  con_own fun w vals e hT => by
    obtain rfl : vals = [] := e
    exact (awake_calls (tab_blk hT)).mono fun en w' ⟨e, hb⟩ => ⟨_, e, fun _ _ => rfl, hb⟩
/-! ### The table of calls -/
noncomputable def rightE (D k i j : Nat) (f : Bool) : List Ent := bif f then [⟨11, [dP D, ivP i j, s0 k], .bool true⟩] else []
noncomputable def pickE (D k i j : Nat) (f : Bool) : List Ent := [⟨8, [ivP i j, s0 k], .tup [dP D, .bool f]⟩, ⟨9, [ivP i j, s0 k], .tup [dP D, .bool f]⟩, ⟨10, [dP D, dP D], .bool true⟩]
noncomputable def rowE (k b : Nat) (f0 f1 f2 : Bool) : List Ent :=
  [⟨6, [s0 k, .int .i64 80], s0 b⟩, ⟨7, [ivP 3 4, s0 (b + 1)], ivP 3 (b + 3)⟩, ⟨7, [ivP 3 4, s0 (b + 2)], ivP 3 (b + 4)⟩] ++
  (pickE (b + 5) k 3 4 f0 ++ rightE (b + 5) k 3 4 f0 ++ (pickE (b + 6) k 3 (b + 3) f1 ++ rightE (b + 6) k 3 (b + 3) f1 ++ (pickE (b + 7) k 3 (b + 4) f2 ++ rightE (b + 7) k 3 (b + 4) f2)))
noncomputable def lawE (f0 f1 f2 g0 g1 g2 h0 h1 h2 : Bool) : List Ent :=
  [⟨4, [], .bool true⟩, ⟨5, [ivP 0 1, .int .i64 4, .int .i64 60], .tup [ivP 3 4, .bool true]⟩, ⟨6, [s0 2, .int .i64 60], s0 5⟩, ⟨6, [s0 2, .int .i64 3], s0 6⟩] ++
  (rowE 2 8 f0 f1 f2 ++ (rowE 5 16 g0 g1 g2 ++ rowE 7 24 h0 h1 h2))
def rowF (b : Nat) : List Fact := [⟨.bin .add, s0 b, .int .i64 1, s0 (b + 1)⟩, ⟨.bin .add, s0 b, .int .i64 2, s0 (b + 2)⟩]
def lawF : List Fact := [⟨.bin .add, .int .i64 511, s0 6, s0 7⟩] ++ (rowF 8 ++ (rowF 16 ++ rowF 24))
/-- The flags of three intervals of which each lies in the one before. -/
inductive Three : Bool → Bool → Bool → Prop
  | c0 : Three false false false
  | c1 : Three false false true
  | c2 : Three false true true
  | c3 : Three true true true
section
variable (L : List Slot) (A : World → Prop)
theorem law_run {f0 f1 f2 g0 g1 g2 h0 h1 h2 : Bool} (hf : Three f0 f1 f2) (hg : Three g0 g1 g2) (hh : Three h0 h1 h2) (l l' : List Nat) (v : Nat → OneVal) (n : Nat → Int) :
    symB (Env.sy Tryz.prog (tabsL TabAt [rawS l (v 0) (v 1), rawS l' (v 2) (v 3), valS (v 4), vS (n 0), vS (n 1), valS (v 5), valS (v 6), valS (v 7), valS (v 8), valS (v 9), valS (v 10), vS (n 2), vS (n 3), vS (n 4), vS (n 5), vS (n 6), valS (v 11), valS (v 12), valS (v 13), vS (n 7), vS (n 8), vS (n 9), vS (n 10), vS (n 11), valS (v 14), valS (v 15), valS (v 16), vS (n 12), vS (n 13), vS (n 14), vS (n 15), vS (n 16)]) lawF)
      (lawE f0 f1 f2 g0 g1 g2 h0 h1 h2) 3 [ivP 0 1, s0 2] (.bool true) = true := by
  cases hf <;> cases hg <;> cases hh <;> kernel_rfl
end
end Go.Proofs.YtkpjikaobjpkoaaGreatDoor
