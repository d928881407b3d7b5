/-
  The reference's comparison of two rows of numbers, walked: two equal rows are found equal.
-/
import Derived.Test.YtendmajekgmkhaaGreatDoorLb
import Derived.BigQuiet
namespace Go.Proofs.YtendmajekgmkhaaGreatDoor
open Go Go.RowKit
/-- A row as the walk wants it. -/
theorem own_form {w : World} {base : Nat} {v : Value} {n : Nat} {zs : List Int} (h : w.ownsRow base 3 1 v n (zs.map (Value.int .i64))) :
    ∃ a c, v = .slice a n c ∧ zs.length = n ∧ ∀ k, k < n → ∃ g, a = some ⟨g, 0, none⟩ ∧ w.cell? ⟨g, k, none⟩ = some (.int .i64 (zs.getD k 0)) := by
  obtain ⟨hl, h | ⟨g, cap, cur, rfl, h1, h2, h3, h4, h5, h6⟩⟩ := h
  · obtain ⟨rfl, rfl⟩ := h
    exact ⟨none, 0, rfl, by simpa using hl, fun k hk => by omega⟩
  · refine ⟨_, cap, rfl, by simpa using hl, fun k hk => ⟨g, rfl, ?_⟩⟩
    have hz : k < zs.length := by simp at hl; omega
    have e : cur.toList[k]? = some (.int .i64 zs[k]) := by
      have : (cur.toList.take (n * 1))[k]? = some (.int .i64 zs[k]) := by rw [h6]; simp [hz]
      rw [List.getElem?_take] at this
      split at this
      · exact this
      · cases this
    simp only [World.cell?, h2]
    simpa [hz] using e
/-- Nothing but draws. -/
def Same (w wr : World) : Prop := wr.heap = w.heap ∧ wr.os = w.os ∧ wr.tape = w.tape ∧ wr.output = w.output
theorem Same.cell {w wr : World} (h : Same w wr) (a : Addr) : wr.cell? a = w.cell? a := by unfold World.cell?; rw [h.1]
theorem Same.below {w wr : World} (h : Same w wr) : Below w.heap.size w wr := ⟨h.2.1, h.2.2.1, h.2.2.2, by rw [h.1]; exact Nat.le_refl _, fun k _ => by rw [h.1]⟩
set_option maxRecDepth 100000 in
set_option maxHeartbeats 1000000 in
theorem same6 {w : World} {base : Nat} {v1 v2 : Value} {n : Nat} {zs : List Int} (h1 : w.ownsRow base 3 1 v1 n (zs.map (Value.int .i64))) (h2 : w.ownsRow base 3 1 v2 n (zs.map (Value.int .i64))) (hn : n ≤ 20) :
    Calls Tryz.prog 6 #[v1, v2] w fun e w' => e = .returned (.bool true) ∧ Same w w' := by
  obtain ⟨a1, c1, rfl, hz, g1⟩ := own_form h1
  obtain ⟨a2, c2, rfl, _, g2⟩ := own_form h2
  clear h1 h2 hz
  have G1 := Lib.hid g1
  have G2 := Lib.hid g2
  clear g1 g2
  go_enter Tryz.func6, Tryz.ntmps6
  go_wp2_with fail
  go_loopw [8] (fun i wr => Same w wr ∧ ∃ k : Nat, k ≤ n ∧ i = .int .i64 k) (fun i _ => n - (intOf i).toNat)
  case atStart => exact ⟨⟨rfl, rfl, rfl, rfl⟩, 0, by omega, rfl⟩
  case round =>
    obtain ⟨hS, k, hk, rfl⟩ := hrel
    by_cases hkn : k < n
    · obtain ⟨b1, rfl, e1⟩ := G1.out k hkn
      obtain ⟨b2, rfl, e2⟩ := G2.out k hkn
      rw [← hS.cell] at e1 e2
      have HS := Lib.hid hS
      clear hS
      go_wp2_with (go_quiet (fail))
      go_roundw
      case rel => exact ⟨HS.out, k + 1, by omega, by go_num⟩
      case measure => simp [intOf]; omega
    · have hkn' : k = n := by omega
      have HS := Lib.hid hS
      clear hS
      go_wp2_with fail
      go_ret
      exact ⟨by simp, HS.out⟩
end Go.Proofs.YtendmajekgmkhaaGreatDoor
