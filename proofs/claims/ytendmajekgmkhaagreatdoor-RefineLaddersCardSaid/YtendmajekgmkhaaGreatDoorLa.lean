/-
  The two ladders, walked: each returns the rungs p + 8, 2 (p + 8), .. that are at most the fuel.
-/
import Derived.Test.YtendmajekgmkhaaGreatDoorProg
import Derived.WalkKit
import Derived.Lib.Hide
namespace Go.Proofs.YtendmajekgmkhaaGreatDoor
open Go Go.RowKit

def rungs (x : Int) (k : Nat) : List Int := (List.range k).map fun j => 2 ^ j * x
theorem rungs_succ (x : Int) (k : Nat) : rungs x (k + 1) = rungs x k ++ [2 ^ k * x] := by simp [rungs, List.range_succ]
theorem rungs_length (x : Int) (k : Nat) : (rungs x k).length = k := by simp [rungs]
def okLad (p f : Int) : Prop := 0 ≤ p ∧ p ≤ 512 ∧ 0 ≤ f ∧ f ≤ 4096
def LadP (w : World) (p f : Int) (e : Ending) (w' : World) : Prop :=
  ∃ v k, e = .returned v ∧ Below w.heap.size w w' ∧ w'.ownsRow w.heap.size 3 1 v k ((rungs (p + 8) k).map (Value.int .i64)) ∧
    (okLad p f → (∀ j, j < k → 2 ^ j * (p + 8) ≤ f) ∧ f < 2 ^ k * (p + 8)) ∧ (¬ okLad p f → k = 0)
theorem Tryz.info3 : (Tryz.prog.info? 3).map (fun i => (i.zero, i.size, i.bytes)) = some (some (.int .i64 0), 1, 8) := by kernel_rfl
theorem ladP_nil {w : World} {p f : Int} (h : ¬ okLad p f) : LadP w p f (.returned (.slice none 0 0)) w :=
  ⟨_, 0, rfl, Below.refl _ _, World.ownsRow_nil _ _ _ _, fun h' => absurd h' h, fun _ => rfl⟩

set_option maxRecDepth 100000 in
set_option maxHeartbeats 1000000 in
theorem lad8_bad (p f : Int) (w : World) (h : ¬ okLad p f) : Calls Tryz.prog 8 #[.int .i64 p, .int .i64 f] w (LadP w p f) := by
  have hq := ladP_nil (w := w) h
  have hs : p < 0 ∨ 512 < p ∨ f < 0 ∨ 4096 < f := by unfold okLad at h; omega
  have hQ := Lib.hid hq
  clear hq h
  by_cases h1 : p < 0
  · clear hs
    go_enter Tryz.func8, Tryz.ntmps8
    go_wp2
    go_ret
    exact hQ.out
  · by_cases h2 : 512 < p
    · clear hs
      go_enter Tryz.func8, Tryz.ntmps8
      go_wp2
      go_ret
      exact hQ.out
    · by_cases h3 : f < 0
      · clear hs
        go_enter Tryz.func8, Tryz.ntmps8
        go_wp2
        go_ret
        exact hQ.out
      · have h4 : 4096 < f := by omega
        clear hs
        go_enter Tryz.func8, Tryz.ntmps8
        go_wp2
        go_ret
        exact hQ.out
/-- How far the loop has come. -/
def LadR (w wr : World) (p f : Int) (v : Value) (i : Value) : Prop :=
  ∃ k : Nat, i = .int .i64 (2 ^ k * (p + 8)) ∧ wr.ownsRow w.heap.size 3 1 v k ((rungs (p + 8) k).map (Value.int .i64)) ∧ Below w.heap.size w wr ∧ (∀ j, j < k → 2 ^ j * (p + 8) ≤ f) ∧ 2 ^ k * (p + 8) ≤ 10000 ∧ 8 ≤ 2 ^ k * (p + 8) ∧ k ≤ 20
theorem pow_small {k : Nat} {x p : Int} (hx : x = 2 ^ k * (p + 8)) (hp : 0 ≤ p) (h : x ≤ 10000) : k < 20 := by
  rcases Nat.lt_or_ge k 20 with h1 | h1
  · exact h1
  · have h2 : (2 : Int) ^ 20 ≤ 2 ^ k := by
      have : (2 : Nat) ^ 20 ≤ 2 ^ k := Nat.pow_le_pow_right (by omega) h1
      exact_mod_cast this
    have h3 : (2 : Int) ^ 20 * 8 ≤ 2 ^ k * (p + 8) := Int.mul_le_mul h2 (by omega) (by omega) (by omega)
    omega
theorem ladR_start {w : World} {p f : Int} (h1 : 0 ≤ p) (h2 : p ≤ 512) : LadR w w p f (.slice none 0 0) (.int .i64 (p + 8)) :=
  ⟨0, by simp, World.ownsRow_nil _ _ _ _, Below.refl _ _, fun j hj => by omega, by simp; omega, by simp; omega, by omega⟩
theorem ladR_next {w w1 : World} {p f x : Int} {k : Nat} {v : Value} (hp : 0 ≤ p) (hx : x = 2 ^ k * (p + 8)) (hle : ∀ j, j < k → 2 ^ j * (p + 8) ≤ f) (hx2 : 8 ≤ x) (hxf : x ≤ f) (hf : f ≤ 4096)
    (hown : w1.ownsRow w.heap.size 3 1 v (k + 1) ((rungs (p + 8) k).map (Value.int .i64) ++ [.int .i64 x])) (hb : Below w.heap.size w w1) : LadR w w1 p f v (.int .i64 (2 * x)) := by
  have h2 : (2 : Int) ^ (k + 1) * (p + 8) = 2 * x := by rw [hx, Int.pow_succ]; rw [Int.mul_comm (2 ^ k) 2, Int.mul_assoc]
  refine ⟨k + 1, by rw [h2], ?_, hb, fun j hj => ?_, by rw [h2]; omega, by rw [h2]; omega, ?_⟩
  · rw [rungs_succ, List.map_append, ← hx]; exact hown
  · rcases Nat.lt_succ_iff_lt_or_eq.1 hj with h | rfl
    · exact hle j h
    · rw [← hx]; exact hxf
  · have := pow_small hx hp (by omega); omega
theorem ladP_end {w wr : World} {p f x : Int} {k : Nat} {v : Value} (hx : x = 2 ^ k * (p + 8)) (hle : ∀ j, j < k → 2 ^ j * (p + 8) ≤ f) (hxf : f < x)
    (hown : wr.ownsRow w.heap.size 3 1 v k ((rungs (p + 8) k).map (Value.int .i64))) (hb : Below w.heap.size w wr) (hok : okLad p f) : LadP w p f (.returned v) wr :=
  ⟨v, k, rfl, hb, hown, fun _ => ⟨hle, by rw [← hx]; exact hxf⟩, fun h => absurd hok h⟩
set_option maxRecDepth 100000 in
set_option maxHeartbeats 1000000 in
theorem lad8_good (p f : Int) (w : World) (h1 : ¬ p < 0) (h2 : ¬ 512 < p) (h3 : ¬ f < 0) (h4 : ¬ 4096 < f) : Calls Tryz.prog 8 #[.int .i64 p, .int .i64 f] w (LadP w p f) := by
  obtain ⟨i0, hi, hz0, hz1, hz2⟩ := info_parts Tryz.info3
  go_enter Tryz.func8, Tryz.ntmps8
  go_wp2
  go_loopw [5, 6] (fun v i wr => LadR w wr p f v i) (fun _ i _ => (10000 - intOf i).toNat)
  case atStart => exact ladR_start h1 h2
  case round =>
    obtain ⟨k, rfl, hown, hb, hle, hx1, hx2, hk⟩ := hrel
    obtain ⟨x, hx⟩ : ∃ x, x = 2 ^ k * (p + 8) := ⟨_, rfl⟩
    rw [← hx] at hx1 hx2 ⊢
    have HX := Lib.hid hx
    have HLE := Lib.hid hle
    clear hx hle
    go_wp2_with (at_builtin; refine wpList_append_own _ rfl _ _ 27 rfl w.heap.size 3 i0 (.int .i64 0) 1 8 Tryz.underlying27 hi hz0 hz1 hz2 rfl (by decide) _ _ _ rfl (hown.alloc _) ⟨wr.heap.size, 0, none⟩ 1 1 [.int .i64 x] rfl rfl ?c1 ?c2 ?c3 ?c4 ?c5 ?_)
    case c1 =>
      intro j u hj
      match j, hj with
      | 0, hj => simp at hj; subst hj; simp [Addr.add]
    case c2 => intro u hu; simp at hu; subst hu; rfl
    case c3 => unfold maxLen; omega
    case c4 => omega
    case c5 => have := hb.size; simp; omega
    · intro v' w1 hown' hgrow _
      have hxf : x ≤ f := by assumption
      have R := ladR_next (w := w) h1 HX.out HLE.out hx2 hxf h4 hown' ((hb.alloc hb.size _).grown hgrow (by have := hb.size; simp; omega) (fun j hj => (hown.lt j hj).1))
      have HR := Lib.hid R
      clear R hown' hgrow hown
      go_wp2
      go_roundw
      case rel => exact HR.out
      case measure => simp [intOf]; omega
    · have hxf : f < x := by assumption
      have R := ladP_end HX.out HLE.out hxf hown hb ⟨h1, h2, h3, h4⟩
      have HR := Lib.hid R
      clear R hown
      go_ret
      exact HR.out
theorem lad8 (p f : Int) (w : World) : Calls Tryz.prog 8 #[.int .i64 p, .int .i64 f] w (LadP w p f) := by
  by_cases h : okLad p f
  · exact lad8_good p f w (by have := h.1; omega) (by have := h.2.1; omega) (by have := h.2.2.1; omega) (by have := h.2.2.2; omega)
  · exact lad8_bad p f w h
end Go.Proofs.YtendmajekgmkhaaGreatDoor
