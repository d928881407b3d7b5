/-
  The ladder of refine, walked.
-/
import Derived.Test.YtendmajekgmkhaaGreatDoorLa
namespace Go.Proofs.YtendmajekgmkhaaGreatDoor
open Go Go.RowKit
set_option maxRecDepth 100000 in
set_option maxHeartbeats 1000000 in
theorem lad7_bad (p f : Int) (w : World) (h : ¬ okLad p f) : Calls Tryz.prog 7 #[.int .i64 p, .int .i64 f] w (LadP w p f) := by
  have hq := ladP_nil (w := w) h
  have hs : p < 0 ∨ 512 < p ∨ f < 0 ∨ 4096 < f := by unfold okLad at h; omega
  have hQ := Lib.hid hq
  clear hq h
  by_cases h1 : p < 0
  · clear hs
    go_enter Tryz.func7, Tryz.ntmps7
    go_wp2_with go_in
    go_ret
    exact hQ.out
  · by_cases h2 : 512 < p
    · clear hs
      go_enter Tryz.func7, Tryz.ntmps7
      go_wp2_with go_in
      go_ret
      exact hQ.out
    · by_cases h3 : f < 0
      · clear hs
        go_enter Tryz.func7, Tryz.ntmps7
        go_wp2_with go_in
        go_ret
        exact hQ.out
      · have h4 : 4096 < f := by omega
        clear hs
        go_enter Tryz.func7, Tryz.ntmps7
        go_wp2_with go_in
        · go_ret
          exact hQ.out
        · exfalso
          have hh : (!decide (f ≤ 4096)) = false := by assumption
          simp at hh
          omega
set_option maxRecDepth 100000 in
set_option maxHeartbeats 1000000 in
theorem lad7_good (p f : Int) (w : World) (h1 : ¬ p < 0) (h2 : ¬ 512 < p) (h3 : ¬ f < 0) (h4 : ¬ 4096 < f) : Calls Tryz.prog 7 #[.int .i64 p, .int .i64 f] w (LadP w p f) := by
  obtain ⟨i0, hi, hz0, hz1, hz2⟩ := info_parts Tryz.info3
  go_enter Tryz.func7, Tryz.ntmps7
  go_wp2_with go_in
  · exfalso
    have hh : (!decide (f ≤ 4096)) = true := by assumption
    simp at hh
    omega
  go_loopw [5, 6] (fun v i wr => LadR w wr p f v i) (fun _ i _ => (10000 - intOf i).toNat)
  case atStart => exact ladR_start h1 h2
  case round =>
    obtain ⟨k, rfl, hown, hb, hle, hx1, hx2, hk⟩ := hrel
    obtain ⟨x, hx⟩ : ∃ x, x = 2 ^ k * (p + 8) := ⟨_, rfl⟩
    rw [← hx] at hx1 hx2 ⊢
    have HX := Lib.hid hx
    have HLE := Lib.hid hle
    clear hx hle
    go_wp2_with (at_builtin; refine wpList_append_own _ rfl _ _ 27 rfl w.heap.size 3 i0 (.int .i64 0) 1 8 Tryz.underlying27 hi hz0 hz1 hz2 rfl (by decide) _ _ _ rfl (hown.alloc _) ⟨wr.heap.size, 0, none⟩ 1 1 [.int .i64 x] rfl rfl ?c1 ?c2 ?c3 ?c4 ?c5 ?_)
    case c1 =>
      intro j u hj
      match j, hj with
      | 0, hj => simp at hj; subst hj; simp [Addr.add]
    case c2 => intro u hu; simp at hu; subst hu; rfl
    case c3 => unfold maxLen; omega
    case c4 => omega
    case c5 => have := hb.size; simp; omega
    · intro v' w1 hown' hgrow _
      have hxf : x ≤ f := by assumption
      have R := ladR_next (w := w) h1 HX.out HLE.out hx2 hxf h4 hown' ((hb.alloc hb.size _).grown hgrow (by have := hb.size; simp; omega) (fun j hj => (hown.lt j hj).1))
      have HR := Lib.hid R
      clear R hown' hgrow hown
      go_wp2
      go_roundw
      case rel => first | exact HR.out | (rw [Int.mul_comm]; exact HR.out)
      case measure => simp [intOf]; omega
    · have hxf : f < x := by assumption
      have R := ladP_end HX.out HLE.out hxf hown hb ⟨h1, h2, h3, h4⟩
      have HR := Lib.hid R
      clear R hown
      go_ret
      exact HR.out
theorem lad7 (p f : Int) (w : World) : Calls Tryz.prog 7 #[.int .i64 p, .int .i64 f] w (LadP w p f) := by
  by_cases h : okLad p f
  · exact lad7_good p f w (by have := h.1; omega) (by have := h.2.1; omega) (by have := h.2.2.1; omega) (by have := h.2.2.2; omega)
  · exact lad7_bad p f w h
end Go.Proofs.YtendmajekgmkhaaGreatDoor
