/-
  Walks of Load and brief.
-/
import Derived.Test.YtalmfmijjbpnpaaLoZx
import Derived.Test.YtalmfmijjbpnpaaLoZs
namespace Go.Proofs.Ytalmfmijjbpnpaa
open Go.RowKit

/-- Load returns a timeline of its own that holds H. -/
def LoadY (H : Hist) (w : World) (e : Ending) (w' : World) : Prop :=
  ∃ (t : Nat) (m : View), e = .returned (.tuple #[.pointer (some ⟨t, 0, none⟩), .int .i64 0]) ∧ Rep w' 67 t H m ∧ (∀ k, m.owns t k → w.heap.size ≤ k) ∧ Below w.heap.size w w'
/-- Load returns none. -/
def LoadN (w : World) (e : Ending) (w' : World) : Prop := e = .returned (.tuple #[.pointer none, .int .i64 1]) ∧ Below w.heap.size w w'

section
variable {w : World} {H : Hist} {ml : List (Ln × Value)}

set_option maxRecDepth 100000 in
set_option maxHeartbeats 2000000 in
theorem load28_yes {vv bv sv : Value} (h : HAt w vv bv sv H ml) (hw : WF H) (hsz : NmOk H) : Calls Try.prog 28 #[.agg #[vv, bv, sv, .string H.cur]] w (LoadY H w) := by
  obtain ⟨l1, l2, l3, l4⟩ := lens_of hw h.ml
  have hml2 : ml.length ≤ 1000 := by have := hw.b2; rw [h.ml, List.length_map] at this; omega
  have hAall := h
  obtain ⟨a1, c1, a2, c2, a3, c3, x1, x2, x3, rfl, rfl, rfl, hbox⟩ := boxI_mk h
  obtain ⟨W1, hW1⟩ : ∃ W, W = w.alloc (.cells #[.slice a1 H.vs.length c1, .slice a2 ml.length c2, .slice a3 H.ss.length c3, .string H.cur] 37) := ⟨_, rfl⟩
  rw [← hW1] at hbox
  have HX := Lib.hid hbox
  have HW := Lib.hid hW1
  have hA1 := h.below hbox.bel
  have HA1 := Lib.hid hA1
  have HV := Lib.hid (valid29 hA1 l1 l2 l3 l4 hsz)
  have HWF := Lib.hid hw
  clear h hbox hW1 hAall hA1 l1 l2 l3 hsz hw
  go_enter Try.func28, Try.ntmps28
  go_wp2_with fail
  rw [← HW.out]
  refine HV.out.mono ?_
  rintro e w2 ⟨b, rfl, hb, hbel⟩
  obtain rfl : b = true := hb.2 HWF.out
  obtain ⟨g1, g2, g3, g4⟩ := HX.out.cells _ hbel
  have HB2 := Lib.hid hbel
  clear hb hbel HV HW
  go_wp2_with fail
  refine (copied37 _ _ _ (HA1.out.below HB2.out) HWF.out.v2 hml2 (by have := HWF.out.s2; omega) l4).mono ?_
  rintro e w3 ⟨m1, rfl, hrv, hb3⟩
  have HRV := Lib.hid hrv
  have HB3 := Lib.hid hb3
  clear hrv hb3 g1 g2 g3 g4
  go_wp2_with fail
  go_ret2
  have hb : Below w.heap.size w w3 := HX.out.bel.trans ((HB2.out.trans (HB3.out.mono HB2.out.size)).mono HX.out.bel.size)
  have hsz : w.heap.size ≤ w2.heap.size := Nat.le_trans HX.out.bel.size HB2.out.size
  refine ⟨w3.heap.size, m1, rfl, ?_, fun k hk => ?_, hb.alloc hb.size _⟩
  · exact (HRV.out.below ((Below.refl _ _).alloc (Nat.le_refl _) _)).rep (.inl rfl) (heap_alloc_new w3 _)
  · have := (HRV.out.below ((Below.refl _ _).alloc (Nat.le_refl _) (.cells #[m1.vv, m1.bv, m1.sv, .string H.cur] 67))).owns_ge HB3.out.size hk
    omega

set_option maxRecDepth 100000 in
set_option maxHeartbeats 2000000 in
theorem load28_no {vv bv sv : Value} (h : HAt w vv bv sv H ml) (hw : ¬ WF H) (hn1 : H.vs.length ≤ 100000) (hn2 : ml.length ≤ 100000) (hn3 : H.ss.length ≤ 100000) (hn4 : ∀ x ∈ ml, x.1.rd.length ≤ 100000) (hsz : NmOk H) :
    Calls Try.prog 28 #[.agg #[vv, bv, sv, .string H.cur]] w (LoadN w) := by
  obtain ⟨a1, c1, a2, c2, a3, c3, x1, x2, x3, rfl, rfl, rfl, hbox⟩ := boxI_mk h
  obtain ⟨W1, hW1⟩ : ∃ W, W = w.alloc (.cells #[.slice a1 H.vs.length c1, .slice a2 ml.length c2, .slice a3 H.ss.length c3, .string H.cur] 37) := ⟨_, rfl⟩
  rw [← hW1] at hbox
  have HX := Lib.hid hbox
  have HW := Lib.hid hW1
  have HV := Lib.hid (valid29 (h.below hbox.bel) hn1 hn2 hn3 hn4 hsz)
  have HWF := Lib.hid hw
  clear h hbox hW1 hsz hw hn4
  go_enter Try.func28, Try.ntmps28
  go_wp2_with fail
  rw [← HW.out]
  refine HV.out.mono ?_
  rintro e w2 ⟨b, rfl, hb, hbel⟩
  obtain rfl : b = false := by
    cases b
    · rfl
    · exact absurd (hb.1 rfl) HWF.out
  have HB2 := Lib.hid hbel
  clear hb hbel HV HW
  go_wp2_with fail
  go_ret2
  exact ⟨rfl, HX.out.bel.trans (HB2.out.mono HX.out.bel.size)⟩

theorem sl_len {v : Value} {n sz : Nat} {xs : List Value} (h : SlAt w v n sz xs) : n ≤ maxLen := by
  rcases h.2 with ⟨_, rfl⟩ | ⟨_, _, _, h1, h2, _⟩
  · exact Nat.zero_le _
  · exact Nat.le_trans h1 h2

/-- A history that is short enough. -/
def BriefOk (H : Hist) (ml : List (Ln × Value)) : Prop := H.vs.length ≤ 30 ∧ ml.length ≤ 20 ∧ H.ss.length ≤ 20 ∧ ∀ x ∈ ml, x.1.rd.length ≤ 20
def BriefP (H : Hist) (ml : List (Ln × Value)) (w : World) (e : Ending) (w' : World) : Prop := ∃ b : Bool, e = .returned (.bool b) ∧ (b = true → BriefOk H ml) ∧ Below w.heap.size w w'

set_option maxRecDepth 100000 in
set_option maxHeartbeats 4000000 in
theorem brief27 {vv bv sv : Value} (h : HAt w vv bv sv H ml) : Calls Try.prog 27 #[.agg #[vv, bv, sv, .string H.cur]] w (BriefP H ml w) := by
  have hm1 : H.vs.length ≤ maxLen := sl_len h.vs
  have hm2 : ml.length ≤ maxLen := sl_len h.bs
  have hm3 : H.ss.length ≤ maxLen := sl_len h.ss
  unfold maxLen at hm1 hm2 hm3
  obtain ⟨a1, c1, a2, c2, a3, c3, x1, x2, x3, rfl, rfl, rfl, hbox⟩ := boxI_mk h
  obtain ⟨W1, hW1⟩ : ∃ W, W = w.alloc (.cells #[.slice a1 H.vs.length c1, .slice a2 ml.length c2, .slice a3 H.ss.length c3, .string H.cur] 37) := ⟨_, rfl⟩
  rw [← hW1] at hbox
  have HX := Lib.hid hbox
  have HW := Lib.hid hW1
  have HH := Lib.hid (h.below hbox.bel)
  clear h hbox hW1
  go_enter Try.func27, Try.ntmps27
  go_upto_region 1 with fail
  go_cut [3] from 6 to 27 (fun v wx => ∃ b : Bool, v = .bool b ∧ (b = true → H.vs.length ≤ 30 ∧ ml.length ≤ 20 ∧ H.ss.length ≤ 20) ∧ wx = w.alloc (.cells #[.slice a1 H.vs.length c1, .slice a2 ml.length c2, .slice a3 H.ss.length c3, .string H.cur] 37))
  case first =>
    by_cases z1 : H.vs.length ≤ 30
    · have z1' : (H.vs.length : Int) ≤ 30 := by omega
      by_cases z2 : ml.length ≤ 20
      · have z2' : (ml.length : Int) ≤ 20 := by omega
        by_cases z3 : H.ss.length ≤ 20
        · have z3' : (H.ss.length : Int) ≤ 20 := by omega
          go_wp2_with fail
          go_meet
          case rel => exact ⟨_, rfl, fun _ => ⟨z1, z2, z3⟩, rfl⟩
        · have z3' : ¬ (H.ss.length : Int) ≤ 20 := by omega
          go_wp2_with fail
          go_meet
          case rel => exact ⟨false, rfl, fun h => (by cases h), rfl⟩
      · have z2' : ¬ (ml.length : Int) ≤ 20 := by omega
        go_wp2_with fail
        go_meet
        case rel => exact ⟨false, rfl, fun h => (by cases h), rfl⟩
    · have z1' : ¬ (H.vs.length : Int) ≤ 30 := by omega
      go_wp2_with fail
      go_meet
      case rel => exact ⟨false, rfl, fun h => (by cases h), rfl⟩
  case rest =>
    obtain ⟨b0, rfl, hb0, hwc⟩ := hcut
    rw [← HW.out] at hwc
    subst hwc
    have HB0 := Lib.hid hb0
    clear hb0 HW
    go_wp2_with fail
    go_loopg [3, 4] ml.length (fun g okv iv wr => ∃ (k : Nat) (b : Bool), g + k = ml.length ∧ iv = .int .i64 k ∧ okv = .bool b ∧ (b = true → (H.vs.length ≤ 30 ∧ ml.length ≤ 20 ∧ H.ss.length ≤ 20) ∧ ∀ i x, i < k → ml[i]? = some x → x.1.rd.length ≤ 20) ∧ Below wc.heap.size wc wr)
    case atStart => exact ⟨0, b0, rfl, rfl, rfl, fun h => ⟨HB0.out h, fun i x hi => absurd hi (Nat.not_lt_zero _)⟩, Below.refl _ _⟩
    case round =>
      obtain ⟨k, b, hk, rfl, rfl, hbp, hb⟩ := hrel
      obtain ⟨g1, g2, g3, g4⟩ := HX.out.cells _ hb
      have HB := Lib.hid hb
      have HBP := Lib.hid hbp
      have HK := Lib.hid hk
      have hk63 : (k : Int) ≤ 9223372036854775807 := by omega
      clear hb hbp hk HB0
      by_cases hlt : k < ml.length
      · have hlt' : (k : Int) < ml.length := by omega
        have hk0 : (0 : Int) ≤ k := by omega
        cases b
        · have HFIN : Hid (false = true → BriefOk H ml) := Lib.hid (p := false = true → BriefOk H ml) (fun h => (by cases h))
          clear HK HBP
          go_wp2_with fail
          go_loopg [3, 5] H.ss.length (fun g okv iv wr => ∃ (k : Nat) (b : Bool), g + k = H.ss.length ∧ iv = .int .i64 k ∧ okv = .bool b ∧ (b = true → BriefOk H ml) ∧ Below wc.heap.size wc wr)
          case atStart => exact ⟨0, _, rfl, rfl, rfl, HFIN.out, HB.out⟩
          case round =>
            obtain ⟨k, b, hk, rfl, rfl, hbp, hb⟩ := hrel
            obtain ⟨g1, g2, g3, g4⟩ := HX.out.cells _ hb
            have HB2 := Lib.hid hb
            have HBP := Lib.hid hbp
            have HK := Lib.hid hk
            have hk63 : (k : Int) ≤ 9223372036854775807 := by omega
            clear hb hbp hk HB HFIN
            by_cases hlt : k < H.ss.length
            · have hlt' : (k : Int) < H.ss.length := by omega
              have hk0 : (0 : Int) ≤ k := by omega
              cases b
              · go_wp2_with fail
                go_ret
                exact ⟨false, rfl, fun h => (by cases h), HX.out.bel.trans (HB2.out.mono HX.out.bel.size)⟩
              · have hs : H.ss[k]? = some (H.ss[k]'hlt) := List.getElem?_eq_getElem hlt
                obtain ⟨s, hse⟩ : ∃ s, s = H.ss[k]'hlt := ⟨_, rfl⟩
                rw [← hse] at hs
                obtain ⟨r1, r2⟩ := HX.out.label _ HB2.out k s hs
                obtain rfl := HX.out.e3 (by omega)
                have hk64 : (k : Int) ≤ 9223372036854775806 := by omega
                clear hs hse
                by_cases hz : s.nm.size ≤ 60
                · have hz' : (s.nm.size : Int) ≤ 60 := by omega
                  go_wp2_with fail
                  go_roundg (H.ss.length - (k + 1))
                  case measure => have := HK.out; omega
                  case rel => exact ⟨k + 1, _, by omega, by go_num, rfl, fun _ => HBP.out (by simp), HB2.out⟩
                · have hz' : ¬ (s.nm.size : Int) ≤ 60 := by omega
                  go_wp2_with fail
                  go_roundg (H.ss.length - (k + 1))
                  case measure => have := HK.out; omega
                  case rel => exact ⟨k + 1, false, by omega, by go_num, rfl, fun h => (by cases h), HB2.out⟩
            · have hlt' : ¬ (k : Int) < H.ss.length := by omega
              go_wp2_with fail
              go_ret
              exact ⟨b, rfl, HBP.out, HX.out.bel.trans (HB2.out.mono HX.out.bel.size)⟩
        · have hx : ml[k]? = some (ml[k]'hlt) := List.getElem?_eq_getElem hlt
          obtain ⟨x, hxe⟩ : ∃ x, x = ml[k]'hlt := ⟨_, rfl⟩
          rw [← hxe] at hx
          obtain ⟨r1, r2, r3⟩ := HX.out.line _ HB.out k x hx
          obtain rfl := HX.out.e2 (by omega)
          have hrd := HX.out.rd _ HB.out x (List.mem_of_getElem? hx)
          obtain ⟨⟨nm, hd, rd⟩, rv⟩ := x
          dsimp only at r1 r2 r3 hrd
          obtain ⟨ar, cr, xr, rfl, _, _⟩ := hrd.form
          have HXX := Lib.hid hx
          have hk64 : (k : Int) ≤ 9223372036854775806 := by omega
          clear hx hxe hrd
          by_cases hz : nm.size ≤ 60
          · have hz' : (nm.size : Int) ≤ 60 := by omega
            by_cases hy : rd.length ≤ 20
            · have hy' : (rd.length : Int) ≤ 20 := by omega
              have HY := Lib.hid hy
              go_wp2_with fail
              go_roundg (ml.length - (k + 1))
              case measure => have := HK.out; omega
              case rel => exact ⟨k + 1, _, by omega, by go_num, rfl, fun _ => ⟨(HBP.out (by simp)).1, fun i y hi hy => by
                            by_cases e : i = k
                            · subst e
                              have := HXX.out; rw [hy] at this; cases this
                              exact HY.out
                            · exact (HBP.out (by simp)).2 i y (by omega) hy⟩, HB.out⟩
            · have hy' : ¬ (rd.length : Int) ≤ 20 := by omega
              go_wp2_with fail
              go_roundg (ml.length - (k + 1))
              case measure => have := HK.out; omega
              case rel => exact ⟨k + 1, false, by omega, by go_num, rfl, fun h => (by cases h), HB.out⟩
          · have hz' : ¬ (nm.size : Int) ≤ 60 := by omega
            go_wp2_with fail
            go_roundg (ml.length - (k + 1))
            case measure => have := HK.out; omega
            case rel => exact ⟨k + 1, false, by omega, by go_num, rfl, fun h => (by cases h), HB.out⟩
      · have hlt' : ¬ (k : Int) < ml.length := by omega
        have HFIN : Hid (b = true → BriefOk H ml) := Lib.hid (p := b = true → BriefOk H ml) (fun h => ⟨(HBP.out h).1.1, (HBP.out h).1.2.1, (HBP.out h).1.2.2, fun y hy => by
          obtain ⟨i, hi⟩ := List.getElem?_of_mem hy
          exact (HBP.out h).2 i y (by have := (List.getElem?_eq_some_iff.1 hi).1; omega) hi⟩)
        clear HK HBP
        go_wp2_with fail
        go_loopg [3, 5] H.ss.length (fun g okv iv wr => ∃ (k : Nat) (b : Bool), g + k = H.ss.length ∧ iv = .int .i64 k ∧ okv = .bool b ∧ (b = true → BriefOk H ml) ∧ Below wc.heap.size wc wr)
        case atStart => exact ⟨0, _, rfl, rfl, rfl, HFIN.out, HB.out⟩
        case round =>
          obtain ⟨k, b, hk, rfl, rfl, hbp, hb⟩ := hrel
          obtain ⟨g1, g2, g3, g4⟩ := HX.out.cells _ hb
          have HB2 := Lib.hid hb
          have HBP := Lib.hid hbp
          have HK := Lib.hid hk
          have hk63 : (k : Int) ≤ 9223372036854775807 := by omega
          clear hb hbp hk HB HFIN
          by_cases hlt : k < H.ss.length
          · have hlt' : (k : Int) < H.ss.length := by omega
            have hk0 : (0 : Int) ≤ k := by omega
            cases b
            · go_wp2_with fail
              go_ret
              exact ⟨false, rfl, fun h => (by cases h), HX.out.bel.trans (HB2.out.mono HX.out.bel.size)⟩
            · have hs : H.ss[k]? = some (H.ss[k]'hlt) := List.getElem?_eq_getElem hlt
              obtain ⟨s, hse⟩ : ∃ s, s = H.ss[k]'hlt := ⟨_, rfl⟩
              rw [← hse] at hs
              obtain ⟨r1, r2⟩ := HX.out.label _ HB2.out k s hs
              obtain rfl := HX.out.e3 (by omega)
              have hk64 : (k : Int) ≤ 9223372036854775806 := by omega
              clear hs hse
              by_cases hz : s.nm.size ≤ 60
              · have hz' : (s.nm.size : Int) ≤ 60 := by omega
                go_wp2_with fail
                go_roundg (H.ss.length - (k + 1))
                case measure => have := HK.out; omega
                case rel => exact ⟨k + 1, _, by omega, by go_num, rfl, fun _ => HBP.out (by simp), HB2.out⟩
              · have hz' : ¬ (s.nm.size : Int) ≤ 60 := by omega
                go_wp2_with fail
                go_roundg (H.ss.length - (k + 1))
                case measure => have := HK.out; omega
                case rel => exact ⟨k + 1, false, by omega, by go_num, rfl, fun h => (by cases h), HB2.out⟩
          · have hlt' : ¬ (k : Int) < H.ss.length := by omega
            go_wp2_with fail
            go_ret
            exact ⟨b, rfl, HBP.out, HX.out.bel.trans (HB2.out.mono HX.out.bel.size)⟩

end

end Go.Proofs.Ytalmfmijjbpnpaa
