/-
  The walk of TimelineUndoes, and the plain facts that it wants.
-/
import Derived.Test.YtalmfmijjbpnpaaLoZr
import Derived.Test.YtalmfmijjbpnpaaLoYc
namespace Go.Proofs.Ytalmfmijjbpnpaa
open Go.RowKit

/-! ### k times undone -/
def undoN (H : Hist) : Nat → Hist
  | 0 => H
  | k + 1 => mUndo (undoN H k)
theorem undoN_wf {H : Hist} (hw : WF H) : ∀ k, WF (undoN H k)
  | 0 => hw
  | k + 1 => wf_undo (undoN_wf hw k)

/-- The root of the first version is 0. -/
def Root0 (H : Hist) : Prop := (H.vs.getD 0 default).root = 0
theorem root0_new : Root0 (newH 0) := rfl
theorem root0_commit {H : Hist} (hw : WF H) (h : Root0 H) (n : Int) : Root0 (mCommit H n) := by
  by_cases hl : H.vs.length < 1000
  · unfold Root0
    rw [(commit_sum hw hl n).2.2, List.getD_eq_getElem?_getD, List.getElem?_append_left (by have := hw.v1; omega), ← List.getD_eq_getElem?_getD]
    exact h
  · unfold mCommit
    rw [if_pos (by omega)]
    exact h
theorem root0_undo {H : Hist} (h : Root0 H) : Root0 (mUndo H) := by
  unfold mUndo
  split <;> exact h
theorem root0_act {H : Hist} (hw : WF H) (h : Root0 H) (kind n : Int) (name : ByteArray) : Root0 (actM H kind n name) := by
  unfold actM
  repeat' split
  · exact root0_commit hw h n
  · exact root0_undo h
  · unfold mRedo; split <;> exact h
  · unfold mBranch; split <;> exact h
  · unfold mSwitch; split <;> exact h
  · unfold mRemove; split <;> exact h
  · unfold mSnap; split <;> exact h
  · unfold mRest; split
    · exact root0_commit hw h _
    · exact h
  · unfold mForget; split <;> exact h
  · exact h

theorem hd_undo {H : Hist} (hw : WF H) (h0 : hdN H ≠ 0) : hdN (mUndo H) < hdN H := by
  obtain ⟨_, s, _⟩ := undo_sum hw h0
  rw [hdN_of s.cl]
  have := hw.par (hdN H) (by omega) (hd_eq hw).2
  show (parOf H).toNat < hdN H
  unfold parOf
  omega
theorem root_of0 {H : Hist} (h : Root0 H) (h0 : hdN H = 0) : rootOf H = 0 := by
  unfold rootOf
  rw [h0]
  exact h

/-- k times there is something to undo. -/
def UndoI (H : Hist) (k : Nat) : Prop := ∀ j, j < k → hdN (undoN H j) ≠ 0
theorem UndoI.more {H : Hist} {k : Nat} (h : UndoI H k) (hk : hdN (undoN H k) ≠ 0) : UndoI H (k + 1) := fun j hj => by
  by_cases e : j = k
  · rw [e]; exact hk
  · exact h j (by omega)

section
variable {W0 Wd w : World} {D : Nat → Prop} {t u : Nat} {H K : Hist}

/-- Undo where there is nothing to undo; where there is something. -/
theorem twl_undo0 (h : Tw W0 D Wd t u H K w) (hz : hdN H = 0) : Calls Try.prog 16 #[.pointer (some ⟨t, 0, none⟩)] w (TwR (.int .i64 15) W0 D Wd t u H K) := by
  have := twl_undo h
  rwa [show cUndo H = 15 from if_pos hz, show mUndo H = H from if_pos hz] at this
theorem twl_undo1 (h : Tw W0 D Wd t u H K w) (hz : hdN H ≠ 0) : Calls Try.prog 16 #[.pointer (some ⟨t, 0, none⟩)] w (TwR (.int .i64 0) W0 D Wd t u (mUndo H) K) := by
  have := twl_undo h
  rwa [show cUndo H = 0 from if_neg hz] at this
theorem twl_redo1 (h : Tw W0 D Wd t u (mUndo H) K w) (hw : WF H) (hz : hdN H ≠ 0) : Calls Try.prog 18 #[.pointer (some ⟨t, 0, none⟩)] w (TwR (.int .i64 0) W0 D Wd t u H K) := by
  have := twl_redo h
  obtain ⟨_, h1, h2⟩ := redo_undo hw hz
  rwa [h1, h2] at this

theorem twl_head (h : Tw W0 D Wd t u H K w) : Calls Try.prog 13 #[.pointer (some ⟨t, 0, none⟩)] w (TwR (.int .i64 (hdN H)) W0 D Wd t u H K) := tw_quietL h fun _ hr => head13 hr h.1
theorem twl_root (h : Tw W0 D Wd t u H K w) : Calls Try.prog 19 #[.pointer (some ⟨t, 0, none⟩)] w (TwR (.int .i64 (rootOf H)) W0 D Wd t u H K) := tw_quietL h fun _ hr => root19 hr h.1

/-- What a comparison of the two wants. -/
theorem tw_cmp (h : Tw W0 D Wd t u H H w) : ∃ (a1 : Option Addr) (k1 : Nat) (a2 : Option Addr) (n2 k2 : Nat) (a3 : Option Addr) (k3 : Nat),
    (∀ w', Below w.heap.size w w' → w'.cell? ⟨u, 0, none⟩ = some (.slice a1 H.vs.length k1) ∧ w'.cell? ⟨u, 1, none⟩ = some (.slice a2 n2 k2) ∧ w'.cell? ⟨u, 2, none⟩ = some (.slice a3 H.ss.length k3) ∧ w'.cell? ⟨u, 3, none⟩ = some (.string H.cur) ∧ Below w.heap.size w w') ∧
    (∀ w', Below w.heap.size w w' → Calls Try.prog 17 #[.pointer (some ⟨t, 0, none⟩)] w' (Cop w' H)) ∧
    (∀ w', Below w.heap.size w w' → ∀ (q : View) (b : Nat), RepV w' b H q → Calls Try.prog 22 #[.agg #[q.vv, q.bv, q.sv, .string H.cur], .agg #[.slice a1 H.vs.length k1, .slice a2 n2 k2, .slice a3 H.ss.length k3, .string H.cur]] w' (Quiet (.bool true) w')) := by
  obtain ⟨hw, _, m, m', hr, hr', _⟩ := h
  obtain ⟨a1, _, k1, e1, _⟩ := own_addr hr'.vs
  obtain ⟨a2, _, k2, e2, _⟩ := own_addr hr'.bs
  obtain ⟨a3, _, k3, e3, _⟩ := own_addr hr'.ss
  obtain ⟨c0, c1, c2, c3⟩ := hr'.cellT
  have hA := hr'.hAt
  rw [e1] at c0
  rw [e2] at c1
  rw [e3] at c2
  rw [e1, e2, e3] at hA
  have hu : u < w.heap.size := hr'.lt (.inl rfl)
  refine ⟨a1, k1, a2, m'.ml.length, k2, a3, k3, fun w' hb => ⟨(hb.cell (p := ⟨u, 0, none⟩) hu).trans c0, (hb.cell (p := ⟨u, 1, none⟩) hu).trans c1, (hb.cell (p := ⟨u, 2, none⟩) hu).trans c2, (hb.cell (p := ⟨u, 3, none⟩) hu).trans c3, hb⟩, fun w' hb => history17 (hr.below hb) hw, fun w' hb q b hq => ?_⟩
  obtain ⟨l1, l2, l3, l4⟩ := lens_of hw hq.ml
  exact same22 hq.hAt (hA.below hb) l1 l2 l3 l4

set_option maxRecDepth 100000 in
set_option maxHeartbeats 4000000 in
theorem undoes6 (a0 : Option Addr) (n0 c0 : Nat) (f0 : Nat → Int) (n : Int) (h0 : RowF w a0 n0 f0) (hn1 : -9223372036854775808 ≤ n) (hn2 : n ≤ 9223372036854775807) :
    Calls Try.prog 6 #[.slice a0 n0 c0, .int .i64 n] w (Quiet (.bool true) w) := by
  have hm : maxLen ≤ 9223372036854775807 := by decide
  have hn0 : n0 ≤ 9223372036854775807 := Nat.le_trans h0.1 hm
  clear hm
  have R0 := Lib.hid h0
  clear h0
  by_cases hl0 : n0 ≤ 120
  · have HA := Lib.hid (fun w' (hb : Below w.heap.size w w') => acts24 a0 n0 c0 f0 (w := w') (by
      refine ⟨R0.out.1, fun i hi => ?_⟩
      obtain ⟨x, e, hc, hf⟩ := R0.out.2 i hi
      exact ⟨x, e, (hb.cell (World.block_lt_of_cell? w _ hc)).trans hc, hf⟩) hl0)
    have hmod := fun w' => mod_any n 20 (by omega) (by omega) hn1 hn2 w'
    obtain ⟨mm, hmm⟩ : ∃ mm : Nat, n % 20 = mm := ⟨(n % 20).toNat, by have := Int.emod_nonneg n (b := 20) (by omega); omega⟩
    have hm20 : mm < 20 := by have := Int.emod_lt_of_pos n (b := 20) (by omega); omega
    rw [hmm] at hmod
    have HMOD := Lib.hid hmod
    clear hmod hmm hn1 hn2
    go_enter Try.func6, Try.ntmps6
    go_wp2_with fail
    refine awake8.mono ?_
    rintro e w1 ⟨rfl, hb1⟩
    have HB1 := Lib.hid hb1
    clear hb1
    go_wp2_with fail
    refine (light_any _ _ _ _ hn0).mono ?_
    rintro e w1' ⟨rfl, rfl⟩
    rw [decide_eq_true hl0]
    go_wp2_with fail
    refine (tw_new2 HB1.out 0).mono ?_
    rintro e w2 ⟨t, rfl, hnew⟩
    have HN := Lib.hid hnew
    clear hnew HB1
    go_wp2_with fail
    refine HN.out.mono ?_
    rintro e w3 ⟨u, rfl, h3⟩
    have H3 := Lib.hid h3
    clear h3 HN
    go_wp2_with fail
    refine (HA.out _ H3.out.below_of).mono ?_
    rintro e w4 ⟨la, b4, q4, rfl, hla, hlo, ho4, hb4⟩
    obtain ⟨D', h5, g, ha5, hrc, hcm, hcells⟩ := tw_row H3.out hb4 ho4
    have H5 := Lib.hid h5
    have HC := Lib.hid hcells
    have HLO := Lib.hid hlo
    obtain ⟨r, hr⟩ : ∃ r, la.length = r := ⟨_, rfl⟩
    rw [hr] at hla ha5 hrc
    have HR := Lib.hid hr
    have hr63 : (r : Int) ≤ 160 := by omega
    clear h5 hcells hlo ho4 hb4 H3 HA R0
    rw [hr]
    clear hr
    go_wp2_with fail
    go_loopg [5, 20] r (fun gh tv iv wr => ∃ (k t1 : Nat) (H : Hist), gh + k = r ∧ tv = .pointer (some ⟨t1, 0, none⟩) ∧ iv = .int .i64 k ∧ Root0 H ∧ Tw w D' w4 t1 u H H wr)
    case atStart => exact ⟨0, t, _, rfl, rfl, rfl, root0_new, H5.out⟩
    case round =>
      obtain ⟨k, t1, H, hk, rfl, rfl, hr0, hT⟩ := hrel
      have HT := Lib.hid hT
      have HK := Lib.hid hk
      have HR0 := Lib.hid hr0
      have hk63 : (k : Int) ≤ 160 := by omega
      clear hT H5 hk hr0
      by_cases hlt : k < r
      · obtain rfl := ha5 (by omega)
        have hx : la[k]? = some (la[k]'(by rw [HR.out]; exact hlt)) := List.getElem?_eq_getElem _
        obtain ⟨x, hxe⟩ : ∃ x, x = la[k]'(by rw [HR.out]; exact hlt) := ⟨_, rfl⟩
        rw [← hxe] at hx
        obtain ⟨q1, q2, q3⟩ := HC.out _ _ _ _ _ HT.out k x hx
        have HX := Lib.hid (HLO.out x (List.mem_of_getElem? hx)).1
        have hlt' : (k : Int) < r := by omega
        have hk0 : (0 : Int) ≤ k := by omega
        clear hx hxe
        go_wp2_with fail
        refine (do25 (HT.out.later ((Below.refl _ _).alloc (Nat.le_refl _) _)) HX.out.1.1 HX.out.1.2 HX.out.2).mono ?_
        rintro e w6 ⟨t2, rfl, h6⟩
        have H6 := Lib.hid h6
        have HR6 := Lib.hid (root0_act HT.out.1 HR0.out x.kind x.n x.name)
        clear h6 HT q1 q2 q3 HR0
        go_wp2_with fail
        go_roundg (r - (k + 1))
        case measure => have := HK.out; omega
        case rel => exact ⟨k + 1, t2, _, by omega, rfl, by go_num, HR6.out, H6.out⟩
      · have hlt' : ¬ (k : Int) < r := by omega
        clear HC HK
        go_wp2_with fail
        refine (same26 HT.out).mono ?_
        rintro e w7 ⟨rfl, h7⟩
        have H7 := Lib.hid h7
        clear h7 HT
        go_wp2_with fail
        refine (HMOD.out _).mono ?_
        rintro e w8 ⟨rfl, rfl⟩
        have HR7 := HR0
        have hm63 : (mm : Int) < 20 := by omega
        have hm0 : (0 : Int) ≤ mm := by omega
        clear HR0 HMOD
        go_wp2_with fail
        go_loopg [9, 39] (mm + 1) (fun gh kv iv wr => ∃ i k : Nat, gh + i = mm + 1 ∧ iv = .int .i64 i ∧ kv = .int .i64 k ∧ k ≤ i ∧ UndoI H k ∧ Tw w D' w4 t1 u (undoN H k) H wr)
        case atStart => exact ⟨0, 0, rfl, rfl, rfl, Nat.le_refl _, fun j hj => absurd hj (Nat.not_lt_zero _), H7.out⟩
        case round =>
          obtain ⟨i, k, hi, rfl, rfl, hki, hui, hT⟩ := hrel
          have HT := Lib.hid hT
          have HI := Lib.hid hi
          have HU := Lib.hid hui
          have hi63 : (i : Int) ≤ 20 := by omega
          have hk63 : (k : Int) ≤ 20 := by omega
          clear hT H7 hi hui
          by_cases hlt : i < mm + 1
          · have hlt' : (i : Int) < 1 + (mm : Int) := by omega
            by_cases hz : hdN (undoN H k) = 0
            · have HC := Lib.hid (twl_undo0 HT.out hz)
              clear hz
              go_wp2_with fail
              refine HC.out.mono ?_
              rintro e w6 ⟨rfl, h6⟩
              have H6 := Lib.hid h6
              clear h6 HT HC
              go_wp2_with fail
              go_roundg (mm - i)
              case measure => have := HI.out; omega
              case rel => exact ⟨i + 1, k, by have := HI.out; omega, by go_num, rfl, by omega, HU.out, H6.out⟩
            · have HC := Lib.hid (twl_undo1 HT.out hz)
              have HZ := Lib.hid hz
              clear hz
              go_wp2_with fail
              refine HC.out.mono ?_
              rintro e w6 ⟨rfl, h6⟩
              have H6 := Lib.hid h6
              clear h6 HT HC
              go_wp2_with fail
              go_roundg (mm - i)
              case measure => have := HI.out; omega
              case rel => exact ⟨i + 1, k + 1, by have := HI.out; omega, by go_num, by go_num, by omega, HU.out.more HZ.out, H6.out⟩
          · have hlt' : ¬ (i : Int) < 1 + (mm : Int) := by omega
            clear HI
            have hk20 : k ≤ 20 := by omega
            go_wp2_with fail
            go_loopg [48] k (fun gh iv wr => ∃ j : Nat, gh + j = k ∧ iv = .int .i64 j ∧ Tw w D' w4 t1 u (undoN H gh) H wr)
            case atStart => exact ⟨0, rfl, rfl, HT.out⟩
            case round =>
              obtain ⟨j, hj, rfl, hT2⟩ := hrel
              have HT2 := Lib.hid hT2
              have HJ := Lib.hid hj
              have hj63 : (j : Int) ≤ 20 := by omega
              clear hT2 HT
              cases gk with
              | succ g' =>
                have hjk : (j : Int) < k := by omega
                have HC := Lib.hid (twl_redo1 (H := undoN H g') HT2.out (undoN_wf HT2.out.2.1 g') (HU.out g' (by omega)))
                clear hj
                go_wp2_with fail
                refine HC.out.mono ?_
                rintro e w6 ⟨rfl, h6⟩
                have H6 := Lib.hid h6
                clear h6 HT2 HC
                go_wp2_with fail
                go_roundg g'
                case measure => omega
                case rel => exact ⟨j + 1, by have := HJ.out; omega, by go_num, H6.out⟩
              | zero =>
                have hjk : ¬ (j : Int) < k := by omega
                have HTH := Lib.hid (show Tw w D' w4 t1 u H H _ from HT2.out)
                clear hj HJ HT2 HU
                go_wp2_with fail
                obtain ⟨b1, d1, b2, m2, d2, b3, d3, hS, hh, hsm⟩ := tw_cmp HTH.out
                have HS := Lib.hid hS
                have h17 := Lib.hid hh
                have h22 := Lib.hid hsm
                clear hS hh hsm
                go_region_held3 (fun w' => w'.cell? ⟨u, 0, none⟩ = some (.slice b1 H.vs.length d1) ∧ w'.cell? ⟨u, 1, none⟩ = some (.slice b2 m2 d2) ∧ w'.cell? ⟨u, 2, none⟩ = some (.slice b3 H.ss.length d3) ∧ w'.cell? ⟨u, 3, none⟩ = some (.string H.cur) ∧ Below wr.heap.size wr w')
                  ((refine HS.out _ ?_; first | exact hbb | exact (Below.refl _ _).drew))
                  (first
                    | (go_at_call 17; rename_i hq _ _; refine (h17.out _ hq.2.2.2.2).mono ?_; rintro e wx ⟨q, rfl, hrv, hb⟩; obtain ⟨j1, l1, j2, l2, j3, l3, f1, f2, f3⟩ := hrv.forms; obtain ⟨v1, v2, v3, ml1⟩ := q; dsimp only at f1 f2 f3 ⊢; subst f1 f2 f3; have hbb : Below wr.heap.size wr wx := hq.2.2.2.2.trans (hb.mono hq.2.2.2.2.size); have HRV := Lib.hid hrv; clear hrv hb hq)
                    | (go_at_call 22; refine (h22.out _ hbb _ _ HRV.out).mono ?_; rintro e wx ⟨rfl, hb⟩; have hn := hbb.trans (hb.mono hbb.size); clear hbb hb; have hbb := hn; clear hn))
                all_goals
                  have HTE := Lib.hid (HTH.out.later hbb)
                  clear hbb HRV HTH HS h17 h22
                  go_wp2_with fail
                  have hh0 : hdN H ≤ 1000 := by have := (hd_eq HTE.out.1).2; have := HTE.out.1.v2; omega
                  go_loopg [9] (hdN H) (fun gh kv wq => ∃ (k3 : Nat) (H3 : Hist), gh = hdN H3 ∧ kv = .int .i64 k3 ∧ k3 + hdN H3 ≤ 1100 ∧ Root0 H3 ∧ Tw w D' w4 t1 u H3 H wq)
                  case atStart => exact ⟨k, H, rfl, rfl, by omega, HR7.out, HTE.out⟩
                  case round =>
                    obtain ⟨k3, H3, hg3, rfl, hk3, hr3, hT3⟩ := hrel
                    have HT3 := Lib.hid hT3
                    have HR3 := Lib.hid hr3
                    have HG3 := Lib.hid hg3
                    have hk63 : (k3 : Int) ≤ 1100 := by omega
                    clear hT3 hr3 hg3 HTE
                    by_cases hz : hdN H3 = 0
                    · have HC := Lib.hid (twl_undo0 HT3.out hz)
                      have HZ := Lib.hid hz
                      clear hz
                      go_wp2_with fail
                      refine HC.out.mono ?_
                      rintro e w6 ⟨rfl, h6⟩
                      have H6 := Lib.hid h6
                      clear h6 HT3 HC
                      have hhd := twl_head H6.out
                      rw [HZ.out] at hhd
                      have HHD := Lib.hid hhd
                      clear hhd
                      go_wp2_with fail
                      refine HHD.out.mono ?_
                      rintro e w7 ⟨rfl, h7⟩
                      have H8 := Lib.hid h7
                      have hrt := twl_root H8.out
                      rw [root_of0 HR3.out HZ.out] at hrt
                      have HRT := Lib.hid hrt
                      clear h7 H6 hrt HHD
                      go_wp2_with fail
                      refine HRT.out.mono ?_
                      rintro e w8 ⟨rfl, h8⟩
                      have HC := Lib.hid (twl_undo0 h8 HZ.out)
                      clear h8 HRT H8
                      go_wp2_with fail
                      refine HC.out.mono ?_
                      rintro e w9 ⟨rfl, h9⟩
                      have H9 := Lib.hid h9
                      clear h9 HC
                      go_wp2_with fail
                      go_ret
                      exact ⟨rfl, H9.out.below_of⟩
                    · have HC := Lib.hid (twl_undo1 HT3.out hz)
                      have HZ := Lib.hid hz
                      have HLT := Lib.hid (hd_undo HT3.out.1 hz)
                      clear hz
                      go_wp2_with fail
                      refine HC.out.mono ?_
                      rintro e w6 ⟨rfl, h6⟩
                      have H6 := Lib.hid h6
                      clear h6 HT3 HC
                      go_wp2_with fail
                      go_roundg (hdN (mUndo H3))
                      case measure => have := HLT.out; have := HG3.out; omega
                      case rel => exact ⟨k3 + 1, mUndo H3, rfl, by go_num, by have := HLT.out; omega, root0_undo HR3.out, H6.out⟩
  · have FF := Lib.hid hl0
    go_enter Try.func6, Try.ntmps6
    go_wp2_with fail
    refine awake8.mono ?_
    rintro e w1 ⟨rfl, hb1⟩
    have HB1 := Lib.hid hb1
    clear hb1
    go_wp2_with fail
    refine (light_any _ _ _ _ hn0).mono ?_
    rintro e w1' ⟨rfl, rfl⟩
    rw [decide_eq_false FF.out]
    go_wp2_with fail
    go_ret
    exact ⟨rfl, HB1.out⟩

end

end Go.Proofs.Ytalmfmijjbpnpaa
