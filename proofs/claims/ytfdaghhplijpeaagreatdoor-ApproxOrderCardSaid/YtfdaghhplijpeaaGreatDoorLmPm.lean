/-
  Walk of the law itself, its sanity check left as a premise.
-/
import Derived.Test.YtfdaghhplijpeaaGreatDoorLmPkPl
import Derived.Test.YtfdaghhplijpeaaGreatDoorLmOqOr
namespace Go.Proofs.YtfdaghhplijpeaaGreatDoor
open Go Go.RowKit

theorem light_calls (a : Option Addr) (n c : Nat) (w : World) (hn : n ≤ 9223372036854775807) :
    Calls Tryz.prog 5 #[.slice a n c] w fun e w' => e = .returned (.bool (decide (n ≤ 120))) ∧ w' = w := by
  go_enter Tryz.func5, Tryz.ntmps5
  go_wp2
  go_ret
  refine ⟨?_, rfl⟩
  simp
  try omega
/-- The numbers that both sides return: the parts of a node, in ascending order; none for a number that is no node. -/
noncomputable def zsOf (L : List Nd) (i : Int) : List Int := if 0 ≤ i ∧ i < (L.length : Int) then partsOf L i else []
theorem zsOf_len (L : List Nd) (i : Int) : (zsOf L i).length ≤ L.length := by
  unfold zsOf
  split
  · unfold partsOf
    rw [List.length_map]
    exact Nat.le_trans (List.length_filter_le _ _) (by simp)
  · simp
theorem GI.ahead {L : List Nd} (h : GI L) : Ahead L := fun i hi a ha => (h.fit i hi).args a ha
theorem GI.kinds {L : List Nd} (h : GI L) : ∀ i, i < L.length → 1 ≤ (L.getD i nd0).k ∧ (L.getD i nd0).k ≤ 16 := fun i hi => ⟨(h.nd i hi).k1, (h.nd i hi).k2⟩
def RowP (W : World) (zs : List Int) (e : Ending) (w' : World) : Prop := ∃ ov, e = .returned ov ∧ w'.ownsRow W.heap.size 3 1 ov zs.length (ints zs) ∧ Below W.heap.size W w'
theorem order_any {W : World} {B p : Nat} {v m : Value} {L : List Nd} (hg : GraphR W B p v m L) (hG : GI L) (hl : L.length ≤ 4096) (i : Int) :
    Calls Tryz.prog 9 #[ptr p, .int .i64 i] W (RowP W (zsOf L i)) := by
  by_cases h : 0 ≤ i ∧ i < (L.length : Int)
  · obtain ⟨k, rfl⟩ : ∃ k : Nat, i = (k : Int) := ⟨i.toNat, by omega⟩
    rw [show zsOf L k = partsOf L k by unfold zsOf; rw [if_pos h]]
    exact order_calls hg hG.ahead hG.kinds hl (by omega)
  · rw [show zsOf L i = [] by unfold zsOf; rw [if_neg h]]
    exact (order_bad hg hl (by omega)).mono fun e w' ⟨he, hb⟩ => ⟨_, he, World.ownsRow_nil _ _ _ _, hb⟩
theorem parts_any {W : World} {B p : Nat} {v : Value} {L : List Nd} (hg : RefR W B p v L) (hG : GI L) (hl : L.length ≤ 4096) (i : Int) :
    Calls Tryz.prog 10 #[ptr p, .int .i64 i] W (RowP W (zsOf L i)) := by
  by_cases h : 0 ≤ i ∧ i < (L.length : Int)
  · obtain ⟨k, rfl⟩ : ∃ k : Nat, i = (k : Int) := ⟨i.toNat, by omega⟩
    rw [show zsOf L k = partsOf L k by unfold zsOf; rw [if_pos h]]
    exact parts_calls hg hG.ahead hG.kinds hl (by omega)
  · rw [show zsOf L i = [] by unfold zsOf; rw [if_neg h]]
    exact (parts_bad hg hl (by omega)).mono fun e w' ⟨he, hb⟩ => ⟨_, he, World.ownsRow_nil _ _ _ _, hb ▸ Below.refl _ _⟩
theorem same_at {w : World} {B B' : Nat} {oa pa : Option Addr} {oc pc n : Nat} {zs : List Int} (hz : zs.length = n) (h1 : w.ownsRow B 3 1 (.slice oa zs.length oc) zs.length (ints zs)) (h2 : w.ownsRow B' 3 1 (.slice pa zs.length pc) zs.length (ints zs)) (hl : zs.length ≤ 10000) :
    Calls Tryz.prog 8 #[.slice oa n oc, .slice pa n pc] w fun e w' => e = .returned (.bool true) ∧ Fr (fun _ => False) w w' := by
  subst hz
  exact millSame_calls h1 h2 hl
/-- Both graphs in memory. -/
structure Both (W : World) (B B' p q : Nat) (v v' m : Value) (L : List Nd) : Prop where
  gr : GraphR W B p v m L
  ref : RefR W B' q v' L
  gi : GI L
  len : L.length ≤ 100
theorem Both.below {W w : World} {B B' p q : Nat} {v v' m : Value} {L : List Nd} (h : Both W B B' p q v v' m L) (hb : Below W.heap.size W w) : Both w B B' p q v v' m L :=
  ⟨h.gr.below hb, h.ref.below hb, h.gi, h.len⟩
theorem row_later {w w' : World} {B : Nat} {v : Value} {zs : List Int} (h : w.ownsRow B 3 1 v zs.length (ints zs)) (hb : Below w.heap.size w w') : w'.ownsRow B 3 1 v zs.length (ints zs) :=
  own_frame h (Fr.of_below (S := fun _ => False) hb) (fun _ _ e => e)
set_option maxRecDepth 100000 in
set_option maxHeartbeats 4000000 in
theorem law_calls {W : World} {a : Option Addr} {n c : Nat} (hv : n ≤ 9223372036854775807) (hn : n ≤ 120 → NumsR W (.slice a n c) n) (id : Int) (hT : Tabd W)
    (hA : Calls Tryz.prog 4 #[] W fun e w' => e = .returned (.bool true) ∧ Below W.heap.size W w') :
    Calls Tryz.prog 3 #[.slice a n c, .int .i64 id] W fun e w' => e = .returned (.bool true) ∧ Below W.heap.size W w' := by
  have HX := Lib.hid (And.intro hv (And.intro hn (And.intro hT hA)))
  clear hv hn hT hA
  go_enter Tryz.func3, Tryz.ntmps3
  go_wp2_with fail
  refine HX.out.2.2.2.mono ?_
  rintro e w1 ⟨rfl, hb1⟩
  have HB1 := Lib.hid hb1
  clear hb1
  go_wp2_with fail
  refine (light_calls a n c w1 HX.out.1).mono ?_
  rintro e w1' ⟨rfl, rfl⟩
  by_cases hn : n ≤ 120
  · rw [decide_eq_true hn]
    have hN : NumsR w1' (.slice a n c) n := by
      obtain ⟨h1, a', c', e, h2⟩ := HX.out.2.1 hn
      refine ⟨h1, a', c', e, fun j hj => ?_⟩
      obtain ⟨b, x, hb, hx, hc⟩ := h2 j hj
      exact ⟨b, x, hb, hx, (HB1.out.cell (World.block_lt_of_cell? W _ hc)).trans hc⟩
    have HN := Lib.hid (And.intro hN (HX.out.2.2.1.below HB1.out))
    clear hN hn
    go_wp2_with fail
    refine (graph_calls HN.out.1 HN.out.2).mono ?_
    rintro e w2 ⟨q, v2, L, rfl, hr, hg, hl, hq, hb2⟩
    have HR := Lib.hid (And.intro hr (And.intro hg (And.intro hl hb2)))
    clear hr hg hl hq hb2
    unfold ptr
    go_wp2_with fail
    refine (lawLoad_calls HR.out.1 HR.out.2.1 (by have := HR.out.2.2.1; omega) (HN.out.2.below HR.out.2.2.2)).mono ?_
    rintro e w3 ⟨p, v3, mv, rfl, hg3, hb3⟩
    have HB3 := Lib.hid (HB1.out.trans (HR.out.2.2.2.mono HB1.out.size) |>.trans (hb3.mono (by have := HB1.out.size; have := HR.out.2.2.2.size; omega)))
    have HG3 := Lib.hid (show Both w3 _ _ p q v3 v2 mv L from ⟨hg3, HR.out.1.below hb3, HR.out.2.1, HR.out.2.2.1⟩)
    clear hg3 hb3
    obtain ⟨m, hm⟩ : ∃ m, L.length = m := ⟨_, rfl⟩
    have HM := Lib.hid hm
    have hm100 : m ≤ 100 := by rw [← hm]; exact HR.out.2.2.1
    clear hm
    unfold ptr
    go_wp2_with fail
    go_loopw [7] (fun iv wr => (∃ j : Int, -1 ≤ j ∧ j ≤ (m : Int) + 1 ∧ iv = .int .i64 j) ∧ Below w3.heap.size w3 wr) (fun iv _ => ((m : Int) + 2 - intOf iv).toNat)
    case atStart => exact ⟨⟨-1, by omega, by omega, rfl⟩, Below.refl _ _⟩
    case round =>
      obtain ⟨⟨j, hj0, hj1, rfl⟩, hb⟩ := hrel
      have HG := Lib.hid (HG3.out.below hb)
      have HB := Lib.hid hb
      clear hb
      have b0 := cell_of_blk HG.out.ref.blk 0
      simp only [List.getElem?_toArray, List.getElem?_cons_zero] at b0
      obtain ⟨va, vc, hva⟩ := HG.out.ref.nds.slice
      rw [hva, HM.out] at b0
      have hq : q < wr.heap.size := World.block_lt_of_cell? wr _ b0
      clear hva
      by_cases hin : j ≤ (m : Int)
      · go_wp2_with fail
        refine (order_any HG.out.gr HG.out.gi (by have := HG.out.len; omega) j).mono ?_
        rintro e w4 ⟨ov, rfl, ho, hb4⟩
        have HO := Lib.hid (And.intro ho hb4)
        obtain ⟨oa, oc, rfl⟩ := row_slice ho
        obtain ⟨zn, hzn⟩ : ∃ zn, (zsOf L j).length = zn := ⟨_, rfl⟩
        rw [hzn]
        have HZ := Lib.hid hzn
        clear ho hb4 hzn b0 hq
        go_wp2_with fail
        refine (parts_any (HG.out.ref.below HO.out.2) HG.out.gi (by have := HG.out.len; omega) j).mono ?_
        rintro e w5 ⟨ov2, rfl, ho, hb5⟩
        have HO2 := Lib.hid (And.intro ho hb5)
        obtain ⟨pa, pc, rfl⟩ := row_slice ho
        rw [HZ.out]
        clear ho hb5
        go_wp2_with fail
        refine (same_at HZ.out (row_later HO.out.1 HO2.out.2) HO2.out.1 (by have := zsOf_len L j; have := HG.out.len; omega)).mono ?_
        rintro e w6 ⟨rfl, hf6⟩
        have HB6 := Lib.hid (HO.out.2.trans (HO2.out.2.mono HO.out.2.size) |>.trans (hf6.below.mono (by have := HO.out.2.size; have := HO2.out.2.size; omega)))
        clear hf6
        go_wp2_with fail
        go_roundw
        case rel => exact ⟨⟨j + 1, by omega, by omega, by first | rfl | go_num⟩, HB.out.trans (HB6.out.mono HB.out.size)⟩
        case measure => simp [intOf]; omega
      · go_wp2_with fail
        refine (order_any HG.out.gr HG.out.gi (by have := HG.out.len; omega) id).mono ?_
        rintro e w4 ⟨ov, rfl, ho, hb4⟩
        have HO := Lib.hid (And.intro ho hb4)
        obtain ⟨oa, oc, rfl⟩ := row_slice ho
        obtain ⟨zn, hzn⟩ : ∃ zn, (zsOf L id).length = zn := ⟨_, rfl⟩
        rw [hzn]
        have HZ := Lib.hid hzn
        clear ho hb4 hzn b0 hq
        go_wp2_with fail
        refine (parts_any (HG.out.ref.below HO.out.2) HG.out.gi (by have := HG.out.len; omega) id).mono ?_
        rintro e w5 ⟨ov2, rfl, ho, hb5⟩
        have HO2 := Lib.hid (And.intro ho hb5)
        obtain ⟨pa, pc, rfl⟩ := row_slice ho
        rw [HZ.out]
        clear ho hb5
        go_wp2_with fail
        refine (same_at HZ.out (row_later HO.out.1 HO2.out.2) HO2.out.1 (by have := zsOf_len L id; have := HG.out.len; omega)).mono ?_
        rintro e w6 ⟨rfl, hf6⟩
        have HB6 := Lib.hid (HO.out.2.trans (HO2.out.2.mono HO.out.2.size) |>.trans (hf6.below.mono (by have := HO.out.2.size; have := HO2.out.2.size; omega)))
        clear hf6
        go_wp2_with fail
        go_ret
        exact ⟨rfl, HB3.out.trans ((HB.out.trans (HB6.out.mono HB.out.size)).mono HB3.out.size)⟩
  · rw [decide_eq_false hn]
    clear hn
    go_wp2_with fail
    go_ret
    exact ⟨rfl, HB1.out⟩
end Go.Proofs.YtfdaghhplijpeaaGreatDoor
