/-
  The walk of Same of the reference, at two histories that are alike.
-/
import Derived.Test.YtalmfmijjbpnpaaLoYa
import Derived.Test.YtalmfmijjbpnpaaLoR
namespace Go.Proofs.Ytalmfmijjbpnpaa
open Go.RowKit

section
variable {w : World}

theorem add_1 (a : Addr) (n : Nat) : a.add (n + 1) = ⟨(a.add n).block, (a.add n).off + 1, none⟩ := by
  unfold Addr.add
  by_cases h : n = 0
  · subst h; simp
  · simp [h, Nat.add_assoc]
theorem add_2 (a : Addr) (n : Nat) : a.add (n + 2) = ⟨(a.add n).block, (a.add n).off + 2, none⟩ := by
  unfold Addr.add
  by_cases h : n = 0
  · subst h; simp
  · simp [h, Nat.add_assoc]

set_option maxRecDepth 100000 in
set_option maxHeartbeats 4000000 in
theorem same22 {H : Hist} {vv bv sv vv' bv' sv' : Value} {ml ml' : List (Ln × Value)} (h : HAt w vv bv sv H ml) (h' : HAt w vv' bv' sv' H ml')
    (hn1 : H.vs.length ≤ 100000) (hn2 : ml.length ≤ 100000) (hn3 : H.ss.length ≤ 100000) (hn4 : ∀ x ∈ ml, x.1.rd.length ≤ 100000) :
    Calls Try.prog 22 #[.agg #[vv, bv, sv, .string H.cur], .agg #[vv', bv', sv', .string H.cur]] w (Quiet (.bool true) w) := by
  have hml : ml'.length = ml.length := by have := congrArg List.length (h.ml.symm.trans h'.ml); simpa using this.symm
  obtain ⟨a1, c1, x1, rfl, ha1, hc1⟩ := h.vs.form
  obtain ⟨a2, c2, x2, rfl, ha2, hc2⟩ := h.bs.form
  obtain ⟨a3, c3, x3, rfl, ha3, hc3⟩ := h.ss.form
  obtain ⟨b1, d1, y1, rfl, hb1, hd1⟩ := h'.vs.form
  obtain ⟨b2, d2, y2, rfl, hb2, hd2⟩ := h'.bs.form
  obtain ⟨b3, d3, y3, rfl, hb3, hd3⟩ := h'.ss.form
  rw [hml] at hb2 ⊢
  have HH := Lib.hid h
  have HH' := Lib.hid h'
  have HA1 := Lib.hid ha1
  have HA2 := Lib.hid ha2
  have HA3 := Lib.hid ha3
  have HB1 := Lib.hid hb1
  have HB2 := Lib.hid hb2
  have HB3 := Lib.hid hb3
  have HC1 := Lib.hid hc1
  have HC2 := Lib.hid hc2
  have HC3 := Lib.hid hc3
  have HD1 := Lib.hid hd1
  have HD2 := Lib.hid hd2
  have HD3 := Lib.hid hd3
  have HN4 := Lib.hid hn4
  have HML := Lib.hid hml
  clear h h' ha1 ha2 ha3 hb1 hb2 hb3 hc1 hc2 hc3 hd1 hd2 hd3 hn4 hml
  obtain ⟨W0, hW0⟩ : ∃ W, W = (w.alloc (.cells #[.slice a1 H.vs.length c1, .slice a2 ml.length c2, .slice a3 H.ss.length c3, .string H.cur] 37)).alloc (.cells #[.slice b1 H.vs.length d1, .slice b2 ml.length d2, .slice b3 H.ss.length d3, .string H.cur] 37) := ⟨_, rfl⟩
  have hb0 : Below w.heap.size w W0 := by rw [hW0]; exact ((Below.refl _ _).alloc (Nat.le_refl _) _).alloc (by simp) _
  have hbh : W0.heap[w.heap.size]? = some (.cells #[.slice a1 H.vs.length c1, .slice a2 ml.length c2, .slice a3 H.ss.length c3, .string H.cur] 37 (0, 0)) := by rw [hW0, Below.heap_alloc _ _ _ (by simp)]; exact heap_alloc_new w _
  have hrh : W0.heap[w.heap.size + 1]? = some (.cells #[.slice b1 H.vs.length d1, .slice b2 ml.length d2, .slice b3 H.ss.length d3, .string H.cur] 37 (0, 0)) := by rw [hW0]; have := heap_alloc_new (w.alloc (Obj.cells #[.slice a1 H.vs.length c1, .slice a2 ml.length c2, .slice a3 H.ss.length c3, .string H.cur] 37)) (Obj.cells #[.slice b1 H.vs.length d1, .slice b2 ml.length d2, .slice b3 H.ss.length d3, .string H.cur] 37); simpa using this
  have hl0 : w.heap.size < W0.heap.size := (Array.getElem?_eq_some_iff.1 hbh).1
  have hl1 : w.heap.size + 1 < W0.heap.size := (Array.getElem?_eq_some_iff.1 hrh).1
  have e0 : W0.cell? ⟨w.heap.size, 0, none⟩ = some (.slice a1 H.vs.length c1) := by rw [cell_of_blk hbh]; rfl
  have e1 : W0.cell? ⟨w.heap.size, 1, none⟩ = some (.slice a2 ml.length c2) := by rw [cell_of_blk hbh]; rfl
  have e2 : W0.cell? ⟨w.heap.size, 2, none⟩ = some (.slice a3 H.ss.length c3) := by rw [cell_of_blk hbh]; rfl
  have e3 : W0.cell? ⟨w.heap.size, 3, none⟩ = some (.string H.cur) := by rw [cell_of_blk hbh]; rfl
  have f0 : W0.cell? ⟨w.heap.size + 1, 0, none⟩ = some (.slice b1 H.vs.length d1) := by rw [cell_of_blk hrh]; rfl
  have f1 : W0.cell? ⟨w.heap.size + 1, 1, none⟩ = some (.slice b2 ml.length d2) := by rw [cell_of_blk hrh]; rfl
  have f2 : W0.cell? ⟨w.heap.size + 1, 2, none⟩ = some (.slice b3 H.ss.length d3) := by rw [cell_of_blk hrh]; rfl
  have f3 : W0.cell? ⟨w.heap.size + 1, 3, none⟩ = some (.string H.cur) := by rw [cell_of_blk hrh]; rfl
  have hG : ∀ wr, Below W0.heap.size W0 wr →
      wr.cell? ⟨w.heap.size, 0, none⟩ = some (.slice a1 H.vs.length c1) ∧ wr.cell? ⟨w.heap.size + 1, 0, none⟩ = some (.slice b1 H.vs.length d1) ∧
      wr.cell? ⟨w.heap.size, 1, none⟩ = some (.slice a2 ml.length c2) ∧ wr.cell? ⟨w.heap.size + 1, 1, none⟩ = some (.slice b2 ml.length d2) ∧
      wr.cell? ⟨w.heap.size, 2, none⟩ = some (.slice a3 H.ss.length c3) ∧ wr.cell? ⟨w.heap.size + 1, 2, none⟩ = some (.slice b3 H.ss.length d3) := fun wr hb =>
    ⟨(hb.cell (p := ⟨w.heap.size, 0, none⟩) hl0).trans e0, (hb.cell (p := ⟨w.heap.size + 1, 0, none⟩) hl1).trans f0, (hb.cell (p := ⟨w.heap.size, 1, none⟩) hl0).trans e1,
      (hb.cell (p := ⟨w.heap.size + 1, 1, none⟩) hl1).trans f1, (hb.cell (p := ⟨w.heap.size, 2, none⟩) hl0).trans e2, (hb.cell (p := ⟨w.heap.size + 1, 2, none⟩) hl1).trans f2⟩
  have hR : ∀ wr, Below W0.heap.size W0 wr → ∀ (p : Addr) (u : Value), p.block < w.heap.size ∧ w.cell? p = some u → wr.cell? p = some u := fun wr hb p u hu =>
    (hb.cell (Nat.lt_of_lt_of_le hu.1 hb0.size)).trans ((hb0.cell hu.1).trans hu.2)
  have HG := Lib.hid hG
  have HRR := Lib.hid hR
  have HB0 := Lib.hid hb0
  have HW0 := Lib.hid hW0
  clear hb0 hbh hrh hW0 hG hR
  go_enter Try.func22, Try.ntmps22
  go_wp2_with fail
  clear e0 e1 e2 e3 f0 f1 f2 f3
  rw [← HW0.out]
  go_loopw [45] (fun i wr => ∃ k : Nat, k ≤ H.vs.length ∧ i = .int .i64 k ∧ Below W0.heap.size W0 wr) (fun i _ => H.vs.length - (intOf i).toNat)
  case atStart => exact ⟨0, Nat.zero_le _, rfl, Below.refl _ _⟩
  case round =>
    obtain ⟨k, hk, rfl, hb⟩ := hrel
    obtain ⟨g1, g2, g3, g4, g5, g6⟩ := HG.out _ hb
    have HB := Lib.hid hb
    clear hb
    by_cases hlt : k < H.vs.length
    · obtain rfl := HA1.out (by omega)
      obtain rfl := HB1.out (by omega)
      have hx := verCells_get H.vs k _ (List.getElem?_eq_getElem hlt)
      have r1 := HRR.out _ HB.out _ _ (HC1.out _ _ hx.1)
      have r2 := HRR.out _ HB.out _ _ (HC1.out _ _ hx.2)
      have r3 := HRR.out _ HB.out _ _ (HD1.out _ _ hx.1)
      have r4 := HRR.out _ HB.out _ _ (HD1.out _ _ hx.2)
      rw [add_1] at r2 r4
      have hlt' : (k : Int) < H.vs.length := by omega
      have hk0 : (0 : Int) ≤ k := by omega
      clear hx g3 g4 g5 g6
      go_wp2_with fail
      go_region
      all_goals
        go_wp2_with fail
        go_roundw
        case rel => exact ⟨k + 1, by omega, by go_num, HB.out.drew⟩
        case measure => simp [intOf]; omega
    · obtain rfl : k = H.vs.length := by omega
      go_wp2_with fail
      clear g1 g2 g3 g4 g5 g6
      go_loopw [63] (fun i wr => ∃ k : Nat, k ≤ ml.length ∧ i = .int .i64 k ∧ Below W0.heap.size W0 wr) (fun i _ => ml.length - (intOf i).toNat)
      case atStart => exact ⟨0, Nat.zero_le _, rfl, HB.out⟩
      case round =>
        obtain ⟨k, hk, rfl, hb⟩ := hrel
        obtain ⟨g1, g2, g3, g4, g5, g6⟩ := HG.out _ hb
        have HBB := Lib.hid hb
        clear hb
        by_cases hlt : k < ml.length
        · obtain rfl := HA2.out (by omega)
          obtain rfl := HB2.out (by omega)
          have hx := List.getElem?_eq_getElem hlt
          have hlt2 : k < ml'.length := by rw [HML.out]; exact hlt
          have hx' := List.getElem?_eq_getElem hlt2
          have hfst : (ml'[k]).1 = (ml[k]).1 := by
            have h1 : H.bs[k]? = some (ml[k]).1 := by rw [HH.out.ml, List.getElem?_map, hx]; rfl
            have h2 : H.bs[k]? = some (ml'[k]).1 := by rw [HH'.out.ml, List.getElem?_map, hx']; rfl
            rw [h1] at h2
            exact (Option.some.inj h2).symm
          have hrd := HH.out.rd _ (List.mem_of_getElem? hx)
          have hrd' := HH'.out.rd _ (List.mem_of_getElem? hx')
          have hn := HN4.out _ (List.mem_of_getElem? hx)
          have hg := lnCells_get ml k _ hx
          have hg' := lnCells_get ml' k _ hx'
          rw [hfst] at hrd' hg'
          obtain ⟨l, hl⟩ : ∃ l, l = (ml[k]).1 := ⟨_, rfl⟩
          rw [← hl] at hrd hrd' hn hg hg'
          have r1 := HRR.out _ HBB.out _ _ (HC2.out _ _ hg.1)
          have r2 := HRR.out _ HBB.out _ _ (HC2.out _ _ hg.2.1)
          have r3 := HRR.out _ HBB.out _ _ (HC2.out _ _ hg.2.2)
          have r4 := HRR.out _ HBB.out _ _ (HD2.out _ _ hg'.1)
          have r5 := HRR.out _ HBB.out _ _ (HD2.out _ _ hg'.2.1)
          have r6 := HRR.out _ HBB.out _ _ (HD2.out _ _ hg'.2.2)
          obtain ⟨v, hv⟩ : ∃ v, v = (ml[k]).2 := ⟨_, rfl⟩
          obtain ⟨v', hv'⟩ : ∃ v, v = (ml'[k]).2 := ⟨_, rfl⟩
          rw [← hv] at hrd r3
          rw [← hv'] at hrd' r6
          obtain ⟨va, vc, vx, rfl, _⟩ := hrd.form
          obtain ⟨va', vc', vx', rfl, _⟩ := hrd'.form
          have hS := fun (w' : World) (hb : Below W0.heap.size W0 w') => same40 (w := w') hn (hrd.below (HB0.out.trans (hb.mono HB0.out.size))) (hrd'.below (HB0.out.trans (hb.mono HB0.out.size)))
          have HS := Lib.hid hS
          rw [add_1] at r2 r5
          rw [add_2] at r3 r6
          have hzz := HBB.out.size
          have z1 : w.heap.size < wr.heap.size := by omega
          have z2 : w.heap.size + 1 < wr.heap.size := by omega
          have z3 : (x2.add (k * 3)).block < wr.heap.size := World.block_lt_of_cell? wr _ r1
          have z4 : (y2.add (k * 3)).block < wr.heap.size := World.block_lt_of_cell? wr _ r4
          have hlt' : (k : Int) < ml.length := by omega
          have hk0 : (0 : Int) ≤ k := by omega
          clear hx hx' hg hg' hfst hrd hrd' hl hv hv' hS g1 g2 g5 g6 hn
          go_wp2_with fail
          go_region
          all_goals
            go_wp2_with fail
            refine (HS.out _ (((HBB.out.alloc hzz _).alloc (by simp; omega) _).drew)).mono ?_
            rintro e w2 ⟨rfl, hb2⟩
            have HB2 := Lib.hid ((((HBB.out.alloc hzz _).alloc (by simp; omega) _).drew).trans (hb2.mono (by simp; omega)))
            clear hb2
            go_wp2_with fail
            go_roundw
            case rel => exact ⟨k + 1, by omega, by go_num, HB2.out⟩
            case measure => simp [intOf]; omega
        · obtain rfl : k = ml.length := by omega
          go_wp2_with fail
          clear g1 g2 g3 g4 g5 g6
          go_loopw [100] (fun i wr => ∃ k : Nat, k ≤ H.ss.length ∧ i = .int .i64 k ∧ Below W0.heap.size W0 wr) (fun i _ => H.ss.length - (intOf i).toNat)
          case atStart => exact ⟨0, Nat.zero_le _, rfl, HBB.out⟩
          case round =>
            obtain ⟨k, hk, rfl, hb⟩ := hrel
            obtain ⟨g1, g2, g3, g4, g5, g6⟩ := HG.out _ hb
            have HBC := Lib.hid hb
            clear hb
            by_cases hlt : k < H.ss.length
            · obtain rfl := HA3.out (by omega)
              obtain rfl := HB3.out (by omega)
              have hx := lbCells_get H.ss k _ (List.getElem?_eq_getElem hlt)
              have r1 := HRR.out _ HBC.out _ _ (HC3.out _ _ hx.1)
              have r2 := HRR.out _ HBC.out _ _ (HC3.out _ _ hx.2)
              have r3 := HRR.out _ HBC.out _ _ (HD3.out _ _ hx.1)
              have r4 := HRR.out _ HBC.out _ _ (HD3.out _ _ hx.2)
              rw [add_1] at r2 r4
              have hlt' : (k : Int) < H.ss.length := by omega
              have hk0 : (0 : Int) ≤ k := by omega
              clear hx g1 g2 g3 g4
              go_wp2_with fail
              go_region
              all_goals
                go_wp2_with fail
                go_roundw
                case rel => exact ⟨k + 1, by omega, by go_num, HBC.out.drew⟩
                case measure => simp [intOf]; omega
            · obtain rfl : k = H.ss.length := by omega
              go_wp2_with fail
              go_ret
              exact ⟨rfl, HB0.out.trans (HBC.out.mono HB0.out.size)⟩

end

end Go.Proofs.Ytalmfmijjbpnpaa
