/-
  Walk of the reference's Parts.
-/
import Derived.Test.YtfdaghhplijpeaaGreatDoorLmOnOo
namespace Go.Proofs.YtfdaghhplijpeaaGreatDoor
open Go Go.RowKit

def bools (M : List Bool) : List Value := M.map .bool
theorem bools_get {M : List Bool} {i : Nat} (h : i < M.length) : (bools M)[i]? = some (.bool (mkd M i)) := by
  unfold bools mkd
  rw [List.getElem?_map, List.getElem?_eq_getElem h, List.getD_eq_getElem?_getD, List.getElem?_eq_getElem h]; rfl
theorem bools_set (M : List Bool) (i : Nat) (b : Bool) : bools (M.set i b) = (bools M).set i (.bool b) := by simp [bools, List.map_set]
/-- The marks lie in a row of their own. -/
structure MarkW (W wr : World) (g : Nat) (M : List Bool) : Prop where
  row : wr.ownsRow W.heap.size 4 1 (.slice (some ⟨g, 0, none⟩) M.length M.length) M.length (bools M)
  below : Below W.heap.size W wr
theorem MarkW.cell {W wr : World} {g : Nat} {M : List Bool} (h : MarkW W wr g M) {i : Nat} (hi : i < M.length) : wr.cell? ⟨g, i, none⟩ = some (.bool (mkd M i)) := by
  rw [h.row.cellAt i (by omega), bools_get hi]
theorem MarkW.set {W wr : World} {g : Nat} {M : List Bool} (h : MarkW W wr g M) (i : Nat) (b : Bool) (hg : W.heap.size ≤ g) : MarkW W (wr.setCell ⟨g, i, none⟩ (.bool b)) g (M.set i b) :=
  ⟨by rw [bools_set, List.length_set]; exact (h.row.stored _ _).1, h.below.setCell hg _⟩
theorem MarkW.later {W wr w' : World} {g : Nat} {M : List Bool} (h : MarkW W wr g M) (hb : Below wr.heap.size wr w') : MarkW W w' g M :=
  ⟨own_frame (S := fun _ => False) h.row (Fr.of_below hb) (fun _ _ e => e), h.below.trans (hb.mono h.below.size)⟩
theorem Tryz.info4 : (Tryz.prog.info? 4).map (fun i => (i.zero, i.size, i.bytes)) = some (some (.bool false), 1, 1) := by kernel_rfl
theorem bools_made (n : Nat) : (madeCells (Value.bool false).cells (n * 1)).toList = bools (List.replicate n false) := by
  show (madeCells #[.bool false] (n * 1)).toList = _
  rw [toList_madeCells_one, Nat.mul_one]
  simp [bools]
def marksTo (M : List Bool) (k : Nat) : List Int := ((List.range k).filter (mkd M)).map (fun i : Nat => (i : Int))
theorem marksTo_succ (M : List Bool) (k : Nat) : marksTo M (k + 1) = if mkd M k = true then marksTo M k ++ [(k : Int)] else marksTo M k := by
  unfold marksTo
  rw [List.range_succ, List.filter_append, List.map_append]
  by_cases h : mkd M k = true
  · rw [if_pos h, List.filter_cons_of_pos h]; simp
  · rw [if_neg h, List.filter_cons_of_neg h]; simp
theorem marksTo_len (M : List Bool) (k : Nat) : (marksTo M k).length ≤ k := by
  unfold marksTo
  rw [List.length_map]
  exact Nat.le_trans (List.length_filter_le ..) (by simp)
theorem marksTo_parts {L : List Nd} {id : Nat} {M : List Bool} (hL : Ahead L) (hid : id < L.length) (h : MkI L id M (-1)) : marksTo M L.length = partsOf L id := by
  unfold marksTo partsOf
  congr 1
  apply List.filter_congr
  intro j hj
  have := mkI_end hL hid h j (List.mem_range.1 hj)
  by_cases e : mkd M j = true
  · rw [e]; symm; simp; exact this.1 e
  · have e' : mkd M j = false := by simpa using e
    rw [e']; symm; simp; exact fun hr => e (this.2 hr)
set_option maxRecDepth 100000 in
set_option maxHeartbeats 8000000 in
theorem parts_calls {W : World} {B p : Nat} {v : Value} {L : List Nd} (hg : RefR W B p v L) (hL : Ahead L) (hk : ∀ i, i < L.length → 1 ≤ (L.getD i nd0).k ∧ (L.getD i nd0).k ≤ 16) (hl : L.length ≤ 4096) {id : Nat} (hi : id < L.length) :
    Calls Tryz.prog 10 #[ptr p, .int .i64 id] W fun e w' => ∃ ov, e = .returned ov ∧ w'.ownsRow W.heap.size 3 1 ov (partsOf L id).length (ints (partsOf L id)) ∧ Below W.heap.size W w' := by
  have G := Lib.hid (And.intro hg (And.intro hL (And.intro hk (And.intro hl hi))))
  have b0 := cell_of_blk hg.blk 0
  simp only [List.getElem?_toArray, List.getElem?_cons_zero] at b0
  obtain ⟨va, vc, rfl⟩ := hg.nds.slice
  obtain ⟨n, hn⟩ : ∃ n, L.length = n := ⟨_, rfl⟩
  rw [hn] at b0 hl hi
  have HN := Lib.hid hn
  obtain ⟨i0, hi0, hz0, hz1, hz2⟩ := info_parts Tryz.info4
  have id0 : (0 : Int) ≤ (id : Int) := by omega
  have id1 : (id : Int) < (n : Int) := by omega
  have HHAS := Lib.hid (fun w => fun (hb : Below W.heap.size W w) => has_calls (hg.below hb) (by omega) (id : Int))
  clear hg hL hk hn
  unfold ptr
  go_enter Tryz.func10, Tryz.ntmps10
  go_wp2_with fail
  refine (HHAS.out W (Below.refl _ _)).mono ?_
  rintro e w1 ⟨rfl, rfl⟩
  have hb1 : (decide (0 ≤ (id : Int)) && decide ((id : Int) < (L.length : Int))) = true := by rw [HN.out]; simp; omega
  rw [hb1]
  clear hb1 HHAS
  go_wp2_with (refine wpList_make_full w1 rfl (.tmp 20) (.tmp 20) 73 rfl w1.heap.size 4 i0 _ 1 Tryz.underlying73 hi0 hz0 hz1 _ _ _ _ n rfl rfl rfl rfl (by rw [hz2]; omega) (by unfold maxLen; omega) (Nat.le_refl _) ?_; intro w5 ho5 hg5; have HMK := Lib.hid (by rw [bools_made] at ho5; exact ⟨by rw [List.length_replicate]; exact ho5, (fr_of_grown hg5).below_of (fun k _ e => by cases e) (Nat.le_refl _)⟩ : MarkW w1 w5 w1.heap.size (List.replicate n false)); have hcm := HMK.out.cell (i := id) (by rw [List.length_replicate]; exact hi); have hfm := HMK.out.row.frozenAt id; clear ho5 hg5)
  have hm6 := HMK.out.set id true (Nat.le_refl _)
  have hI := mkI_start (L := L) (id := id) (by rw [HN.out]; exact hi)
  rw [HN.out] at hI
  obtain ⟨g, hgq⟩ : ∃ g, w1.heap.size = g := ⟨_, rfl⟩
  have hg0 : w1.heap.size ≤ g := by omega
  rw [hgq] at hm6 ⊢
  generalize w5.setCell ⟨g, id, none⟩ (.bool true) = w6 at hm6 ⊢
  generalize (List.replicate n false).set id true = M0 at hm6 hI
  have HM6 := Lib.hid (And.intro hm6 hI)
  have HG0 := Lib.hid hg0
  clear hm6 hI hgq hg0 hcm hfm HMK hi0 hz0 hz1 hz2
  go_loopw [6] (fun iv wr => ∃ (i : Int) (M : List Bool), iv = .int .i64 i ∧ -1 ≤ i ∧ i ≤ (id : Int) ∧ MkI L id M i ∧ MarkW w1 wr g M) (fun iv _ => (intOf iv + 1).toNat)
  case atStart => exact ⟨id, _, rfl, by omega, by omega, HM6.out.2, HM6.out.1⟩
  case round =>
    obtain ⟨i, M, rfl, hi1, hi2, hI, hM⟩ := hrel
    have HI := Lib.hid (And.intro hI hM)
    clear hI hM HM6
    by_cases h0 : 0 ≤ i
    · obtain ⟨j, rfl⟩ : ∃ j : Nat, i = (j : Int) := ⟨i.toNat, by omega⟩
      have hj : j < L.length := by rw [HN.out]; omega
      obtain ⟨y, hy⟩ : ∃ y, L.getD j nd0 = y := ⟨_, rfl⟩
      obtain ⟨gv, cv, ev, c0, c1, c2, c3, c4⟩ := (G.out.1.below HI.out.2.below).nds.form hj hy
      have b1 := cell_of_blk (G.out.1.below HI.out.2.below).blk 0
      simp only [List.getElem?_toArray, List.getElem?_cons_zero] at b1
      cases ev
      rw [HN.out] at b1
      have HY := Lib.hid (And.intro hy hj)
      have j0 : (0 : Int) ≤ (j : Int) := by omega
      have j1 : (j : Int) < (n : Int) := by omega
      have HJ := Lib.hid hi2
      clear hy hj hi1 hi2 h0
      go_wp2_with fail
      refine (args_calls (x := y) (by rw [← HY.out.1]; exact (G.out.2.2.1 j HY.out.2).1) (by rw [← HY.out.1]; exact (G.out.2.2.1 j HY.out.2).2) _).mono ?_
      rintro e w8 ⟨av, rfl, ha⟩
      obtain ⟨aa, ac, rfl⟩ := row_slice ha.2
      have hM8 := HI.out.2.later ha.1
      have hag : (Value.slice aa (args y).length ac).ownBlock ≠ some g := fun e => by
        have h1 := (ha.2.lt g e).1
        have h2 := (HI.out.2.row.lt g rfl).2
        omega
      have HS := Lib.hid (And.intro (mkJ_start (i := j) HI.out.1) (And.intro hM8 (And.intro ha.2 hag)))
      obtain ⟨an, han⟩ : ∃ an, (args y).length = an := ⟨_, rfl⟩
      have hab : an ≤ 2 := by rw [← han]; exact args_len y
      have HAN := Lib.hid han
      clear ha hM8 hag
      rw [han]
      clear han b1 c0 c1 c2 c3 c4
      go_wp2_with fail
      go_loopw [39] (fun kv wr2 => ∃ (k : Nat) (M2 : List Bool), kv = .int .i64 (k : Int) ∧ k ≤ an ∧ MkJ L id M M2 j k ∧ MarkW w1 wr2 g M2 ∧ ∃ B2, wr2.ownsRow B2 3 1 (.slice aa (args y).length ac) (args y).length (ints (args y))) (fun kv _ => an - (intOf kv).toNat)
      case atStart => exact ⟨0, _, rfl, by omega, HS.out.1, HS.out.2.1, _, HS.out.2.2.1⟩
      case round =>
        obtain ⟨k, M2, rfl, hk, hJ2, hM2, B2, hrow⟩ := hrel
        by_cases hka : k < an
        · obtain ⟨a4, c4, e4, hcell4⟩ := row_cells hrow
          obtain ⟨g4, e5, hc4⟩ := hcell4 k (by rw [HAN.out]; exact hka)
          cases e4
          subst e5
          have hkl : k < (args (L.getD j nd0)).length := by rw [HY.out.1, HAN.out]; exact hka
          have hbd := G.out.2.1 j HY.out.2 _ (getD_mem hkl)
          obtain ⟨a, ha⟩ : ∃ a : Nat, (args (L.getD j nd0)).getD k 0 = (a : Int) := ⟨_, (Int.toNat_of_nonneg hbd.1).symm⟩
          obtain ⟨haj, hst⟩ := mkJ_step G.out.2.1 hJ2 HY.out.2 hkl ha
          rw [HY.out.1] at ha
          rw [ha] at hc4
          have hlen := hM2.row.1
          have hMl : M2.length = n := hJ2.len.trans HN.out
          have ca := hM2.cell (i := a) (by rw [hMl]; omega)
          have cj := hM2.cell (i := j) (by rw [hMl]; omega)
          have fa := hM2.row.frozenAt a
          have hset := hM2.set a (mkd M2 a || mkd M2 j) HG0.out
          have hrow2 : (wr.setCell ⟨g, a, none⟩ (.bool (mkd M2 a || mkd M2 j))).ownsRow B2 3 1 (.slice (some ⟨g4, 0, none⟩) (args y).length ac) (args y).length (ints (args y)) := own_frame (S := fun k => k = g) hrow ((Fr.refl (fun k => k = g) wr).setCell (a := ⟨g, a, none⟩) _ (fun _ => rfl)) (fun k hk e => HS.out.2.2.2 (by rw [hk, e]))
          have HNX := Lib.hid (And.intro hst (And.intro hset hrow2))
          have a0 : (0 : Int) ≤ (a : Int) := by omega
          have a1 : (a : Int) < (n : Int) := by omega
          have hk0 : (0 : Int) ≤ (k : Int) := by omega
          have hk1 : (k : Int) < (an : Int) := by omega
          have hk2 : k < 2 := by omega
          have HKA := Lib.hid (And.intro hka hk)
          obtain ⟨x1, hx1⟩ : ∃ x1, mkd M2 a = x1 := ⟨_, rfl⟩
          obtain ⟨x2, hx2⟩ : ∃ x2, mkd M2 j = x2 := ⟨_, rfl⟩
          rw [hx1] at ca HNX
          rw [hx2] at cj HNX
          clear hst hset hrow2 hrow hcell4 hkl hbd ha hJ2 hM2 hlen hMl hx1 hx2 hka hk haj
          cases x1
          all_goals
            go_wp2_with fail
            go_roundw
            case rel => exact ⟨k + 1, _, by go_num, by have := HKA.out.1; omega, HNX.out.1, HNX.out.2.1, _, HNX.out.2.2⟩
            case measure => have := HKA.out.1; simp [intOf]; omega
        · have hke : k = an := by omega
          subst hke
          have hIe := mkJ_end HI.out.1 (by rw [HY.out.1, HAN.out]; exact hJ2)
          have HE := Lib.hid (And.intro hIe hM2)
          clear hIe hM2 hJ2 hrow hka hk
          go_wp2_with fail
          go_roundw
          case rel => exact ⟨(j : Int) - 1, _, rfl, by omega, by have := HJ.out; omega, HE.out.1, HE.out.2⟩
          case measure => first | (simp [intOf]; done) | (simp [intOf]; omega)
    · have hie : i = -1 := by omega
      subst hie
      clear h0 hi1 hi2
      go_wp2_with fail
      have hMl : M.length = n := HI.out.1.len.trans HN.out
      have HML := Lib.hid hMl
      clear hMl
      go_loopw [9, 59] (fun ov kv wr3 => ∃ (k : Nat) (D : List Int), kv = .int .i64 (k : Int) ∧ k ≤ n ∧ D = marksTo M k ∧ MarkW w1 wr3 g M ∧ wr3.ownsRow w1.heap.size 3 1 ov D.length (ints D) ∧ ov.ownBlock ≠ some g) (fun _ kv _ => n - (intOf kv).toNat)
      case atStart => exact ⟨0, _, rfl, by omega, rfl, HI.out.2, World.ownsRow_nil _ _ _ _, by simp [Value.ownBlock]⟩
      case round =>
        obtain ⟨k, D, rfl, hk, hD, hM3, hown, hne⟩ := hrel
        obtain ⟨oa, oc, rfl⟩ := row_slice hown
        have HR := Lib.hid (And.intro hD (And.intro hM3 (And.intro hown hne)))
        by_cases hka : k < n
        · have ck := hM3.cell (i := k) (by rw [HML.out]; exact hka)
          have HKA := Lib.hid hka
          have hk0 : (0 : Int) ≤ (k : Int) := by omega
          have hk1 : (k : Int) < (n : Int) := by omega
          have hDl : D.length ≤ 5000 := by rw [hD]; exact Nat.le_trans (marksTo_len M k) (by omega)
          obtain ⟨dn, hdn⟩ : ∃ dn, D.length = dn := ⟨_, rfl⟩
          have HDN := Lib.hid hdn
          have HNE := Lib.hid (by rw [← hdn]; exact hne : (Value.slice oa dn oc).ownBlock ≠ some g)
          rw [hdn] at hDl hown ⊢
          have HO := Lib.hid hown
          cases hx : mkd M k
          · rw [hx] at ck
            have HX := Lib.hid hx
            clear hD hM3 hown hne hka hdn hx
            go_wp2_with fail
            go_roundw
            case rel => exact ⟨k + 1, D, by go_num, by have := HKA.out; omega, by rw [marksTo_succ, HX.out]; exact HR.out.1, HR.out.2.1, by have := HR.out.2.2.1; rw [HDN.out] at this ⊢; exact this, HNE.out⟩
            case measure => have := HKA.out; simp [intOf]; omega
          · rw [hx] at ck
            have HX := Lib.hid hx
            clear hD hM3 hown hne hka hdn hx
            go_wp2_with (at_builtin; refine app_down rfl _ _ rfl w1.heap.size (by have := HR.out.2.1.below.size; simp; omega) _ _ _ rfl (HO.out.alloc _) wr.heap.size _ rfl (heap_alloc_new wr _) (by simp [Value.oneCell']) (by omega) ?_; intro gg capn w5 hown5 hgrow5 hat5; have HA5 := Lib.hid (And.intro hown5 (And.intro hgrow5 hat5)); clear hown5 hgrow5 hat5)
            go_roundw
            case rel =>
              have hF : Fr (fun k => (Value.slice oa dn oc).ownBlock = some k) wr w5 := ((Fr.refl (fun k => (Value.slice oa dn oc).ownBlock = some k) wr).alloc _).trans HA5.out.2.1 (fun _ _ e => e)
              refine ⟨k + 1, D ++ [(k : Int)], by go_num, by have := HKA.out; omega, ?_, ?_, ?_, ?_⟩
              · rw [marksTo_succ, HX.out, if_pos rfl, ← HR.out.1]
              · exact ⟨own_frame HR.out.2.1.row hF (fun j hj e => by
                  have e1 : g = j := by simpa [Value.ownBlock] using hj
                  subst e1
                  exact HNE.out e), HR.out.2.1.below.trans (hF.below_of (fun j hj e => by have := (HO.out.lt j e).1; omega) HR.out.2.1.below.size)⟩
              · have e1 : ints (D ++ [(k : Int)]) = ints D ++ [.int .i64 (k : Int)] := by simp [ints]
                rw [e1, List.length_append, HDN.out]
                exact HA5.out.1
              · intro e
                have e1 : gg = g := by simpa [Value.ownBlock] using e
                subst e1
                rcases HA5.out.2.2 with h3 | h3
                · exact HNE.out h3
                · have := (HR.out.2.1.row.lt gg rfl).2
                  simp at h3; omega
            case measure => have := HKA.out; simp [intOf]; omega
        · have hke : k = n := by omega
          have hfin : wr.ownsRow w1.heap.size 3 1 (.slice oa D.length oc) (partsOf L id).length (ints (partsOf L id)) ∧ Below w1.heap.size w1 wr := by
            have e1 := marksTo_parts G.out.2.1 G.out.2.2.2.2 HI.out.1
            rw [hke, ← HN.out, e1] at hD
            rw [← hD]
            exact ⟨hown, hM3.below⟩
          have HFIN := Lib.hid hfin
          subst hke
          clear hD hM3 hown hne hka hfin hk
          go_wp2_with fail
          go_ret
          exact ⟨_, rfl, HFIN.out⟩
end Go.Proofs.YtfdaghhplijpeaaGreatDoor
