/-
  The walk of Remove of the reference.
-/
import Derived.Test.YtalmfmijjbpnpaaLoZj
namespace Go.Proofs.Ytalmfmijjbpnpaa
open Go.RowKit

section
variable {w : World} {t : Nat} {H : Hist} {m : View}

theorem mut_dropB {w3 : World} {a : Option Addr} {c r : Nat} {v : Value} (h : Rep w 56 t H m) (hi : r < H.bs.length) (hb : Below w.heap.size w w3)
    (ho : w3.ownsRow w.heap.size 65 3 (.slice a (H.bs.length - 1) c) (H.bs.length - 1) ((lnCells m.ml).take (r * 3) ++ (lnCells m.ml).drop ((r + 1) * 3))) :
    Mut v { H with bs := del H.bs r } 56 t m w (.returned v) (w3.setCell ⟨t, 1, Option.none⟩ (.slice a (H.bs.length - 1) c)) := by
  have hlen : m.ml.length = H.bs.length := by rw [h.ml, List.length_map]
  exact mut_delB (w3 := w) h (Fr.refl _ _) (by omega) (by rw [hlen]; exact ownsRow_mono ho (Nat.zero_le _)) (Fr.of_below hb) (fun k hk => .inr (own_ge ho hk))

set_option maxRecDepth 100000 in
set_option maxHeartbeats 2000000 in
theorem refRemove50 (h : Rep w 56 t H m) (hw : WF H) (name : ByteArray) (hnm : name.size ≤ maxLen) :
    Calls Try.prog 50 #[.pointer (some ⟨t, 0, none⟩), .string name] w (Mut (.int .i64 (cRemove H name)) (mRemove H name) 56 t m w) := by
  have hb2 := hw.b2
  have hB := Lib.hid (refBranch79 h (by omega) name)
  have hK := Lib.hid (fun w' => known80 name (hasN name (bnames H)) hnm w')
  have ht : t < w.heap.size := h.lt (.inl rfl)
  have HR := Lib.hid h
  by_cases hz : missE name (hasN name (bnames H)) = 0
  · rw [hz] at hK
    have hat := hasN_at (missE_zero hz).2
    by_cases hc : name = H.cur
    · have e1 : cRemove H name = 17 := by unfold cRemove; rw [if_pos hz, if_pos hc]
      have e2 : mRemove H name = H := if_neg (by rw [e1]; decide)
      have c3 : w.cell? ⟨t, 3, none⟩ = some (.string H.cur) := h.cellT.2.2.2
      rw [e1, e2]
      subst hc
      clear e1 e2 hz hat h
      go_enter Try.func50, Try.ntmps50
      go_wp2_with fail
      refine hB.out.mono ?_
      rintro e w1 ⟨rfl, hb1⟩
      have d3 : w1.cell? ⟨t, 3, none⟩ = some (.string H.cur) := (hb1.cell (p := ⟨t, 3, none⟩) ht).trans c3
      have HB1 := Lib.hid hb1
      clear hb1
      go_wp2_with fail
      refine (hK.out _).mono ?_
      rintro e w2 ⟨rfl, rfl⟩
      go_wp2_with fail
      go_ret
      exact Mut.none HR.out HB1.out
    have e1 : cRemove H name = 0 := by unfold cRemove; rw [if_pos hz, if_neg hc]
    have E1 := Lib.hid e1
    have e2 : mRemove H name = { H with bs := del H.bs (rank name (bnames H)) } := if_pos e1
    have hcn : (name.toList == H.cur.toList) = false := by rw [beq_eq_false_iff_ne]; exact fun e => hc (ba_ext e)
    have c3 : w.cell? ⟨t, 3, none⟩ = some (.string H.cur) := h.cellT.2.2.2
    have hlen : m.ml.length = H.bs.length := by rw [h.ml, List.length_map]
    have hml1 : 0 < m.ml.length := by rw [hlen]; exact hw.b1
    have HONE := Lib.hid (one_lnm h)
    have hbl : (bnames H).length = H.bs.length := by simp [bnames]
    have hrk : rank name (bnames H) < H.bs.length := by have := (List.getElem?_eq_some_iff.1 hat).1; omega
    obtain ⟨g, cap, hsv, hc1, hc2, hg⟩ := own_form h.bs hml1
    rw [hlen] at hsv hc1
    have c1 : w.cell? ⟨t, 1, none⟩ = some (.slice (some ⟨g, 0, none⟩) H.bs.length cap) := by rw [h.cellT.2.1, hsv]
    have f1 : w.frozen? ⟨t, 1, none⟩ = false := h.frT 1
    have hRow := h.bs
    rw [hsv, hlen] at hRow
    obtain ⟨r, hr⟩ : ∃ r, r = rank name (bnames H) := ⟨_, rfl⟩
    rw [← hr] at hB hrk e2
    have E2 := Lib.hid e2
    have HRK := Lib.hid hrk
    have hr63 : (r : Int) ≤ 1000 := by omega
    have hr0 : (0 : Int) ≤ r := by omega
    have hrc : (r : Int) ≤ cap := by omega
    have hrw : IntKind.i64.wrap ((r : Int) + 1) = (r : Int) + 1 := IntWalk.i64_in _ (by omega)
    have hrn : ((r : Int) + 1).toNat = r + 1 := by omega
    have hr1 : (r : Int) + 1 ≤ H.bs.length := by omega
    have hr2 : (0 : Int) ≤ (r : Int) + 1 := by omega
    obtain ⟨i0, hi0, hz0, hz1, hz2⟩ := info_parts info65
    have hT := Lib.hid (fun w' (hb : Below w.heap.size w w') => (sl_take hRow hc1 hc2 (i := r) (by omega)).below hb)
    have HLE := Lib.hid (show r + (H.bs.length - (r + 1)) = H.bs.length - 1 by omega)
    have HM1 := Lib.hid (show r + (H.bs.length - (r + 1)) ≤ maxLen by unfold maxLen; omega)
    have HM2 := Lib.hid (show (r + (H.bs.length - (r + 1))) * 48 ≤ 140737488355328 by omega)
    have HM3 := Lib.hid (show 0 + r ≤ maxLen by unfold maxLen; omega)
    have HM4 := Lib.hid (show (0 + r) * 48 ≤ 140737488355328 by omega)
    have hrr : (r : Int) ≤ (r : Int) + 1 := by omega
    obtain ⟨f, hf⟩ : ∃ f : Nat → Value, f = fun c => if c = r + 1 then .slice (some ⟨g, 0, none⟩) (H.bs.length - (r + 1)) 0 else .slice (some ⟨g, (r + 1) * 3, none⟩) (H.bs.length - (r + 1)) (c - (r + 1)) := ⟨_, rfl⟩
    have hD : ∀ w', Below w.heap.size w w' → SlAt w' (f cap) (H.bs.length - (r + 1)) 3 ((lnCells m.ml).drop ((r + 1) * 3)) := fun w' hb => by
      rw [hf]
      dsimp only
      split
      · rename_i hq
        have := (sl_drop0 hRow hc2 hc1 (i := r + 1) (by omega) hq).below hb
        rwa [show cap - (r + 1) = 0 by omega] at this
      · exact (sl_drop hRow hc2 hc1 (i := r + 1) (by omega)).below hb
    rw [hf] at hD
    clear hz hat hbl hr h hsv hRow hc1 hf f e2 e1 hlen hml1 hc
    by_cases hcap : cap = r + 1
    all_goals
      first | subst hcap | skip
      first | simp only [if_neg hcap] at hD | simp only [if_pos] at hD
      have HD := Lib.hid hD
      clear hD hc2
      go_enter Try.func50, Try.ntmps50
      go_wp2_with fail
      refine hB.out.mono ?_
      rintro e w1 ⟨rfl, hb1⟩
      have d1 : w1.cell? ⟨t, 1, none⟩ = _ := (hb1.cell (p := ⟨t, 1, none⟩) ht).trans c1
      have d4 : w1.cell? ⟨t, 3, none⟩ = some (.string H.cur) := (hb1.cell (p := ⟨t, 3, none⟩) ht).trans c3
      have g1 : w1.frozen? ⟨t, 1, none⟩ = false := (hb1.frozen (p := ⟨t, 1, none⟩) ht).trans f1
      have HB1 := Lib.hid hb1
      clear hb1
      go_wp2_with fail
      refine (hK.out _).mono ?_
      rintro e w2 ⟨rfl, rfl⟩
      go_wp2_with fail
      have hA0 : Below w.heap.size w w1.drew := HB1.out.drew
      have ht1 : t < w1.heap.size := Nat.lt_of_lt_of_le ht HB1.out.size
      clear HB1
      go_region_law (first
            | (refine step_app2 rfl (.tmp 28) (.tmp 35) 34 rfl w.heap.size 65 i0 _ 3 48 Try.underlying34 hi0 hz0 hz1 hz2 rfl (by decide) _ 0 [] rfl (own_lit0a hA0.size) _ _ _ rfl (hT.out _ (below_alloc1 hA0 (Nat.le_refl _))) (fun u hu => HONE.out u (List.mem_of_mem_take hu)) HM3.out HM4.out (Nat.le_refl _) (below_alloc1 hA0 (Nat.le_refl _)) (Nat.zero_add _) (List.nil_append _) (fun a1 k1 w3 ho1 hA1 hk1 => ?_); have d3 : w3.cell? ⟨t, 1, none⟩ = _ := (hA1.cell (p := ⟨t, 1, none⟩) ht).trans c1; have g3 : w3.frozen? ⟨t, 1, none⟩ = false := (hA1.frozen (p := ⟨t, 1, none⟩) ht).trans f1; clear hk1)
            | (refine step_app2 rfl (.tmp 36) (.tmp 44) 34 rfl w.heap.size 65 i0 _ 3 48 Try.underlying34 hi0 hz0 hz1 hz2 rfl (by decide) _ _ _ rfl ho1 _ _ _ rfl (HD.out _ hA1) (fun u hu => HONE.out u (List.mem_of_mem_drop hu)) HM1.out HM2.out (Nat.le_refl _) hA1 HLE.out rfl (fun a2 k2 w4 ho2 hA2 hk2 => ?_); have d5 : w4.cell? ⟨t, 1, none⟩ = _ := (hA2.cell (p := ⟨t, 1, none⟩) ht).trans c1; have g4 : w4.frozen? ⟨t, 1, none⟩ = false := (hA2.frozen (p := ⟨t, 1, none⟩) ht).trans f1; clear hk2))
      all_goals
        have HA2 := Lib.hid hA2
        have HO2 := Lib.hid ho2
        clear hA1 ho1 hA2 ho2
        go_wp2_with fail
        go_ret
        rw [E1.out, E2.out]
        exact mut_dropB HR.out HRK.out HA2.out HO2.out
  · have e1 : cRemove H name = missE name (hasN name (bnames H)) := if_neg hz
    have e2 : mRemove H name = H := if_neg (by rw [e1]; exact hz)
    have hz' := bneq_of hz
    rw [e1, e2]
    clear e1 e2 hz h
    go_enter Try.func50, Try.ntmps50
    go_wp2_with fail
    refine hB.out.mono ?_
    rintro e w1 ⟨rfl, hb1⟩
    have HB1 := Lib.hid hb1
    clear hb1
    go_wp2_with fail
    refine (hK.out _).mono ?_
    rintro e w2 ⟨rfl, rfl⟩
    go_wp2_with fail
    go_ret
    exact Mut.none HR.out HB1.out

end

end Go.Proofs.Ytalmfmijjbpnpaa
