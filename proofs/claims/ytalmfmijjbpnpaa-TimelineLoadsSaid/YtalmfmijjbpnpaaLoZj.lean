/-
  The walk of Forget of the reference.
-/
import Derived.Test.YtalmfmijjbpnpaaLoZh
import Derived.Test.YtalmfmijjbpnpaaLoYf
namespace Go.Proofs.Ytalmfmijjbpnpaa
open Go.RowKit

section
variable {w : World} {t : Nat} {H : Hist} {m : View}

/-- A row without its i-th element, from the two appends. -/
theorem mut_dropS {w3 : World} {a : Option Addr} {c r : Nat} {v : Value} (h : Rep w 56 t H m) (hi : r < H.ss.length) (hb : Below w.heap.size w w3)
    (ho : w3.ownsRow w.heap.size 78 2 (.slice a (H.ss.length - 1) c) (H.ss.length - 1) ((lbCells H.ss).take (r * 2) ++ (lbCells H.ss).drop ((r + 1) * 2))) :
    Mut v { H with ss := del H.ss r } 56 t m w (.returned v) (w3.setCell ⟨t, 2, none⟩ (.slice a (H.ss.length - 1) c)) :=
  mut_chS (w3 := w) h (Fr.refl _ _) (by rw [length_del hi, lbCells_del _ _ hi]; exact ownsRow_mono ho (Nat.zero_le _)) (Fr.of_below hb) (fun k hk => .inr (own_ge ho hk))

set_option maxRecDepth 100000 in
set_option maxHeartbeats 2000000 in
theorem refForget54 (h : Rep w 56 t H m) (hw : WF H) (name : ByteArray) (hnm : name.size ≤ maxLen) :
    Calls Try.prog 54 #[.pointer (some ⟨t, 0, none⟩), .string name] w (Mut (.int .i64 (cForget H name)) (mForget H name) 56 t m w) := by
  have hs2 := hw.s2
  have hB := Lib.hid (refSnapshot82 h (by omega) name)
  have hK := Lib.hid (fun w' => known80 name (hasN name (snames H)) hnm w')
  have ht : t < w.heap.size := h.lt (.inl rfl)
  have HR := Lib.hid h
  by_cases hz : missE name (hasN name (snames H)) = 0
  · rw [hz] at hK
    have hat := hasN_at (missE_zero hz).2
    have E1 := Lib.hid (hz : cForget H name = 0)
    have e2 : mForget H name = { H with ss := del H.ss (rank name (snames H)) } := if_pos hz
    have hbl : (snames H).length = H.ss.length := by simp [snames]
    have hrk : rank name (snames H) < H.ss.length := by have := (List.getElem?_eq_some_iff.1 hat).1; omega
    obtain ⟨g, cap, hsv, hc1, hc2, hg⟩ := own_form h.ss (by omega)
    have c1 : w.cell? ⟨t, 2, none⟩ = some (.slice (some ⟨g, 0, none⟩) H.ss.length cap) := by rw [h.cellT.2.2.1, hsv]
    have f1 : w.frozen? ⟨t, 2, none⟩ = false := h.frT 2
    have hRow := h.ss
    rw [hsv] at hRow
    obtain ⟨r, hr⟩ : ∃ r, r = rank name (snames H) := ⟨_, rfl⟩
    rw [← hr] at hB hrk e2
    have E2 := Lib.hid e2
    have HRK := Lib.hid hrk
    have hr63 : (r : Int) ≤ 1000 := by omega
    have hr0 : (0 : Int) ≤ r := by omega
    have hrc : (r : Int) ≤ cap := by omega
    have hrw : IntKind.i64.wrap ((r : Int) + 1) = (r : Int) + 1 := IntWalk.i64_in _ (by omega)
    have hrn : ((r : Int) + 1).toNat = r + 1 := by omega
    have hr1 : (r : Int) + 1 ≤ H.ss.length := by omega
    have hr2 : (0 : Int) ≤ (r : Int) + 1 := by omega
    obtain ⟨i0, hi0, hz0, hz1, hz2⟩ := info_parts info78
    have hT := Lib.hid (fun w' (hb : Below w.heap.size w w') => (sl_take hRow hc1 hc2 (i := r) (by omega)).below hb)
    have HLE := Lib.hid (show r + (H.ss.length - (r + 1)) = H.ss.length - 1 by omega)
    have HM1 := Lib.hid (show r + (H.ss.length - (r + 1)) ≤ maxLen by unfold maxLen; omega)
    have HM2 := Lib.hid (show (r + (H.ss.length - (r + 1))) * 24 ≤ 140737488355328 by omega)
    have HM3 := Lib.hid (show 0 + r ≤ maxLen by unfold maxLen; omega)
    have HM4 := Lib.hid (show (0 + r) * 24 ≤ 140737488355328 by omega)
    have hrr : (r : Int) ≤ (r : Int) + 1 := by omega
    obtain ⟨f, hf⟩ : ∃ f : Nat → Value, f = fun c => if c = r + 1 then .slice (some ⟨g, 0, none⟩) (H.ss.length - (r + 1)) 0 else .slice (some ⟨g, (r + 1) * 2, none⟩) (H.ss.length - (r + 1)) (c - (r + 1)) := ⟨_, rfl⟩
    have hD : ∀ w', Below w.heap.size w w' → SlAt w' (f cap) (H.ss.length - (r + 1)) 2 ((lbCells H.ss).drop ((r + 1) * 2)) := fun w' hb => by
      rw [hf]
      dsimp only
      split
      · rename_i hq
        have := (sl_drop0 hRow hc2 hc1 (i := r + 1) (by omega) hq).below hb
        rwa [show cap - (r + 1) = 0 by omega] at this
      · exact (sl_drop hRow hc2 hc1 (i := r + 1) (by omega)).below hb
    rw [hf] at hD
    clear hz hat hbl hr h hsv hRow hc1 hf f e2
    by_cases hcap : cap = r + 1
    all_goals
      first | subst hcap | skip
      first | simp only [if_neg hcap] at hD | simp only [if_pos] at hD
      have HD := Lib.hid hD
      clear hD hc2
      go_enter Try.func54, Try.ntmps54
      go_wp2_with fail
      refine hB.out.mono ?_
      rintro e w1 ⟨rfl, hb1⟩
      have d1 : w1.cell? ⟨t, 2, none⟩ = _ := (hb1.cell (p := ⟨t, 2, none⟩) ht).trans c1
      have g1 : w1.frozen? ⟨t, 2, none⟩ = false := (hb1.frozen (p := ⟨t, 2, none⟩) ht).trans f1
      have HB1 := Lib.hid hb1
      clear hb1
      go_wp2_with fail
      refine (hK.out _).mono ?_
      rintro e w2 ⟨rfl, rfl⟩
      go_wp2_with fail
      have hA0 : Below w.heap.size w w1.drew := HB1.out.drew
      have ht1 : t < w1.heap.size := Nat.lt_of_lt_of_le ht HB1.out.size
      clear HB1
      go_region_law (first
            | (refine step_app2 rfl (.tmp 21) (.tmp 28) 35 rfl w.heap.size 78 i0 _ 2 24 Try.underlying35 hi0 hz0 hz1 hz2 rfl (by decide) _ 0 [] rfl (own_lit0a hA0.size) _ _ _ rfl (hT.out _ (below_alloc1 hA0 (Nat.le_refl _))) (fun u hu => one_lb _ u (List.mem_of_mem_take hu)) HM3.out HM4.out (Nat.le_refl _) (below_alloc1 hA0 (Nat.le_refl _)) (Nat.zero_add _) (List.nil_append _) (fun a1 k1 w3 ho1 hA1 hk1 => ?_); have d3 : w3.cell? ⟨t, 2, none⟩ = _ := (hA1.cell (p := ⟨t, 2, none⟩) ht).trans c1; have g3 : w3.frozen? ⟨t, 2, none⟩ = false := (hA1.frozen (p := ⟨t, 2, none⟩) ht).trans f1; clear hk1)
            | (refine step_app2 rfl (.tmp 29) (.tmp 37) 35 rfl w.heap.size 78 i0 _ 2 24 Try.underlying35 hi0 hz0 hz1 hz2 rfl (by decide) _ _ _ rfl ho1 _ _ _ rfl (HD.out _ hA1) (fun u hu => one_lb _ u (List.mem_of_mem_drop hu)) HM1.out HM2.out (Nat.le_refl _) hA1 HLE.out rfl (fun a2 k2 w4 ho2 hA2 hk2 => ?_); have d4 : w4.cell? ⟨t, 2, none⟩ = _ := (hA2.cell (p := ⟨t, 2, none⟩) ht).trans c1; have g4 : w4.frozen? ⟨t, 2, none⟩ = false := (hA2.frozen (p := ⟨t, 2, none⟩) ht).trans f1; clear hk2))
      all_goals
        have HA2 := Lib.hid hA2
        have HO2 := Lib.hid ho2
        clear hA1 ho1 hA2 ho2
        go_wp2_with fail
        go_ret
        rw [show cForget H name = 0 from E1.out, E2.out]
        exact mut_dropS HR.out HRK.out HA2.out HO2.out
  · have e1 : cForget H name = missE name (hasN name (snames H)) := rfl
    have e2 : mForget H name = H := if_neg hz
    have hz' := bneq_of hz
    rw [e1, e2]
    clear e1 e2 hz h
    go_enter Try.func54, Try.ntmps54
    go_wp2_with fail
    refine hB.out.mono ?_
    rintro e w1 ⟨rfl, hb1⟩
    have HB1 := Lib.hid hb1
    clear hb1
    go_wp2_with fail
    refine (hK.out _).mono ?_
    rintro e w2 ⟨rfl, rfl⟩
    go_wp2_with fail
    go_ret
    exact Mut.none HR.out HB1.out

end

end Go.Proofs.Ytalmfmijjbpnpaa
