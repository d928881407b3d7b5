/-
  Walks of Switch and Restore of the reference.
-/
import Derived.Test.YtalmfmijjbpnpaaLoZe
import Derived.Test.YtalmfmijjbpnpaaLoYb
namespace Go.Proofs.Ytalmfmijjbpnpaa
open Go.RowKit

section
variable {w : World} {t : Nat} {H : Hist} {m : View}

set_option maxRecDepth 100000 in
set_option maxHeartbeats 1000000 in
theorem refSwitch48 (h : Rep w 56 t H m) (hw : WF H) (name : ByteArray) (hnm : name.size ≤ maxLen) :
    Calls Try.prog 48 #[.pointer (some ⟨t, 0, none⟩), .string name] w (Mut (.int .i64 (cSwitch H name)) (mSwitch H name) 56 t m w) := by
  have hB := Lib.hid (refBranch79 h (by have := hw.b2; omega) name)
  have ht : t < w.heap.size := h.lt (.inl rfl)
  have c3 := h.cellT.2.2.2
  have f3 := h.frT 3
  have HR := Lib.hid h
  clear h
  have hK := Lib.hid (fun w' => known80 name (hasN name (bnames H)) hnm w')
  by_cases hz : missE name (hasN name (bnames H)) = 0
  · have e1 : cSwitch H name = 0 := hz
    have e2 : mSwitch H name = { H with cur := name } := if_pos hz
    rw [e1, e2]
    rw [hz] at hK
    clear e1 e2 hz
    go_enter Try.func48, Try.ntmps48
    go_wp2_with fail
    refine hB.out.mono ?_
    rintro e w1 ⟨rfl, hb1⟩
    have d3 : w1.cell? ⟨t, 3, none⟩ = some (.string H.cur) := (hb1.cell (p := ⟨t, _, none⟩) ht).trans c3
    have g3 : w1.frozen? ⟨t, 3, none⟩ = false := (hb1.frozen (p := ⟨t, _, none⟩) ht).trans f3
    have HB1 := Lib.hid hb1
    clear hb1
    go_wp2_with fail
    refine (hK.out _).mono ?_
    rintro e w2 ⟨rfl, rfl⟩
    go_wp2_with fail
    go_ret
    exact ⟨rfl, m, (HR.out.below HB1.out).change_cur name, (Fr.of_below HB1.out).setCell _ (fun _ => .inl rfl), fun _ h => .inl h⟩
  · have e1 : cSwitch H name = missE name (hasN name (bnames H)) := rfl
    have e2 : mSwitch H name = H := if_neg hz
    have hz' := bneq_of hz
    rw [e1, e2]
    clear e1 e2 hz
    go_enter Try.func48, Try.ntmps48
    go_wp2_with fail
    refine hB.out.mono ?_
    rintro e w1 ⟨rfl, hb1⟩
    have HB1 := Lib.hid hb1
    clear hb1
    go_wp2_with fail
    refine (hK.out _).mono ?_
    rintro e w2 ⟨rfl, rfl⟩
    go_wp2_with fail
    go_ret
    exact Mut.none HR.out HB1.out

set_option maxRecDepth 100000 in
set_option maxHeartbeats 1000000 in
theorem refRestore52 (h : Rep w 56 t H m) (hw : WF H) (name : ByteArray) (hnm : name.size ≤ maxLen) :
    Calls Try.prog 52 #[.pointer (some ⟨t, 0, none⟩), .string name] w (Mut (.int .i64 (cRest H name)) (mRest H name) 56 t m w) := by
  have hs2 := hw.s2
  have hB := Lib.hid (refSnapshot82 h (by omega) name)
  have hK := Lib.hid (fun w' => known80 name (hasN name (snames H)) hnm w')
  have ht : t < w.heap.size := h.lt (.inl rfl)
  by_cases hz : missE name (hasN name (snames H)) = 0
  · have e1 : cRest H name = cCommit H (snapRoot H name) := if_pos hz
    have e2 : mRest H name = mCommit H (snapRoot H name) := if_pos hz
    rw [e1, e2]
    rw [hz] at hK
    obtain ⟨_, hok⟩ := missE_zero hz
    have hrk : rank name (snames H) < H.ss.length := by
      unfold hasN at hok
      rw [decide_eq_true_eq] at hok
      have := (List.getElem?_eq_some_iff.1 hok).1
      simpa [snames] using this
    obtain ⟨gs, caps, hsv, hgs, hcs, hvl⟩ := snap_mem h hw hrk
    obtain ⟨g, cap, hvv, hcv1, hcv2, hgv, _, hver⟩ := ver_mem h hw
    have hcv := (hver _ hvl).2
    rw [show (H.vs.getD (H.ss.getD (rank name (snames H)) default).ver.toNat default).root = snapRoot H name from rfl] at hcv
    have c0 : w.cell? ⟨t, 0, none⟩ = some (.slice (some ⟨g, 0, none⟩) H.vs.length cap) := by rw [cell_of_blk h.blk, ← hvv]; rfl
    have c2 : w.cell? ⟨t, 2, none⟩ = some (.slice (some ⟨gs, 0, none⟩) H.ss.length caps) := by rw [cell_of_blk h.blk, ← hsv]; rfl
    obtain ⟨n, hn⟩ : ∃ n, n = (H.ss.getD (rank name (snames H)) default).ver.toNat := ⟨_, rfl⟩
    rw [← hn] at hcs hvl hcv
    obtain ⟨r, hr⟩ : ∃ r, r = rank name (snames H) := ⟨_, rfl⟩
    rw [← hr] at hcs hrk hB
    have hri : (r : Int) < H.ss.length := by omega
    have hni : (n : Int) < H.vs.length := by omega
    have HR := Lib.hid h
    have HW := Lib.hid hw
    clear e1 e2 hz h hw hver hsv hvv hn hr hok
    go_enter Try.func52, Try.ntmps52
    go_wp2_with fail
    refine hB.out.mono ?_
    rintro e w1 ⟨rfl, hb1⟩
    have HB2 := Lib.hid hb1
    clear hb1
    go_wp2_with fail
    refine (hK.out _).mono ?_
    rintro e w2 ⟨rfl, rfl⟩
    have d0 : w1.cell? ⟨t, 0, none⟩ = some (.slice (some ⟨g, 0, none⟩) H.vs.length cap) := (HB2.out.cell (p := ⟨t, 0, none⟩) ht).trans c0
    have d2 : w1.cell? ⟨t, 2, none⟩ = some (.slice (some ⟨gs, 0, none⟩) H.ss.length caps) := (HB2.out.cell (p := ⟨t, 2, none⟩) ht).trans c2
    have d3 : w1.cell? ⟨gs, r * 2 + 1, none⟩ = some (.int .i64 (n : Nat)) := (HB2.out.cell (p := ⟨gs, _, none⟩) hgs).trans hcs
    have d4 : w1.cell? ⟨g, n * 2 + 1, none⟩ = some (.int .i64 (snapRoot H name)) := (HB2.out.cell (p := ⟨g, _, none⟩) hgv).trans hcv
    have HC := Lib.hid (fun w3 (hb3 : Below w.heap.size w w3) => refCommit44 (HR.out.below hb3) HW.out (snapRoot H name))
    go_wp2_with fail
    go_region_with ((go_at_call 44; refine (HC.out _ (HB2.out.drew)).mono ?_; rintro e w3 ⟨rfl, hm3⟩; have HM := Lib.hid hm3; clear hm3))
    all_goals
      go_wp2_with fail
      go_ret
      exact Mut.after HB2.out.drew ⟨rfl, HM.out⟩
  · have e1 : cRest H name = missE name (hasN name (snames H)) := if_neg hz
    have e2 : mRest H name = H := if_neg hz
    have hz' := bneq_of hz
    rw [e1, e2]
    have HR := Lib.hid h
    clear e1 e2 hz h
    go_enter Try.func52, Try.ntmps52
    go_wp2_with fail
    refine hB.out.mono ?_
    rintro e w1 ⟨rfl, hb1⟩
    have HB1 := Lib.hid hb1
    clear hb1
    go_wp2_with fail
    refine (hK.out _).mono ?_
    rintro e w2 ⟨rfl, rfl⟩
    go_wp2_with fail
    go_ret
    exact Mut.none HR.out HB1.out

end

end Go.Proofs.Ytalmfmijjbpnpaa
