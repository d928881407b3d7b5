/-
  Restore of the program: the walk, and what it makes of a history.
-/
import Derived.Test.YtalmfmijjbpnpaaLoT
namespace Go.Proofs.Ytalmfmijjbpnpaa
open Go.RowKit

/-- The root of the version that a snapshot names. -/
def snapRoot (H : Hist) (name : ByteArray) : Int := (H.vs.getD (H.ss.getD (rank name (snames H)) default).ver.toNat default).root
def cRest (H : Hist) (name : ByteArray) : Int := if missE name (hasN name (snames H)) = 0 then cCommit H (snapRoot H name) else missE name (hasN name (snames H))
def mRest (H : Hist) (name : ByteArray) : Hist := if missE name (hasN name (snames H)) = 0 then mCommit H (snapRoot H name) else H

theorem missE_zero {name : ByteArray} {ok : Bool} (h : missE name ok = 0) : wordB name = true ∧ ok = true := by
  unfold missE at h
  split at h
  · rename_i hw
    split at h
    · rename_i ho; exact ⟨hw, ho⟩
    · cases h
  · cases h

theorem wf_rest {H : Hist} (hw : WF H) (name : ByteArray) : WF (mRest H name) := by
  unfold mRest
  split
  · exact wf_commit hw _
  · exact hw

section
variable {w : World} {T t : Nat} {H : Hist} {m : View}

theorem Mut.after {w1 : World} {v : Value} {H' : Hist} {e : Ending} {w' : World} (hb : Below w.heap.size w w1) (h : Mut v H' T t m w1 e w') : Mut v H' T t m w e w' := by
  obtain ⟨he, m', hr', hf, ho⟩ := h
  refine ⟨he, m', hr', (Fr.of_below hb).trans hf (fun _ _ e => e), fun k hk => ?_⟩
  rcases ho k hk with h | h
  · exact .inl h
  · exact .inr (Nat.le_trans hb.size h)

/-- The cells of a snapshot that is there. -/
theorem snap_mem (h : Rep w T t H m) (hw : WF H) {i : Nat} (hi : i < H.ss.length) : ∃ (g cap : Nat), m.sv = .slice (some ⟨g, 0, none⟩) H.ss.length cap ∧ g < w.heap.size ∧
    w.cell? ⟨g, i * 2 + 1, none⟩ = some (.int .i64 ((H.ss.getD i default).ver.toNat : Nat)) ∧ (H.ss.getD i default).ver.toNat < H.vs.length := by
  obtain ⟨g, cap, hsv, hc1, hc2, hg⟩ := own_form h.ss (by omega)
  have hown := h.ss
  rw [hsv] at hown
  have hx : H.ss[i]? = some (H.ss.getD i default) := by rw [List.getD_eq_getElem?_getD, List.getElem?_eq_getElem hi]; rfl
  have hv := hw.sv _ (List.mem_of_getElem? hx)
  have hc := own_cell hown (lbCells_get H.ss i _ hx).2
  refine ⟨g, cap, hsv, hg, ?_, by omega⟩
  rw [hc, Int.toNat_of_nonneg hv.1]

set_option maxRecDepth 100000 in
set_option maxHeartbeats 1000000 in
theorem restore21 (h : Rep w 67 t H m) (hw : WF H) (name : ByteArray) (hnm : name.size ≤ maxLen) :
    Calls Try.prog 21 #[.pointer (some ⟨t, 0, none⟩), .string name] w (Mut (.int .i64 (cRest H name)) (mRest H name) 67 t m w) := by
  have hs2 := hw.s2
  have hB := Lib.hid (missing36 38 (.inr rfl) _ name hnm _ _ (snapshot38 h hw.sn (by omega) name))
  have ht : t < w.heap.size := h.lt (.inl rfl)
  by_cases hz : missE name (hasN name (snames H)) = 0
  · have e1 : cRest H name = cCommit H (snapRoot H name) := if_pos hz
    have e2 : mRest H name = mCommit H (snapRoot H name) := if_pos hz
    rw [e1, e2]
    rw [hz] at hB
    obtain ⟨_, hok⟩ := missE_zero hz
    have hrk : rank name (snames H) < H.ss.length := by
      unfold hasN at hok
      rw [decide_eq_true_eq] at hok
      have := (List.getElem?_eq_some_iff.1 hok).1
      simpa [snames] using this
    obtain ⟨gs, caps, hsv, hgs, hcs, hvl⟩ := snap_mem h hw hrk
    obtain ⟨g, cap, hvv, hcv1, hcv2, hgv, _, hver⟩ := ver_mem h hw
    have hcv := (hver _ hvl).2
    rw [show (H.vs.getD (H.ss.getD (rank name (snames H)) default).ver.toNat default).root = snapRoot H name from rfl] at hcv
    have c0 : w.cell? ⟨t, 0, none⟩ = some (.slice (some ⟨g, 0, none⟩) H.vs.length cap) := by rw [cell_of_blk h.blk, ← hvv]; rfl
    have c2 : w.cell? ⟨t, 2, none⟩ = some (.slice (some ⟨gs, 0, none⟩) H.ss.length caps) := by rw [cell_of_blk h.blk, ← hsv]; rfl
    obtain ⟨n, hn⟩ : ∃ n, n = (H.ss.getD (rank name (snames H)) default).ver.toNat := ⟨_, rfl⟩
    rw [← hn] at hcs hvl hcv
    obtain ⟨r, hr⟩ : ∃ r, r = rank name (snames H) := ⟨_, rfl⟩
    rw [← hr] at hcs hrk
    have hS := Lib.hid (fun w1 (hb1 : Below w.heap.size w w1) => snapshot38 (h.below hb1) hw.sn (by omega) name)
    rw [← hr] at hS
    have hri : (r : Int) < H.ss.length := by omega
    have hni : (n : Int) < H.vs.length := by omega
    have HR := Lib.hid h
    have HW := Lib.hid hw
    clear e1 e2 hz h hw hver hsv hvv hn hr hok
    go_enter Try.func21, Try.ntmps21
    go_wp2_with fail
    refine hB.out.mono ?_
    rintro e w1 ⟨rfl, hb1⟩
    have HB1 := Lib.hid hb1
    clear hb1
    go_wp2_with fail
    refine (hS.out _ HB1.out).mono ?_
    rintro e w2 ⟨rfl, hb2⟩
    have HB2 := Lib.hid (HB1.out.trans (hb2.mono HB1.out.size))
    clear hb2
    have d0 : w2.cell? ⟨t, 0, none⟩ = some (.slice (some ⟨g, 0, none⟩) H.vs.length cap) := (HB2.out.cell (p := ⟨t, 0, none⟩) ht).trans c0
    have d2 : w2.cell? ⟨t, 2, none⟩ = some (.slice (some ⟨gs, 0, none⟩) H.ss.length caps) := (HB2.out.cell (p := ⟨t, 2, none⟩) ht).trans c2
    have d3 : w2.cell? ⟨gs, r * 2 + 1, none⟩ = some (.int .i64 (n : Nat)) := (HB2.out.cell (p := ⟨gs, _, none⟩) hgs).trans hcs
    have d4 : w2.cell? ⟨g, n * 2 + 1, none⟩ = some (.int .i64 (snapRoot H name)) := (HB2.out.cell (p := ⟨g, _, none⟩) hgv).trans hcv
    have HC := Lib.hid (fun w3 (hb3 : Below w.heap.size w w3) => commit11 (HR.out.below hb3) HW.out (snapRoot H name))
    go_wp2_with fail
    go_region_with ((go_at_call 11; refine (HC.out _ (HB2.out.drew)).mono ?_; rintro e w3 ⟨rfl, hm3⟩; have HM := Lib.hid hm3; clear hm3))
    all_goals
      go_wp2_with fail
      go_ret
      exact Mut.after HB2.out.drew ⟨rfl, HM.out⟩
  · have e1 : cRest H name = missE name (hasN name (snames H)) := if_neg hz
    have e2 : mRest H name = H := if_neg hz
    have hz' := bneq_of hz
    rw [e1, e2]
    have HR := Lib.hid h
    clear e1 e2 hz h
    go_enter Try.func21, Try.ntmps21
    go_wp2_with fail
    refine hB.out.mono ?_
    rintro e w1 ⟨rfl, hb1⟩
    have HB1 := Lib.hid hb1
    clear hb1
    go_wp2_with fail
    go_ret
    exact Mut.none HR.out HB1.out

end

end Go.Proofs.Ytalmfmijjbpnpaa
