/-
  Walks of line, Head and Root of the reference.
-/
import Derived.Test.YtalmfmijjbpnpaaLoZb
namespace Go.Proofs.Ytalmfmijjbpnpaa
open Go.RowKit

section
variable {w : World} {t : Nat} {H : Hist} {m : View}

set_option maxHeartbeats 400000 in
theorem refLine78 (h : Rep w 56 t H m) (hb : H.bs.length ≤ 1000) : Calls Try.prog 78 #[.pointer (some ⟨t, 0, none⟩)] w (Quiet (.int .i64 (ci H)) w) := by
  have hB := Lib.hid (refBranch79 h hb H.cur)
  have c3 : w.cell? ⟨t, 3, none⟩ = some (.string H.cur) := by rw [cell_of_blk h.blk]; rfl
  clear h
  go_enter Try.func78, Try.ntmps78
  go_wp2_with fail
  refine hB.out.mono ?_
  rintro e w1 ⟨rfl, hb1⟩
  have HB1 := Lib.hid hb1
  clear hb1
  go_wp2_with fail
  go_ret
  exact ⟨rfl, HB1.out⟩

set_option maxHeartbeats 1000000 in
theorem refHead56 (h : Rep w 56 t H m) (hw : WF H) : Calls Try.prog 56 #[.pointer (some ⟨t, 0, none⟩)] w (Quiet (.int .i64 (hdN H)) w) := by
  obtain ⟨g, cap, rv, hbv, hlen, hcap, hml, k0, k1, k2, hg, hgt, hrow⟩ := cur_mem h hw
  rw [(hd_eq hw).1] at k1
  have hci : ci H < m.ml.length := (List.getElem?_eq_some_iff.1 hml).1
  have hl1 : (ci H : Int) < m.ml.length := by omega
  have hl0 : (0 : Int) ≤ ci H := by omega
  have c1 : w.cell? ⟨t, 1, none⟩ = some (.slice (some ⟨g, 0, none⟩) m.ml.length cap) := by rw [cell_of_blk h.blk, ← hbv]; rfl
  have ht : t < w.heap.size := h.lt (.inl rfl)
  have HR := Lib.hid h
  have HW := Lib.hid hw
  clear hml hbv hrow k0 k2 h hw hlen
  go_enter Try.func56, Try.ntmps56
  go_wp2_with fail
  go_region_held3 (fun w' => w'.cell? ⟨t, 1, none⟩ = some (.slice (some ⟨g, 0, none⟩) m.ml.length cap) ∧ w'.cell? ⟨g, ci H * 3 + 1, none⟩ = some (.int .i64 (hdN H)) ∧ Below w.heap.size w w')
    (first | (exact ⟨c1, k1, (Below.refl _ _).drew⟩) | (exact ⟨(hb1.cell (p := ⟨t, 1, none⟩) ht).trans c1, (hb1.cell (p := ⟨g, _, none⟩) hg).trans k1, ((Below.refl _ _).drew).trans (hb1.mono (Nat.le_refl w.heap.size))⟩))
    ((go_at_call 78; refine (refLine78 (HR.out.below ((Below.refl _ _).drew)) (by have := HW.out.b2; omega)).mono ?_; rintro e w1 ⟨rfl, hb1⟩))
  go_wp2
  go_ret
  exact ⟨rfl, ((Below.refl _ _).drew).trans (hb1.mono (Nat.le_refl w.heap.size))⟩

set_option maxHeartbeats 1000000 in
theorem refRoot57 (h : Rep w 56 t H m) (hw : WF H) : Calls Try.prog 57 #[.pointer (some ⟨t, 0, none⟩)] w (Quiet (.int .i64 (rootOf H)) w) := by
  obtain ⟨g, cap, hvv, hc1, hc2, hg, hgt, hver⟩ := ver_mem h hw
  have hlt := (hd_eq hw).2
  have k1 := (hver (hdN H) hlt).2
  have c0 : w.cell? ⟨t, 0, none⟩ = some (.slice (some ⟨g, 0, none⟩) H.vs.length cap) := by rw [cell_of_blk h.blk, ← hvv]; rfl
  have hroot : (H.vs.getD (hdN H) default).root = rootOf H := rfl
  rw [hroot] at k1
  have hl1 : (hdN H : Int) < H.vs.length := by omega
  have hl0 : (0 : Int) ≤ hdN H := by omega
  have ht : t < w.heap.size := h.lt (.inl rfl)
  clear hver hroot hlt hvv
  have HR := Lib.hid h
  have HW := Lib.hid hw
  clear h hw
  go_enter Try.func57, Try.ntmps57
  go_wp2_with fail
  go_region_held3 (fun w' => w'.cell? ⟨t, 0, none⟩ = some (.slice (some ⟨g, 0, none⟩) H.vs.length cap) ∧ w'.cell? ⟨g, hdN H * 2 + 1, none⟩ = some (.int .i64 (rootOf H)) ∧ Below w.heap.size w w')
    (first | (exact ⟨c0, k1, (Below.refl _ _).drew⟩) | (exact ⟨(hb1.cell (p := ⟨t, 0, none⟩) ht).trans c0, (hb1.cell (p := ⟨g, _, none⟩) hg).trans k1, ((Below.refl _ _).drew).trans (hb1.mono (Nat.le_refl w.heap.size))⟩))
    ((go_at_call 56; refine (refHead56 (HR.out.below ((Below.refl _ _).drew)) HW.out).mono ?_; rintro e w1 ⟨rfl, hb1⟩))
  go_wp2
  go_ret
  exact ⟨rfl, ((Below.refl _ _).drew).trans (hb1.mono (Nat.le_refl w.heap.size))⟩

end

end Go.Proofs.Ytalmfmijjbpnpaa
