/-
  The walk of same: the program's timeline against the reference's.
-/
import Derived.Test.YtalmfmijjbpnpaaLoZn
namespace Go.Proofs.Ytalmfmijjbpnpaa
open Go.RowKit

section
variable {W0 Wd w : World} {D : Nat → Prop} {t u : Nat} {H : Hist}

set_option maxRecDepth 100000 in
set_option maxHeartbeats 2000000 in
theorem same26 (h : Tw W0 D Wd t u H H w) : Calls Try.prog 26 #[.pointer (some ⟨t, 0, none⟩), .pointer (some ⟨u, 0, none⟩)] w (TwR (.bool true) W0 D Wd t u H H) := by
  have HT := Lib.hid h
  obtain ⟨hw, _, m, m', hr, hr', _⟩ := h
  obtain ⟨a1, _, k1, e1, _⟩ := own_addr hr'.vs
  obtain ⟨a2, _, k2, e2, _⟩ := own_addr hr'.bs
  obtain ⟨a3, _, k3, e3, _⟩ := own_addr hr'.ss
  obtain ⟨c0, c1, c2, c3⟩ := hr'.cellT
  have hA := hr'.hAt
  rw [e1] at c0
  rw [e2] at c1
  rw [e3] at c2
  rw [e1, e2, e3] at hA
  have hu : u < w.heap.size := hr'.lt (.inl rfl)
  have hS : ∀ w', Below w.heap.size w w' → w'.cell? ⟨u, 0, none⟩ = some (.slice a1 H.vs.length k1) ∧ w'.cell? ⟨u, 1, none⟩ = some (.slice a2 m'.ml.length k2) ∧ w'.cell? ⟨u, 2, none⟩ = some (.slice a3 H.ss.length k3) ∧ w'.cell? ⟨u, 3, none⟩ = some (.string H.cur) ∧ Below w.heap.size w w' :=
    fun w' hb => ⟨(hb.cell (p := ⟨u, 0, none⟩) hu).trans c0, (hb.cell (p := ⟨u, 1, none⟩) hu).trans c1, (hb.cell (p := ⟨u, 2, none⟩) hu).trans c2, (hb.cell (p := ⟨u, 3, none⟩) hu).trans c3, hb⟩
  have HS := Lib.hid hS
  have h17 := Lib.hid (fun w' (hb : Below w.heap.size w w') => history17 (hr.below hb) hw)
  have h22 := Lib.hid (fun w' (hb : Below w.heap.size w w') (q : View) (b : Nat) (hq : RepV w' b H q) => by
    obtain ⟨l1, l2, l3, l4⟩ := lens_of hw hq.ml
    exact same22 hq.hAt (hA.below hb) l1 l2 l3 l4)
  have h13 := Lib.hid (fun w' (hb : Below w.heap.size w w') => head13 (hr.below hb) hw)
  have h56 := Lib.hid (fun w' (hb : Below w.heap.size w w') => refHead56 (hr'.below hb) hw)
  have h19 := Lib.hid (fun w' (hb : Below w.heap.size w w') => root19 (hr.below hb) hw)
  have h57 := Lib.hid (fun w' (hb : Below w.heap.size w w') => refRoot57 (hr'.below hb) hw)
  clear hr hr' hw c0 c1 c2 c3 hA e1 e2 e3 hS
  go_enter Try.func26, Try.ntmps26
  go_wp2_with fail
  go_region_held3 (fun w' => w'.cell? ⟨u, 0, none⟩ = some (.slice a1 H.vs.length k1) ∧ w'.cell? ⟨u, 1, none⟩ = some (.slice a2 m'.ml.length k2) ∧ w'.cell? ⟨u, 2, none⟩ = some (.slice a3 H.ss.length k3) ∧ w'.cell? ⟨u, 3, none⟩ = some (.string H.cur) ∧ Below w.heap.size w w')
    ((refine HS.out _ ?_; first | exact hbb | exact (Below.refl _ _).drew))
    (first
      | (go_at_call 17; rename_i hq _ _; refine (h17.out _ hq.2.2.2.2).mono ?_; rintro e wx ⟨q, rfl, hrv, hb⟩; obtain ⟨b1, d1, b2, d2, b3, d3, f1, f2, f3⟩ := hrv.forms; obtain ⟨v1, v2, v3, ml1⟩ := q; dsimp only at f1 f2 f3 ⊢; subst f1 f2 f3; have hbb : Below w.heap.size w wx := hq.2.2.2.2.trans (hb.mono hq.2.2.2.2.size); have HRV := Lib.hid hrv; clear hrv hb hq)
      | (go_at_call 22; refine (h22.out _ hbb _ _ HRV.out).mono ?_; rintro e wx ⟨rfl, hb⟩; have hn := hbb.trans (hb.mono hbb.size); clear hbb hb; have hbb := hn; clear hn)
      | (go_at_call 13; refine (h13.out _ hbb).mono ?_; rintro e wx ⟨rfl, hb⟩; have hn := hbb.trans (hb.mono hbb.size); clear hbb hb; have hbb := hn; clear hn)
      | (go_at_call 56; refine (h56.out _ hbb).mono ?_; rintro e wx ⟨rfl, hb⟩; have hn := hbb.trans (hb.mono hbb.size); clear hbb hb; have hbb := hn; clear hn)
      | (go_at_call 19; refine (h19.out _ hbb).mono ?_; rintro e wx ⟨rfl, hb⟩; have hn := hbb.trans (hb.mono hbb.size); clear hbb hb; have hbb := hn; clear hn)
      | (go_at_call 57; refine (h57.out _ hbb).mono ?_; rintro e wx ⟨rfl, hb⟩; have hn := hbb.trans (hb.mono hbb.size); clear hbb hb; have hbb := hn; clear hn))
  all_goals
    have HBB := Lib.hid hbb
    clear hbb HRV
    go_wp2_with fail
    go_ret
    exact ⟨rfl, HT.out.later HBB.out⟩

end

end Go.Proofs.Ytalmfmijjbpnpaa
