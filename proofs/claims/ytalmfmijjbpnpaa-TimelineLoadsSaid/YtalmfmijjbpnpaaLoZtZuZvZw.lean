/-
  Walks of leads and ordered: what a valid history is made of.
-/
import Derived.Test.YtalmfmijjbpnpaaLoYd
import Derived.Deep.LoopGhost
import Derived.Deep.QuietTactic
import Derived.BigQuiet
import Derived.Deep.RegionHeld3
namespace Go.Proofs.Ytalmfmijjbpnpaa
open Go.RowKit

/-- The call returns a bool that says whether P; nothing that was there has changed. -/
def BoolP (P : Prop) (w : World) (e : Ending) (w' : World) : Prop := ∃ b : Bool, e = .returned (.bool b) ∧ (b = true ↔ P) ∧ Below w.heap.size w w'

theorem below_drewN' {B : Nat} {w w' : World} (h : Below B w w') (n : Nat) : Below B w (w'.drewN n) := ⟨h.os, h.tape, h.output, h.size, h.block⟩

/-- The versions to redo lead on from a head that is there. -/
def LeadOk (vs : List Ver) (hd : Int) (rd : List Int) : Prop := (0 ≤ hd ∧ hd < vs.length) ∧ leadsR vs hd rd.reverse

section
variable {w : World}

set_option maxHeartbeats 400000 in
theorem exists84_yes {B n c : Nat} {a : Option Addr} {v : Int} (hc : w.cell? ⟨B, 0, none⟩ = some (.slice a n c)) (h0 : 0 ≤ v) (h1 : v < n) :
    Calls Try.prog 84 #[.int .i64 v, .pointer (some ⟨B, 0, none⟩)] w (Pure0 (.bool true) w) := by
  go_enter Try.func84, Try.ntmps84
  go_wp2_with fail
  go_ret
  exact ⟨rfl, rfl⟩
set_option maxHeartbeats 400000 in
theorem exists84_no {B n c : Nat} {a : Option Addr} {v : Int} (hc : w.cell? ⟨B, 0, none⟩ = some (.slice a n c)) (h : ¬ (0 ≤ v ∧ v < n)) :
    Calls Try.prog 84 #[.int .i64 v, .pointer (some ⟨B, 0, none⟩)] w (Pure0 (.bool false) w) := by
  by_cases h0 : 0 ≤ v
  · have h1 : ¬ v < n := fun e => h ⟨h0, e⟩
    clear h
    go_enter Try.func84, Try.ntmps84
    go_wp2_with fail
    go_ret
    exact ⟨rfl, rfl⟩
  · clear h
    go_enter Try.func84, Try.ntmps84
    go_wp2_with fail
    go_ret
    exact ⟨rfl, rfl⟩

theorem take_rev {l : List Int} {k : Nat} {r : Int} (h : l[k]? = some r) : (l.take (k + 1)).reverse = r :: (l.take k).reverse := by
  have hl := (List.getElem?_eq_some_iff.1 h)
  obtain ⟨hk, e⟩ := hl
  rw [List.take_succ_eq_append_getElem hk, List.reverse_append, e]
  rfl

set_option maxRecDepth 100000 in
set_option maxHeartbeats 2000000 in
theorem leads58 {vs : List Ver} {av a2 a3 ar : Option Addr} {cv n2 c2 n3 c3 cr : Nat} {cur nm : ByteArray} {hd : Int} {rd : List Int} (hv : SlAt w (.slice av vs.length cv) vs.length 2 (verCells vs)) (hr : SlAt w (.slice ar rd.length cr) rd.length 1 (intCells rd))
    (hn : vs.length ≤ 100000) (hm : rd.length ≤ 100000) :
    Calls Try.prog 58 #[.agg #[.slice av vs.length cv, .slice a2 n2 c2, .slice a3 n3 c3, .string cur], .agg #[.string nm, .int .i64 hd, .slice ar rd.length cr]] w (BoolP (LeadOk vs hd rd) w) := by
  obtain ⟨_, _, xv, e1, hav, hcv⟩ := hv.form
  cases e1
  obtain ⟨_, _, xr, e2, har, hcr⟩ := hr.form
  cases e2
  have HAV := Lib.hid hav
  have HCV := Lib.hid hcv
  have HAR := Lib.hid har
  have HCR := Lib.hid hcr
  clear hav hcv har hcr hv hr
  obtain ⟨W0, hW0⟩ : ∃ W, W = (w.alloc (.cells #[.slice av vs.length cv, .slice a2 n2 c2, .slice a3 n3 c3, .string cur] 37)).alloc (.cells #[.string nm, .int .i64 hd, .slice ar rd.length cr] 65) := ⟨_, rfl⟩
  have hb0 : Below w.heap.size w W0 := by rw [hW0]; exact ((Below.refl _ _).alloc (Nat.le_refl _) _).alloc (by simp) _
  have hbh : W0.heap[w.heap.size]? = some (.cells #[.slice av vs.length cv, .slice a2 n2 c2, .slice a3 n3 c3, .string cur] 37 (0, 0)) := by rw [hW0, Below.heap_alloc _ _ _ (by simp)]; exact heap_alloc_new w _
  have hrh : W0.heap[w.heap.size + 1]? = some (.cells #[.string nm, .int .i64 hd, .slice ar rd.length cr] 65 (0, 0)) := by rw [hW0]; have := heap_alloc_new (w.alloc (Obj.cells #[.slice av vs.length cv, .slice a2 n2 c2, .slice a3 n3 c3, .string cur] 37)) (Obj.cells #[.string nm, .int .i64 hd, .slice ar rd.length cr] 65); simpa using this
  have hl0 : w.heap.size < W0.heap.size := (Array.getElem?_eq_some_iff.1 hbh).1
  have hl1 : w.heap.size + 1 < W0.heap.size := (Array.getElem?_eq_some_iff.1 hrh).1
  have e0 : W0.cell? ⟨w.heap.size, 0, none⟩ = some (.slice av vs.length cv) := by rw [cell_of_blk hbh]; rfl
  have e1 : W0.cell? ⟨w.heap.size + 1, 1, none⟩ = some (.int .i64 hd) := by rw [cell_of_blk hrh]; rfl
  have e2 : W0.cell? ⟨w.heap.size + 1, 2, none⟩ = some (.slice ar rd.length cr) := by rw [cell_of_blk hrh]; rfl
  have hG : ∀ wr, Below W0.heap.size W0 wr → wr.cell? ⟨w.heap.size, 0, none⟩ = some (.slice av vs.length cv) ∧ wr.cell? ⟨w.heap.size + 1, 1, none⟩ = some (.int .i64 hd) ∧ wr.cell? ⟨w.heap.size + 1, 2, none⟩ = some (.slice ar rd.length cr) := fun wr hb =>
    ⟨(hb.cell (p := ⟨w.heap.size, 0, none⟩) hl0).trans e0, (hb.cell (p := ⟨w.heap.size + 1, 1, none⟩) hl1).trans e1, (hb.cell (p := ⟨w.heap.size + 1, 2, none⟩) hl1).trans e2⟩
  have hR : ∀ wr, Below W0.heap.size W0 wr → ∀ (p : Addr) (u : Value), p.block < w.heap.size ∧ w.cell? p = some u → wr.cell? p = some u := fun wr hb p u hu =>
    (hb.cell (Nat.lt_of_lt_of_le hu.1 hb0.size)).trans ((hb0.cell hu.1).trans hu.2)
  have HG := Lib.hid hG
  have HRR := Lib.hid hR
  have HB0 := Lib.hid hb0
  have HW0 := Lib.hid hW0
  clear hb0 hbh hrh hW0 hG hR hl0 hl1
  by_cases hh : 0 ≤ hd ∧ hd < vs.length
  · have HE := Lib.hid (exists84_yes e0 hh.1 hh.2)
    have HH := Lib.hid hh
    clear hh
    go_enter Try.func58, Try.ntmps58
    go_wp2_with fail
    rw [← HW0.out]
    refine HE.out.mono ?_
    rintro e w1 ⟨rfl, rfl⟩
    clear HW0 HE
    go_wp2_with fail
    go_loopg [6, 7] (rd.length + 1) (fun g atv iv wr => ∃ (k : Nat) (a iz : Int), g = k + 1 ∧ k ≤ rd.length ∧ iz = (k : Int) - 1 ∧ atv = .int .i64 a ∧ iv = .int .i64 iz ∧ (leadsR vs hd rd.reverse ↔ leadsR vs a (rd.take k).reverse) ∧ Below W0.heap.size W0 wr)
    case atStart => exact ⟨rd.length, hd, _, rfl, Nat.le_refl _, rfl, rfl, rfl, by rw [List.take_length], Below.refl _ _⟩
    case round =>
      obtain ⟨k, a, iz, hg, hk, hiz, rfl, rfl, hch, hb⟩ := hrel
      obtain ⟨g1, g2, g3⟩ := HG.out _ hb
      have HB := Lib.hid hb
      have HCH := Lib.hid hch
      have HGK := Lib.hid hg
      clear hb hch e0 e1 e2 hg
      cases k with
      | zero =>
        obtain rfl : iz = -1 := by omega
        clear hiz
        go_wp2_with fail
        go_ret
        exact ⟨true, rfl, by simp; exact ⟨HH.out, HCH.out.2 (by simp [leadsR])⟩, HB0.out.trans (HB.out.mono HB0.out.size)⟩
      | succ k' =>
        obtain rfl : iz = (k' : Int) := by omega
        have hlt : k' < rd.length := by omega
        obtain rfl := HAR.out (by omega)
        have hx : rd[k']? = some (rd[k']'hlt) := List.getElem?_eq_getElem hlt
        obtain ⟨r, hr⟩ : ∃ r, r = rd[k']'hlt := ⟨_, rfl⟩
        rw [← hr] at hx
        have q1 := HRR.out _ HB.out _ _ (HCR.out _ _ (intCells_get hx))
        have hch := HCH.out
        rw [take_rev hx] at hch
        have HCH2 := Lib.hid hch
        have hlt' : (k' : Int) < rd.length := by omega
        have hk0 : (0 : Int) ≤ k' := by omega
        clear hch hx hr hiz
        by_cases hin : 0 ≤ r ∧ r < vs.length
        · obtain ⟨rn, hrn⟩ : ∃ rn : Nat, r = rn := ⟨r.toNat, by omega⟩
          subst hrn
          have hrl : rn < vs.length := by omega
          obtain rfl := HAV.out (by omega)
          have hvx := verCells_get vs rn _ (List.getElem?_eq_getElem hrl)
          have q2 := HRR.out _ HB.out _ _ (HCV.out _ _ hvx.1)
          have hpe : (vs[rn]'hrl).par = (vs.getD rn default).par := by rw [List.getD_eq_getElem?_getD, List.getElem?_eq_getElem hrl]; rfl
          rw [hpe] at q2
          obtain ⟨p, hp⟩ : ∃ p, p = (vs.getD rn default).par := ⟨_, rfl⟩
          rw [← hp] at q2
          have HP := Lib.hid hp
          have hr1 : (rn : Int) < vs.length := by omega
          have hr0 : (0 : Int) ≤ rn := by omega
          have hHS : ∀ w', Below W0.heap.size W0 w' → w'.cell? (xr.add k') = some (.int .i64 rn) → w'.cell? (xv.add (rn * 2)) = some (.int .i64 p) → (w'.cell? ⟨w.heap.size, 0, none⟩ = some (.slice (some xv) vs.length cv) ∧ w'.cell? ⟨w.heap.size + 1, 2, none⟩ = some (.slice (some xr) rd.length cr) ∧ w'.cell? (xr.add k') = some (.int .i64 rn) ∧ w'.cell? (xv.add (rn * 2)) = some (.int .i64 p)) := fun w' hb h1 h2 => ⟨(HG.out _ hb).1, (HG.out _ hb).2.2, h1, h2⟩
          have hS0 := hHS wr HB.out q1 q2
          clear hvx hpe hp hin hHS g1 g2 g3 q1 q2
          by_cases hpa : p = a
          · have hpa' : (p == a) = true := by simp [hpa]
            have hpb : (p != a) = false := by simp [hpa]
            have HPA := Lib.hid hpa
            clear hpa
            go_wp2_with fail
            go_region_held3 (fun w' => w'.cell? ⟨w.heap.size, 0, none⟩ = some (.slice (some xv) vs.length cv) ∧ w'.cell? ⟨w.heap.size + 1, 2, none⟩ = some (.slice (some xr) rd.length cr) ∧ w'.cell? (xr.add k') = some (.int .i64 rn) ∧ w'.cell? (xv.add (rn * 2)) = some (.int .i64 p))
              (first | exact hS0 | exact hq)
              ((go_at_call 84; rename_i hq _ _; refine (exists84_yes hq.1 hr0 hr1).mono ?_; rintro e wx ⟨rfl, rfl⟩))
            all_goals
              clear hq hS0
              go_wp2_with fail
              go_roundg (k' + 1)
              case measure => have := HGK.out; omega
              case rel => exact ⟨k', (rn : Int), (k' : Int) - 1, rfl, by omega, rfl, rfl, by go_num, HCH2.out.trans ⟨fun h => h.2.2.2, fun h => ⟨hr0, hr1, by show (vs.getD rn default).par = a; rw [← HP.out]; exact HPA.out, h⟩⟩, HB.out.drew⟩
          · have hpa' : (p == a) = false := by simp [hpa]
            have hpb : (p != a) = true := by simp [hpa]
            have HPA := Lib.hid hpa
            clear hpa
            go_wp2_with fail
            go_region_held3 (fun w' => w'.cell? ⟨w.heap.size, 0, none⟩ = some (.slice (some xv) vs.length cv) ∧ w'.cell? ⟨w.heap.size + 1, 2, none⟩ = some (.slice (some xr) rd.length cr) ∧ w'.cell? (xr.add k') = some (.int .i64 rn) ∧ w'.cell? (xv.add (rn * 2)) = some (.int .i64 p))
              (first | exact hS0 | exact hq)
              ((go_at_call 84; rename_i hq _ _; refine (exists84_yes hq.1 hr0 hr1).mono ?_; rintro e wx ⟨rfl, rfl⟩))
            all_goals
              clear hq hS0
              go_wp2_with fail
              go_ret
              exact ⟨false, rfl, by simp; exact fun h => HPA.out (by rw [HP.out]; exact (HCH2.out.1 h.2).2.2.1), HB0.out.trans (HB.out.drew.mono HB0.out.size)⟩
        · have HIN := Lib.hid hin
          have HE := Lib.hid (fun n : Nat => exists84_no (w := wr.drewN n) g1 hin)
          clear g2 hin
          go_wp2_with fail
          go_quiet ((go_at_call 84; exact Calls.quiet_of_same ((HE.out _).mono (fun _ _ h => ⟨h.1, h.2.symm⟩))))
          go_wp2_with fail
          go_ret
          exact ⟨false, rfl, by simp; exact fun h => HIN.out ⟨(HCH2.out.1 h.2).1, (HCH2.out.1 h.2).2.1⟩, HB0.out.trans ((below_drewN' HB.out _).mono HB0.out.size)⟩
  · have HE := Lib.hid (exists84_no e0 hh)
    have HH := Lib.hid hh
    clear hh
    go_enter Try.func58, Try.ntmps58
    go_wp2_with fail
    rw [← HW0.out]
    refine HE.out.mono ?_
    rintro e w1 ⟨rfl, rfl⟩
    clear HW0 HE
    go_wp2_with fail
    go_ret
    exact ⟨false, rfl, by simp; exact fun h => HH.out h.1, HB0.out⟩
end

end Go.Proofs.Ytalmfmijjbpnpaa
/-
  The walk of ordered: names that are words in ascending order.
-/
namespace Go.Proofs.Ytalmfmijjbpnpaa
open Go.RowKit

/-- Names that are words, in ascending order. -/
def OrdN (l : List ByteArray) : Prop := (∀ x ∈ l, wordB x = true) ∧ SortedN l

theorem ordN_nil : OrdN [] := ⟨by simp, List.Pairwise.nil⟩
theorem ordN_take {l : List ByteArray} (h : OrdN l) (k : Nat) : OrdN (l.take k) := ⟨fun x hx => h.1 x (List.mem_of_mem_take hx), List.Pairwise.sublist (List.take_sublist _ _) h.2⟩
theorem take_snoc' {α : Type} {l : List α} {k : Nat} {x : α} (h : l[k]? = some x) : l.take (k + 1) = l.take k ++ [x] := by
  obtain ⟨hk, e⟩ := List.getElem?_eq_some_iff.1 h
  rw [List.take_succ_eq_append_getElem hk, e]
theorem ordN_step0 {l : List ByteArray} {x : ByteArray} (hx : l[0]? = some x) (hw : wordB x = true) : OrdN (l.take 1) := by
  rw [take_snoc' hx]
  exact ⟨by simpa using hw, List.pairwise_singleton _ _⟩
theorem ordN_step {l : List ByteArray} {k : Nat} {p x : ByteArray} (h : OrdN (l.take (k + 1))) (hp : l[k]? = some p) (hx : l[k + 1]? = some x) (hw : wordB x = true) (hl : ltN p x = true) : OrdN (l.take (k + 1 + 1)) := by
  rw [take_snoc' hx]
  refine ⟨fun y hy => ?_, ?_⟩
  · rcases List.mem_append.1 hy with hy | hy
    · exact h.1 y hy
    · obtain rfl : y = x := by simpa using hy
      exact hw
  · refine List.pairwise_append.2 ⟨h.2, List.pairwise_singleton _ _, fun a ha b hb => ?_⟩
    obtain rfl : b = x := by simpa using hb
    have hs := h.2
    rw [take_snoc' hp] at ha hs
    rcases List.mem_append.1 ha with ha | ha
    · exact ltN_trans ((List.pairwise_append.1 hs).2.2 a ha p (by simp)) hl
    · obtain rfl : a = p := by simpa using ha
      exact hl
theorem ordN_word {l : List ByteArray} {k : Nat} {x : ByteArray} (h : OrdN l) (hx : l[k]? = some x) : wordB x = true := h.1 x (List.mem_of_getElem? hx)
theorem ordN_lt {l : List ByteArray} {k : Nat} {p x : ByteArray} (h : OrdN l) (hp : l[k]? = some p) (hx : l[k + 1]? = some x) : ltN p x = true := by
  obtain ⟨h1, e1⟩ := List.getElem?_eq_some_iff.1 hp
  obtain ⟨h2, e2⟩ := List.getElem?_eq_some_iff.1 hx
  have := List.pairwise_iff_getElem.1 h.2 k (k + 1) h1 h2 (by omega)
  rwa [e1, e2] at this

section
variable {w : World}

theorem boolP_true {P : Prop} {w' : World} (h : P) (hb : Below w.heap.size w w') : BoolP P w (.returned (.bool true)) w' := ⟨true, rfl, by simp [h], hb⟩
theorem boolP_false {P : Prop} {w' : World} (h : ¬ P) (hb : Below w.heap.size w w') : BoolP P w (.returned (.bool false)) w' := ⟨false, rfl, by simp [h], hb⟩

set_option maxRecDepth 100000 in
set_option maxHeartbeats 2000000 in
theorem ordered59 (f : Nat) (hff : f = 60 ∨ f = 61) (p : Value) (nms : List ByteArray) (hn : nms.length ≤ 100000) (hsz : ∀ x ∈ nms, x.size ≤ maxLen)
    (hf : ∀ w', Below w.heap.size w w' → ∀ (i : Nat) (nm : ByteArray), nms[i]? = some nm → Calls Try.prog f #[.int .i64 i, p] w' (Pure0 (.string nm) w')) :
    Calls Try.prog 59 #[.int .i64 nms.length, .func (.func f) #[] #[p]] w (BoolP (OrdN nms) w) := by
  rcases hff with rfl | rfl
  all_goals
    have HF := Lib.hid hf
    have HSZ := Lib.hid hsz
    clear hf hsz
    go_enter Try.func59, Try.ntmps59
    go_wp2_with fail
    go_loopw [7] (fun iv wr => ∃ k : Nat, k ≤ nms.length ∧ iv = .int .i64 k ∧ OrdN (nms.take k) ∧ Below w.heap.size w wr) (fun i _ => nms.length - (intOf i).toNat)
    case atStart => exact ⟨0, Nat.zero_le _, rfl, ordN_nil, Below.refl _ _⟩
    case round =>
      obtain ⟨k, hk, rfl, ho, hb⟩ := hrel
      have HB := Lib.hid hb
      have HO := Lib.hid ho
      clear hb ho
      by_cases hlt : k < nms.length
      · have hx : nms[k]? = some (nms[k]'hlt) := List.getElem?_eq_getElem hlt
        obtain ⟨x, hxe⟩ : ∃ x, x = nms[k]'hlt := ⟨_, rfl⟩
        rw [← hxe] at hx
        have HX := Lib.hid hx
        have HF1 := Lib.hid (HF.out wr HB.out k x hx)
        have hW := lexWord_any x (HSZ.out x (List.mem_of_getElem? hx)) wr
        have hlt' : (k : Int) < nms.length := by omega
        clear hx hxe
        cases hwx : wordB x
        · rw [hwx] at hW
          have HW := Lib.hid hW
          have HWX := Lib.hid hwx
          clear hW hwx
          go_wp2_with fail
          refine HF1.out.mono ?_
          rintro e w1 ⟨rfl, rfl⟩
          go_wp2_with fail
          refine HW.out.mono ?_
          rintro e w1 ⟨rfl, rfl⟩
          go_wp2_with fail
          go_ret
          exact boolP_false (fun h => by have := ordN_word h HX.out; rw [HWX.out] at this; cases this) HB.out
        · rw [hwx] at hW
          have HW := Lib.hid hW
          have HWX := Lib.hid hwx
          clear hW hwx
          cases k with
          | zero =>
            go_wp2_with fail
            refine HF1.out.mono ?_
            rintro e w1 ⟨rfl, rfl⟩
            go_wp2_with fail
            refine HW.out.mono ?_
            rintro e w1 ⟨rfl, rfl⟩
            go_wp2_with fail
            go_roundw
            case rel => exact ⟨1, by omega, by go_num, ordN_step0 HX.out HWX.out, HB.out⟩
            case measure => simp [intOf]; omega
          | succ k' =>
            have hp : nms[k']? = some (nms[k']'(by omega)) := List.getElem?_eq_getElem _
            obtain ⟨q, hqe⟩ : ∃ q, q = nms[k']'(by omega) := ⟨_, rfl⟩
            rw [← hqe] at hp
            have HP := Lib.hid hp
            have HF2 := Lib.hid (HF.out wr HB.out k' q hp)
            clear hp hqe
            obtain ⟨i, hi⟩ : ∃ i : Nat, i = k' + 1 := ⟨_, rfl⟩
            rw [← hi] at HF1 hlt hlt' hk ⊢
            have hi0 : (0 : Int) < i := by omega
            have hi1 : (i : Int) - 1 = (k' : Int) := by omega
            have HI := Lib.hid hi
            clear hi
            go_wp2_with fail
            refine HF1.out.mono ?_
            rintro e w1 ⟨rfl, rfl⟩
            go_wp2_with fail
            refine HW.out.mono ?_
            rintro e w1 ⟨rfl, rfl⟩
            go_wp2_with fail
            refine HF2.out.mono ?_
            rintro e w1 ⟨rfl, rfl⟩
            go_wp2_with fail
            refine HF1.out.mono ?_
            rintro e w1 ⟨rfl, rfl⟩
            cases hl : ltN q x
            · have hl' : Op.bytesLess q.toList x.toList = false := hl
              have HL := Lib.hid hl
              clear hl
              go_wp2_with fail
              go_ret
              exact boolP_false (fun h => by have := ordN_lt h HP.out HX.out; rw [HL.out] at this; cases this) HB.out
            · have hl' : Op.bytesLess q.toList x.toList = true := hl
              have HL := Lib.hid hl
              clear hl
              go_wp2_with fail
              go_roundw
              case rel => exact ⟨i + 1, by omega, by go_num, by rw [HI.out]; exact ordN_step HO.out HP.out HX.out HWX.out HL.out, HB.out⟩
              case measure => simp [intOf]; omega
      · have hlt' : ¬ (k : Int) < nms.length := by omega
        go_wp2_with fail
        go_ret
        exact boolP_true (by have := HO.out; rwa [List.take_of_length_le (by omega)] at this) HB.out
end

end Go.Proofs.Ytalmfmijjbpnpaa
/-
  The walk of Valid of the program.
-/
namespace Go.Proofs.Ytalmfmijjbpnpaa
open Go.RowKit
set_option linter.unusedVariables false

/-- The parent of the version at i. -/
def ParOk (i : Nat) (p : Int) : Prop := if i = 0 then p = -1 else 0 ≤ p ∧ p < i
def VerOk (n : Nat) (v : Int) : Prop := 0 ≤ v ∧ v < n

/-- The sizes that are permitted. -/
def SizeOk (H : Hist) : Prop := (1 ≤ H.vs.length ∧ H.vs.length ≤ 1000) ∧ (1 ≤ H.bs.length ∧ H.bs.length ≤ 16) ∧ H.ss.length ≤ 16

theorem wf_of {H : Hist} (h1 : SizeOk H) (h2 : ∀ i v, H.vs[i]? = some v → ParOk i v.par) (h3 : ∀ b ∈ H.bs, LeadOk H.vs b.hd b.rd) (h4 : ∀ s ∈ H.ss, VerOk H.vs.length s.ver) (h5 : ∃ b ∈ H.bs, b.nm = H.cur)
    (h6 : OrdN (bnames H)) (h7 : OrdN (snames H)) : WF H where
  v1 := h1.1.1
  v2 := h1.1.2
  b1 := h1.2.1.1
  b2 := h1.2.1.2
  s2 := h1.2.2
  sb := h6.2
  sn := h7.2
  cur := by
    rw [hasN_iff h6.2]
    obtain ⟨b, hb, e⟩ := h5
    exact List.mem_map.2 ⟨b, hb, e⟩
  bw := fun b hb => h6.1 _ (List.mem_map.2 ⟨b, hb, rfl⟩)
  sw := fun b hb => h7.1 _ (List.mem_map.2 ⟨b, hb, rfl⟩)
  par0 := by
    have hl : 0 < H.vs.length := h1.1.1
    have := h2 0 _ (List.getElem?_eq_getElem hl)
    rw [List.getD_eq_getElem?_getD, List.getElem?_eq_getElem hl]
    exact this
  par := fun i h0 hl => by
    have := h2 i _ (List.getElem?_eq_getElem hl)
    rw [List.getD_eq_getElem?_getD, List.getElem?_eq_getElem hl]
    unfold ParOk at this
    rw [if_neg (by omega)] at this
    exact this
  hd := fun b hb => (h3 b hb).1
  rd := fun b hb => (h3 b hb).2
  sv := h4

theorem wf_size {H : Hist} (h : WF H) : SizeOk H := ⟨⟨h.v1, h.v2⟩, ⟨h.b1, h.b2⟩, h.s2⟩
theorem wf_par {H : Hist} (h : WF H) {i : Nat} {v : Ver} (hv : H.vs[i]? = some v) : ParOk i v.par := by
  obtain ⟨hl, e⟩ := List.getElem?_eq_some_iff.1 hv
  have hp : (H.vs.getD i default).par = v.par := by rw [List.getD_eq_getElem?_getD, hv]; rfl
  unfold ParOk
  split
  · rename_i h0
    subst h0
    rw [← hp]; exact h.par0
  · rename_i h0
    rw [← hp]; exact h.par i (by omega) hl
theorem wf_lead {H : Hist} (h : WF H) {b : Ln} (hb : b ∈ H.bs) : LeadOk H.vs b.hd b.rd := ⟨h.hd b hb, h.rd b hb⟩
theorem wf_ver {H : Hist} (h : WF H) {s : Lb} (hs : s ∈ H.ss) : VerOk H.vs.length s.ver := h.sv s hs
theorem wf_bn {H : Hist} (h : WF H) : OrdN (bnames H) := ⟨fun x hx => by obtain ⟨b, hb, rfl⟩ := List.mem_map.1 hx; exact h.bw b hb, h.sb⟩
theorem wf_sn {H : Hist} (h : WF H) : OrdN (snames H) := ⟨fun x hx => by obtain ⟨b, hb, rfl⟩ := List.mem_map.1 hx; exact h.sw b hb, h.sn⟩
theorem wf_cur {H : Hist} (h : WF H) : ∃ b ∈ H.bs, b.nm = H.cur := by
  have := (hasN_iff h.sb).1 h.cur
  obtain ⟨b, hb, e⟩ := List.mem_map.1 this
  exact ⟨b, hb, e⟩

/-- What is known of a history in a box, and of its rows, in every later state. -/
structure BoxI (w : World) (B : Nat) (H : Hist) (ml : List (Ln × Value)) (a1 : Option Addr) (c1 : Nat) (a2 : Option Addr) (c2 : Nat) (a3 : Option Addr) (c3 : Nat) (x1 x2 x3 : Addr) (W1 : World) : Prop where
  bel : Below w.heap.size w W1
  hB : w.heap.size ≤ B
  cells : ∀ wr, Below W1.heap.size W1 wr → wr.cell? ⟨B, 0, none⟩ = some (.slice a1 H.vs.length c1) ∧ wr.cell? ⟨B, 1, none⟩ = some (.slice a2 ml.length c2) ∧ wr.cell? ⟨B, 2, none⟩ = some (.slice a3 H.ss.length c3) ∧ wr.cell? ⟨B, 3, none⟩ = some (.string H.cur)
  blt : ∀ wr, Below W1.heap.size W1 wr → B < wr.heap.size
  e1 : 0 < H.vs.length → a1 = some x1
  e2 : 0 < ml.length → a2 = some x2
  e3 : 0 < H.ss.length → a3 = some x3
  ver : ∀ wr, Below W1.heap.size W1 wr → ∀ (k : Nat) (v : Ver), H.vs[k]? = some v → wr.cell? (x1.add (k * 2)) = some (.int .i64 v.par) ∧ wr.cell? ⟨(x1.add (k * 2)).block, (x1.add (k * 2)).off + 1, none⟩ = some (.int .i64 v.root)
  line : ∀ wr, Below W1.heap.size W1 wr → ∀ (k : Nat) (x : Ln × Value), ml[k]? = some x → wr.cell? (x2.add (k * 3)) = some (.string x.1.nm) ∧ wr.cell? ⟨(x2.add (k * 3)).block, (x2.add (k * 3)).off + 1, none⟩ = some (.int .i64 x.1.hd) ∧
    wr.cell? ⟨(x2.add (k * 3)).block, (x2.add (k * 3)).off + 2, none⟩ = some x.2
  label : ∀ wr, Below W1.heap.size W1 wr → ∀ (k : Nat) (s : Lb), H.ss[k]? = some s → wr.cell? (x3.add (k * 2)) = some (.string s.nm) ∧ wr.cell? ⟨(x3.add (k * 2)).block, (x3.add (k * 2)).off + 1, none⟩ = some (.int .i64 s.ver)
  rd : ∀ wr, Below W1.heap.size W1 wr → ∀ x ∈ ml, SlAt wr x.2 x.1.rd.length 1 (intCells x.1.rd)
  vs : ∀ wr, Below W1.heap.size W1 wr → SlAt wr (.slice a1 H.vs.length c1) H.vs.length 2 (verCells H.vs)
  ml : H.bs = ml.map (·.1)

theorem boxI_mk {w : World} {H : Hist} {vv bv sv : Value} {ml : List (Ln × Value)} (h : HAt w vv bv sv H ml) : ∃ (a1 : Option Addr) (c1 : Nat) (a2 : Option Addr) (c2 : Nat) (a3 : Option Addr) (c3 : Nat) (x1 x2 x3 : Addr),
    vv = .slice a1 H.vs.length c1 ∧ bv = .slice a2 ml.length c2 ∧ sv = .slice a3 H.ss.length c3 ∧
    BoxI w w.heap.size H ml a1 c1 a2 c2 a3 c3 x1 x2 x3 (w.alloc (.cells #[.slice a1 H.vs.length c1, .slice a2 ml.length c2, .slice a3 H.ss.length c3, .string H.cur] 37)) := by
  have hvs := h.vs
  obtain ⟨a1, c1, x1, rfl, ha1, hc1⟩ := h.vs.form
  obtain ⟨a2, c2, x2, rfl, ha2, hc2⟩ := h.bs.form
  obtain ⟨a3, c3, x3, rfl, ha3, hc3⟩ := h.ss.form
  refine ⟨a1, c1, a2, c2, a3, c3, x1, x2, x3, rfl, rfl, rfl, ?_⟩
  obtain ⟨W1, hW1⟩ : ∃ W, W = w.alloc (.cells #[.slice a1 H.vs.length c1, .slice a2 ml.length c2, .slice a3 H.ss.length c3, .string H.cur] 37) := ⟨_, rfl⟩
  rw [← hW1]
  have hb : Below w.heap.size w W1 := by rw [hW1]; exact (Below.refl _ _).alloc (Nat.le_refl _) _
  have hblk : W1.heap[w.heap.size]? = some (.cells #[.slice a1 H.vs.length c1, .slice a2 ml.length c2, .slice a3 H.ss.length c3, .string H.cur] 37 (0, 0)) := by rw [hW1]; exact heap_alloc_new w _
  have hl : w.heap.size < W1.heap.size := (Array.getElem?_eq_some_iff.1 hblk).1
  have hR : ∀ wr, Below W1.heap.size W1 wr → ∀ (p : Addr) (u : Value), p.block < w.heap.size ∧ w.cell? p = some u → wr.cell? p = some u := fun wr hbr p u hu =>
    (hbr.cell (Nat.lt_of_lt_of_le hu.1 hb.size)).trans ((hb.cell hu.1).trans hu.2)
  exact {
    bel := hb
    hB := Nat.le_refl _
    cells := fun wr hbr => by
      have hk := (hbr.block w.heap.size hl).trans hblk
      exact ⟨(cell_of_blk hk 0).trans rfl, (cell_of_blk hk 1).trans rfl, (cell_of_blk hk 2).trans rfl, (cell_of_blk hk 3).trans rfl⟩
    blt := fun wr hbr => Nat.lt_of_lt_of_le hl hbr.size
    e1 := ha1
    e2 := ha2
    e3 := ha3
    ver := fun wr hbr k v hv => by
      have hg := verCells_get H.vs k v hv
      have r2 := hR wr hbr _ _ (hc1 _ _ hg.2)
      rw [add_1] at r2
      exact ⟨hR wr hbr _ _ (hc1 _ _ hg.1), r2⟩
    line := fun wr hbr k x hx => by
      have hg := lnCells_get ml k x hx
      have r2 := hR wr hbr _ _ (hc2 _ _ hg.2.1)
      have r3 := hR wr hbr _ _ (hc2 _ _ hg.2.2)
      rw [add_1] at r2
      rw [add_2] at r3
      exact ⟨hR wr hbr _ _ (hc2 _ _ hg.1), r2, r3⟩
    label := fun wr hbr k s hs => by
      have hg := lbCells_get H.ss k s hs
      have r2 := hR wr hbr _ _ (hc3 _ _ hg.2)
      rw [add_1] at r2
      exact ⟨hR wr hbr _ _ (hc3 _ _ hg.1), r2⟩
    rd := fun wr hbr x hx => ((h.rd x hx).below hb).below hbr
    vs := fun wr hbr => (hvs.below hb).below hbr
    ml := h.ml }

section
variable {w : World} {H : Hist} {ml : List (Ln × Value)}

set_option maxRecDepth 100000 in
set_option maxHeartbeats 400000 in
theorem nameB60 {B c : Nat} {a : Option Addr} {x2 : Addr} {k : Nat} {nm : ByteArray} (hc : w.cell? ⟨B, 1, none⟩ = some (.slice a ml.length c)) (ha : a = some x2) (hk : k < ml.length) (hx : w.cell? (x2.add (k * 3)) = some (.string nm)) (hm : ml.length ≤ 100000) :
    Calls Try.prog 60 #[.int .i64 k, .pointer (some ⟨B, 0, none⟩)] w (Pure0 (.string nm) w) := by
  subst ha
  have hk1 : (k : Int) < ml.length := by omega
  have hk0 : (0 : Int) ≤ k := by omega
  go_enter Try.func60, Try.ntmps60
  go_wp2_with fail
  go_ret
  exact ⟨rfl, rfl⟩
set_option maxRecDepth 100000 in
set_option maxHeartbeats 400000 in
theorem nameS61 {B c : Nat} {a : Option Addr} {x3 : Addr} {k n : Nat} {nm : ByteArray} (hc : w.cell? ⟨B, 2, none⟩ = some (.slice a n c)) (ha : a = some x3) (hk : k < n) (hx : w.cell? (x3.add (k * 2)) = some (.string nm)) (hm : n ≤ 100000) :
    Calls Try.prog 61 #[.int .i64 k, .pointer (some ⟨B, 0, none⟩)] w (Pure0 (.string nm) w) := by
  subst ha
  have hk1 : (k : Int) < n := by omega
  have hk0 : (0 : Int) ≤ k := by omega
  go_enter Try.func61, Try.ntmps61
  go_wp2_with fail
  go_ret
  exact ⟨rfl, rfl⟩
end

end Go.Proofs.Ytalmfmijjbpnpaa
/-
  The walk of Valid of the program.
-/
namespace Go.Proofs.Ytalmfmijjbpnpaa
open Go.RowKit
set_option linter.unusedVariables false

/-- All names can be read. -/
def NmOk (H : Hist) : Prop := (∀ b ∈ H.bs, b.nm.size ≤ maxLen) ∧ ∀ s ∈ H.ss, s.nm.size ≤ maxLen

/-- b says whether one of the first k branches is the current one. -/
def CurI (c : ByteArray) (ml : List (Ln × Value)) (k : Nat) (b : Bool) : Prop := b = true ↔ ∃ (i : Nat) (x : Ln × Value), i < k ∧ ml[i]? = some x ∧ x.1.nm = c
theorem curI_zero (c : ByteArray) (ml : List (Ln × Value)) : CurI c ml 0 false := by unfold CurI; simp
theorem curI_yes {c : ByteArray} {ml : List (Ln × Value)} {k : Nat} {x : Ln × Value} (hx : ml[k]? = some x) (hn : x.1.nm = c) : CurI c ml (k + 1) true :=
  ⟨fun _ => ⟨k, x, by omega, hx, hn⟩, fun _ => rfl⟩
theorem curI_no {c : ByteArray} {ml : List (Ln × Value)} {k : Nat} {x : Ln × Value} (h : CurI c ml k false) (hx : ml[k]? = some x) (hn : ¬ x.1.nm = c) : CurI c ml (k + 1) false := by
  refine ⟨fun h => (by cases h), ?_⟩
  rintro ⟨i, y, hi, hy, hyn⟩
  by_cases e : i = k
  · subst e
    rw [hx] at hy; cases hy
    exact absurd hyn hn
  · exact h.2 ⟨i, y, by omega, hy, hyn⟩
theorem curI_keep {c : ByteArray} {ml : List (Ln × Value)} {k : Nat} (h : CurI c ml k true) : CurI c ml (k + 1) true := by
  obtain ⟨i, x, hi, hx⟩ := h.1 rfl
  exact ⟨fun _ => ⟨i, x, by omega, hx⟩, fun _ => rfl⟩
theorem curI_end {H : Hist} {ml : List (Ln × Value)} {k : Nat} {b : Bool} (h : CurI H.cur ml k b) (hml : H.bs = ml.map (·.1)) (hk : ml.length ≤ k) : b = true ↔ ∃ y ∈ H.bs, y.nm = H.cur := by
  unfold CurI at h
  rw [h, hml]
  constructor
  · rintro ⟨i, x, _, hx, hn⟩
    exact ⟨x.1, List.mem_map.2 ⟨x, List.mem_of_getElem? hx, rfl⟩, hn⟩
  · rintro ⟨y, hy, hn⟩
    obtain ⟨x, hx, rfl⟩ := List.mem_map.1 hy
    obtain ⟨i, hi⟩ := List.getElem?_of_mem hx
    exact ⟨i, x, by have := (List.getElem?_eq_some_iff.1 hi).1; omega, hi, hn⟩

/-- The first k branches lead on. -/
def LeadI (vs : List Ver) (ml : List (Ln × Value)) (k : Nat) : Prop := ∀ i x, i < k → ml[i]? = some x → LeadOk vs x.1.hd x.1.rd
theorem leadI_zero (vs : List Ver) (ml : List (Ln × Value)) : LeadI vs ml 0 := fun i x hi => absurd hi (Nat.not_lt_zero _)
theorem leadI_step {vs : List Ver} {ml : List (Ln × Value)} {k : Nat} {x : Ln × Value} (h : LeadI vs ml k) (hx : ml[k]? = some x) (hl : LeadOk vs x.1.hd x.1.rd) : LeadI vs ml (k + 1) := fun i y hi hy => by
  by_cases e : i = k
  · subst e
    rw [hx] at hy; cases hy
    exact hl
  · exact h i y (by omega) hy
theorem leadI_end {H : Hist} {ml : List (Ln × Value)} {k : Nat} (h : LeadI H.vs ml k) (hml : H.bs = ml.map (·.1)) (hk : ml.length ≤ k) : ∀ y ∈ H.bs, LeadOk H.vs y.hd y.rd := fun y hy => by
  rw [hml] at hy
  obtain ⟨x, hx, rfl⟩ := List.mem_map.1 hy
  obtain ⟨i, hi⟩ := List.getElem?_of_mem hx
  exact h i x (by have := (List.getElem?_eq_some_iff.1 hi).1; omega) hi

/-- The first k labels name versions. -/
def LabI (H : Hist) (k : Nat) : Prop := ∀ i s, i < k → H.ss[i]? = some s → VerOk H.vs.length s.ver
theorem labI_zero (H : Hist) : LabI H 0 := fun i x hi => absurd hi (Nat.not_lt_zero _)
theorem labI_step {H : Hist} {k : Nat} {s : Lb} (h : LabI H k) (hx : H.ss[k]? = some s) (hl : VerOk H.vs.length s.ver) : LabI H (k + 1) := fun i y hi hy => by
  by_cases e : i = k
  · subst e
    rw [hx] at hy; cases hy
    exact hl
  · exact h i y (by omega) hy
theorem labI_end {H : Hist} {k : Nat} (h : LabI H k) (hk : H.ss.length ≤ k) : ∀ s ∈ H.ss, VerOk H.vs.length s.ver := fun s hs => by
  obtain ⟨i, hi⟩ := List.getElem?_of_mem hs
  exact h i s (by have := (List.getElem?_eq_some_iff.1 hi).1; omega) hi

section
variable {w : World} {H : Hist} {ml : List (Ln × Value)}

set_option maxRecDepth 100000 in
set_option maxHeartbeats 8000000 in
theorem valid29 {vv bv sv : Value} (h : HAt w vv bv sv H ml) (hn1 : H.vs.length ≤ 100000) (hn2 : ml.length ≤ 100000) (hn3 : H.ss.length ≤ 100000) (hn4 : ∀ x ∈ ml, x.1.rd.length ≤ 100000) (hsz : NmOk H) :
    Calls Try.prog 29 #[.agg #[vv, bv, sv, .string H.cur]] w (BoolP (WF H) w) := by
  obtain ⟨a1, c1, a2, c2, a3, c3, x1, x2, x3, rfl, rfl, rfl, hbox⟩ := boxI_mk h
  obtain ⟨W1, hW1⟩ : ∃ W, W = w.alloc (.cells #[.slice a1 H.vs.length c1, .slice a2 ml.length c2, .slice a3 H.ss.length c3, .string H.cur] 37) := ⟨_, rfl⟩
  rw [← hW1] at hbox
  have HX := Lib.hid hbox
  have HW := Lib.hid hW1
  have HN4 := Lib.hid hn4
  have HSZ := Lib.hid hsz
  have hlen : ml.length = H.bs.length := by rw [hbox.ml, List.length_map]
  have HLEN := Lib.hid hlen
  clear h hbox hW1 hn4 hsz hlen
  by_cases z1 : H.vs.length < 1
  · have z1' : (H.vs.length : Int) < 1 := by omega
    go_enter Try.func29, Try.ntmps29
    go_wp2_with fail
    go_ret
    rw [← HW.out]
    exact boolP_false (fun h => by have := (wf_size h).1.1; omega) HX.out.bel
  have z1' : ¬ (H.vs.length : Int) < 1 := by omega
  by_cases z2 : 1000 < H.vs.length
  · have z2' : (1000 : Int) < H.vs.length := by omega
    go_enter Try.func29, Try.ntmps29
    go_wp2_with fail
    go_ret
    rw [← HW.out]
    exact boolP_false (fun h => by have := (wf_size h).1.2; omega) HX.out.bel
  have z2' : ¬ (1000 : Int) < H.vs.length := by omega
  by_cases z3 : ml.length < 1
  · have z3' : (ml.length : Int) < 1 := by omega
    go_enter Try.func29, Try.ntmps29
    go_wp2_with fail
    go_ret
    rw [← HW.out]
    exact boolP_false (fun h => by have := (wf_size h).2.1.1; have := HLEN.out; omega) HX.out.bel
  have z3' : ¬ (ml.length : Int) < 1 := by omega
  by_cases z4 : 16 < ml.length
  · have z4' : (16 : Int) < ml.length := by omega
    go_enter Try.func29, Try.ntmps29
    go_wp2_with fail
    go_ret
    rw [← HW.out]
    exact boolP_false (fun h => by have := (wf_size h).2.1.2; have := HLEN.out; omega) HX.out.bel
  have z4' : ¬ (16 : Int) < ml.length := by omega
  by_cases z5 : 16 < H.ss.length
  · have z5' : (16 : Int) < H.ss.length := by omega
    go_enter Try.func29, Try.ntmps29
    go_wp2_with fail
    go_ret
    rw [← HW.out]
    exact boolP_false (fun h => by have := (wf_size h).2.2; omega) HX.out.bel
  have z5' : ¬ (16 : Int) < H.ss.length := by omega
  go_enter Try.func29, Try.ntmps29
  go_wp2_with fail
  rw [← HW.out]
  clear HW
  go_loopg [41] H.vs.length (fun g iv wr => ∃ k : Nat, g + k = H.vs.length ∧ iv = .int .i64 k ∧ (∀ i v, i < k → H.vs[i]? = some v → ParOk i v.par) ∧ Below W1.heap.size W1 wr)
  case atStart => exact ⟨0, rfl, rfl, fun i v hi => absurd hi (Nat.not_lt_zero _), Below.refl _ _⟩
  case round =>
    obtain ⟨k, hk, rfl, hp, hb⟩ := hrel
    obtain ⟨g1, g2, g3, g4⟩ := HX.out.cells _ hb
    have hBl := HX.out.blt _ hb
    have HB := Lib.hid hb
    have HP := Lib.hid hp
    have HK := Lib.hid hk
    have hk63 : (k : Int) ≤ 1000 := by omega
    clear hb hp hk
    by_cases hlt : k < H.vs.length
    · have hv : H.vs[k]? = some (H.vs[k]'hlt) := List.getElem?_eq_getElem hlt
      obtain ⟨v, hve⟩ : ∃ v, v = H.vs[k]'hlt := ⟨_, rfl⟩
      rw [← hve] at hv
      obtain ⟨r1, r2⟩ := HX.out.ver _ HB.out k v hv
      obtain rfl := HX.out.e1 (by omega)
      have HV := Lib.hid hv
      have hlt' : (k : Int) < H.vs.length := by omega
      have hk0 : (0 : Int) ≤ k := by omega
      clear hv hve
      by_cases hk1 : k = 0
      · have hk2 : ((k : Int) == 0) = true := by simp [hk1]
        have hk3 : ¬ (0 : Int) < k := by omega
        have HK1 := Lib.hid hk1
        clear hk1
        by_cases hp1 : v.par = -1
        · rw [hp1] at r1
          have HP1 := Lib.hid hp1
          clear hp1
          go_wp2_with fail
          go_roundg (H.vs.length - (k + 1))
          case measure => have := HK.out; omega
          case rel => exact ⟨k + 1, by omega, by go_num, fun i u hi hu => by
                        obtain rfl : i = k := by have := HK1.out; omega
                        have := HV.out; rw [hu] at this; cases this
                        unfold ParOk; rw [if_pos HK1.out]; exact HP1.out, HB.out.alloc HB.out.size _⟩
        · have hp2 : (v.par != -1) = true := by simp [hp1]
          have HP1 := Lib.hid hp1
          clear hp1
          go_wp2_with fail
          go_ret
          exact boolP_false (fun h => HP1.out (by have := wf_par h HV.out; unfold ParOk at this; rwa [if_pos HK1.out] at this)) (HX.out.bel.trans ((HB.out.alloc HB.out.size _).mono HX.out.bel.size))
      · have hk2 : ((k : Int) == 0) = false := by simp [hk1]
        have hk3 : (0 : Int) < k := by omega
        have HK1 := Lib.hid hk1
        clear hk1
        by_cases hp1 : v.par < 0
        · go_wp2_with fail
          go_ret
          exact boolP_false (fun h => by have := wf_par h HV.out; unfold ParOk at this; rw [if_neg HK1.out] at this; omega) (HX.out.bel.trans ((HB.out.alloc HB.out.size _).mono HX.out.bel.size))
        · by_cases hp2 : (k : Int) ≤ v.par
          · go_wp2_with fail
            go_ret
            exact boolP_false (fun h => by have := wf_par h HV.out; unfold ParOk at this; rw [if_neg HK1.out] at this; omega) (HX.out.bel.trans ((HB.out.alloc HB.out.size _).mono HX.out.bel.size))
          · go_wp2_with fail
            go_roundg (H.vs.length - (k + 1))
            case measure => have := HK.out; omega
            case rel => exact ⟨k + 1, by omega, by go_num, fun i u hi hu => by
                          by_cases e : i = k
                          · subst e
                            have := HV.out; rw [hu] at this; cases this
                            unfold ParOk; rw [if_neg HK1.out]; omega
                          · exact HP.out i u (by omega) hu, HB.out.alloc HB.out.size _⟩
    · have hlt' : ¬ (k : Int) < H.vs.length := by omega
      have HPAR := Lib.hid (show ∀ i v, H.vs[i]? = some v → ParOk i v.par from fun i v hv => HP.out i v (by have := (List.getElem?_eq_some_iff.1 hv).1; omega) hv)
      clear HP HK
      go_wp2_with fail
      go_loopg [5, 72] ml.length (fun g cv iv wq => ∃ (k : Nat) (b : Bool), g + k = ml.length ∧ iv = .int .i64 k ∧ cv = .bool b ∧ CurI H.cur ml k b ∧ LeadI H.vs ml k ∧ Below W1.heap.size W1 wq)
      case atStart => exact ⟨0, false, rfl, rfl, rfl, curI_zero _ _, leadI_zero _ _, HB.out⟩
      case round =>
        obtain ⟨k, b, hk, rfl, rfl, hcb, hld, hb⟩ := hrel
        obtain ⟨g1, g2, g3, g4⟩ := HX.out.cells _ hb
        have hBl := HX.out.blt _ hb
        have HB2 := Lib.hid hb
        have HCB := Lib.hid hcb
        have HLD := Lib.hid hld
        have HK := Lib.hid hk
        have hk63 : (k : Int) ≤ 1000 := by omega
        clear hb hcb hld hk HB
        by_cases hlt : k < ml.length
        · have hx : ml[k]? = some (ml[k]'hlt) := List.getElem?_eq_getElem hlt
          obtain ⟨x, hxe⟩ : ∃ x, x = ml[k]'hlt := ⟨_, rfl⟩
          rw [← hxe] at hx
          obtain ⟨r1, r2, r3⟩ := HX.out.line _ HB2.out k x hx
          obtain rfl := HX.out.e2 (by omega)
          have hrd := HX.out.rd _ HB2.out x (List.mem_of_getElem? hx)
          have hrn := HN4.out x (List.mem_of_getElem? hx)
          obtain ⟨⟨nm, hd, rd⟩, rv⟩ := x
          dsimp only at r1 r2 r3 hrd hrn
          obtain ⟨ar, cr, xr, rfl, _, _⟩ := hrd.form
          have HXX := Lib.hid hx
          have HRD := Lib.hid hrd
          have hlt' : (k : Int) < ml.length := by omega
          have hk0 : (0 : Int) ≤ k := by omega
          have hal : Below wr.heap.size wr (wr.alloc (.cells #[.string nm, .int .i64 hd, .slice ar rd.length cr] 65)) := (Below.refl _ _).alloc (Nat.le_refl _) _
          have hL := leads58 (w := wr.alloc (.cells #[.string nm, .int .i64 hd, .slice ar rd.length cr] 65)) (a2 := some x2) (n2 := ml.length) (c2 := c2) (a3 := a3) (n3 := H.ss.length) (c3 := c3) (cur := H.cur) (nm := nm) (hd := hd) ((HX.out.vs _ HB2.out).below hal) (hrd.below hal) hn1 hrn
          have HL := Lib.hid hL
          have HAL := Lib.hid (HB2.out.trans (hal.mono HB2.out.size))
          have hws : wr.heap.size < (wr.alloc (.cells #[.string nm, .int .i64 hd, .slice ar rd.length cr] 65)).heap.size := by simp
          have HWS := Lib.hid hws
          have HNW := Lib.hid (heap_alloc_new wr (.cells #[.string nm, .int .i64 hd, .slice ar rd.length cr] 65))
          clear hx hxe hrd hrn hL hal hws
          go_wp2_with fail
          refine HL.out.mono ?_
          rintro e w3 ⟨b3, rfl, hb3, hbel3⟩
          have HB3 := Lib.hid (HAL.out.trans (hbel3.mono HAL.out.size))
          have hbox3 := (hbel3.block wr.heap.size HWS.out).trans HNW.out
          have y0 : w3.cell? ⟨wr.heap.size, 0, none⟩ = some (.string nm) := (cell_of_blk hbox3 0).trans rfl
          obtain ⟨q1, q2, q3, q4⟩ := HX.out.cells _ HB3.out
          have HB3B := Lib.hid hb3
          clear hbel3 hbox3 hb3 HL HNW HWS g1 g2 g3 g4 r1 r2 r3 hBl
          cases b3
          · go_wp2_with fail
            go_ret
            exact boolP_false (fun h => by
              have := wf_lead h (b := ⟨nm, hd, rd⟩) (by rw [HX.out.ml]; exact List.mem_map.2 ⟨_, List.mem_of_getElem? HXX.out, rfl⟩)
              have := HB3B.out.2 this
              cases this) (HX.out.bel.trans (HB3.out.mono HX.out.bel.size))
          · have hld := leadI_step HLD.out HXX.out (HB3B.out.1 rfl)
            have HLD2 := Lib.hid hld
            clear hld HLD
            cases b
            · by_cases hnc : nm = H.cur
              · have hne : (nm.toList == H.cur.toList) = true := by rw [hnc]; simp
                have HNC := Lib.hid hnc
                clear hnc
                go_wp2_with fail
                go_roundg (ml.length - (k + 1))
                case measure => have := HK.out; omega
                case rel => exact ⟨k + 1, true, by omega, by go_num, rfl, curI_yes HXX.out HNC.out, HLD2.out, HB3.out⟩
              · have hne : (nm.toList == H.cur.toList) = false := by rw [beq_eq_false_iff_ne]; exact fun e => hnc (ba_ext e)
                have HNC := Lib.hid hnc
                clear hnc
                go_wp2_with fail
                go_roundg (ml.length - (k + 1))
                case measure => have := HK.out; omega
                case rel => exact ⟨k + 1, false, by omega, by go_num, rfl, curI_no HCB.out HXX.out HNC.out, HLD2.out, HB3.out⟩
            · go_wp2_with fail
              go_roundg (ml.length - (k + 1))
              case measure => have := HK.out; omega
              case rel => exact ⟨k + 1, true, by omega, by go_num, rfl, curI_keep HCB.out, HLD2.out, HB3.out⟩
        · have hlt' : ¬ (k : Int) < ml.length := by omega
          have HCUR := Lib.hid (curI_end HCB.out HX.out.ml (by omega))
          have HLEAD := Lib.hid (leadI_end HLD.out HX.out.ml (by omega))
          clear HCB HLD HK
          go_wp2_with fail
          go_loopg [92] H.ss.length (fun g iv wq => ∃ k : Nat, g + k = H.ss.length ∧ iv = .int .i64 k ∧ LabI H k ∧ Below W1.heap.size W1 wq)
          case atStart => exact ⟨0, rfl, rfl, labI_zero H, HB2.out⟩
          case round =>
            obtain ⟨k, hk, rfl, hlb, hb⟩ := hrel
            obtain ⟨g1, g2, g3, g4⟩ := HX.out.cells _ hb
            have hBl := HX.out.blt _ hb
            have HB4 := Lib.hid hb
            have HLB := Lib.hid hlb
            have HK := Lib.hid hk
            have hk63 : (k : Int) ≤ 1000 := by omega
            clear hb hlb hk HB2
            by_cases hlt : k < H.ss.length
            · have hs : H.ss[k]? = some (H.ss[k]'hlt) := List.getElem?_eq_getElem hlt
              obtain ⟨s, hse⟩ : ∃ s, s = H.ss[k]'hlt := ⟨_, rfl⟩
              rw [← hse] at hs
              obtain ⟨r1, r2⟩ := HX.out.label _ HB4.out k s hs
              obtain rfl := HX.out.e3 (by omega)
              have HS := Lib.hid hs
              have hlt' : (k : Int) < H.ss.length := by omega
              have hk0 : (0 : Int) ≤ k := by omega
              clear hs hse
              by_cases hv1 : s.ver < 0
              · go_wp2_with fail
                go_ret
                exact boolP_false (fun h => by have := (wf_ver h (List.mem_of_getElem? HS.out)).1; omega) (HX.out.bel.trans ((HB4.out.alloc HB4.out.size _).mono HX.out.bel.size))
              · by_cases hv2 : (H.vs.length : Int) ≤ s.ver
                · go_wp2_with fail
                  go_ret
                  exact boolP_false (fun h => by have := (wf_ver h (List.mem_of_getElem? HS.out)).2; omega) (HX.out.bel.trans ((HB4.out.alloc HB4.out.size _).mono HX.out.bel.size))
                · go_wp2_with fail
                  go_roundg (H.ss.length - (k + 1))
                  case measure => have := HK.out; omega
                  case rel => exact ⟨k + 1, by omega, by go_num, labI_step HLB.out HS.out ⟨by omega, by omega⟩, HB4.out.alloc HB4.out.size _⟩
            · have hlt' : ¬ (k : Int) < H.ss.length := by omega
              have HLAB := Lib.hid (labI_end HLB.out (by omega))
              have HOB := Lib.hid (fun w' (hb' : Below wr.heap.size wr w') => ordered59 (w := w') 60 (.inl rfl) (.pointer (some ⟨w.heap.size, 0, none⟩)) (bnames H) (by have := HLEN.out; simp [bnames]; omega) (fun y hy => by obtain ⟨z, hz, rfl⟩ := List.mem_map.1 hy; exact HSZ.out.1 z hz)
                (fun w'' hb'' i nm hi => by
                  have hbb := HB4.out.trans ((hb'.trans (hb''.mono hb'.size)).mono HB4.out.size)
                  have hbi : H.bs[i]?.map (·.nm) = some nm := by rw [← List.getElem?_map]; exact hi
                  rw [HX.out.ml, List.getElem?_map] at hbi
                  obtain ⟨x, hx⟩ : ∃ x, ml[i]? = some x := by
                    cases hq : ml[i]? with
                    | none => rw [hq] at hbi; cases hbi
                    | some x => exact ⟨x, rfl⟩
                  rw [hx] at hbi
                  have hnm : x.1.nm = nm := by simpa using hbi
                  have hil := (List.getElem?_eq_some_iff.1 hx).1
                  have hl := (HX.out.line _ hbb i x hx).1
                  rw [hnm] at hl
                  exact nameB60 (HX.out.cells _ hbb).2.1 (HX.out.e2 (by omega)) hil hl hn2))
              have HOS := Lib.hid (fun w' (hb' : Below wr.heap.size wr w') => ordered59 (w := w') 61 (.inr rfl) (.pointer (some ⟨w.heap.size, 0, none⟩)) (snames H) (by simp [snames]; omega) (fun y hy => by obtain ⟨z, hz, rfl⟩ := List.mem_map.1 hy; exact HSZ.out.2 z hz)
                (fun w'' hb'' i nm hi => by
                  have hbb := HB4.out.trans ((hb'.trans (hb''.mono hb'.size)).mono HB4.out.size)
                  have hbi : H.ss[i]?.map (·.nm) = some nm := by rw [← List.getElem?_map]; exact hi
                  obtain ⟨x, hx⟩ : ∃ x, H.ss[i]? = some x := by
                    cases hq : H.ss[i]? with
                    | none => rw [hq] at hbi; cases hbi
                    | some x => exact ⟨x, rfl⟩
                  rw [hx] at hbi
                  have hnm : x.nm = nm := by simpa using hbi
                  have hil := (List.getElem?_eq_some_iff.1 hx).1
                  have hl := (HX.out.label _ hbb i x hx).1
                  rw [hnm] at hl
                  exact nameS61 (HX.out.cells _ hbb).2.2.1 (HX.out.e3 (by omega)) hil hl hn3))
              have hl1 : (bnames H).length = ml.length := by rw [HLEN.out]; simp [bnames]
              have hl2 : (snames H).length = H.ss.length := by simp [snames]
              rw [hl1] at HOB
              rw [hl2] at HOS
              have HSZE := Lib.hid (show SizeOk H from ⟨⟨by omega, by omega⟩, ⟨by have := HLEN.out; omega, by have := HLEN.out; omega⟩, by omega⟩)
              clear hl1 hl2 HLB HK
              cases b
              · go_wp2_with fail
                go_ret
                exact boolP_false (fun h => by have := HCUR.out.2 (wf_cur h); cases this) (HX.out.bel.trans (HB4.out.mono HX.out.bel.size))
              · go_wp2_with fail
                refine (HOB.out _ (Below.refl _ _)).mono ?_
                rintro e w5 ⟨b5, rfl, hb5, hbel5⟩
                have HB5 := Lib.hid hbel5
                have HB5B := Lib.hid hb5
                obtain ⟨q1, q2, q3, q4⟩ := HX.out.cells _ (HB4.out.trans (hbel5.mono HB4.out.size))
                clear hb5 hbel5 g1 g2 g3 g4 hBl
                cases b5
                · go_wp2_with fail
                  go_ret
                  exact boolP_false (fun h => by have := HB5B.out.2 (wf_bn h); cases this) (HX.out.bel.trans ((HB4.out.trans (HB5.out.mono HB4.out.size)).mono HX.out.bel.size))
                · go_wp2_with fail
                  refine (HOS.out _ HB5.out).mono ?_
                  rintro e w6 ⟨b6, rfl, hb6, hbel6⟩
                  have HB6 := Lib.hid (HB4.out.trans ((HB5.out.trans (hbel6.mono HB5.out.size)).mono HB4.out.size))
                  have HB6B := Lib.hid hb6
                  clear hb6 hbel6
                  cases b6
                  · go_wp2_with fail
                    go_ret
                    exact boolP_false (fun h => by have := HB6B.out.2 (wf_sn h); cases this) (HX.out.bel.trans (HB6.out.mono HX.out.bel.size))
                  · go_wp2_with fail
                    go_ret
                    exact boolP_true (wf_of HSZE.out HPAR.out HLEAD.out HLAB.out (HCUR.out.1 (by simp)) (HB5B.out.1 (by simp)) (HB6B.out.1 (by simp))) (HX.out.bel.trans (HB6.out.mono HX.out.bel.size))

end

end Go.Proofs.Ytalmfmijjbpnpaa
