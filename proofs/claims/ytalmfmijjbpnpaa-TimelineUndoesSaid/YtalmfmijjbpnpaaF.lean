/-
  Well-formed histories; walks of current, Head, Root.
-/
import Derived.Test.YtalmfmijjbpnpaaE
import Derived.Deep.RegionHeld3
import Derived.StillTactics
namespace Go.Proofs.Ytalmfmijjbpnpaa
open Go.RowKit

instance : Inhabited Ln := ⟨⟨ByteArray.empty, 0, []⟩⟩
instance : Inhabited Ver := ⟨⟨0, 0⟩⟩
instance : Inhabited Lb := ⟨⟨ByteArray.empty, 0⟩⟩

/-- The versions to redo lead on from a head, the list read from its end. -/
def leadsR (vs : List Ver) : Int → List Int → Prop
  | _, [] => True
  | a, r :: rs => 0 ≤ r ∧ r < vs.length ∧ (vs.getD r.toNat default).par = a ∧ leadsR vs r rs

structure WF (H : Hist) : Prop where
  v1 : 1 ≤ H.vs.length
  v2 : H.vs.length ≤ 1000
  b1 : 1 ≤ H.bs.length
  b2 : H.bs.length ≤ 16
  s2 : H.ss.length ≤ 16
  sb : SortedN (bnames H)
  sn : SortedN (snames H)
  cur : hasN H.cur (bnames H) = true
  bw : ∀ b ∈ H.bs, wordB b.nm = true
  sw : ∀ b ∈ H.ss, wordB b.nm = true
  par0 : (H.vs.getD 0 default).par = -1
  par : ∀ i, 0 < i → i < H.vs.length → 0 ≤ (H.vs.getD i default).par ∧ (H.vs.getD i default).par < i
  hd : ∀ b ∈ H.bs, 0 ≤ b.hd ∧ b.hd < H.vs.length
  rd : ∀ b ∈ H.bs, leadsR H.vs b.hd b.rd.reverse
  sv : ∀ s ∈ H.ss, 0 ≤ s.ver ∧ s.ver < H.vs.length

def ci (H : Hist) : Nat := rank H.cur (bnames H)
def curLn (H : Hist) : Ln := H.bs.getD (ci H) default

theorem ci_lt {H : Hist} (h : WF H) : ci H < H.bs.length ∧ (curLn H).nm = H.cur ∧ curLn H ∈ H.bs := by
  have hc := h.cur
  unfold hasN at hc
  rw [decide_eq_true_eq] at hc
  have hl := (List.getElem?_eq_some_iff.1 hc).1
  have hl' : ci H < H.bs.length := by simpa [bnames, ci] using hl
  refine ⟨hl', ?_, ?_⟩
  · unfold bnames at hc
    rw [List.getElem?_map] at hc
    unfold curLn
    rw [List.getD_eq_getElem?_getD]
    unfold ci bnames
    revert hc
    cases H.bs[rank H.cur (H.bs.map (·.nm))]? with
    | none => intro hc; cases hc
    | some x => intro hc; simpa using hc
  · unfold curLn
    rw [List.getD_eq_getElem?_getD, List.getElem?_eq_getElem hl']
    exact List.getElem_mem _

section
variable {w : World} {T t : Nat} {H : Hist} {m : View}

/-- What stands in memory for the current branch. -/
theorem cur_mem (h : Rep w T t H m) (hw : WF H) : ∃ (g cap : Nat) (rv : Value), m.bv = .slice (some ⟨g, 0, none⟩) m.ml.length cap ∧ m.ml.length = H.bs.length ∧ m.ml.length ≤ cap ∧
    m.ml[ci H]? = some (curLn H, rv) ∧ w.cell? ⟨g, ci H * 3, none⟩ = some (.string H.cur) ∧ w.cell? ⟨g, ci H * 3 + 1, none⟩ = some (.int .i64 (curLn H).hd) ∧
    w.cell? ⟨g, ci H * 3 + 2, none⟩ = some rv ∧ g < w.heap.size ∧ g ≠ t ∧ w.ownsRow 0 3 1 rv (curLn H).rd.length (intCells (curLn H).rd) := by
  obtain ⟨hl, hnm, hmem⟩ := ci_lt hw
  have hml := h.ml
  have hlen : m.ml.length = H.bs.length := by rw [hml, List.length_map]
  have hb1 := hw.b1
  obtain ⟨g, cap, hbv, hc1, hc2, hg⟩ := own_form h.bs (by omega)
  have hown := h.bs
  rw [hbv] at hown
  have hgt : m.ml[ci H]? = some (m.ml[ci H]'(by omega)) := List.getElem?_eq_getElem (by omega)
  have hfst : (m.ml[ci H]'(by omega)).1 = curLn H := by
    unfold curLn
    rw [List.getD_eq_getElem?_getD, hml, List.getElem?_map, hgt]; rfl
  have hcells := lnCells_get m.ml (ci H) _ hgt
  refine ⟨g, cap, (m.ml[ci H]'(by omega)).2, hbv, hlen, hc1, ?_, ?_, ?_, ?_, hg, ?_, ?_⟩
  · rw [hgt, ← hfst]
  · rw [own_cell hown hcells.1, hfst, hnm]
  · rw [own_cell hown hcells.2.1, hfst]
  · exact own_cell hown hcells.2.2
  · rintro rfl
    obtain ⟨cur, hcur⟩ := own_block hown (k := g) rfl
    have hb := h.blk
    rw [hcur] at hb
    have htt := h.tt
    cases hb
    omega
  · have := h.rd _ (List.getElem_mem (show ci H < m.ml.length by omega))
    rw [hfst] at this
    exact this

set_option maxHeartbeats 400000 in
theorem current32 (h : Rep w 67 t H m) (hw : WF H) {g cap : Nat} (hbv : m.bv = .slice (some ⟨g, 0, none⟩) m.ml.length cap) :
    Calls Try.prog 32 #[.pointer (some ⟨t, 0, none⟩)] w (Quiet (.pointer (some ⟨g, ci H * 3, none⟩)) w) := by
  have hB := Lib.hid (branch34 h hw.sb (by have := hw.b2; omega) H.cur)
  have hl := (ci_lt hw).1
  have hlen : m.ml.length = H.bs.length := by rw [h.ml, List.length_map]
  have c1 : w.cell? ⟨t, 1, none⟩ = some (.slice (some ⟨g, 0, none⟩) m.ml.length cap) := by rw [cell_of_blk h.blk, ← hbv]; rfl
  have c3 : w.cell? ⟨t, 3, none⟩ = some (.string H.cur) := by rw [cell_of_blk h.blk]; rfl
  have ht : t < w.heap.size := h.lt (.inl rfl)
  have hci : rank H.cur (bnames H) = ci H := rfl
  rw [hci] at hB
  have hl1 : (ci H : Int) < m.ml.length := by omega
  have hl0 : (0 : Int) ≤ ci H := by omega
  clear hlen hl hci hbv h
  go_enter Try.func32, Try.ntmps32
  go_wp2_with fail
  refine hB.out.mono ?_
  rintro e w1 ⟨rfl, hb1⟩
  obtain ⟨hc, _⟩ := bcell hb1
  have HB1 := Lib.hid hb1
  clear hb1
  go_wp2_with fail
  go_ret
  exact ⟨rfl, HB1.out⟩

def hdN (H : Hist) : Nat := (curLn H).hd.toNat
theorem hd_eq (hw : WF H) : (curLn H).hd = ((hdN H : Nat) : Int) ∧ hdN H < H.vs.length := by
  have := hw.hd _ (ci_lt hw).2.2
  unfold hdN
  omega

set_option maxHeartbeats 400000 in
theorem head13 (h : Rep w 67 t H m) (hw : WF H) :
    Calls Try.prog 13 #[.pointer (some ⟨t, 0, none⟩)] w (Quiet (.int .i64 (hdN H)) w) := by
  obtain ⟨g, cap, rv, hbv, hlen, hcap, hml, k0, k1, k2, hg, hgt, hrow⟩ := cur_mem h hw
  have hB := Lib.hid (current32 h hw hbv)
  rw [(hd_eq hw).1] at k1
  clear hlen hcap hml k0 k2 hbv h hrow
  go_enter Try.func13, Try.ntmps13
  go_wp2_with fail
  refine hB.out.mono ?_
  rintro e w1 ⟨rfl, hb1⟩
  obtain ⟨hc, _⟩ := bcell hb1
  have HB1 := Lib.hid hb1
  clear hb1
  go_wp2_with fail
  go_ret
  exact ⟨rfl, HB1.out⟩

def rootOf (H : Hist) : Int := (H.vs.getD (hdN H) default).root

/-- What stands in memory for the versions. -/
theorem ver_mem (h : Rep w T t H m) (hw : WF H) : ∃ (g cap : Nat), m.vv = .slice (some ⟨g, 0, none⟩) H.vs.length cap ∧ H.vs.length ≤ cap ∧ cap ≤ maxLen ∧ g < w.heap.size ∧ g ≠ t ∧
    ∀ k, k < H.vs.length → w.cell? ⟨g, k * 2, none⟩ = some (.int .i64 (H.vs.getD k default).par) ∧ w.cell? ⟨g, k * 2 + 1, none⟩ = some (.int .i64 (H.vs.getD k default).root) := by
  have hv1 := hw.v1
  obtain ⟨g, cap, hvv, hc1, hc2, hg⟩ := own_form h.vs (by omega)
  have hown := h.vs
  rw [hvv] at hown
  refine ⟨g, cap, hvv, hc1, hc2, hg, ?_, fun k hk => ?_⟩
  · rintro rfl
    obtain ⟨cur, hcur⟩ := own_block hown (k := g) rfl
    have hb := h.blk
    rw [hcur] at hb
    have htt := h.tt
    cases hb
    omega
  · have hcells := verCells_get H.vs k _ (List.getElem?_eq_getElem hk)
    rw [List.getD_eq_getElem?_getD, List.getElem?_eq_getElem hk]
    exact ⟨own_cell hown hcells.1, own_cell hown hcells.2⟩

set_option maxHeartbeats 400000 in
theorem root19 (h : Rep w 67 t H m) (hw : WF H) :
    Calls Try.prog 19 #[.pointer (some ⟨t, 0, none⟩)] w (Quiet (.int .i64 (rootOf H)) w) := by
  obtain ⟨g, cap, hvv, hc1, hc2, hg, hgt, hver⟩ := ver_mem h hw
  have hlt := (hd_eq hw).2
  have k1 := (hver (hdN H) hlt).2
  have c0 : w.cell? ⟨t, 0, none⟩ = some (.slice (some ⟨g, 0, none⟩) H.vs.length cap) := by rw [cell_of_blk h.blk, ← hvv]; rfl
  have hroot : (H.vs.getD (hdN H) default).root = rootOf H := rfl
  rw [hroot] at k1
  have hl1 : (hdN H : Int) < H.vs.length := by omega
  have hl0 : (0 : Int) ≤ hdN H := by omega
  have ht : t < w.heap.size := h.lt (.inl rfl)
  clear hver hroot hlt hvv
  have HR := Lib.hid h
  have HW := Lib.hid hw
  clear h hw
  go_enter Try.func19, Try.ntmps19
  go_wp2_with fail
  go_region_held3 (fun w' => w'.cell? ⟨t, 0, none⟩ = some (.slice (some ⟨g, 0, none⟩) H.vs.length cap) ∧ w'.cell? ⟨g, hdN H * 2 + 1, none⟩ = some (.int .i64 (rootOf H)) ∧ Below w.heap.size w w')
    (first | (exact ⟨c0, k1, (Below.refl _ _).drew⟩) | (exact ⟨(hb1.cell (p := ⟨t, 0, none⟩) ht).trans c0, (hb1.cell (p := ⟨g, _, none⟩) hg).trans k1, ((Below.refl _ _).drew).trans (hb1.mono (Nat.le_refl w.heap.size))⟩))
    ((go_at_call 13; refine (head13 (HR.out.below ((Below.refl _ _).drew)) HW.out).mono ?_; rintro e w1 ⟨rfl, hb1⟩))
  go_wp2
  go_ret
  exact ⟨rfl, ((Below.refl _ _).drew).trans (hb1.mono (Nat.le_refl w.heap.size))⟩

end

end Go.Proofs.Ytalmfmijjbpnpaa
