/-
  The walk of set of the reference.
-/
import Derived.Test.YtalmfmijjbpnpaaLoZc
import Derived.Test.YtalmfmijjbpnpaaLoHIJ
import Derived.Test.YtalmfmijjbpnpaaLoT
namespace Go.Proofs.Ytalmfmijjbpnpaa
open Go.RowKit

theorem set_same {α : Type} {l : List α} {i : Nat} {v : α} (h : l[i]? = some v) : l.set i v = l := by
  apply List.ext_getElem?
  intro j
  rw [List.getElem?_set]
  split
  · rename_i e
    subst e
    rw [if_pos (List.getElem?_eq_some_iff.1 h).1, h]
  · rfl

section
variable {w : World} {t : Nat} {H : Hist} {m : View}

/-- A row of branches, one of which was written anew. -/
theorem own_set3 {base g cap k : Nat} {ml : List (Ln × Value)} {x : Ln × Value} (h : w.ownsRow base 65 3 (.slice (some ⟨g, 0, none⟩) ml.length cap) ml.length (lnCells ml)) (hk : ml[k]? = some x) (hd : Int) (rd : List Int) (rv : Value) :
    (((w.setCell ⟨g, k * 3, none⟩ (.string x.1.nm)).setCell ⟨g, k * 3 + 1, none⟩ (.int .i64 hd)).setCell ⟨g, k * 3 + 2, none⟩ rv).ownsRow base 65 3 (.slice (some ⟨g, 0, none⟩) ml.length cap) (ml.set k (⟨x.1.nm, hd, rd⟩, rv)).length (lnCells (ml.set k (⟨x.1.nm, hd, rd⟩, rv))) := by
  have hkl := (List.getElem?_eq_some_iff.1 hk).1
  have h0 := (h.stored (k * 3) (.string x.1.nm)).1
  rw [set_same (lnCells_get _ _ _ hk).1] at h0
  have h1 := (h0.stored (k * 3 + 1) (.int .i64 hd)).1
  rw [(lnCells_set ml k x hk hd x.1.rd rv).1] at h1
  have h2 := (h1.stored (k * 3 + 2) rv).1
  rw [(lnCells_set (ml.set k (⟨x.1.nm, hd, x.1.rd⟩, x.2)) k (⟨x.1.nm, hd, x.1.rd⟩, x.2) (by rw [List.getElem?_set_self hkl]) hd rd rv).2, List.set_set] at h2
  rw [List.length_set]
  exact h2

/-- What set leaves. -/
def SetP (w : World) (t : Nat) (H : Hist) (m : View) (hd : Int) (rd : List Int) (rv : Value) (e : Ending) (w' : World) : Prop :=
  e = .returned (.tuple #[]) ∧ ∃ m', Rep w' 56 t (setCur H ⟨H.cur, hd, rd⟩) m' ∧ Fr (fun k => k = t) w w' ∧ ∀ k, m'.owns t k → m.owns t k ∨ rv.ownBlock = some k ∨ w.heap.size ≤ k

/-- From the state before the last store. -/
theorem setP_mk {w4 : World} {gn capn : Nat} {x : Ln × Value} {hd : Int} {rd : List Int} {a : Option Addr} {rc : Nat} (h : Rep w 56 t H m) (hk : m.ml[ci H]? = some x) (hx : x.1.nm = H.cur)
    (hb : Below w.heap.size w w4) (hown : w4.ownsRow w.heap.size 65 3 (.slice (some ⟨gn, 0, none⟩) m.ml.length capn) m.ml.length (lnCells m.ml))
    (hrv : w.ownsRow 0 3 1 (.slice a rd.length rc) rd.length (intCells rd)) (hfr : ∀ k, (Value.slice a rd.length rc).ownBlock = some k → ¬ m.owns t k) :
    SetP w t H m hd rd (.slice a rd.length rc) (.returned (.tuple #[]))
      ((((w4.setCell ⟨gn, ci H * 3, none⟩ (.string H.cur)).setCell ⟨gn, ci H * 3 + 1, none⟩ (.int .i64 hd)).setCell ⟨gn, ci H * 3 + 2, none⟩ (.slice a rd.length rc)).setCell ⟨t, 1, none⟩ (.slice (some ⟨gn, 0, none⟩) m.ml.length capn)) := by
  have hge : w.heap.size ≤ gn := own_ge hown rfl
  have hsz := hb.size
  have h3 := own_set3 hown hk hd rd (.slice a rd.length rc)
  rw [hx] at h3
  have hb3 : Below w.heap.size w (((w4.setCell ⟨gn, ci H * 3, none⟩ (.string H.cur)).setCell ⟨gn, ci H * 3 + 1, none⟩ (.int .i64 hd)).setCell ⟨gn, ci H * 3 + 2, none⟩ (.slice a rd.length rc)) :=
    ((hb.setCell (by show w.heap.size ≤ gn; exact hge) _).setCell (by show w.heap.size ≤ gn; exact hge) _).setCell (by show w.heap.size ≤ gn; exact hge) _
  have hrow : ∀ {v : Value} {n : Nat} {xs : List Value}, w.ownsRow 0 3 1 v n xs → (((w4.setCell ⟨gn, ci H * 3, none⟩ (.string H.cur)).setCell ⟨gn, ci H * 3 + 1, none⟩ (.int .i64 hd)).setCell ⟨gn, ci H * 3 + 2, none⟩ (.slice a rd.length rc)).ownsRow 0 3 1 v n xs :=
    fun ho => own_frame ho (Fr.of_below (S := fun _ => False) hb3) (fun _ _ e => e)
  have hr := h.change_bv (Fr.of_below hb3) (v' := .slice (some ⟨gn, 0, none⟩) m.ml.length capn) (ml' := m.ml.set (ci H) (⟨H.cur, hd, rd⟩, .slice a rd.length rc)) (ownsRow_mono h3 (Nat.zero_le _))
    (fun y hy => by
      rcases mem_set_cases hy with rfl | ⟨j, _, hj⟩
      · exact hrow hrv
      · exact hrow (h.rd y (List.mem_of_getElem? hj)))
    (by
      rw [map_set_own]
      have hd' := List.pairwise_iff_getElem.1 h.dis
      refine List.pairwise_iff_getElem.2 fun i j hi hj hij => ?_
      rw [List.getElem_set, List.getElem_set]
      simp only [List.length_set, List.length_map] at hi hj
      have hno : ∀ (q : Nat) (hq : q < m.ml.length), (m.ml.map (·.2.ownBlock))[q]'(by simpa using hq) = none ∨ (m.ml.map (·.2.ownBlock))[q]'(by simpa using hq) ≠ (Value.slice a rd.length rc).ownBlock := fun q hq => by
        rw [List.getElem_map]
        cases hv : (m.ml[q]).2.ownBlock with
        | none => exact .inl rfl
        | some k =>
          right
          intro e
          exact hfr k e.symm (.inr (.inr (.inr (.inr ⟨m.ml[q], List.getElem_mem _, hv⟩))))
      split
      · split
        · omega
        · by_cases hv : (Value.slice a rd.length rc).ownBlock = none
          · exact .inl hv
          · right
            intro e
            rcases hno j hj with h0 | h0
            · exact hv (e.trans h0)
            · exact h0 e.symm
      · split
        · exact hno i hi
        · exact hd' i j (by simpa using hi) (by simpa using hj) hij)
  rw [map_set_fst, ← h.ml] at hr
  refine ⟨rfl, _, hr, (Fr.of_below hb3).setCell _ (fun _ => rfl), ?_⟩
  rintro q (rfl | hq | hq | hq | ⟨y, hy, hq⟩)
  · exact .inl (.inl rfl)
  · exact .inl (.inr (.inl hq))
  · have hq' : gn = q := by simpa [Value.ownBlock] using hq
    exact .inr (.inr (by omega))
  · exact .inl (.inr (.inr (.inr (.inl hq))))
  · rcases mem_set_cases hy with rfl | ⟨j, _, hj⟩
    · exact .inr (.inl hq)
    · exact .inl (.inr (.inr (.inr (.inr ⟨y, List.mem_of_getElem? hj, hq⟩))))

set_option maxRecDepth 100000 in
set_option maxHeartbeats 2000000 in
theorem refSet77 (h : Rep w 56 t H m) (hb2 : H.bs.length ≤ 1000) (hcur : hasN H.cur (bnames H) = true) (hd : Int) {rd : List Int} {a : Option Addr} {rc : Nat}
    (hrv : w.ownsRow 0 3 1 (.slice a rd.length rc) rd.length (intCells rd)) (hfr : ∀ k, (Value.slice a rd.length rc).ownBlock = some k → ¬ m.owns t k) :
    Calls Try.prog 77 #[.pointer (some ⟨t, 0, none⟩), .int .i64 hd, .slice a rd.length rc] w (SetP w t H m hd rd (.slice a rd.length rc)) := by
  obtain ⟨hnm, hci0⟩ := look_nm hcur
  have hci : ci H < H.bs.length := hci0
  clear hci0
  have hml := h.ml
  have hlen : m.ml.length = H.bs.length := by rw [hml, List.length_map]
  have hx : m.ml[ci H]? = some (m.ml[ci H]'(by rw [hlen]; exact hci)) := List.getElem?_eq_getElem _
  obtain ⟨x, hxe⟩ : ∃ x, x = m.ml[ci H]'(by rw [hlen]; exact hci) := ⟨_, rfl⟩
  rw [← hxe] at hx
  have hxn : x.1.nm = H.cur := by
    rw [← hnm]
    unfold look
    rw [List.getD_eq_getElem?_getD, hml, List.getElem?_map]
    show x.1.nm = ((Option.map (fun x : Ln × Value => x.1) m.ml[ci H]?).getD default).nm
    rw [hx]; rfl
  obtain ⟨g, cap, hbv, hc1, hc2, hg⟩ := own_form h.bs (by omega)
  have c1 : w.cell? ⟨t, 1, none⟩ = some (.slice (some ⟨g, 0, none⟩) m.ml.length cap) := by rw [cell_of_blk h.blk, ← hbv]; rfl
  have c3 : w.cell? ⟨t, 3, none⟩ = some (.string H.cur) := by rw [cell_of_blk h.blk]; rfl
  have f1 : w.frozen? ⟨t, 1, none⟩ = false := h.frT 1
  have ht : t < w.heap.size := h.lt (.inl rfl)
  have hrow := h.bs
  rw [hbv] at hrow
  have hll := hrow.1
  have hcl : ∀ j u, (lnCells m.ml)[j]? = some u → w.cell? ⟨g, j, none⟩ = some u := fun j u hu => own_cell hrow hu
  have hone := one_lnm h
  have hlt : (ci H : Int) < m.ml.length := by omega
  have h0 : (0 : Int) ≤ ci H := by omega
  have hpos : 0 < m.ml.length := by omega
  have hmx : m.ml.length ≤ 1000 := by omega
  obtain ⟨i0, hi0, hz0, hz1, hz2⟩ := info_parts info65
  have hown : (w.alloc (.cells #[] 65)).ownsRow w.heap.size 65 3 (.slice (some ⟨w.heap.size, 0, none⟩) 0 0) 0 [] := World.ownsRow_lit w #[] 0 (Nat.le_refl _) (by unfold maxLen; omega) rfl
  have HOWN := Lib.hid hown
  have HR := Lib.hid h
  have HX := Lib.hid hx
  have HXN := Lib.hid hxn
  have HRV := Lib.hid hrv
  have HFR := Lib.hid hfr
  have HCL := Lib.hid hcl
  have H1 := Lib.hid hone
  have HLL := Lib.hid hll
  have HB2 := Lib.hid hb2
  have hL := Lib.hid (fun w' (hb : Below w.heap.size w w') => refLine78 (h.below hb) hb2)
  clear hown h hx hxn hrv hfr hcl hone hxe hml hlen hci hnm hbv hrow hll hb2 hcur
  go_enter Try.func77, Try.ntmps77
  go_wp2_with (at_builtin; refine wpList_append_own _ rfl _ _ 34 rfl w.heap.size 65 i0 _ 3 48 Try.underlying34 hi0 hz0 hz1 hz2 rfl (by decide) _ 0 [] rfl HOWN.out ⟨g, 0, none⟩ m.ml.length cap (lnCells m.ml) rfl HLL.out ?_ H1.out (by unfold maxLen; omega) (by omega) (by simp) ?_)
  · intro j u hu
    have := HCL.out j u hu
    have e : (⟨g, 0, none⟩ : Addr).add j = ⟨g, j, none⟩ := by unfold Addr.add; split <;> simp_all
    rw [e]
    exact (((Below.refl w.heap.size w).alloc (Nat.le_refl _) (.cells #[] 65)).cell (World.block_lt_of_cell? w _ this)).trans this
  · intro v' w' hown' hgrow _
    try simp only [List.nil_append, Nat.zero_add] at hown'
    have hb1 : Below w.heap.size w w' := ((Below.refl w.heap.size w).alloc (Nat.le_refl _) (.cells #[] 65)).grown hgrow (by simp) (by intro k hk; simp [Value.ownBlock] at hk; omega)
    obtain ⟨gn, capn, rfl, hcn1, hcn2, hgn⟩ := own_form hown' hpos
    have HO := Lib.hid hown'
    have HB1 := Lib.hid hb1
    have d1 : w'.cell? ⟨t, 1, none⟩ = some (.slice (some ⟨g, 0, none⟩) m.ml.length cap) := (hb1.cell (p := ⟨t, 1, none⟩) ht).trans c1
    have d3 : w'.cell? ⟨t, 3, none⟩ = some (.string H.cur) := (hb1.cell (p := ⟨t, 3, none⟩) ht).trans c3
    clear hown' hgrow hb1
    have hge : w.heap.size ≤ gn := own_ge HO.out rfl
    have hgt : gn ≠ t := by omega
    go_wp2_with fail
    go_region_with ((go_at_call 78; refine (hL.out _ HB1.out.drew).mono ?_; rintro e w2 ⟨rfl, hb2⟩; have hb12 : Below w'.heap.size w' w2 := ((Below.refl _ _).drew).trans hb2; have ho2 := own_frame HO.out (Fr.of_below (S := fun _ => False) hb12) (fun _ _ e => e); have e3 : w2.cell? ⟨t, 3, none⟩ = some (.string H.cur) := (hb12.cell (p := ⟨t, 3, none⟩) (Nat.lt_of_lt_of_le ht HB1.out.size)).trans d3; have e1 : w2.cell? ⟨t, 1, none⟩ = some (.slice (some ⟨g, 0, none⟩) m.ml.length cap) := (hb12.cell (p := ⟨t, 1, none⟩) (Nat.lt_of_lt_of_le ht HB1.out.size)).trans d1; have e2 : w2.frozen? ⟨t, 1, none⟩ = false := (hb12.frozen (p := ⟨t, 1, none⟩) (Nat.lt_of_lt_of_le ht HB1.out.size)).trans ((HB1.out.frozen (p := ⟨t, 1, none⟩) ht).trans f1); have q0 := own_cell ho2 (lnCells_get _ _ _ HX.out).1; have q1 := own_cell ho2 (lnCells_get _ _ _ HX.out).2.1; have q2 := own_cell ho2 (lnCells_get _ _ _ HX.out).2.2; have z0 := ho2.frozenAt (ci H * 3); have z1 := ho2.frozenAt (ci H * 3 + 1); have z2 := ho2.frozenAt (ci H * 3 + 2); have HO2 := Lib.hid ho2; have HB12 := Lib.hid hb12; clear ho2 hb12 hb2))
    all_goals
      go_wp2_with fail
      refine bodyPost_ret (v := .tuple #[]) (by simp [results, Try.results77, go_sem]) rfl ?_
      exact setP_mk HR.out HX.out HXN.out (HB1.out.trans (HB12.out.mono HB1.out.size)) HO2.out HRV.out HFR.out

end

end Go.Proofs.Ytalmfmijjbpnpaa
