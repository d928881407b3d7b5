/-
  The walk of Commit of the reference.
-/
import Derived.Test.YtalmfmijjbpnpaaLoZf
namespace Go.Proofs.Ytalmfmijjbpnpaa
open Go.RowKit

section
variable {w : World} {t : Nat} {H : Hist} {m : View}

/-- What set leaves is what an operation leaves. -/
theorem Mut.ofSet {w3 w4 : World} {H2 : Hist} {m2 : View} {hd : Int} {rd : List Int} {rv v : Value} {e : Ending} (hF : Fr (m.owns t) w w3) (how : ∀ k, m2.owns t k → m.owns t k ∨ w.heap.size ≤ k)
    (hrv : ∀ k, rv.ownBlock = some k → w.heap.size ≤ k) (h : SetP w3 t H2 m2 hd rd rv e w4) : Mut v (setCur H2 ⟨H2.cur, hd, rd⟩) 56 t m w (.returned v) w4 := by
  obtain ⟨_, m', hr, hf, ho⟩ := h
  refine ⟨rfl, m', hr, hF.trans hf (fun k _ e => .inl e), fun k hk => ?_⟩
  rcases ho k hk with h | h | h
  · exact how k h
  · exact .inr (hrv k h)
  · right; have := hF.size; omega

set_option maxRecDepth 100000 in
set_option maxHeartbeats 2000000 in
theorem refCommit44 (h : Rep w 56 t H m) (hw : WF H) (root : Int) :
    Calls Try.prog 44 #[.pointer (some ⟨t, 0, none⟩), .int .i64 root] w (Mut (.int .i64 (cCommit H root)) (mCommit H root) 56 t m w) := by
  obtain ⟨gv, capv, hvv, hcv1, hcv2, hgv, hgvt, _⟩ := ver_mem h hw
  have c0 : w.cell? ⟨t, 0, none⟩ = some (.slice (some ⟨gv, 0, none⟩) H.vs.length capv) := by rw [cell_of_blk h.blk, ← hvv]; rfl
  have f0 : w.frozen? ⟨t, 0, none⟩ = false := h.frT 0
  have ht : t < w.heap.size := h.lt (.inl rfl)
  have hv1 := hw.v1
  have hv2 := hw.v2
  by_cases hlim : 1000 ≤ H.vs.length
  · have e1 : cCommit H root = 7 := if_pos hlim
    have e2 : mCommit H root = H := if_pos hlim
    rw [e1, e2]
    have HR := Lib.hid h
    clear e1 e2 h hvv
    go_enter Try.func44, Try.ntmps44
    go_wp2_with fail
    go_ret
    exact Mut.none HR.out (Below.refl _ _)
  · have e1 : cCommit H root = 0 := if_neg hlim
    rw [e1]
    have hrow := h.vs
    rw [hvv] at hrow
    have hll := hrow.1
    have hcl : ∀ j u, (verCells H.vs)[j]? = some u → w.cell? ⟨gv, j, none⟩ = some u := fun j u hu => own_cell hrow hu
    obtain ⟨i0, hi0, hz0, hz1, hz2⟩ := info_parts info40
    have hown : (w.alloc (.cells #[] 40)).ownsRow w.heap.size 40 2 (.slice (some ⟨w.heap.size, 0, none⟩) 0 0) 0 [] := World.ownsRow_lit w #[] 0 (Nat.le_refl _) (by unfold maxLen; omega) rfl
    have HOWN := Lib.hid hown
    have HR := Lib.hid h
    have HW := Lib.hid hw
    have HCL := Lib.hid hcl
    have HLL := Lib.hid hll
    have HE := Lib.hid e1
    clear hown h hw hcl hll hvv hrow e1
    go_enter Try.func44, Try.ntmps44
    go_wp2_with (at_builtin; refine wpList_append_own _ rfl _ _ 33 rfl w.heap.size 40 i0 _ 2 16 Try.underlying33 hi0 hz0 hz1 hz2 rfl (by decide) _ 0 [] rfl HOWN.out ⟨gv, 0, none⟩ H.vs.length capv (verCells H.vs) rfl HLL.out ?_ (one_ver _) (by unfold maxLen; omega) (by omega) (by simp) ?_)
    · intro j u hu
      have := HCL.out j u hu
      have e : (⟨gv, 0, none⟩ : Addr).add j = ⟨gv, j, none⟩ := by unfold Addr.add; split <;> simp_all
      rw [e]
      exact (((Below.refl w.heap.size w).alloc (Nat.le_refl _) (.cells #[] 40)).cell (World.block_lt_of_cell? w _ this)).trans this
    · intro v' w1 hown' hgrow _
      try simp only [List.nil_append, Nat.zero_add] at hown'
      have hb1 : Below w.heap.size w w1 := ((Below.refl w.heap.size w).alloc (Nat.le_refl _) (.cells #[] 40)).grown hgrow (by simp) (by intro k hk; simp [Value.ownBlock] at hk; omega)
      obtain ⟨gn, capn, rfl, hcn1, hcn2, hgn⟩ := own_form hown' (by omega)
      have HO := Lib.hid hown'
      have HB1 := Lib.hid hb1
      clear hown' hgrow hb1
      go_wp2_with fail
      refine (refHead56 (HR.out.below HB1.out) HW.out).mono ?_
      rintro e w2 ⟨rfl, hb2⟩
      have ho2 := own_frame HO.out (Fr.of_below (S := fun _ => False) hb2) (fun _ _ e => e)
      have HO2 := Lib.hid ho2
      have HB2 := Lib.hid (HB1.out.trans (hb2.mono HB1.out.size))
      clear ho2 hb2
      go_wp2_with (at_builtin; refine wpList_app rfl _ _ 33 rfl w.heap.size 40 i0 _ 2 16 Try.underlying33 hi0 hz0 hz1 hz2 rfl (by decide) _ H.vs.length (verCells H.vs) rfl (HO2.out.alloc _) _ 1 [.int .i64 (hdN H), .int .i64 root] rfl (sl_block (heap_alloc_new w2 (.cells #[.int .i64 (hdN H), .int .i64 root] 40)) rfl (by decide)) ?_ (by unfold maxLen; omega) (by omega) (by have := HB2.out.size; simp; omega) ?_)
      · intro u hu
        simp at hu
        rcases hu with rfl | rfl <;> rfl
      · intro a3 c3 w3 hown3 hfr3
        have hge : w.heap.size ≤ gn := own_ge HO.out rfl
        have hb3 : Below w.heap.size w w3 := by
          have h1 : Below w.heap.size w (w2.alloc (.cells #[.int .i64 (hdN H), .int .i64 root] 40)) := HB2.out.alloc HB2.out.size _
          refine h1.trans (hfr3.below_of (fun k hk hS => ?_) h1.size)
          have : gn = k := by simpa [Value.ownBlock] using hS
          omega
        have d0 : w3.cell? ⟨t, 0, none⟩ = some (.slice (some ⟨gv, 0, none⟩) H.vs.length capv) := (hb3.cell (p := ⟨t, 0, none⟩) ht).trans c0
        have e0 : w3.frozen? ⟨t, 0, none⟩ = false := (hb3.frozen (p := ⟨t, 0, none⟩) ht).trans f0
        have hR4 := (HR.out.below hb3).change_vv (vs' := H.vs ++ [⟨hdN H, root⟩]) (Fr.refl _ _) (v' := .slice a3 (H.vs.length + 1) c3) (by rw [List.length_append, verCells_snoc]; exact ownsRow_mono hown3 (Nat.zero_le _))
        have hF4 : Fr (m.owns t) w (w3.setCell ⟨t, 0, none⟩ (.slice a3 (H.vs.length + 1) c3)) := (Fr.of_below hb3).setCell _ (fun _ => .inl rfl)
        have hO4 : ∀ k, (Value.slice a3 (H.vs.length + 1) c3).ownBlock = some k → w.heap.size ≤ k := fun k hk => own_ge hown3 hk
        have HR4 := Lib.hid hR4
        have HF4 := Lib.hid hF4
        have HO4 := Lib.hid hO4
        clear hR4 hF4 hO4 hown3 hfr3 hb3
        go_wp2_with fail
        refine (refSet77 HR4.out (by have := HW.out.b2; show H.bs.length ≤ 1000; omega) HW.out.cur (H.vs.length : Int) (rd := []) (a := none) (rc := 0) (World.ownsRow_nil _ _ _ _) (fun k hk => by cases hk)).mono ?_
        rintro e w5 h5
        obtain ⟨rfl, h5'⟩ := id h5
        have H5 := Lib.hid h5
        clear h5 h5'
        go_wp2_with fail
        go_ret
        have e2 : mCommit H root = setCur { H with vs := H.vs ++ [⟨hdN H, root⟩] } ⟨H.cur, H.vs.length, []⟩ := by
          unfold mCommit
          rw [if_neg hlim, (hd_eq HW.out).1]
        rw [e2]
        refine Mut.ofSet HF4.out ?_ (fun k hk => by cases hk) H5.out
        rintro q (rfl | hq | hq | hq | hq)
        · exact .inl (.inl rfl)
        · exact .inr (HO4.out q hq)
        · exact .inl (.inr (.inr (.inl hq)))
        · exact .inl (.inr (.inr (.inr (.inl hq))))
        · exact .inl (.inr (.inr (.inr (.inr hq))))

end

end Go.Proofs.Ytalmfmijjbpnpaa
