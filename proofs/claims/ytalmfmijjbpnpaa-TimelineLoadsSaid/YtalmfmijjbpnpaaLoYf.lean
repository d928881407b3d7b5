/-
  Remove and Forget of the program: what they make of a history, and the walks.
-/
import Derived.Test.YtalmfmijjbpnpaaLoP
import Derived.Test.YtalmfmijjbpnpaaLoYb
namespace Go.Proofs.Ytalmfmijjbpnpaa
open Go.RowKit

def cRemove (H : Hist) (name : ByteArray) : Int := if missE name (hasN name (bnames H)) = 0 then (if name = H.cur then 17 else 0) else missE name (hasN name (bnames H))
def mRemove (H : Hist) (name : ByteArray) : Hist := if cRemove H name = 0 then { H with bs := del H.bs (rank name (bnames H)) } else H
def cForget (H : Hist) (name : ByteArray) : Int := missE name (hasN name (snames H))
def mForget (H : Hist) (name : ByteArray) : Hist := if cForget H name = 0 then { H with ss := del H.ss (rank name (snames H)) } else H

theorem cRemove_zero {H : Hist} {name : ByteArray} (h : cRemove H name = 0) : missE name (hasN name (bnames H)) = 0 ∧ name ≠ H.cur := by
  unfold cRemove at h
  split at h
  · rename_i h0
    split at h
    · cases h
    · rename_i h1; exact ⟨h0, h1⟩
  · rename_i h0; exact absurd h h0

theorem hasN_at {name : ByteArray} {l : List ByteArray} (h : hasN name l = true) : l[rank name l]? = some name := by
  unfold hasN at h
  rw [decide_eq_true_eq] at h
  exact h

theorem wf_remove {H : Hist} (hw : WF H) (name : ByteArray) : WF (mRemove H name) := by
  unfold mRemove
  split
  · rename_i h
    obtain ⟨h0, hne⟩ := cRemove_zero h
    have hat := hasN_at (missE_zero h0).2
    have hbl : (bnames H).length = H.bs.length := by simp [bnames]
    have hr : rank name (bnames H) < H.bs.length := by have := (List.getElem?_eq_some_iff.1 hat).1; omega
    have hn : bnames { H with bs := del H.bs (rank name (bnames H)) } = del (bnames H) (rank name (bnames H)) := map_del _ _ _
    have hs : SortedN (del (bnames H) (rank name (bnames H))) := List.Pairwise.sublist (del_sublist _ _) hw.sb
    have hcm : H.cur ∈ del (bnames H) (rank name (bnames H)) := mem_del_of hat ((hasN_iff hw.sb).1 hw.cur) (fun e => hne e.symm)
    have hb1 := hw.b1
    have hb2 := hw.b2
    have hl := length_del hr
    exact {
      v1 := hw.v1
      v2 := hw.v2
      b1 := by
        have h1 : 0 < (del (bnames H) (rank name (bnames H))).length := List.length_pos_of_mem hcm
        rw [length_del (by omega)] at h1
        show 1 ≤ (del H.bs _).length
        omega
      b2 := by show (del H.bs _).length ≤ 16; omega
      s2 := hw.s2
      sb := by rw [hn]; exact hs
      sn := hw.sn
      cur := by rw [hn, hasN_iff hs]; exact hcm
      bw := fun b hb => hw.bw b (mem_del hb)
      sw := hw.sw
      par0 := hw.par0
      par := hw.par
      hd := fun b hb => hw.hd b (mem_del hb)
      rd := fun b hb => hw.rd b (mem_del hb)
      sv := hw.sv }
  · exact hw

theorem wf_forget {H : Hist} (hw : WF H) (name : ByteArray) : WF (mForget H name) := by
  unfold mForget
  split
  · rename_i h
    have hat := hasN_at (missE_zero h).2
    have hbl : (snames H).length = H.ss.length := by simp [snames]
    have hr : rank name (snames H) < H.ss.length := by have := (List.getElem?_eq_some_iff.1 hat).1; omega
    have hn : snames { H with ss := del H.ss (rank name (snames H)) } = del (snames H) (rank name (snames H)) := map_del _ _ _
    have hs2 := hw.s2
    have hl := length_del hr
    exact { hw with
      s2 := by show (del H.ss _).length ≤ 16; omega
      sn := by rw [hn]; exact List.Pairwise.sublist (del_sublist _ _) hw.sn
      sw := fun b hb => hw.sw b (mem_del hb)
      sv := fun b hb => hw.sv b (mem_del hb) }
  · exact hw

theorem lnCells_del (a : List (Ln × Value)) (i : Nat) (h : i < a.length) : lnCells (del a i) = (lnCells a).take (i * 3) ++ (lnCells a).drop ((i + 1) * 3) := by
  unfold del
  rw [lnCells_append, lnCells_take a i (by omega), lnCells_drop a (i + 1) (by omega)]
theorem lbCells_del (a : List Lb) (i : Nat) (h : i < a.length) : lbCells (del a i) = (lbCells a).take (i * 2) ++ (lbCells a).drop ((i + 1) * 2) := by
  unfold del
  rw [lbCells_append, lbCells_take a i (by omega), lbCells_drop a (i + 1) (by omega)]

section
variable {w : World} {T t : Nat} {H : Hist} {m : View}

/-- Behind a deletion from the branches. -/
theorem mut_delB {v : Value} {w3 w4 : World} (h : Rep w3 T t H m) (hF : Fr (m.owns t) w w3) {i : Nat} (hi : i < m.ml.length) {v' : Value}
    (hv : w4.ownsRow 0 65 3 v' (m.ml.length - 1) ((lnCells m.ml).take (i * 3) ++ (lnCells m.ml).drop ((i + 1) * 3)))
    (hf : Fr (fun k => m.bv.ownBlock = some k) w3 w4) (ho : ∀ k, v'.ownBlock = some k → m.bv.ownBlock = some k ∨ w3.heap.size ≤ k) :
    Mut v { H with bs := del H.bs i } T t m w (.returned v) (w4.setCell ⟨t, 1, none⟩ v') := by
  have hr := h.change_bv hf (v' := v') (ml' := del m.ml i) (by rw [length_del hi, lnCells_del _ _ hi]; exact hv)
    (fun x hx => own_fr_ne (h.rd x (mem_del hx)) h.bs (by decide) hf)
    (by rw [map_del]; exact List.Pairwise.sublist (del_sublist _ _) h.dis)
  rw [map_del, ← h.ml] at hr
  refine ⟨rfl, _, hr, (hF.trans hf (fun k _ e => .inr (.inr (.inl e)))).setCell _ (fun _ => .inl rfl), ?_⟩
  rintro q (rfl | hq | hq | hq | ⟨y, hy, hq⟩)
  · exact .inl (.inl rfl)
  · exact .inl (.inr (.inl hq))
  · rcases ho q hq with h1 | h1
    · exact .inl (.inr (.inr (.inl h1)))
    · right; have := hF.size; omega
  · exact .inl (.inr (.inr (.inr (.inl hq))))
  · exact .inl (.inr (.inr (.inr (.inr ⟨y, mem_del hy, hq⟩))))

set_option maxRecDepth 100000 in
set_option maxHeartbeats 2000000 in
theorem remove49 (h : Rep w 67 t H m) (hw : WF H) (name : ByteArray) (hnm : name.size ≤ maxLen) :
    Calls Try.prog 49 #[.pointer (some ⟨t, 0, none⟩), .string name] w (Mut (.int .i64 (cRemove H name)) (mRemove H name) 67 t m w) := by
  have hb2 := hw.b2
  have hB := Lib.hid (missing36 34 (.inl rfl) _ name hnm _ _ (branch34 h hw.sb (by omega) name))
  obtain ⟨g, cap, rv, hbv, hlen, hcap, hml, k0, k1, k2, hg, hgt, hrow⟩ := cur_mem h hw
  have ht : t < w.heap.size := h.lt (.inl rfl)
  have c1 : w.cell? ⟨t, 1, none⟩ = some (.slice (some ⟨g, 0, none⟩) H.bs.length cap) := by rw [h.cellT.2.1, hbv, hlen]
  have c3 : w.cell? ⟨t, 3, none⟩ = some (.string H.cur) := h.cellT.2.2.2
  have HR := Lib.hid h
  have HBV := Lib.hid hbv
  have HLE := Lib.hid hlen
  clear h hbv hlen hml hrow k0 k1 k2
  by_cases hz : missE name (hasN name (bnames H)) = 0
  · rw [hz] at hB
    have hat := hasN_at (missE_zero hz).2
    by_cases hc : name = H.cur
    · have e1 : cRemove H name = 17 := by unfold cRemove; rw [if_pos hz, if_pos hc]
      have e2 : mRemove H name = H := if_neg (by rw [e1]; decide)
      rw [e1, e2]
      subst hc
      clear e1 e2 hz hat
      go_enter Try.func49, Try.ntmps49
      go_wp2_with fail
      refine hB.out.mono ?_
      rintro e w1 ⟨rfl, hb1⟩
      have d3 : w1.cell? ⟨t, 3, none⟩ = some (.string H.cur) := (hb1.cell (p := ⟨t, 3, none⟩) ht).trans c3
      have HB1 := Lib.hid hb1
      clear hb1
      go_wp2_with fail
      go_ret
      exact Mut.none HR.out HB1.out
    · have e1 : cRemove H name = 0 := by unfold cRemove; rw [if_pos hz, if_neg hc]
      have e2 : mRemove H name = { H with bs := del H.bs (rank name (bnames H)) } := if_pos e1
      rw [e1, e2]
      have hbl : (bnames H).length = H.bs.length := by simp [bnames]
      have hrk : rank name (bnames H) < H.bs.length := by have := (List.getElem?_eq_some_iff.1 hat).1; omega
      have hHow : ∀ w', Below w.heap.size w w' → w'.ownsRow 0 65 3 (.slice (some ⟨g, 0, none⟩) H.bs.length cap) H.bs.length (lnCells m.ml) := fun w' hw' => by
        have := (HR.out.below hw').bs
        rwa [HBV.out, HLE.out] at this
      have HOW := Lib.hid hHow
      have hcn : (name.toList == H.cur.toList) = false := by rw [beq_eq_false_iff_ne]; exact fun e => hc (ba_ext e)
      have f1 : w.frozen? ⟨t, 1, none⟩ = false := HR.out.frT 1
      have hnt : ¬ (Value.slice (some ⟨g, 0, none⟩) H.bs.length cap).ownBlock = some t := by simpa [Value.ownBlock] using hgt
      have HNT := Lib.hid hnt
      obtain ⟨r, hr⟩ : ∃ r, r = rank name (bnames H) := ⟨_, rfl⟩
      have hS := Lib.hid (fun w1 (hb1 : Below w.heap.size w w1) => branch34 (HR.out.below hb1) hw.sb (by omega) name)
      rw [← hr] at hS hrk ⊢
      have HRK := Lib.hid hrk
      have hr63 : (r : Int) ≤ 1000 := by omega
      clear e1 e2 hz hat hbl hHow hnt hr
      go_enter Try.func49, Try.ntmps49
      go_wp2_with fail
      refine hB.out.mono ?_
      rintro e w1 ⟨rfl, hb1⟩
      have d3 : w1.cell? ⟨t, 3, none⟩ = some (.string H.cur) := (hb1.cell (p := ⟨t, 3, none⟩) ht).trans c3
      have HB1 := Lib.hid hb1
      clear hb1
      go_wp2_with fail
      refine (hS.out _ HB1.out).mono ?_
      rintro e w2 ⟨rfl, hb2⟩
      have HB2 := Lib.hid (HB1.out.trans (hb2.mono HB1.out.size))
      clear hb2
      have d1 : w2.cell? ⟨t, 1, none⟩ = some (.slice (some ⟨g, 0, none⟩) H.bs.length cap) := (HB2.out.cell (p := ⟨t, 1, none⟩) ht).trans c1
      have g1 : w2.frozen? ⟨t, 1, none⟩ = false := (HB2.out.frozen (p := ⟨t, 1, none⟩) ht).trans f1
      have ht2 : t < w2.heap.size := Nat.lt_of_lt_of_le ht HB2.out.size
      go_wp2_with fail
      refine (delete81 _ _ r (lnCells m.ml) (HOW.out _ HB2.out) (one_lnm HR.out) HRK.out (by omega)).mono ?_
      rintro e w4 ⟨v4, rfl, ho4, hf4, hg4⟩
      obtain ⟨a4, g4, c4, rfl, _⟩ := own_addr ho4
      have d4 : w4.cell? ⟨t, 1, none⟩ = some (.slice (some ⟨g, 0, none⟩) H.bs.length cap) := hf4.cell d1 HNT.out
      have f4 : w4.frozen? ⟨t, 1, none⟩ = false := (hf4.frozen (a := ⟨t, 1, none⟩) ht2 HNT.out).trans g1
      have HO4 := Lib.hid ho4
      have HF4 := Lib.hid hf4
      have HG4 := Lib.hid hg4
      clear ho4 hf4 hg4
      go_wp2_with fail
      go_ret
      exact mut_delB (HR.out.below HB2.out) (Fr.of_below HB2.out) (by rw [HLE.out]; exact HRK.out) (by rw [HLE.out]; exact HO4.out) (by rw [HBV.out]; exact HF4.out) (by rw [HBV.out]; exact fun k hk => .inl (HG4.out k hk))
  · have e1 : cRemove H name = missE name (hasN name (bnames H)) := if_neg hz
    have e2 : mRemove H name = H := if_neg (by rw [e1]; exact hz)
    have hz' := bneq_of hz
    rw [e1, e2]
    clear e1 e2 hz
    go_enter Try.func49, Try.ntmps49
    go_wp2_with fail
    refine hB.out.mono ?_
    rintro e w1 ⟨rfl, hb1⟩
    have HB1 := Lib.hid hb1
    clear hb1
    go_wp2_with fail
    go_ret
    exact Mut.none HR.out HB1.out

set_option maxRecDepth 100000 in
set_option maxHeartbeats 2000000 in
theorem forget53 (h : Rep w 67 t H m) (hw : WF H) (name : ByteArray) (hnm : name.size ≤ maxLen) :
    Calls Try.prog 53 #[.pointer (some ⟨t, 0, none⟩), .string name] w (Mut (.int .i64 (cForget H name)) (mForget H name) 67 t m w) := by
  have hs2 := hw.s2
  have hB := Lib.hid (missing36 38 (.inr rfl) _ name hnm _ _ (snapshot38 h hw.sn (by omega) name))
  have ht : t < w.heap.size := h.lt (.inl rfl)
  have HR := Lib.hid h
  by_cases hz : missE name (hasN name (snames H)) = 0
  · rw [hz] at hB
    have hat := hasN_at (missE_zero hz).2
    have e1 : cForget H name = 0 := hz
    have e2 : mForget H name = { H with ss := del H.ss (rank name (snames H)) } := if_pos e1
    rw [e1, e2]
    have hbl : (snames H).length = H.ss.length := by simp [snames]
    have hrk : rank name (snames H) < H.ss.length := by have := (List.getElem?_eq_some_iff.1 hat).1; omega
    obtain ⟨g, cap, hsv, hc1, hc2, hg⟩ := own_form h.ss (by omega)
    have c1 : w.cell? ⟨t, 2, none⟩ = some (.slice (some ⟨g, 0, none⟩) H.ss.length cap) := by rw [h.cellT.2.2.1, hsv]
    have f1 : w.frozen? ⟨t, 2, none⟩ = false := h.frT 2
    have HSV := Lib.hid hsv
    have hHow : ∀ w', Below w.heap.size w w' → w'.ownsRow 0 78 2 (.slice (some ⟨g, 0, none⟩) H.ss.length cap) H.ss.length (lbCells H.ss) := fun w' hw' => by
      have := (HR.out.below hw').ss
      rwa [HSV.out] at this
    have HOW := Lib.hid hHow
    have hnt : ¬ (Value.slice (some ⟨g, 0, none⟩) H.ss.length cap).ownBlock = some t := by rw [← hsv]; exact fun e => own_ne_blk h.ss h.blk (tn h.tt (by decide)) t e rfl
    have HNT := Lib.hid hnt
    obtain ⟨r, hr⟩ : ∃ r, r = rank name (snames H) := ⟨_, rfl⟩
    have hS := Lib.hid (fun w1 (hb1 : Below w.heap.size w w1) => snapshot38 (HR.out.below hb1) hw.sn (by omega) name)
    rw [← hr] at hS hrk ⊢
    have HRK := Lib.hid hrk
    have hr63 : (r : Int) ≤ 1000 := by omega
    clear e1 e2 hz hat hbl hHow hnt hr h hsv
    go_enter Try.func53, Try.ntmps53
    go_wp2_with fail
    refine hB.out.mono ?_
    rintro e w1 ⟨rfl, hb1⟩
    have HB1 := Lib.hid hb1
    clear hb1
    go_wp2_with fail
    refine (hS.out _ HB1.out).mono ?_
    rintro e w2 ⟨rfl, hb2⟩
    have HB2 := Lib.hid (HB1.out.trans (hb2.mono HB1.out.size))
    clear hb2
    have d1 : w2.cell? ⟨t, 2, none⟩ = some (.slice (some ⟨g, 0, none⟩) H.ss.length cap) := (HB2.out.cell (p := ⟨t, 2, none⟩) ht).trans c1
    have g1 : w2.frozen? ⟨t, 2, none⟩ = false := (HB2.out.frozen (p := ⟨t, 2, none⟩) ht).trans f1
    have ht2 : t < w2.heap.size := Nat.lt_of_lt_of_le ht HB2.out.size
    go_wp2_with fail
    refine (delete83 _ _ r (lbCells H.ss) (HOW.out _ HB2.out) (one_lb _) HRK.out (by omega)).mono ?_
    rintro e w4 ⟨v4, rfl, ho4, hf4, hg4⟩
    obtain ⟨a4, g4, c4, rfl, _⟩ := own_addr ho4
    have d4 : w4.cell? ⟨t, 2, none⟩ = some (.slice (some ⟨g, 0, none⟩) H.ss.length cap) := hf4.cell d1 HNT.out
    have f4 : w4.frozen? ⟨t, 2, none⟩ = false := (hf4.frozen (a := ⟨t, 2, none⟩) ht2 HNT.out).trans g1
    have HO4 := Lib.hid ho4
    have HF4 := Lib.hid hf4
    have HG4 := Lib.hid hg4
    clear ho4 hf4 hg4
    go_wp2_with fail
    go_ret
    exact mut_chS (HR.out.below HB2.out) (Fr.of_below HB2.out) (by rw [length_del HRK.out, lbCells_del _ _ HRK.out]; exact HO4.out) (by rw [HSV.out]; exact HF4.out) (by rw [HSV.out]; exact fun k hk => .inl (HG4.out k hk))
  · have e1 : cForget H name = missE name (hasN name (snames H)) := rfl
    have e2 : mForget H name = H := if_neg hz
    have hz' := bneq_of hz
    rw [e1, e2]
    clear e1 e2 hz h
    go_enter Try.func53, Try.ntmps53
    go_wp2_with fail
    refine hB.out.mono ?_
    rintro e w1 ⟨rfl, hb1⟩
    have HB1 := Lib.hid hb1
    clear hb1
    go_wp2_with fail
    go_ret
    exact Mut.none HR.out HB1.out

end

end Go.Proofs.Ytalmfmijjbpnpaa
