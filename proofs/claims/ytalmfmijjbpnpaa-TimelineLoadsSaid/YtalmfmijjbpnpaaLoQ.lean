/-
  Walks of Branch, Snapshot.
-/
import Derived.Test.YtalmfmijjbpnpaaLoN
import Derived.Test.YtalmfmijjbpnpaaLoP
import Derived.Test.YtalmfmijjbpnpaaLoK
import Derived.Deep.RegionWith
namespace Go.Proofs.Ytalmfmijjbpnpaa
open Go.RowKit

def ins {α : Type} (l : List α) (i : Nat) (x : α) : List α := l.take i ++ x :: l.drop i

theorem lnCells_append (a b : List (Ln × Value)) : lnCells (a ++ b) = lnCells a ++ lnCells b := by simp [lnCells]
theorem lnCells_len (a : List (Ln × Value)) : (lnCells a).length = a.length * 3 := by
  induction a with
  | nil => rfl
  | cons x a ih => rw [show lnCells (x :: a) = [.string x.1.nm, .int .i64 x.1.hd, x.2] ++ lnCells a from rfl, List.length_append, ih]; simp; omega
theorem lbCells_append (a b : List Lb) : lbCells (a ++ b) = lbCells a ++ lbCells b := by simp [lbCells]
theorem lbCells_len (a : List Lb) : (lbCells a).length = a.length * 2 := by
  induction a with
  | nil => rfl
  | cons x a ih => rw [show lbCells (x :: a) = [.string x.nm, .int .i64 x.ver] ++ lbCells a from rfl, List.length_append, ih]; simp; omega

theorem lnCells_take (a : List (Ln × Value)) (i : Nat) (h : i ≤ a.length) : lnCells (a.take i) = (lnCells a).take (i * 3) := by
  conv => rhs; rw [← List.take_append_drop i a, lnCells_append]
  exact (List.take_left' (by rw [lnCells_len, List.length_take]; omega)).symm
theorem lnCells_drop (a : List (Ln × Value)) (i : Nat) (h : i ≤ a.length) : lnCells (a.drop i) = (lnCells a).drop (i * 3) := by
  conv => rhs; rw [← List.take_append_drop i a, lnCells_append]
  exact (List.drop_left' (by rw [lnCells_len, List.length_take]; omega)).symm
theorem lbCells_take (a : List Lb) (i : Nat) (h : i ≤ a.length) : lbCells (a.take i) = (lbCells a).take (i * 2) := by
  conv => rhs; rw [← List.take_append_drop i a, lbCells_append]
  exact (List.take_left' (by rw [lbCells_len, List.length_take]; omega)).symm
theorem lbCells_drop (a : List Lb) (i : Nat) (h : i ≤ a.length) : lbCells (a.drop i) = (lbCells a).drop (i * 2) := by
  conv => rhs; rw [← List.take_append_drop i a, lbCells_append]
  exact (List.drop_left' (by rw [lbCells_len, List.length_take]; omega)).symm

theorem lnCells_ins (a : List (Ln × Value)) (i : Nat) (x : Ln × Value) (h : i ≤ a.length) : lnCells (ins a i x) = (lnCells a).take (i * 3) ++ ([.string x.1.nm, .int .i64 x.1.hd, x.2] ++ (lnCells a).drop (i * 3)) := by
  unfold ins
  rw [lnCells_append, show lnCells (x :: a.drop i) = [.string x.1.nm, .int .i64 x.1.hd, x.2] ++ lnCells (a.drop i) from rfl, lnCells_take a i h, lnCells_drop a i h]
theorem lbCells_ins (a : List Lb) (i : Nat) (x : Lb) (h : i ≤ a.length) : lbCells (ins a i x) = (lbCells a).take (i * 2) ++ ([.string x.nm, .int .i64 x.ver] ++ (lbCells a).drop (i * 2)) := by
  unfold ins
  rw [lbCells_append, show lbCells (x :: a.drop i) = [.string x.nm, .int .i64 x.ver] ++ lbCells (a.drop i) from rfl, lbCells_take a i h, lbCells_drop a i h]

theorem length_ins {α : Type} (l : List α) (i : Nat) (x : α) (h : i ≤ l.length) : (ins l i x).length = l.length + 1 := by
  unfold ins; rw [List.length_append, List.length_take, List.length_cons, List.length_drop]; omega
theorem map_ins {α β : Type} (f : α → β) (l : List α) (i : Nat) (x : α) : (ins l i x).map f = ins (l.map f) i (f x) := by
  unfold ins; simp [List.map_take, List.map_drop]
theorem mem_ins {α : Type} {l : List α} {i : Nat} {x y : α} (h : y ∈ ins l i x) : y = x ∨ y ∈ l := by
  unfold ins at h
  rcases List.mem_append.1 h with h | h
  · exact .inr (List.mem_of_mem_take h)
  · rcases List.mem_cons.1 h with h | h
    · exact .inl h
    · exact .inr (List.mem_of_mem_drop h)
theorem pairwise_ins_none {l : List (Option Nat)} (h : l.Pairwise fun a b => a = none ∨ a ≠ b) (i : Nat) : (ins l i none).Pairwise fun a b => a = none ∨ a ≠ b := by
  unfold ins
  have h' := h
  rw [← List.take_append_drop i l, List.pairwise_append] at h'
  refine List.pairwise_append.2 ⟨h'.1, List.pairwise_cons.2 ⟨fun _ _ => .inl rfl, h'.2.1⟩, ?_⟩
  intro a ha b hb
  rcases List.mem_cons.1 hb with rfl | hb
  · cases a with
    | none => exact .inl rfl
    | some k => exact .inr (by simp)
  · exact h'.2.2 a ha b hb

def cBranch (H : Hist) (name : ByteArray) : Int := takenE name (hasN name (bnames H)) H.bs.length
def mBranch (H : Hist) (name : ByteArray) : Hist := if cBranch H name = 0 then { H with bs := ins H.bs (rank name (bnames H)) ⟨name, hdN H, []⟩ } else H
def cSnap (H : Hist) (name : ByteArray) : Int := takenE name (hasN name (snames H)) H.ss.length
def mSnap (H : Hist) (name : ByteArray) : Hist := if cSnap H name = 0 then { H with ss := ins H.ss (rank name (snames H)) ⟨name, hdN H⟩ } else H

section
variable {w : World} {T t : Nat} {H : Hist} {m : View}

theorem one_lnm (h : Rep w T t H m) : ∀ u ∈ lnCells m.ml, u.oneCell' = true := one_ln _ fun x hx => by
  rcases (h.rd x hx).2 with ⟨e, _⟩ | ⟨g, cap, cur, e, _⟩ <;> rw [e] <;> rfl

/-- Behind an insertion into the branches. -/
theorem mut_insB {v : Value} {w3 w4 : World} (h : Rep w3 T t H m) (hF : Fr (m.owns t) w w3) {i : Nat} (hi : i ≤ m.ml.length) {v' : Value} {name : ByteArray} {hd : Int}
    (hv : w4.ownsRow 0 65 3 v' (m.ml.length + 1) ((lnCells m.ml).take (i * 3) ++ ([.string name, .int .i64 hd, .slice none 0 0] ++ (lnCells m.ml).drop (i * 3))))
    (hf : Fr (fun k => m.bv.ownBlock = some k) w3 w4) (ho : ∀ k, v'.ownBlock = some k → m.bv.ownBlock = some k ∨ w3.heap.size ≤ k) :
    Mut v { H with bs := ins H.bs i ⟨name, hd, []⟩ } T t m w (.returned v) (w4.setCell ⟨t, 1, none⟩ v') := by
  have hr := h.change_bv hf (v' := v') (ml' := ins m.ml i (⟨name, hd, []⟩, .slice none 0 0)) (by rw [length_ins _ _ _ hi, lnCells_ins _ _ _ hi]; exact hv)
    (by
      intro x hx
      rcases mem_ins hx with rfl | hx
      · exact World.ownsRow_nil _ _ _ _
      · exact own_fr_ne (h.rd x hx) h.bs (by decide) hf)
    (by rw [map_ins]; exact pairwise_ins_none h.dis i)
  rw [map_ins, ← h.ml] at hr
  refine ⟨rfl, _, hr, (hF.trans hf (fun k _ e => .inr (.inr (.inl e)))).setCell _ (fun _ => .inl rfl), ?_⟩
  rintro q (rfl | hq | hq | hq | ⟨y, hy, hq⟩)
  · exact .inl (.inl rfl)
  · exact .inl (.inr (.inl hq))
  · rcases ho q hq with h1 | h1
    · exact .inl (.inr (.inr (.inl h1)))
    · right; have := hF.size; omega
  · exact .inl (.inr (.inr (.inr (.inl hq))))
  · rcases mem_ins hy with rfl | hy
    · cases hq
    · exact .inl (.inr (.inr (.inr (.inr ⟨y, hy, hq⟩))))

/-- Behind a change of the snapshots. -/
theorem mut_chS {v : Value} {w3 w4 : World} (h : Rep w3 T t H m) (hF : Fr (m.owns t) w w3) {v' : Value} {ss' : List Lb} (hv : w4.ownsRow 0 78 2 v' ss'.length (lbCells ss'))
    (hf : Fr (fun k => m.sv.ownBlock = some k) w3 w4) (ho : ∀ k, v'.ownBlock = some k → m.sv.ownBlock = some k ∨ w3.heap.size ≤ k) :
    Mut v { H with ss := ss' } T t m w (.returned v) (w4.setCell ⟨t, 2, none⟩ v') := by
  have hr := h.change_sv hf hv
  refine ⟨rfl, _, hr, (hF.trans hf (fun k _ e => .inr (.inr (.inr (.inl e))))).setCell _ (fun _ => .inl rfl), ?_⟩
  rintro q (rfl | hq | hq | hq | ⟨y, hy, hq⟩)
  · exact .inl (.inl rfl)
  · exact .inl (.inr (.inl hq))
  · exact .inl (.inr (.inr (.inl hq)))
  · rcases ho q hq with h1 | h1
    · exact .inl (.inr (.inr (.inr (.inl h1))))
    · right; have := hF.size; omega
  · exact .inl (.inr (.inr (.inr (.inr ⟨y, hy, hq⟩))))

set_option maxRecDepth 100000 in
set_option maxHeartbeats 2000000 in
theorem branch14 (h : Rep w 67 t H m) (hw : WF H) (name : ByteArray) (hnm : name.size ≤ maxLen) :
    Calls Try.prog 14 #[.pointer (some ⟨t, 0, none⟩), .string name] w (Mut (.int .i64 (cBranch H name)) (mBranch H name) 67 t m w) := by
  have hb2 := hw.b2
  have hB := Lib.hid (taken33 34 (.inl rfl) _ name hnm _ _ H.bs.length (by omega) (branch34 h hw.sb (by omega) name))
  obtain ⟨g, cap, rv, hbv, hlen, hcap, hml, k0, k1, k2, hg, hgt, hrow⟩ := cur_mem h hw
  have ht : t < w.heap.size := h.lt (.inl rfl)
  have c1 : w.cell? ⟨t, 1, none⟩ = some (.slice (some ⟨g, 0, none⟩) H.bs.length cap) := by rw [h.cellT.2.1, hbv, hlen]
  have HR := Lib.hid h
  have HBV := Lib.hid hbv
  have HLE := Lib.hid hlen
  clear h hbv hlen hml hrow k0 k1 k2
  by_cases hz : takenE name (hasN name (bnames H)) H.bs.length = 0
  · have e1 : cBranch H name = 0 := hz
    have e2 : mBranch H name = { H with bs := ins H.bs (rank name (bnames H)) ⟨name, hdN H, []⟩ } := if_pos hz
    rw [e1, e2]
    rw [hz] at hB
    have hrk : rank name (bnames H) ≤ H.bs.length := by have := rank_le name (bnames H); simpa [bnames] using this
    have HRK := Lib.hid hrk
    have hHow : ∀ w', Below w.heap.size w w' → w'.ownsRow 0 65 3 (.slice (some ⟨g, 0, none⟩) H.bs.length cap) H.bs.length (lnCells m.ml) := fun w' hw' => by
      have := (HR.out.below hw').bs
      rwa [HBV.out, HLE.out] at this
    have HOW := Lib.hid hHow
    have f1 : w.frozen? ⟨t, 1, none⟩ = false := HR.out.frT 1
    have hnt : ¬ (Value.slice (some ⟨g, 0, none⟩) H.bs.length cap).ownBlock = some t := by simpa [Value.ownBlock] using hgt
    have HNT := Lib.hid hnt
    clear e1 e2 hz hrk hHow hnt
    go_enter Try.func14, Try.ntmps14
    go_wp2_with fail
    refine hB.out.mono ?_
    rintro e w1 ⟨rfl, hb1⟩
    have HB1 := Lib.hid hb1
    clear hb1
    go_wp2_with fail
    refine (branch34 (HR.out.below HB1.out) hw.sb (by omega) name).mono ?_
    rintro e w2 ⟨rfl, hb2⟩
    have HB2 := Lib.hid (HB1.out.trans (hb2.mono HB1.out.size))
    clear hb2
    have d1 : w2.cell? ⟨t, 1, none⟩ = some (.slice (some ⟨g, 0, none⟩) H.bs.length cap) := (HB2.out.cell (p := ⟨t, 1, none⟩) ht).trans c1
    have ht2 : t < w2.heap.size := Nat.lt_of_lt_of_le ht HB2.out.size
    go_wp2_with fail
    go_region_with (first | (go_at_call 13; refine (head13 (HR.out.below (HB2.out.drew)) hw).mono ?_; rintro e w3 ⟨rfl, hb3⟩; have d3 : w3.cell? ⟨t, 1, none⟩ = some (.slice (some ⟨g, 0, none⟩) H.bs.length cap) := (hb3.cell (p := ⟨t, 1, none⟩) ht2).trans d1; have ht3 : t < w3.heap.size := Nat.lt_of_lt_of_le ht2 hb3.size; have HB3 := Lib.hid (HB2.out.drew.trans (hb3.mono HB2.out.size)); clear hb3) | (go_at_call 35; have hal := ((Below.refl w3.heap.size w3).alloc (Nat.le_refl _) (.cells #[.string name, .int .i64 (hdN H), .slice none 0 0] 65)); refine (insert35 _ _ (rank name (bnames H)) w3.heap.size (lnCells m.ml) _ _ _ (HOW.out _ (HB3.out.trans (hal.mono HB3.out.size))) (one_lnm HR.out) HRK.out (heap_alloc_new w3 _) ⟨rfl, rfl, rfl⟩ (by omega) (fun e => by have := own_lt (HOW.out _ HB3.out) e; omega)).mono ?_; rintro e w4 ⟨v4, rfl, ho4, hf4, hg4⟩; obtain ⟨g4, c4, rfl, _⟩ := own_form ho4 (by omega); have d4 : w4.cell? ⟨t, 1, none⟩ = some (.slice (some ⟨g, 0, none⟩) H.bs.length cap) := hf4.cell ((hal.cell (p := ⟨t, 1, none⟩) ht3).trans d3) HNT.out; have f4 : w4.frozen? ⟨t, 1, none⟩ = false := (hf4.frozen (a := ⟨t, 1, none⟩) (Nat.lt_of_lt_of_le ht3 hal.size) HNT.out).trans ((hal.frozen (p := ⟨t, 1, none⟩) ht3).trans ((HB3.out.frozen (p := ⟨t, 1, none⟩) ht).trans f1)); have HAL := Lib.hid hal; have HO4 := Lib.hid ho4; have HF4 := Lib.hid hf4; have HG4 := Lib.hid hg4; clear hal ho4 hf4 hg4))
    all_goals
      go_wp2_with fail
      go_ret
      have hb34 := HB3.out.trans (HAL.out.mono HB3.out.size)
      exact mut_insB (HR.out.below hb34) (Fr.of_below hb34) (by rw [HLE.out]; exact HRK.out) (by rw [HLE.out]; exact HO4.out) (by rw [HBV.out]; exact HF4.out) (by rw [HBV.out]; exact HG4.out)
  · have e1 : cBranch H name = takenE name (hasN name (bnames H)) H.bs.length := rfl
    have e2 : mBranch H name = H := if_neg hz
    have hz' := bneq_of hz
    rw [e1, e2]
    clear e1 e2 hz
    go_enter Try.func14, Try.ntmps14
    go_wp2_with fail
    refine hB.out.mono ?_
    rintro e w1 ⟨rfl, hb1⟩
    have HB1 := Lib.hid hb1
    clear hb1
    go_wp2_with fail
    go_ret
    exact Mut.none HR.out HB1.out

set_option maxRecDepth 100000 in
set_option maxHeartbeats 2000000 in
theorem snapshot20 (h : Rep w 67 t H m) (hw : WF H) (name : ByteArray) (hnm : name.size ≤ maxLen) :
    Calls Try.prog 20 #[.pointer (some ⟨t, 0, none⟩), .string name] w (Mut (.int .i64 (cSnap H name)) (mSnap H name) 67 t m w) := by
  have hs2 := hw.s2
  have hB := Lib.hid (taken33 38 (.inr rfl) _ name hnm _ _ H.ss.length (by omega) (snapshot38 h hw.sn (by omega) name))
  obtain ⟨a, g, cap, hbv, ha, hg, hcap, hcm, hcell⟩ := own_addr h.ss
  have hgt : ¬ (Value.slice a H.ss.length cap).ownBlock = some t := by rw [← hbv]; exact fun e => own_ne_blk h.ss h.blk (tn h.tt (by decide)) t e rfl
  have ht : t < w.heap.size := h.lt (.inl rfl)
  have c1 : w.cell? ⟨t, 2, none⟩ = some (.slice a H.ss.length cap) := by rw [h.cellT.2.2.1, hbv]
  have HR := Lib.hid h
  have HBV := Lib.hid hbv
  clear h hbv ha hg hcell hcm
  by_cases hz : takenE name (hasN name (snames H)) H.ss.length = 0
  · have e1 : cSnap H name = 0 := hz
    have e2 : mSnap H name = { H with ss := ins H.ss (rank name (snames H)) ⟨name, hdN H⟩ } := if_pos hz
    rw [e1, e2]
    rw [hz] at hB
    have hrk : rank name (snames H) ≤ H.ss.length := by have := rank_le name (snames H); simpa [snames] using this
    have HRK := Lib.hid hrk
    have hHow : ∀ w', Below w.heap.size w w' → w'.ownsRow 0 78 2 (.slice a H.ss.length cap) H.ss.length (lbCells H.ss) := fun w' hw' => by
      have := (HR.out.below hw').ss
      rwa [HBV.out] at this
    have HOW := Lib.hid hHow
    have f1 : w.frozen? ⟨t, 2, none⟩ = false := HR.out.frT 2
    have hnt : ¬ (Value.slice a H.ss.length cap).ownBlock = some t := hgt
    have HNT := Lib.hid hnt
    clear e1 e2 hz hrk hHow hnt hgt
    go_enter Try.func20, Try.ntmps20
    go_wp2_with fail
    refine hB.out.mono ?_
    rintro e w1 ⟨rfl, hb1⟩
    have HB1 := Lib.hid hb1
    clear hb1
    go_wp2_with fail
    refine (snapshot38 (HR.out.below HB1.out) hw.sn (by omega) name).mono ?_
    rintro e w2 ⟨rfl, hb2⟩
    have HB2 := Lib.hid (HB1.out.trans (hb2.mono HB1.out.size))
    clear hb2
    have d1 : w2.cell? ⟨t, 2, none⟩ = some (.slice a H.ss.length cap) := (HB2.out.cell (p := ⟨t, 2, none⟩) ht).trans c1
    have ht2 : t < w2.heap.size := Nat.lt_of_lt_of_le ht HB2.out.size
    go_wp2_with fail
    go_region_with (first | (go_at_call 13; refine (head13 (HR.out.below (HB2.out.drew)) hw).mono ?_; rintro e w3 ⟨rfl, hb3⟩; have d3 : w3.cell? ⟨t, 2, none⟩ = some (.slice a H.ss.length cap) := (hb3.cell (p := ⟨t, 2, none⟩) ht2).trans d1; have ht3 : t < w3.heap.size := Nat.lt_of_lt_of_le ht2 hb3.size; have HB3 := Lib.hid (HB2.out.drew.trans (hb3.mono HB2.out.size)); clear hb3) | (go_at_call 39; have hal := ((Below.refl w3.heap.size w3).alloc (Nat.le_refl _) (.cells #[.string name, .int .i64 (hdN H)] 78)); refine (insert39 _ _ (rank name (snames H)) w3.heap.size (lbCells H.ss) _ _ (HOW.out _ (HB3.out.trans (hal.mono HB3.out.size))) (one_lb _) HRK.out (heap_alloc_new w3 _) ⟨rfl, rfl⟩ (by omega) (fun e => by have := own_lt (HOW.out _ HB3.out) e; omega)).mono ?_; rintro e w4 ⟨v4, rfl, ho4, hf4, hg4⟩; obtain ⟨g4, c4, rfl, _⟩ := own_form ho4 (by omega); have d4 : w4.cell? ⟨t, 2, none⟩ = some (.slice a H.ss.length cap) := hf4.cell ((hal.cell (p := ⟨t, 2, none⟩) ht3).trans d3) HNT.out; have f4 : w4.frozen? ⟨t, 2, none⟩ = false := (hf4.frozen (a := ⟨t, 2, none⟩) (Nat.lt_of_lt_of_le ht3 hal.size) HNT.out).trans ((hal.frozen (p := ⟨t, 2, none⟩) ht3).trans ((HB3.out.frozen (p := ⟨t, 2, none⟩) ht).trans f1)); have HAL := Lib.hid hal; have HO4 := Lib.hid ho4; have HF4 := Lib.hid hf4; have HG4 := Lib.hid hg4; clear hal ho4 hf4 hg4))
    all_goals
      go_wp2_with fail
      go_ret
      have hb34 := HB3.out.trans (HAL.out.mono HB3.out.size)
      exact mut_chS (HR.out.below hb34) (Fr.of_below hb34) (by rw [length_ins _ _ _ HRK.out, lbCells_ins _ _ _ HRK.out]; exact HO4.out) (by rw [HBV.out]; exact HF4.out) (by rw [HBV.out]; exact HG4.out)
  · have e1 : cSnap H name = takenE name (hasN name (snames H)) H.ss.length := rfl
    have e2 : mSnap H name = H := if_neg hz
    have hz' := bneq_of hz
    rw [e1, e2]
    clear e1 e2 hz
    go_enter Try.func20, Try.ntmps20
    go_wp2_with fail
    refine hB.out.mono ?_
    rintro e w1 ⟨rfl, hb1⟩
    have HB1 := Lib.hid hb1
    clear hb1
    go_wp2_with fail
    go_ret
    exact Mut.none HR.out HB1.out

end

end Go.Proofs.Ytalmfmijjbpnpaa
