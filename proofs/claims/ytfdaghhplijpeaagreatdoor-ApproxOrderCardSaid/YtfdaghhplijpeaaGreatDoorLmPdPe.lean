/-
  The reference's Ids, in plain terms: the loop over the nodes of an expression.
-/
import Derived.Test.YtfdaghhplijpeaaGreatDoorLmPbPc
namespace Go.Proofs.YtfdaghhplijpeaaGreatDoor
open Go Go.RowKit

/-- The expression's row lies apart from the graph. -/
structure Apart (w : World) (q : Nat) (v lv : Value) : Prop where
  q : lv.ownBlock ≠ some q
  v : ∀ j, lv.ownBlock = some j → v.ownBlock ≠ some j
  lt : ∀ j, lv.ownBlock = some j → j < w.heap.size
structure IdsW (w wr : World) (B q : Nat) (v : Value) (L : List Nd) (Bl : Nat) (lv : Value) (l : List Nd) (av : Value) (A : List Int) (i : Nat) (v' : Value) (L' : List Nd) : Prop where
  at_ : wr.ownsRow w.heap.size 3 1 av A.length (ints A)
  len : A.length = i
  ids : ∀ j, j < i → 0 ≤ A.getD j 0 ∧ A.getD j 0 < (L'.length : Int)
  ref : RefR wr B q v' L'
  gi : GI L'
  cnt : L'.length ≤ L.length + i
  fr : Fr (fun j => j = q ∨ v.ownBlock = some j) w wr
  own : ∀ j, v'.ownBlock = some j → v.ownBlock = some j ∨ w.heap.size ≤ j
  list : NdsR wr Bl lv l
  sep : Apart w q v lv
section
variable {w wr w5 w6 w7 : World} {B q Bl i id : Nat} {v lv av v' v2 : Value} {L l L' L2 : List Nd} {A : List Int} {x : Nd}
theorem idsW_start (h : RefR w B q v L) (hg : GI L) (hl : NdsR w Bl lv l) (hs : Apart w q v lv) (hb : Below w.heap.size w w5) : IdsW w w5 B q v L Bl lv l (.slice none 0 0) [] 0 v L :=
  ⟨World.ownsRow_nil _ _ _ _, rfl, fun j h => by omega, h.below hb, hg, by omega, Fr.of_below hb, fun j e => .inl e, hl.frame (S := fun _ => False) (Fr.of_below hb) (fun _ _ e => e), hs⟩
theorem IdsW.later (h : IdsW w wr B q v L Bl lv l av A i v' L') (hb : Below wr.heap.size wr w5) : IdsW w w5 B q v L Bl lv l av A i v' L' :=
  { h with
    at_ := own_frame (S := fun _ => False) h.at_ (Fr.of_below hb) (fun _ _ e => e)
    ref := h.ref.below hb
    fr := h.fr.trans (Fr.of_below (S := fun _ => False) hb) (fun _ _ e => e.elim)
    list := h.list.frame (S := fun _ => False) (Fr.of_below hb) (fun _ _ e => e) }
theorem IdsW.at_ne (h : IdsW w wr B q v L Bl lv l av A i v' L') : av.ownBlock ≠ some q ∧ ∀ j, av.ownBlock = some j → v'.ownBlock ≠ some j := by
  refine ⟨fun e => ?_, fun j e e' => ?_⟩
  · obtain ⟨cur, hc⟩ := own_block h.at_ e
    rw [h.ref.blk] at hc
    cases hc
  · obtain ⟨c1, h1⟩ := own_block h.at_ e
    obtain ⟨c2, h2⟩ := own_block h.ref.nds.own e'
    rw [h1] at h2
    cases h2
/-- Behind a Put: all but the list of numbers. -/
theorem IdsW.put (h : IdsW w wr B q v L Bl lv l av A i v' L') (hp : PutW wr w6 B q v' L' x id v2 L2) :
    w6.ownsRow w.heap.size 3 1 av A.length (ints A) ∧ Fr (fun j => j = q ∨ v.ownBlock = some j) w w6 ∧ (∀ j, v2.ownBlock = some j → v.ownBlock = some j ∨ w.heap.size ≤ j) ∧ NdsR w6 Bl lv l ∧ L2.length ≤ L.length + (i + 1) ∧ (∀ j, j < i → 0 ≤ A.getD j 0 ∧ A.getD j 0 < (L2.length : Int)) ∧ av.ownBlock ≠ some q ∧ ∀ j, av.ownBlock = some j → v2.ownBlock ≠ some j := by
  have hne := h.at_ne
  have hat := own_frame h.at_ hp.fr (fun k hk e => by
    rcases e with e | e
    · exact hne.1 (by rw [hk, e])
    · exact hne.2 k hk e)
  have hlen : L'.length ≤ L2.length ∧ L2.length ≤ L'.length + 1 := by
    rcases hp.lst with e | e
    · rw [e]; omega
    · rw [e]; simp
  refine ⟨hat, h.fr.trans hp.fr fun j hj e => ?_, fun j e => ?_, h.list.frame hp.fr fun k hk e => ?_, by have := h.cnt; omega, fun j hj => ?_, hne.1, fun j e e' => ?_⟩
  · rcases e with e | e
    · exact .inl e
    · rcases h.own j e with e | e
      · exact .inr e
      · omega
  · have := h.fr.size
    rcases hp.own j e with e | e
    · exact h.own j e
    · exact .inr (by omega)
  · rcases e with e | e
    · exact h.sep.q (by rw [hk, e])
    · rcases h.own k e with e | e
      · exact h.sep.v k hk e
      · have := h.sep.lt k hk; omega
  · have := h.ids j hj; omega
  · obtain ⟨c1, h1⟩ := own_block hat e
    obtain ⟨c2, h2⟩ := own_block hp.ref.nds.own e'
    rw [h1] at h2
    cases h2
theorem IdsW.next {g cap : Nat} {o : Obj} (h : IdsW w wr B q v L Bl lv l av A i v' L') (hp : PutW wr w6 B q v' L' x id v2 L2)
    (h1 : w7.ownsRow w.heap.size 3 1 (.slice (some ⟨g, 0, none⟩) (A.length + 1) cap) (A.length + 1) (ints A ++ [.int .i64 id])) (f1 : Fr (fun k => av.ownBlock = some k) (w6.alloc o) w7) :
    IdsW w w7 B q v L Bl lv l (.slice (some ⟨g, 0, none⟩) (A.length + 1) cap) (A ++ [(id : Int)]) (i + 1) v2 L2 := by
  obtain ⟨q1, q2, q3, q4, q5, q6, q7, q8⟩ := h.put hp
  have hF : Fr (fun k => av.ownBlock = some k) w6 w7 := ((Fr.refl (fun k => av.ownBlock = some k) w6).alloc o).trans f1 (fun _ _ e => e)
  have e1 : ints (A ++ [(id : Int)]) = ints A ++ [.int .i64 id] := by simp [ints]
  refine ⟨?_, by simp [h.len], fun j hj => ?_, hp.ref.frame hF q7 (fun k hk e => q8 k e hk), hp.gi, q5, q2.trans hF fun j hj e => ?_, q3, q4.frame hF fun k hk e => ?_, h.sep⟩
  · rw [e1, List.length_append]; exact h1
  · rw [getD_snoc h.len hj]
    split
    · exact q6 j (by assumption)
    · have := hp.id_; omega
  · have := (q1.lt j e).1; omega
  · have := (q1.lt k e).1
    have := h.sep.lt k hk; omega
end
theorem nd_setA {w : World} {b : Nat} {k a c m z : Int} {t : ByteArray} (h : w.heap[b]? = some (.cells ⟨ndCells ⟨k, a, c, m, t⟩⟩ 63 (0, 0))) : (w.setCell ⟨b, 1, none⟩ (.int .i64 z)).heap[b]? = some (.cells ⟨ndCells ⟨k, z, c, m, t⟩⟩ 63 (0, 0)) := by
  unfold World.setCell
  simp only [Array.getElem?_modify, h]
  simp [ndCells]
theorem nd_setB {w : World} {b : Nat} {k a c m z : Int} {t : ByteArray} (h : w.heap[b]? = some (.cells ⟨ndCells ⟨k, a, c, m, t⟩⟩ 63 (0, 0))) : (w.setCell ⟨b, 2, none⟩ (.int .i64 z)).heap[b]? = some (.cells ⟨ndCells ⟨k, a, z, m, t⟩⟩ 63 (0, 0)) := by
  unfold World.setCell
  simp only [Array.getElem?_modify, h]
  simp [ndCells]
theorem mnd_ab {k a b a' b' m : Int} {t : ByteArray} (h : MNd ⟨k, a, b, m, t⟩) : MNd ⟨k, a', b', m, t⟩ := ⟨h.k1, h.k2, h.con, h.nam, h.oth, h.pow, h.zer⟩
theorem fits_arg1 {n : Nat} {k a b m : Int} {t : ByteArray} (h : FitsN n ⟨k, a, b, m, t⟩) (hk : arity k = 1) : 0 ≤ a ∧ a < (n : Int) :=
  h.args a (by unfold args; rw [if_neg (by simp only; omega), if_pos hk]; simp)
theorem fits_arg2 {n : Nat} {k a b m : Int} {t : ByteArray} (h : FitsN n ⟨k, a, b, m, t⟩) (hk : arity k = 2) : (0 ≤ a ∧ a < (n : Int)) ∧ 0 ≤ b ∧ b < (n : Int) :=
  ⟨h.args a (by unfold args; rw [if_neg (by simp only; omega), if_neg (by simp only; omega)]; simp), h.args b (by unfold args; rw [if_neg (by simp only; omega), if_neg (by simp only; omega)]; simp)⟩
end Go.Proofs.YtfdaghhplijpeaaGreatDoor
/-
  Walk of the reference's Ids.
-/
namespace Go.Proofs.YtfdaghhplijpeaaGreatDoor
open Go Go.RowKit

def IdsP (w : World) (B q : Nat) (v : Value) (L l : List Nd) (e : Ending) (w' : World) : Prop :=
  ∃ v' L', RefR w' B q v' L' ∧ GI L' ∧ L'.length ≤ L.length + l.length ∧ Fr (fun j => j = q ∨ v.ownBlock = some j) w w' ∧ (∀ j, v'.ownBlock = some j → v.ownBlock = some j ∨ w.heap.size ≤ j) ∧
    (e = .returned (.tuple #[.slice none 0 0, .int .i64 1]) ∨ ∃ av A, e = .returned (.tuple #[av, .int .i64 0]) ∧ w'.ownsRow w.heap.size 3 1 av A.length (ints A) ∧ 0 < A.length)
/-- The tables stay, whatever else is written. -/
def TabsKeep (w : World) (q : Nat) (v : Value) : Prop := ∀ w', w.heap.size ≤ w'.heap.size → Fr (fun j => j = q ∨ v.ownBlock = some j) w w' → Tabd w'
set_option maxRecDepth 100000 in
set_option maxHeartbeats 16000000 in
theorem ids_calls {w : World} {B q Bl : Nat} {v lv : Value} {L l : List Nd} (h : RefR w B q v L) (hB : B ≤ w.heap.size) (hg : GI L) (hl : NdsR w Bl lv l) (hm : ∀ i, i < l.length → MNd (l.getD i nd0)) (hn : l.length ≤ 200) (hL : L.length ≤ 3000) (hs : Apart w q v lv) (hT : TabsKeep w q v) (hT0 : Tabd w) :
    Calls Tryz.prog 40 #[ptr q, lv] w (IdsP w B q v L l) := by
  have HT := Lib.hid hT
  have HX := Lib.hid (And.intro h (And.intro hB (And.intro hg (And.intro hl (And.intro hm (And.intro hL (And.intro hs hT0)))))))
  have c0 := cell_of_blk h.blk 0
  simp only [List.getElem?_toArray, List.getElem?_cons_zero] at c0
  have hq : q < w.heap.size := World.block_lt_of_cell? w _ c0
  obtain ⟨qa, qc, rfl⟩ := h.nds.slice
  obtain ⟨la, lc, rfl⟩ := hl.slice
  obtain ⟨n, hn0⟩ : ∃ n, l.length = n := ⟨_, rfl⟩
  have HN := Lib.hid hn0
  have HL := Lib.hid (by rw [← hn0]; exact hl : NdsR w Bl (.slice la n lc) l)
  have HS := Lib.hid (by rw [← hn0]; exact hs : Apart w q (.slice qa L.length qc) (.slice la n lc))
  have HV := Lib.hid (fun (w : World) (h : NdsR w Bl (.slice la n lc) l) => @valid_calls w Bl (.slice la n lc) l h)
  rw [hn0] at hn ⊢
  clear h hB hg hl hm hs hT hT0 hn0
  unfold ptr
  go_enter Tryz.func40, Tryz.ntmps40
  go_wp2_with fail
  refine (HV.out w HL.out (by have := HN.out; omega) HX.out.2.2.2.2.1 HX.out.2.2.2.2.2.2.2).mono ?_
  rintro e w0 ⟨r, rfl, hb0, hr⟩
  have HB0 := Lib.hid hb0
  have HR := Lib.hid hr
  have hq0 : q < w0.heap.size := by have := hb0.size; omega
  have c0' : w0.cell? ⟨q, 0, none⟩ = some (.slice qa L.length qc) := (hb0.cell (p := ⟨q, 0, none⟩) hq).trans c0
  clear hb0 hr c0 hq
  cases r
  · go_wp2_with fail
    go_ret2
    exact ⟨_, L, HX.out.1.below HB0.out, HX.out.2.2.1, by omega, Fr.of_below HB0.out, fun j e => .inl e, .inl rfl⟩
  · obtain ⟨hp0, hfits⟩ := HR.out rfl
    have HF := Lib.hid (And.intro hp0 hfits)
    have HW0 := Lib.hid (idsW_start HX.out.1 HX.out.2.2.1 HL.out HS.out HB0.out)
    clear hp0 hfits HR
    go_wp2_with fail
    go_loopw [7, 22] (fun av iv wr => ∃ A, ∃ i : Nat, ∃ v' L', iv = .int .i64 (i : Int) ∧ i ≤ n ∧ IdsW w wr B q (.slice qa L.length qc) L Bl (.slice la n lc) l av A i v' L') (fun _ iv _ => n - (intOf iv).toNat)
    case atStart => exact ⟨[], 0, _, L, rfl, by omega, HW0.out⟩
    case round =>
      obtain ⟨A, i, v', L', rfl, hi, hW⟩ := hrel
      obtain ⟨aa, ac, rfl⟩ := row_slice hW.at_
      have hlen := hW.len
      rw [hlen] at hW ⊢
      have HW := Lib.hid hW
      by_cases hin : i < n
      · obtain ⟨y, hy⟩ : ∃ y, l.getD i nd0 = y := ⟨_, rfl⟩
        obtain ⟨gv, cv, ev, c0, c1, c2, c3, c4⟩ := hW.list.form (by rw [HN.out]; exact hin) hy
        rw [HN.out] at ev
        cases ev
        obtain ⟨k, a, b, m, t⟩ := y
        simp only at c0 c1 c2 c3 c4
        have hk := HX.out.2.2.2.2.1 i (by rw [HN.out]; exact hin)
        have hf := HF.out.2 i (by rw [HN.out]; exact hin)
        rw [hy] at hk hf
        have HK := Lib.hid hk
        have HFI := Lib.hid hf
        have HI := Lib.hid (And.intro hin hn)
        clear hy hk hf hW hlen hi
        have i0 : (0 : Int) ≤ (i : Int) := by omega
        have i1 : (i : Int) < (n : Int) := by omega
        have hgl : gv < wr.heap.size := World.block_lt_of_cell? wr _ c0
        go_wp2_with fail
        refine (operands_calls (k := k) HK.out.k1 HK.out.k2 _).mono ?_
        rintro e w1 ⟨rfl, hw1⟩
        have hb1 : Below (wr.heap.size + 1) (wr.alloc (.cells ⟨ndCells ⟨k, a, b, m, t⟩⟩ 63)) w1 := by rw [hw1]; exact Below.refl _ _
        have HB1 := Lib.hid hb1
        have HBK1 := Lib.hid (nd_block hb1)
        have HW1 := Lib.hid (HW.out.later (nd_below hb1))
        have hs : wr.heap.size < w1.heap.size := (Array.getElem?_eq_some_iff.1 HBK1.out).1
        obtain ⟨d0, d1, d2, d3, d4⟩ := nd_cells HBK1.out
        simp only at d0 d1 d2 d3 d4
        clear hb1 hw1 c0 c1 c2 c3 c4 hgl hin
        rcases arity_cases k with h0 | h0 | h0
        · rw [h0]
          have H0 := Lib.hid h0
          clear h0
          go_wp2_with fail
          refine (operands_calls (k := k) HK.out.k1 HK.out.k2 _).mono ?_
          rintro e w4 ⟨rfl, hw4⟩
          have HB4 := Lib.hid (show w4.heap[wr.heap.size]? = some (.cells ⟨ndCells ⟨k, a, b, m, t⟩⟩ 63 (0, 0)) by rw [hw4]; exact HBK1.out)
          have HW4 := Lib.hid (show IdsW w w4 B q (.slice qa L.length qc) L Bl (.slice (some ⟨gv, 0, none⟩) n lc) l (.slice _ i ac) A i v' L' by rw [hw4]; exact HW.out.later (nd_below HB1.out))
          have HB4b := Lib.hid (show Below wr.heap.size wr w4 by rw [hw4]; exact nd_below HB1.out)
          have hs4 : wr.heap.size < w4.heap.size := (Array.getElem?_eq_some_iff.1 HB4.out).1
          clear hw4 d0 d1 d2 d3 d4
          obtain ⟨d0, d1, d2, d3, d4⟩ := nd_cells HB4.out
          simp only at d0 d1 d2 d3 d4
          rw [H0.out]
          have HW5 := HW4
          go_wp2_with fail
          refine (refPut_calls (x := ⟨k, a, b, m, t⟩) HW5.out.ref (by have := HX.out.2.1; have := HW5.out.fr.size; omega) HW5.out.gi (mnd_ab HK.out) (fitsN0 H0.out (HFI.out.a0 H0.out) (HFI.out.b0 (by have := H0.out; simp only; omega))) (by have := HW5.out.cnt; have := HX.out.2.2.2.2.2.1; omega) (HT.out _ HW5.out.fr.size HW5.out.fr)).mono ?_
          rintro e w6 ⟨id, v2, L2, rfl, hp⟩
          have HP6 := Lib.hid hp
          clear hp
          go_wp2_with (at_builtin; refine app_down rfl _ _ rfl w.heap.size (le_alloc _ (HW5.out.put HP6.out).2.1.size) _ i (ints A) rfl (by have R := (HW5.out.put HP6.out).1; rw [HW5.out.len] at R; exact R.alloc _) _ (.int .i64 id) rfl (heap_alloc_new _ _) (by simp [Value.oneCell']) (by have := HI.out; omega) ?_; intro g cap w9 hn9 hf9 hg9; have H9 := Lib.hid (And.intro hn9 (And.intro hf9 hg9)); clear hn9 hf9 hg9)
          go_roundw
          case rel =>
            have P := HW5.out.next (g := g) (cap := cap) HP6.out (by rw [HW5.out.len]; exact H9.out.1) H9.out.2.1
            rw [HW5.out.len] at P
            exact ⟨_, i + 1, _, _, by go_num, by have := HI.out; omega, P⟩
          case measure => have := HI.out; simp [intOf]; omega
        · rw [h0]
          have H0 := Lib.hid h0
          have ha := fits_arg1 HFI.out h0
          obtain ⟨ja, rfl⟩ : ∃ ja : Nat, a = (ja : Int) := ⟨a.toNat, by omega⟩
          clear h0
          obtain ⟨ag, ac', e9, hS1, hS2⟩ := sz_cell HW1.out.at_ (j := ja) (by have := HW1.out.len; omega)
          rw [HW1.out.len] at e9
          cases e9
          obtain ⟨z0, z9⟩ := HW1.out.ids ja (by omega)
          generalize hz : A.getD ja 0 = z at hS1 z0 z9
          have HZ1 := Lib.hid (And.intro z0 z9)
          clear hz z0 z9
          have hx1 : (ja : Int) < (i : Int) := by omega
          have hx0 : (0 : Int) ≤ (ja : Int) := by omega
          have hfz := frozen_of_blk HBK1.out 1
          go_wp2_with fail
          refine (operands_calls (k := k) HK.out.k1 HK.out.k2 _).mono ?_
          rintro e w4 ⟨rfl, hw4⟩
          have HB4 := Lib.hid (show w4.heap[wr.heap.size]? = some (.cells ⟨ndCells ⟨k, z, b, m, t⟩⟩ 63 (0, 0)) by rw [hw4]; exact nd_setA HBK1.out)
          have HW4 := Lib.hid (show IdsW w w4 B q (.slice qa L.length qc) L Bl (.slice (some ⟨gv, 0, none⟩) n lc) l (.slice _ i ac) A i v' L' by rw [hw4]; exact HW.out.later ((nd_below HB1.out).setCell (Nat.le_refl _) _))
          have HB4b := Lib.hid (show Below wr.heap.size wr w4 by rw [hw4]; exact (nd_below HB1.out).setCell (Nat.le_refl _) _)
          have hs4 : wr.heap.size < w4.heap.size := (Array.getElem?_eq_some_iff.1 HB4.out).1
          clear hw4 d0 d1 d2 d3 d4
          obtain ⟨d0, d1, d2, d3, d4⟩ := nd_cells HB4.out
          simp only at d0 d1 d2 d3 d4
          rw [H0.out]
          have HW5 := HW4
          clear hS1 hfz
          go_wp2_with fail
          refine (refPut_calls (x := ⟨k, z, b, m, t⟩) HW5.out.ref (by have := HX.out.2.1; have := HW5.out.fr.size; omega) HW5.out.gi (mnd_ab HK.out) (fitsN1 H0.out HZ1.out (HFI.out.b0 (by have := H0.out; simp only; omega))) (by have := HW5.out.cnt; have := HX.out.2.2.2.2.2.1; omega) (HT.out _ HW5.out.fr.size HW5.out.fr)).mono ?_
          rintro e w6 ⟨id, v2, L2, rfl, hp⟩
          have HP6 := Lib.hid hp
          clear hp
          go_wp2_with (at_builtin; refine app_down rfl _ _ rfl w.heap.size (le_alloc _ (HW5.out.put HP6.out).2.1.size) _ i (ints A) rfl (by have R := (HW5.out.put HP6.out).1; rw [HW5.out.len] at R; exact R.alloc _) _ (.int .i64 id) rfl (heap_alloc_new _ _) (by simp [Value.oneCell']) (by have := HI.out; omega) ?_; intro g cap w9 hn9 hf9 hg9; have H9 := Lib.hid (And.intro hn9 (And.intro hf9 hg9)); clear hn9 hf9 hg9)
          go_roundw
          case rel =>
            have P := HW5.out.next (g := g) (cap := cap) HP6.out (by rw [HW5.out.len]; exact H9.out.1) H9.out.2.1
            rw [HW5.out.len] at P
            exact ⟨_, i + 1, _, _, by go_num, by have := HI.out; omega, P⟩
          case measure => have := HI.out; simp [intOf]; omega
        · rw [h0]
          have H0 := Lib.hid h0
          have hab := fits_arg2 HFI.out h0
          obtain ⟨ha, hb⟩ := hab
          obtain ⟨jb, rfl⟩ : ∃ jb : Nat, b = (jb : Int) := ⟨b.toNat, by omega⟩
          obtain ⟨ja, rfl⟩ : ∃ ja : Nat, a = (ja : Int) := ⟨a.toNat, by omega⟩
          clear h0
          obtain ⟨ag, ac', e9, hS1, hS2⟩ := sz_cell HW1.out.at_ (j := ja) (by have := HW1.out.len; omega)
          rw [HW1.out.len] at e9
          cases e9
          obtain ⟨z0, z9⟩ := HW1.out.ids ja (by omega)
          generalize hz : A.getD ja 0 = z at hS1 z0 z9
          have HZ1 := Lib.hid (And.intro z0 z9)
          clear hz z0 z9
          have hx1 : (ja : Int) < (i : Int) := by omega
          have hx0 : (0 : Int) ≤ (ja : Int) := by omega
          have hfz := frozen_of_blk HBK1.out 1
          go_wp2_with fail
          refine (operands_calls (k := k) HK.out.k1 HK.out.k2 _).mono ?_
          rintro e w4 ⟨rfl, hw4⟩
          have HB4 := Lib.hid (show w4.heap[wr.heap.size]? = some (.cells ⟨ndCells ⟨k, z, (jb : Int), m, t⟩⟩ 63 (0, 0)) by rw [hw4]; exact nd_setA HBK1.out)
          have HW4 := Lib.hid (show IdsW w w4 B q (.slice qa L.length qc) L Bl (.slice (some ⟨gv, 0, none⟩) n lc) l (.slice _ i ac) A i v' L' by rw [hw4]; exact HW.out.later ((nd_below HB1.out).setCell (Nat.le_refl _) _))
          have HB4b := Lib.hid (show Below wr.heap.size wr w4 by rw [hw4]; exact (nd_below HB1.out).setCell (Nat.le_refl _) _)
          have hs4 : wr.heap.size < w4.heap.size := (Array.getElem?_eq_some_iff.1 HB4.out).1
          clear hw4 d0 d1 d2 d3 d4
          obtain ⟨d0, d1, d2, d3, d4⟩ := nd_cells HB4.out
          simp only at d0 d1 d2 d3 d4
          rw [H0.out]
          clear hS1 hfz hx1 hx0 hS2
          obtain ⟨ag, ac', e9, hS1, hS2⟩ := sz_cell HW4.out.at_ (j := jb) (by have := HW4.out.len; omega)
          rw [HW4.out.len] at e9
          cases e9
          obtain ⟨z0, z9⟩ := HW4.out.ids jb (by omega)
          generalize hz : A.getD jb 0 = z' at hS1 z0 z9
          have HZ2 := Lib.hid (And.intro z0 z9)
          clear hz z0 z9
          have hx1 : (jb : Int) < (i : Int) := by omega
          have hx0 : (0 : Int) ≤ (jb : Int) := by omega
          have hfz := frozen_of_blk HB4.out 2
          go_wp2_with fail
          have HW5 := Lib.hid (HW.out.later (show Below wr.heap.size wr (w4.setCell ⟨wr.heap.size, 2, none⟩ (.int .i64 z')) from HB4b.out.setCell (Nat.le_refl _) _))
          refine (refPut_calls (x := ⟨k, z, z', m, t⟩) HW5.out.ref (by have := HX.out.2.1; have := HW5.out.fr.size; omega) HW5.out.gi (mnd_ab HK.out) (fitsN2 H0.out HZ1.out HZ2.out) (by have := HW5.out.cnt; have := HX.out.2.2.2.2.2.1; omega) (HT.out _ HW5.out.fr.size HW5.out.fr)).mono ?_
          rintro e w6 ⟨id, v2, L2, rfl, hp⟩
          have HP6 := Lib.hid hp
          clear hp
          go_wp2_with (at_builtin; refine app_down rfl _ _ rfl w.heap.size (le_alloc _ (HW5.out.put HP6.out).2.1.size) _ i (ints A) rfl (by have R := (HW5.out.put HP6.out).1; rw [HW5.out.len] at R; exact R.alloc _) _ (.int .i64 id) rfl (heap_alloc_new _ _) (by simp [Value.oneCell']) (by have := HI.out; omega) ?_; intro g cap w9 hn9 hf9 hg9; have H9 := Lib.hid (And.intro hn9 (And.intro hf9 hg9)); clear hn9 hf9 hg9)
          go_roundw
          case rel =>
            have P := HW5.out.next (g := g) (cap := cap) HP6.out (by rw [HW5.out.len]; exact H9.out.1) H9.out.2.1
            rw [HW5.out.len] at P
            exact ⟨_, i + 1, _, _, by go_num, by have := HI.out; omega, P⟩
          case measure => have := HI.out; simp [intOf]; omega
      · obtain rfl : i = n := by omega
        clear hW hi hin
        go_wp2_with fail
        go_ret2
        exact ⟨_, L', HW.out.ref, HW.out.gi, by have := HW.out.cnt; have := HN.out; omega, HW.out.fr, HW.out.own, .inr ⟨_, A, rfl, by have R := HW.out.at_; rw [HW.out.len] at R ⊢; exact R, by have := HW.out.len; have := HF.out.1; have := HN.out; omega⟩⟩
end Go.Proofs.YtfdaghhplijpeaaGreatDoor
