/-
  Naturals by their values alone; walks of integer.Valid, Sign, Neg, Cmp.
-/
import Derived.Test.YtkpjikaobjpkoaaGreatDoorPkRgRh
namespace Go.Proofs.YtkpjikaobjpkoaaGreatDoor
open Go.RowKit

section
variable {w : World} {u v : Value} {a b n : Nat}
theorem bits_calls (h : NatR w v a) (hs : Sm a) : Calls Tryz.prog 115 #[v] w (Pure0 (.int .i64 (blen a : Nat)) w) := by
  obtain ⟨l, h1, h2, h3, h4⟩ := h.lim hs
  have := bits_any h1 (by omega)
  rw [bits_val h1.2, h3] at this
  exact this
theorem zeros_calls (h : NatR w v a) (hs : Sm a) (hT : TabAt w) : Calls Tryz.prog 120 #[v] w (Pure0 (.int .i64 (tzN a : Nat)) w) := by
  obtain ⟨l, h1, h2, h3, h4⟩ := h.lim hs
  have := zeros_any h1 (by omega) hT
  rw [h3] at this
  exact this
theorem bit0_calls (h : NatR w v a) (hs : Sm a) : Calls Tryz.prog 158 #[v, .int .i64 0] w (Pure0 (.bool (decide (a % 2 = 1))) w) := by
  obtain ⟨l, h1, h2, h3, h4⟩ := h.lim hs
  have := bit0_any h1 (by omega)
  rw [h3] at this
  exact this
theorem cmp_calls (h : NatR w u a) (h' : NatR w v b) : Calls Tryz.prog 117 #[u, v] w (Quiet (.int .i64 (cmpI a b)) w) := by
  obtain ⟨l, h1, h2, h3⟩ := h
  obtain ⟨m, g1, g2, g3⟩ := h'
  have := cmp_any h1 g1
  rw [h3, g3] at this
  exact this
theorem add_calls (h : NatR w u a) (h' : NatR w v b) (hs : Sm a) (hs' : Sm b) : Calls Tryz.prog 123 #[u, v] w (NatP (a + b) w) := by
  obtain ⟨l, h1, h2, h3, h4⟩ := h.lim hs
  obtain ⟨m, g1, g2, g3, g4⟩ := h'.lim hs'
  have := add_any h1 g1 (by omega) (by omega)
  rw [h3, g3] at this
  exact this
theorem sub_calls (h : NatR w u a) (h' : NatR w v b) (hs : Sm a) (hs' : Sm b) : Calls Tryz.prog 124 #[u, v] w (SubP a b w) := by
  obtain ⟨l, h1, h2, h3, h4⟩ := h.lim hs
  obtain ⟨m, g1, g2, g3, g4⟩ := h'.lim hs'
  have := sub_any h1 g1 (by omega) (by omega)
  rw [h3, g3] at this
  exact this
theorem shl_calls (h : NatR w v a) (hs : Sm a) (hn : n ≤ 1048576) : Calls Tryz.prog 163 #[v, .int .i64 (n : Int)] w (NatP (a * 2 ^ n) w) := by
  obtain ⟨l, h1, h2, h3, h4⟩ := h.lim hs
  have := shl_any h1 (by omega) n hn
  rw [h3] at this
  exact this
theorem shr_calls (h : NatR w v a) (hs : Sm a) (hn : n ≤ 1048576) : Calls Tryz.prog 122 #[v, .int .i64 (n : Int)] w (NatP (a / 2 ^ n) w) := by
  obtain ⟨l, h1, h2, h3, h4⟩ := h.lim hs
  have := shr_any h1 (by omega) n hn
  rw [h3] at this
  exact this
theorem low_calls (h : NatR w v a) (hs : Sm a) (hn : n ≤ 1048576) : Calls Tryz.prog 125 #[v, .int .i64 (n : Int)] w (NatP (a % 2 ^ n) w) := by
  obtain ⟨l, h1, h2, h3, h4⟩ := h.lim hs
  have := low_any h1 (by omega) n hn
  rw [h3] at this
  exact this
theorem natValid_calls (h : NatR w v a) : Calls Tryz.prog 195 #[v] w (Pure0 (.bool true) w) := by
  obtain ⟨l, h1, h2, h3⟩ := h
  have := valid_any h1
  rw [decide_eq_true h2] at this
  exact this
/-- The form of a natural's slice. -/
theorem NatR.form (h : NatR w v a) : ∃ x k c, v = .slice x k c ∧ (k : Int) ≤ 9223372036854775807 ∧ (a = 0 ↔ k = 0) := by
  obtain ⟨l, h1, h2, h3⟩ := h
  obtain ⟨x, c, _, e, _, _, hm, _⟩ := h1.form
  refine ⟨x, l.length, c, e, by unfold maxLen at hm; omega, fun e => ?_, fun e => ?_⟩
  · rw [norm_zero h2 (h3.trans e)]; rfl
  · rw [← h3, List.eq_nil_of_length_eq_zero e]; rfl
/-- An integer in a block of its own. -/
def IntB (w : World) (t : Nat) (z : Int) : Prop := ∃ v, w.heap[t]? = some (.cells #[.bool (decide (z < 0)), v] 24 (0, 0)) ∧ NatR w v z.natAbs
theorem IntB.below {w' : World} {t : Nat} {z : Int} (h : IntB w t z) (hb : Below w.heap.size w w') : IntB w' t z := by
  obtain ⟨v, h1, h2⟩ := h
  exact ⟨v, (hb.block t (Array.getElem?_eq_some_iff.1 h1).1).trans h1, h2.below hb⟩
theorem intB_new {z : Int} (h : NatR w v z.natAbs) : IntB (w.alloc (.cells #[.bool (decide (z < 0)), v] 24)) w.heap.size z :=
  ⟨v, heap_alloc_new w _, h.below ((Below.refl _ w).alloc (Nat.le_refl _) _)⟩
theorem IntB.cells {t : Nat} {z : Int} (h : IntB w t z) : ∃ v, w.cell? ⟨t, 0, none⟩ = some (.bool (decide (z < 0))) ∧ w.cell? ⟨t, 1, none⟩ = some v ∧ NatR w v z.natAbs := by
  obtain ⟨v, h1, h2⟩ := h
  exact ⟨v, (cell_of_blk h1 0).trans rfl, (cell_of_blk h1 1).trans rfl, h2⟩
theorem below_new (w : World) (o : Obj) : Below w.heap.size w (w.alloc o) := (Below.refl _ w).alloc (Nat.le_refl _) o

set_option maxHeartbeats 1000000 in
theorem sign_calls {x : Value} {z : Int} (h : IntR w x z) (hs : Sm z.natAbs) : Calls Tryz.prog 114 #[x] w (Quiet (.int .i64 z.sign) w) := by
  obtain ⟨v, rfl, hv⟩ := h
  have HB := Lib.hid (fun o => bits_calls (hv.below (below_new w o)) hs)
  have hbel := Lib.hid (fun o => below_new w o)
  obtain ⟨k, hk⟩ : ∃ k, blen z.natAbs = k := ⟨_, rfl⟩
  rw [hk] at HB
  clear hv
  by_cases h0 : z = 0
  · subst h0
    obtain rfl : k = 0 := by rw [← hk]; rfl
    clear hk
    go_enter Tryz.func114, Tryz.ntmps114
    go_wp2_with fail
    refine (HB.out _).mono ?_
    rintro e w' ⟨rfl, rfl⟩
    go_wp2_with fail
    go_ret
    exact ⟨rfl, hbel.out _⟩
  · have hk0 : ((k : Int) == 0) = false := by
      have : k ≠ 0 := fun e => by
        obtain ⟨b, e2, _⟩ := blen_pos (n := z.natAbs) (by omega)
        omega
      simpa using this
    clear hk
    by_cases hn : z < 0
    · have HZ := Lib.hid (show z.sign = -1 from Int.sign_eq_neg_one_of_neg hn)
      rw [decide_eq_true hn] at *
      go_enter Tryz.func114, Tryz.ntmps114
      go_wp2_with fail
      refine (HB.out _).mono ?_
      rintro e w' ⟨rfl, rfl⟩
      go_wp2_with fail
      go_ret
      exact ⟨by rw [HZ.out]; rfl, hbel.out _⟩
    · have HZ := Lib.hid (show z.sign = 1 from Int.sign_eq_one_of_pos (by omega))
      rw [decide_eq_false hn] at *
      go_enter Tryz.func114, Tryz.ntmps114
      go_wp2_with fail
      refine (HB.out _).mono ?_
      rintro e w' ⟨rfl, rfl⟩
      go_wp2_with fail
      go_ret
      exact ⟨by rw [HZ.out]; rfl, hbel.out _⟩
end
end Go.Proofs.YtkpjikaobjpkoaaGreatDoor
/-
  Walks of integer.Neg, Cmp, Shl, Valid.
-/
namespace Go.Proofs.YtkpjikaobjpkoaaGreatDoor
open Go.RowKit

theorem sgnI_not (z : Int) : sgnI (!decide (z < 0)) z.natAbs = -z := by
  unfold sgnI
  by_cases h : z < 0
  · rw [decide_eq_true h]; simp; omega
  · rw [decide_eq_false h]; simp; omega
theorem sgnI_mul (z : Int) (p : Nat) : sgnI (decide (z < 0)) (z.natAbs * p) = z * (p : Int) := by
  unfold sgnI
  by_cases h : z < 0
  · rw [decide_eq_true h, if_pos rfl, Int.natCast_mul, ← Int.neg_mul]; congr 1; omega
  · rw [decide_eq_false h]; simp only [Bool.false_eq_true, if_false, Int.natCast_mul]; congr 1; omega
theorem two_pow_cast (n : Nat) : ((2 ^ n : Nat) : Int) = 2 ^ n := Int.natCast_pow 2 n
/-- The block in which a result is laid. -/
def ResI (w : World) (t : Nat) : Prop := w.heap[t]? = some (.cells #[.bool false, .slice none 0 0] 24 (0, 0))
theorem ResI.below {w w' : World} {t : Nat} (h : ResI w t) (hb : Below w.heap.size w w') : ResI w' t := (hb.block t (Array.getElem?_eq_some_iff.1 h).1).trans h
theorem ResI.facts {w : World} {t : Nat} (h : ResI w t) : w.cell? ⟨t, 0, none⟩ = some (.bool false) ∧ w.cell? ⟨t, 1, none⟩ = some (.slice none 0 0) ∧ w.frozen? ⟨t, 0, none⟩ = false ∧ w.frozen? ⟨t, 1, none⟩ = false ∧ t < w.heap.size :=
  ⟨(cell_of_blk h 0).trans rfl, (cell_of_blk h 1).trans rfl, frozen_of_blk h 0, frozen_of_blk h 1, (Array.getElem?_eq_some_iff.1 h).1⟩
theorem int_end {w w1 : World} {t base : Nat} {b : Bool} {v : Value} {z : Int} (hb : Below w.heap.size w w1) (ht : w.heap.size ≤ t) (hr : ResI w1 t) (hf : IntF w1 base (.agg #[.bool b, v]) z) (hbase : w.heap.size ≤ base) :
    IntQ z w (.returned (.agg #[.bool b, v])) ((w1.setCell ⟨t, 0, none⟩ (.bool b)).setCell ⟨t, 1, none⟩ v) :=
  ⟨_, rfl, (intF_setCell (intF_setCell hf hr (by decide) 0 _) (blk_setCell hr 0 _) (by decide) 1 _).base hbase, (hb.setCell ht _).setCell ht _⟩
theorem IntF.form {w : World} {base : Nat} {x : Value} {z : Int} (h : IntF w base x z) : ∃ b a k c, x = .agg #[.bool b, .slice a k c] ∧ b = decide (z < 0) := by
  obtain ⟨v, rfl, hv⟩ := h
  obtain ⟨a, k, c, rfl⟩ := intSlice hv.r
  exact ⟨_, a, k, c, rfl, rfl⟩
/-- The argument's box and the result's block. -/
theorem boxes {w : World} {s : Bool} {v : Value} {n : Nat} (h : NatR w v n) :
    Below w.heap.size w ((w.alloc (.cells #[.bool s, v] 24)).alloc (.cells #[.bool false, .slice none 0 0] 24)) ∧ ResI ((w.alloc (.cells #[.bool s, v] 24)).alloc (.cells #[.bool false, .slice none 0 0] 24)) (w.heap.size + 1) ∧
      NatR ((w.alloc (.cells #[.bool s, v] 24)).alloc (.cells #[.bool false, .slice none 0 0] 24)) v n ∧
      ((w.alloc (.cells #[.bool s, v] 24)).alloc (.cells #[.bool false, .slice none 0 0] 24)).cell? ⟨w.heap.size, 0, none⟩ = some (.bool s) ∧ ((w.alloc (.cells #[.bool s, v] 24)).alloc (.cells #[.bool false, .slice none 0 0] 24)).cell? ⟨w.heap.size, 1, none⟩ = some v := by
  have hs : (w.alloc (.cells #[.bool s, v] 24)).heap.size = w.heap.size + 1 := by simp
  have b1 := below_new w (.cells #[.bool s, v] 24)
  have b2 := below_new (w.alloc (.cells #[.bool s, v] 24)) (.cells #[.bool false, .slice none 0 0] 24)
  have hb := b1.trans (b2.mono (by omega))
  obtain ⟨c0, c1⟩ := int_cells w s v
  refine ⟨hb, ?_, h.below hb, (b2.cell (p := ⟨w.heap.size, 0, none⟩) (by rw [hs]; simp)).trans c0, (b2.cell (p := ⟨w.heap.size, 1, none⟩) (by rw [hs]; simp)).trans c1⟩
  have := heap_alloc_new (w.alloc (.cells #[.bool s, v] 24)) (.cells #[.bool false, .slice none 0 0] 24)
  rw [hs] at this
  exact this

section
variable {w : World}
theorem cell_setCell_block {w : World} {p q : Addr} (h : q.block ≠ p.block) (u : Value) : (w.setCell p u).cell? q = w.cell? q := by
  unfold World.cell?
  rw [Below.heap_setCell _ _ _ _ h]
set_option maxHeartbeats 1000000 in
theorem neg_calls {x : Value} {z : Int} (h : IntR w x z) (hs : Sm z.natAbs) : Calls Tryz.prog 161 #[x] w (IntQ (-z) w) := by
  obtain ⟨v, rfl, hv⟩ := h
  obtain ⟨a, k, c, rfl⟩ := intSlice hv
  obtain ⟨s, hs0⟩ : ∃ s, decide (z < 0) = s := ⟨_, rfl⟩
  rw [hs0]
  have HZ := Lib.hid hs0
  have HW := Lib.hid (boxes (s := s) hv)
  clear hv hs0
  go_enter Tryz.func161, Tryz.ntmps161
  go_wp2_with fail
  refine (nat_calls (!s) HW.out.2.2.1 hs).mono ?_
  rintro e w1 ⟨x1, rfl, hf, hb⟩
  obtain ⟨b1, a1, k1, c1, rfl, hb1⟩ := hf.form
  have HF := Lib.hid (And.intro hf hb)
  have hr1 := HW.out.2.1.below hb
  have HR1 := Lib.hid hr1
  obtain ⟨d0, d1, f0, f1, ht⟩ := hr1.facts
  clear hf hb hr1 hb1
  go_wp2_with fail
  refine bodyPost_ret (v := .agg #[.bool b1, .slice a1 k1 c1]) (by simp [results, Tryz.results161, go_sem, d0, d1]) rfl ?_
  exact int_end (HW.out.1.trans (HF.out.2.mono HW.out.1.size)) (by omega) HR1.out ((by rw [← HZ.out]; exact sgnI_not z : sgnI (!s) z.natAbs = -z) ▸ HF.out.1) HW.out.1.size
set_option maxHeartbeats 2000000 in
theorem intShl_calls {x : Value} {z : Int} {n : Nat} (h : IntR w x z) (hs : Sm z.natAbs) (hn : n ≤ 1048576) (hs' : Sm (z.natAbs * 2 ^ n)) : Calls Tryz.prog 116 #[x, .int .i64 (n : Int)] w (IntQ (z * 2 ^ n) w) := by
  obtain ⟨v, rfl, hv⟩ := h
  obtain ⟨a, k, c, rfl⟩ := intSlice hv
  obtain ⟨s, hs0⟩ : ∃ s, decide (z < 0) = s := ⟨_, rfl⟩
  rw [hs0]
  have HZ := Lib.hid hs0
  have hW := boxes (s := s) hv
  clear hv hs0
  go_enter Tryz.func116, Tryz.ntmps116
  go_wp2_with fail
  have c00 := hW.2.2.2.1
  have c01 := hW.2.2.2.2
  generalize (w.alloc (.cells #[.bool s, .slice a k c] 24)).alloc (.cells #[.bool false, .slice none 0 0] 24) = w0 at hW c00 c01 ⊢
  have HW := Lib.hid hW
  have hlt := hW.2.1.facts.2.2.2.2
  have hlt0 : w.heap.size < w0.heap.size := by omega
  clear hW
  have hS : ∀ w', Below w0.heap.size w0 w' → w'.cell? ⟨w.heap.size, 0, none⟩ = some (.bool s) ∧ w'.cell? ⟨w.heap.size, 1, none⟩ = some (.slice a k c) := fun w' hb => ⟨(hb.cell (p := ⟨w.heap.size, 0, none⟩) hlt0).trans c00, (hb.cell (p := ⟨w.heap.size, 1, none⟩) hlt0).trans c01⟩
  have HS := Lib.hid hS
  have hT : ∀ (w' : World) (i : Nat) (u : Value), (w'.cell? ⟨w.heap.size, 0, none⟩ = some (.bool s) ∧ w'.cell? ⟨w.heap.size, 1, none⟩ = some (.slice a k c)) → ((w'.setCell ⟨w.heap.size + 1, i, none⟩ u).cell? ⟨w.heap.size, 0, none⟩ = some (.bool s) ∧ (w'.setCell ⟨w.heap.size + 1, i, none⟩ u).cell? ⟨w.heap.size, 1, none⟩ = some (.slice a k c)) := fun w' i u h => ⟨(cell_setCell_block (by simp) _).trans h.1, (cell_setCell_block (by simp) _).trans h.2⟩
  have HT := Lib.hid hT
  have HD := Lib.hid (Below.refl w0.heap.size w0).drew
  clear hS hT
  go_region_held3 (fun w' => w'.cell? ⟨w.heap.size, 0, none⟩ = some (.bool s) ∧ w'.cell? ⟨w.heap.size, 1, none⟩ = some (.slice a k c))
    ((first | exact HT.out _ _ _ (HT.out _ _ _ (HS.out _ hb2)) | exact HS.out _ hb2 | exact HS.out _ hb1 | exact HS.out _ HD.out | exact HS.out _ (Below.refl _ _)))
    (first
      | (go_at_call 163; refine (shl_calls (HW.out.2.2.1.below (by first | exact HD.out | exact Below.refl _ _)) hs hn).mono ?_; rintro e w1 ⟨x1, rfl, hf, hb⟩; have hb1 : Below w0.heap.size w0 w1 := HD.out.trans hb; have HF1 := Lib.hid hf; clear hf hb)
      | (go_at_call 121; refine (nat_calls s HF1.out.r hs').mono ?_; rintro e w2 ⟨x2, rfl, hf, hb⟩; have hb2 : Below w0.heap.size w0 w2 := hb1.trans (hb.mono hb1.size); obtain ⟨b1, a1, k1, c1, rfl, hbq⟩ := hf.form; clear hbq; have HF := Lib.hid (hf.base (base' := w.heap.size) (by have := HW.out.1.size; have := hb1.size; omega)); have hr1 := HW.out.2.1.below hb2; have HR1 := Lib.hid hr1; obtain ⟨d0, d1, f0, f1, ht⟩ := hr1.facts; clear hf hb hr1))
  all_goals
    go_wp2_with fail
    refine bodyPost_ret (v := .agg #[.bool b1, .slice a1 k1 c1]) (by simp [results, Tryz.results116, go_sem, d0, d1]) rfl ?_
    exact int_end (HW.out.1.trans (hb2.mono HW.out.1.size)) (by omega) HR1.out ((by rw [← HZ.out]; rw [sgnI_mul z (2 ^ n), two_pow_cast] : sgnI s (z.natAbs * 2 ^ n) = z * 2 ^ n) ▸ HF.out) (Nat.le_refl _)
end
end Go.Proofs.YtkpjikaobjpkoaaGreatDoor
