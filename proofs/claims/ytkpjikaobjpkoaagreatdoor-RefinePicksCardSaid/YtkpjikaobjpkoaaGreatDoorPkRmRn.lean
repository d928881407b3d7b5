/-
  Walk of integer.Add.
-/
import Derived.Test.YtkpjikaobjpkoaaGreatDoorPkRkRl
namespace Go.Proofs.YtkpjikaobjpkoaaGreatDoor
open Go.RowKit

def box2 (w : World) (s s' : Bool) (v u : Value) : World := ((w.alloc (.cells #[.bool s, v] 24)).alloc (.cells #[.bool s', u] 24)).alloc (.cells #[.bool false, .slice none 0 0] 24)
/-- The cells of the two arguments. -/
structure Two (w : World) (p : Nat) (s s' : Bool) (v u : Value) : Prop where
  c0 : w.cell? ⟨p, 0, none⟩ = some (.bool s)
  c1 : w.cell? ⟨p, 1, none⟩ = some v
  d0 : w.cell? ⟨p + 1, 0, none⟩ = some (.bool s')
  d1 : w.cell? ⟨p + 1, 1, none⟩ = some u
theorem Two.lt {w : World} {p : Nat} {s s' : Bool} {v u : Value} (h : Two w p s s' v u) : p + 1 < w.heap.size := World.block_lt_of_cell? w _ h.d0
theorem Two.below {w w' : World} {p : Nat} {s s' : Bool} {v u : Value} (h : Two w p s s' v u) (hb : Below w.heap.size w w') : Two w' p s s' v u := by
  have hl := h.lt
  exact ⟨(hb.cell (p := ⟨p, 0, none⟩) (by simp; omega)).trans h.c0, (hb.cell (p := ⟨p, 1, none⟩) (by simp; omega)).trans h.c1, (hb.cell (p := ⟨p + 1, 0, none⟩) (by simp; omega)).trans h.d0, (hb.cell (p := ⟨p + 1, 1, none⟩) (by simp; omega)).trans h.d1⟩
theorem Two.setCell {w : World} {p : Nat} {s s' : Bool} {v u : Value} (h : Two w p s s' v u) (i : Nat) (x : Value) : Two (w.setCell ⟨p + 1 + 1, i, none⟩ x) p s s' v u :=
  ⟨(cell_setCell_block (by simp; omega) _).trans h.c0, (cell_setCell_block (by simp; omega) _).trans h.c1, (cell_setCell_block (by simp) _).trans h.d0, (cell_setCell_block (by simp) _).trans h.d1⟩
structure Box2 (w w0 : World) (s s' : Bool) (v u : Value) (n m : Nat) : Prop where
  below : Below w.heap.size w w0
  res : ResI w0 (w.heap.size + 1 + 1)
  two : Two w0 w.heap.size s s' v u
  r1 : NatR w0 v n
  r2 : NatR w0 u m
theorem box2_of {w : World} {s s' : Bool} {v u : Value} {n m : Nat} (h : NatR w v n) (h' : NatR w u m) : Box2 w (box2 w s s' v u) s s' v u n m := by
  have e1 : (w.alloc (.cells #[.bool s, v] 24)).heap.size = w.heap.size + 1 := by simp
  have e2 : ((w.alloc (.cells #[.bool s, v] 24)).alloc (.cells #[.bool s', u] 24)).heap.size = w.heap.size + 1 + 1 := by simp
  have b1 := below_new w (.cells #[.bool s, v] 24)
  have b2 := below_new (w.alloc (.cells #[.bool s, v] 24)) (.cells #[.bool s', u] 24)
  have b3 := below_new ((w.alloc (.cells #[.bool s, v] 24)).alloc (.cells #[.bool s', u] 24)) (.cells #[.bool false, .slice none 0 0] 24)
  have hb : Below w.heap.size w (box2 w s s' v u) := (b1.trans (b2.mono (by omega))).trans (b3.mono (by omega))
  have b23 : Below (w.heap.size + 1) (w.alloc (.cells #[.bool s, v] 24)) (box2 w s s' v u) := by rw [e1] at b2; exact b2.trans (b3.mono (by omega))
  rw [e2] at b3
  obtain ⟨c0, c1⟩ := int_cells w s v
  obtain ⟨d0, d1⟩ := int_cells (w.alloc (.cells #[.bool s, v] 24)) s' u
  rw [e1] at d0 d1
  refine ⟨hb, ?_, ⟨(b23.cell (p := ⟨w.heap.size, 0, none⟩) (by simp)).trans c0, (b23.cell (p := ⟨w.heap.size, 1, none⟩) (by simp)).trans c1, (b3.cell (p := ⟨w.heap.size + 1, 0, none⟩) (by simp)).trans d0, (b3.cell (p := ⟨w.heap.size + 1, 1, none⟩) (by simp)).trans d1⟩, h.below hb, h'.below hb⟩
  have := heap_alloc_new ((w.alloc (.cells #[.bool s, v] 24)).alloc (.cells #[.bool s', u] 24)) (.cells #[.bool false, .slice none 0 0] 24)
  rw [e2] at this
  exact this
theorem add_same {p q : Int} (h : decide (p < 0) = decide (q < 0)) : sgnI (decide (p < 0)) (p.natAbs + q.natAbs) = p + q := by
  unfold sgnI
  by_cases hp : p < 0
  · have hq : q < 0 := by rw [decide_eq_true hp] at h; exact of_decide_eq_true h.symm
    rw [decide_eq_true hp]; simp; omega
  · have hq : ¬ q < 0 := by rw [decide_eq_false hp] at h; exact of_decide_eq_false h.symm
    rw [decide_eq_false hp]; simp; omega
theorem add_ge {p q : Int} (h : decide (p < 0) ≠ decide (q < 0)) (hle : q.natAbs ≤ p.natAbs) : sgnI (decide (p < 0)) (p.natAbs - q.natAbs) = p + q := by
  unfold sgnI
  by_cases hp : p < 0 <;> by_cases hq : q < 0 <;> simp [hp, hq] at h ⊢ <;> omega
theorem add_lt {p q : Int} (h : decide (p < 0) ≠ decide (q < 0)) (hle : p.natAbs ≤ q.natAbs) : sgnI (decide (q < 0)) (q.natAbs - p.natAbs) = p + q := by
  unfold sgnI
  by_cases hp : p < 0 <;> by_cases hq : q < 0 <;> simp [hp, hq] at h ⊢ <;> omega

section
variable {w : World}
set_option maxRecDepth 100000 in
set_option maxHeartbeats 4000000 in
theorem intAdd_calls {x y : Value} {p q : Int} (h : IntR w x p) (h' : IntR w y q) (hs : Sm (p.natAbs + q.natAbs)) : Calls Tryz.prog 68 #[x, y] w (IntQ (p + q) w) := by
  obtain ⟨v, rfl, hv⟩ := h
  obtain ⟨u, rfl, hu⟩ := h'
  obtain ⟨a, k, c, rfl⟩ := intSlice hv
  obtain ⟨a', k', c', rfl⟩ := intSlice hu
  obtain ⟨s, hs0⟩ : ∃ s, decide (p < 0) = s := ⟨_, rfl⟩
  obtain ⟨s', hs1⟩ : ∃ s, decide (q < 0) = s := ⟨_, rfl⟩
  rw [hs0, hs1]
  have HZ := Lib.hid (And.intro hs0 hs1)
  have HS := Lib.hid (And.intro hs (And.intro (sm_le hs (Nat.le_add_right _ _)) (sm_le hs (Nat.le_add_left _ _))))
  have hW := box2_of (s := s) (s' := s') hv hu
  clear hv hu hs0 hs1 hs
  by_cases hss : s = s'
  · have HSS := Lib.hid (show decide (p < 0) = decide (q < 0) by rw [HZ.out.1, HZ.out.2, hss])
    have hssb : (s == s') = true := by simpa using hss
    subst hss
    go_enter Tryz.func68, Tryz.ntmps68
    go_wp2_with fail
    have c0 := hW.two.c0
    have c1 := hW.two.c1
    have d0 := hW.two.d0
    have d1 := hW.two.d1
    have hlt1 := hW.two.lt
    have hlt0 : w.heap.size < (box2 w s s (.slice a k c) (.slice a' k' c')).heap.size := by omega
    unfold box2 at hW c0 c1 d0 d1 hlt1 hlt0
    generalize ((w.alloc (.cells #[.bool s, .slice a k c] 24)).alloc (.cells #[.bool s, .slice a' k' c'] 24)).alloc (.cells #[.bool false, .slice none 0 0] 24) = w0 at hW c0 c1 d0 d1 hlt1 hlt0 ⊢
    have HW := Lib.hid hW
    clear hW
    have hS : ∀ w', Below w0.heap.size w0 w' → Two w' w.heap.size s s (.slice a k c) (.slice a' k' c') := fun w' hb => HW.out.two.below hb
    have HS2 := Lib.hid hS
    have HD := Lib.hid (Below.refl w0.heap.size w0).drew
    have HTW := Lib.hid (fun (w' : World) (h : Two w' w.heap.size s s (.slice a k c) (.slice a' k' c')) => And.intro h.c0 (And.intro h.c1 h.d1))
    have HTS := Lib.hid (fun (w' : World) (i i' : Nat) (x x' : Value) (h : Two w' w.heap.size s s (.slice a k c) (.slice a' k' c')) => (h.setCell i x).setCell i' x')
    clear hS
    go_region_held3 (fun w' => w'.cell? ⟨w.heap.size, 0, none⟩ = some (.bool s) ∧ w'.cell? ⟨w.heap.size, 1, none⟩ = some (.slice a k c) ∧ w'.cell? ⟨w.heap.size + 1, 1, none⟩ = some (.slice a' k' c'))
      ((refine HTW.out _ ?_; first | exact HTS.out _ _ _ _ _ (HS2.out _ hb2) | exact HS2.out _ hb2 | exact HS2.out _ hb1 | exact HS2.out _ HD.out | exact HS2.out _ (Below.refl _ _)))
      (first
        | (go_at_call 123; refine (add_calls (HW.out.r1.below (by first | exact HD.out | exact Below.refl _ _)) (HW.out.r2.below (by first | exact HD.out | exact Below.refl _ _)) HS.out.2.1 HS.out.2.2).mono ?_; rintro e w1 ⟨x1, rfl, hf, hb⟩; have hb1 : Below w0.heap.size w0 w1 := HD.out.trans hb; have HF1 := Lib.hid hf; clear hf hb)
        | (go_at_call 121; refine (nat_calls s HF1.out.r HS.out.1).mono ?_; rintro e w2 ⟨x2, rfl, hf, hb⟩; have hb2 : Below w0.heap.size w0 w2 := hb1.trans (hb.mono hb1.size); obtain ⟨b1, a1, k1, c1', rfl, hbq⟩ := hf.form; clear hbq; have HF := Lib.hid (hf.base (base' := w.heap.size) (by have := HW.out.below.size; have := hb1.size; omega)); have hr1 := HW.out.res.below hb2; have HR1 := Lib.hid hr1; obtain ⟨e0, e1, f0, f1, ht⟩ := hr1.facts; clear hf hb hr1))
    all_goals
      go_wp2_with fail
      refine bodyPost_ret (v := .agg #[.bool b1, .slice a1 k1 c1']) (by simp [results, Tryz.results68, go_sem, e0, e1]) rfl ?_
      exact int_end (HW.out.below.trans (hb2.mono HW.out.below.size)) (by omega) HR1.out ((by rw [← HZ.out.1]; exact add_same HSS.out : sgnI s (p.natAbs + q.natAbs) = p + q) ▸ HF.out) (Nat.le_refl _)
  · have HSS := Lib.hid (show decide (p < 0) ≠ decide (q < 0) by rw [HZ.out.1, HZ.out.2]; exact hss)
    have hssb : (s == s') = false := by simpa using hss
    clear hss
    go_enter Tryz.func68, Tryz.ntmps68
    go_wp2_with fail
    have c0 := hW.two.c0
    have c1 := hW.two.c1
    have d0 := hW.two.d0
    have d1 := hW.two.d1
    have hlt1 := hW.two.lt
    have hlt0 : w.heap.size < (box2 w s s' (.slice a k c) (.slice a' k' c')).heap.size := by omega
    unfold box2 at hW c0 c1 d0 d1 hlt1 hlt0
    generalize ((w.alloc (.cells #[.bool s, .slice a k c] 24)).alloc (.cells #[.bool s', .slice a' k' c'] 24)).alloc (.cells #[.bool false, .slice none 0 0] 24) = w0 at hW c0 c1 d0 d1 hlt1 hlt0 ⊢
    have HW := Lib.hid hW
    clear hW
    have HR2 := Lib.hid (fun w' (hb : Below w0.heap.size w0 w') => And.intro (HW.out.r1.below hb) (HW.out.r2.below hb))
    refine (sub_calls HW.out.r1 HW.out.r2 HS.out.2.1 HS.out.2.2).mono ?_
    rintro e w1 hsub
    rcases hsub with ⟨hlt, rfl, hb⟩ | ⟨hle, v1, rfl, hf, hb⟩
    · have HL := Lib.hid hlt
      have HBB := Lib.hid hb
      clear hlt hb c0 c1 d0 d1 hlt1 hlt0
      have HTB := HW.out.two.below HBB.out
      have c0 := HTB.c0
      have c1 := HTB.c1
      have d0 := HTB.d0
      have d1 := HTB.d1
      have hlt1 := HTB.lt
      have hlt0 : w.heap.size < w1.heap.size := by omega
      clear HTB
      go_wp2_with fail
      refine (sub_calls (HR2.out _ HBB.out).2 (HR2.out _ HBB.out).1 HS.out.2.2 HS.out.2.1).mono ?_
      rintro e w2 hsub
      rcases hsub with ⟨hlt, rfl, hb⟩ | ⟨hle, v1, rfl, hf, hb⟩
      · exact absurd hlt (by have := HL.out; omega)
      · obtain ⟨a2, k2, c2, rfl⟩ := intSlice hf.r
        have HF1 := Lib.hid hf
        have HB2 := Lib.hid (HBB.out.trans (hb.mono HBB.out.size))
        clear hle hf hb c0 c1 d0 d1 hlt1 hlt0
        have HTB := HW.out.two.below HB2.out
        have c0 := HTB.c0
        have c1 := HTB.c1
        have d0 := HTB.d0
        have d1 := HTB.d1
        have hlt1 := HTB.lt
        have hlt0 : w.heap.size < w2.heap.size := by omega
        clear HTB
        go_wp2_with fail
        refine (nat_calls s' HF1.out.r (sm_le HS.out.2.2 (Nat.sub_le _ _))).mono ?_
        rintro e w9 ⟨x2, rfl, hf, hb⟩
        obtain ⟨b1, a1, k1, c1', rfl, hbq⟩ := hf.form
        clear hbq
        have HB9 := Lib.hid (HB2.out.trans (hb.mono HB2.out.size))
        have HF := Lib.hid (hf.base (base' := w.heap.size) (by have := HW.out.below.size; have := HB2.out.size; omega))
        have hr1 := HW.out.res.below HB9.out
        have HR1 := Lib.hid hr1
        obtain ⟨e0, e1, f0, f1, ht⟩ := hr1.facts
        clear hf hb hr1 c0 c1 d0 d1 hlt1 hlt0
        go_wp2_with fail
        refine bodyPost_ret (v := .agg #[.bool b1, .slice a1 k1 c1']) (by simp [results, Tryz.results68, go_sem, e0, e1]) rfl ?_
        exact int_end (HW.out.below.trans (HB9.out.mono HW.out.below.size)) (by omega) HR1.out ((by rw [← HZ.out.2]; exact add_lt HSS.out (by have := HL.out; omega) : sgnI s' (q.natAbs - p.natAbs) = p + q) ▸ HF.out) (Nat.le_refl _)
    · obtain ⟨a2, k2, c2, rfl⟩ := intSlice hf.r
      have HL := Lib.hid hle
      have HF1 := Lib.hid hf
      have HBB := Lib.hid hb
      clear hle hf hb c0 c1 d0 d1 hlt1 hlt0
      have HTB := HW.out.two.below HBB.out
      have c0 := HTB.c0
      have c1 := HTB.c1
      have d0 := HTB.d0
      have d1 := HTB.d1
      have hlt1 := HTB.lt
      have hlt0 : w.heap.size < w1.heap.size := by omega
      clear HTB
      go_wp2_with fail
      refine (nat_calls s HF1.out.r (sm_le HS.out.2.1 (Nat.sub_le _ _))).mono ?_
      rintro e w9 ⟨x2, rfl, hf, hb⟩
      obtain ⟨b1, a1, k1, c1', rfl, hbq⟩ := hf.form
      clear hbq
      have HB9 := Lib.hid (HBB.out.trans (hb.mono HBB.out.size))
      have HF := Lib.hid (hf.base (base' := w.heap.size) (by have := HW.out.below.size; have := HBB.out.size; omega))
      have hr1 := HW.out.res.below HB9.out
      have HR1 := Lib.hid hr1
      obtain ⟨e0, e1, f0, f1, ht⟩ := hr1.facts
      clear hf hb hr1 c0 c1 d0 d1 hlt1 hlt0
      go_wp2_with fail
      refine bodyPost_ret (v := .agg #[.bool b1, .slice a1 k1 c1']) (by simp [results, Tryz.results68, go_sem, e0, e1]) rfl ?_
      exact int_end (HW.out.below.trans (HB9.out.mono HW.out.below.size)) (by omega) HR1.out ((by rw [← HZ.out.1]; exact add_ge HSS.out HL.out : sgnI s (p.natAbs - q.natAbs) = p + q) ▸ HF.out) (Nat.le_refl _)
end
end Go.Proofs.YtkpjikaobjpkoaaGreatDoor
/-
  Dyadic numbers: what they are; walks of dyadic.Valid, Sign, Top.
-/
namespace Go.Proofs.YtkpjikaobjpkoaaGreatDoor
open Go.RowKit

theorem blen_le {n k : Nat} (h : n < 2 ^ k) : blen n ≤ k := by
  by_cases h0 : n = 0
  · rw [h0]; exact Nat.zero_le _
  · obtain ⟨b, e, h1, _⟩ := blen_pos h0
    have := (Nat.pow_lt_pow_iff_right (a := 2) (by omega)).1 (Nat.lt_of_le_of_lt h1 h)
    omega
def kBits : Nat := 6000
/-- A mantissa and an exponent in normal form, within bounds. -/
structure Ny (m e : Int) : Prop where
  nf : (m = 0 ∧ e = 0) ∨ m % 2 = 1
  lo : -3000 ≤ e
  hi : e ≤ 3000
  sz : m.natAbs < 2 ^ kBits
/-- A value that reads as a dyadic number; one whose list is a row of one's own. -/
def DyR (w : World) (x : Value) (m e : Int) : Prop := ∃ v, x = .agg #[.bool (decide (m < 0)), v, .int .i64 e] ∧ NatR w v m.natAbs
def DyF (w : World) (base : Nat) (x : Value) (m e : Int) : Prop := ∃ v, x = .agg #[.bool (decide (m < 0)), v, .int .i64 e] ∧ NatF w base v m.natAbs
theorem DyF.r {w : World} {base : Nat} {x : Value} {m e : Int} (h : DyF w base x m e) : DyR w x m e := by
  obtain ⟨v, e, h⟩ := h
  exact ⟨v, e, h.r⟩
theorem DyR.below {w w' : World} {x : Value} {m e : Int} (h : DyR w x m e) (hb : Below w.heap.size w w') : DyR w' x m e := by
  obtain ⟨v, e, h⟩ := h
  exact ⟨v, e, h.below hb⟩
theorem DyF.below {w w' : World} {base : Nat} {x : Value} {m e : Int} (h : DyF w base x m e) (hb : Below w.heap.size w w') : DyF w' base x m e := by
  obtain ⟨v, e, h⟩ := h
  exact ⟨v, e, h.below hb⟩
theorem DyF.base {w : World} {base base' : Nat} {x : Value} {m e : Int} (h : DyF w base x m e) (hb : base' ≤ base) : DyF w base' x m e := by
  obtain ⟨v, e, h⟩ := h
  exact ⟨v, e, h.base hb⟩
theorem dyF_setCell {w : World} {base : Nat} {x : Value} {m e : Int} {t : Nat} {c : Array Value} {T : TypeId} {fz : Nat × Nat} (h : DyF w base x m e) (hb : w.heap[t]? = some (.cells c T fz)) (hT : T ≠ 143) (i : Nat) (u : Value) : DyF (w.setCell ⟨t, i, none⟩ u) base x m e := by
  obtain ⟨v, e, h⟩ := h
  exact ⟨v, e, natF_setCell h hb hT i u⟩
theorem ny_sm {m e : Int} (h : Ny m e) : Sm m.natAbs := sm_of (k := kBits) h.sz (by unfold kBits; omega)
theorem ny_blen {m e : Int} (h : Ny m e) : blen m.natAbs ≤ 6000 := Nat.le_trans (blen_le (k := kBits) h.sz) (Nat.le_of_eq rfl)
/-- The cells of a dyadic number's box. -/
structure DyC (w : World) (p : Nat) (s : Bool) (v : Value) (e : Int) : Prop where
  c0 : w.cell? ⟨p, 0, none⟩ = some (.bool s)
  c1 : w.cell? ⟨p, 1, none⟩ = some v
  c2 : w.cell? ⟨p, 2, none⟩ = some (.int .i64 e)
theorem DyC.lt {w : World} {p : Nat} {s : Bool} {v : Value} {e : Int} (h : DyC w p s v e) : p < w.heap.size := World.block_lt_of_cell? w _ h.c0
theorem DyC.below {w w' : World} {p : Nat} {s : Bool} {v : Value} {e : Int} (h : DyC w p s v e) (hb : Below w.heap.size w w') : DyC w' p s v e := by
  have hl := h.lt
  exact ⟨(hb.cell (p := ⟨p, 0, none⟩) hl).trans h.c0, (hb.cell (p := ⟨p, 1, none⟩) hl).trans h.c1, (hb.cell (p := ⟨p, 2, none⟩) hl).trans h.c2⟩
theorem DyC.setCell {w : World} {p q : Nat} {s : Bool} {v : Value} {e : Int} (h : DyC w p s v e) (hq : p ≠ q) (i : Nat) (x : Value) : DyC (w.setCell ⟨q, i, none⟩ x) p s v e :=
  ⟨(cell_setCell_block hq _).trans h.c0, (cell_setCell_block hq _).trans h.c1, (cell_setCell_block hq _).trans h.c2⟩
theorem dyC_of {w : World} {p : Nat} {s : Bool} {v : Value} {e : Int} {T : TypeId} {fz : Nat × Nat} (h : w.heap[p]? = some (.cells #[.bool s, v, .int .i64 e] T fz)) : DyC w p s v e :=
  ⟨(cell_of_blk h 0).trans rfl, (cell_of_blk h 1).trans rfl, (cell_of_blk h 2).trans rfl⟩
theorem odd_of {m : Int} (h : m % 2 = 1) : m.natAbs % 2 = 1 := by omega
theorem odd_ne {m : Int} (h : m % 2 = 1) : m.natAbs ≠ 0 := by omega

section
variable {w : World}
set_option maxHeartbeats 2000000 in
theorem dyValid_calls {x : Value} {m e : Int} (h : DyR w x m e) (hy : Ny m e) : Calls Tryz.prog 111 #[x] w (Quiet (.bool true) w) := by
  obtain ⟨v, rfl, hv⟩ := h
  obtain ⟨a, k, c, rfl, hk63, hk⟩ := hv.form
  obtain ⟨s, hs0⟩ : ∃ s, decide (m < 0) = s := ⟨_, rfl⟩
  rw [hs0]
  have hIR : IntR w (.agg #[.bool s, .slice a k c]) m := ⟨_, by rw [hs0], hv⟩
  have HL := Lib.hid (fun o => below_new w o)
  have HV := Lib.hid (fun o => intValid_calls (hIR.below (below_new w o)))
  have HB := Lib.hid (fun w' (hb : Below w.heap.size w w') => bits_calls (hv.below hb) (ny_sm hy))
  have HT := Lib.hid (fun w' (hb : Below w.heap.size w w') => bit0_calls (hv.below hb) (ny_sm hy))
  have HC := Lib.hid (dyC_of (heap_alloc_new w (.cells #[.bool s, .slice a k c, .int .i64 e] 26)))
  have hbl := ny_blen hy
  obtain ⟨n, hn⟩ : ∃ n, blen m.natAbs = n := ⟨_, rfl⟩
  rw [hn] at HB hbl
  rcases hy.nf with ⟨hm, he⟩ | hodd
  · have hk0 : k = 0 := hk.1 (by omega)
    subst hk0
    subst he
    clear hIR hv hs0 hm hk hn hy
    go_enter Tryz.func111, Tryz.ntmps111
    go_wp2_with fail
    refine (HV.out _).mono ?_
    rintro e w1 ⟨rfl, hb⟩
    have hc := HC.out.below hb
    have c0 := hc.c0
    have c1 := hc.c1
    have c2 := hc.c2
    have hlt := hc.lt
    have HB1 := Lib.hid ((HL.out _).trans (hb.mono (HL.out _).size))
    clear hc hb
    go_wp2_with fail
    go_ret
    exact ⟨rfl, HB1.out⟩
  · have hk0 : ((k : Int) == 0) = false := by
      have : k ≠ 0 := fun e => odd_ne hodd (hk.2 e)
      simpa using this
    have hO := decide_eq_true (odd_of hodd)
    rw [hO] at HT
    have he1 := hy.lo
    have he2 := hy.hi
    clear hIR hv hs0 hk hn hy hodd hO
    go_enter Tryz.func111, Tryz.ntmps111
    go_wp2_with fail
    refine (HV.out _).mono ?_
    rintro e' w1 ⟨rfl, hb⟩
    have HB1 := Lib.hid ((HL.out _).trans (hb.mono (HL.out _).size))
    have hc := HC.out.below hb
    have c0 := hc.c0
    have c1 := hc.c1
    have c2 := hc.c2
    have hlt := hc.lt
    clear hc hb
    go_wp2_with fail
    refine (HB.out _ HB1.out).mono ?_
    rintro e' w' ⟨rfl, rfl⟩
    go_wp2_with fail
    refine (HT.out _ HB1.out).mono ?_
    rintro e' w' ⟨rfl, rfl⟩
    go_wp2_with fail
    go_ret
    exact ⟨rfl, HB1.out⟩
set_option maxHeartbeats 1000000 in
theorem dySign_calls {x : Value} {m e : Int} (h : DyR w x m e) (hs : Sm m.natAbs) : Calls Tryz.prog 58 #[x] w (Quiet (.int .i64 m.sign) w) := by
  obtain ⟨v, rfl, hv⟩ := h
  obtain ⟨a, k, c, rfl⟩ := intSlice hv
  obtain ⟨s, hs0⟩ : ∃ s, decide (m < 0) = s := ⟨_, rfl⟩
  rw [hs0]
  have HL := Lib.hid (fun o => below_new w o)
  have hIR : IntR w (.agg #[.bool s, .slice a k c]) m := ⟨_, by rw [hs0], hv⟩
  have HV := Lib.hid (fun o => sign_calls (hIR.below (below_new w o)) hs)
  clear hIR hv hs0 hs
  go_enter Tryz.func58, Tryz.ntmps58
  go_wp2_with fail
  refine (HV.out _).mono ?_
  rintro e w1 ⟨rfl, hb⟩
  have HB1 := Lib.hid ((HL.out _).trans (hb.mono (HL.out _).size))
  clear hb
  go_wp2_with fail
  go_ret
  exact ⟨rfl, HB1.out⟩
end
end Go.Proofs.YtkpjikaobjpkoaaGreatDoor
