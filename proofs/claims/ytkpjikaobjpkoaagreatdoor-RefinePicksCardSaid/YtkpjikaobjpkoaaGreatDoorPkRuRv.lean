/-
  Walks of dyadic.Sub and Shift.
-/
import Derived.Test.YtkpjikaobjpkoaaGreatDoorPkRsRt
namespace Go.Proofs.YtkpjikaobjpkoaaGreatDoor
open Go.RowKit

theorem Box3.six {w w0 w' : World} {s s' : Bool} {v u : Value} {e f : Int} {n m : Nat} (h : Box3 w w0 s s' v u e f n m) (hb : Below w0.heap.size w0 w') : Six w' w.heap.size s s' v u e f :=
  ⟨(h.da.below hb).c0, (h.da.below hb).c1, (h.da.below hb).c2, (h.db.below hb).c0, (h.db.below hb).c1, (h.db.below hb).c2⟩
theorem Six.setCell {w' : World} {p q : Nat} {s s' : Bool} {v u : Value} {e f : Int} (h : Six w' p s s' v u e f) (hq : p + 1 < q) (i : Nat) (x : Value) : Six (w'.setCell ⟨q, i, none⟩ x) p s s' v u e f := cells_kept h hq i x
theorem DyO.form {w : World} {base : Nat} {x : Value} {V : Int} (h : DyO w base x V) : ∃ b a k c e, x = .agg #[.bool b, .slice a k c, .int .i64 e] := by
  obtain ⟨m, e, h1, _⟩ := h
  obtain ⟨b, a, k, c, rfl, _⟩ := h1.form
  exact ⟨b, a, k, c, e, rfl⟩
theorem dyO_set {w w1 : World} {t base : Nat} {b : Bool} {v : Value} {V e : Int} (hb : Below w.heap.size w w1) (ht : w.heap.size ≤ t) (hr : ResD w1 t) (hf : DyO w1 base (.agg #[.bool b, v, .int .i64 e]) V) (hbase : w.heap.size ≤ base) :
    DyO (((w1.setCell ⟨t, 0, none⟩ (.bool b)).setCell ⟨t, 1, none⟩ v).setCell ⟨t, 2, none⟩ (.int .i64 e)) w.heap.size (.agg #[.bool b, v, .int .i64 e]) V ∧ Below w.heap.size w (((w1.setCell ⟨t, 0, none⟩ (.bool b)).setCell ⟨t, 1, none⟩ v).setCell ⟨t, 2, none⟩ (.int .i64 e)) := by
  obtain ⟨m, e', h1, h2⟩ := hf
  have he : e' = e := by
    obtain ⟨_, q, _⟩ := h1
    cases q; rfl
  subst he
  obtain ⟨r1, r2⟩ := dy_set hb ht hr h1 hbase
  exact ⟨⟨m, e', r1, h2⟩, r2⟩
theorem dyV_neg {m n : Int} : (m = 0 ∧ n = 0) ∨ m % 2 = 1 → (-m = 0 ∧ n = 0) ∨ (-m) % 2 = 1 := fun h => h.elim (fun q => .inl ⟨by omega, q.2⟩) (fun q => .inr (by omega))

section
variable {w : World}
set_option maxHeartbeats 1000000 in
theorem negV_calls {x : Value} {A : Int} (h : DyV w x A) : Calls Tryz.prog 113 #[x] w fun en w' => ∃ d, en = .returned d ∧ DyO w' w.heap.size d (-A) ∧ Below w.heap.size w w' := by
  obtain ⟨m, e, h1, hn1, he, rfl, hlA⟩ := h
  have hy := ny_lim hn1 he hlA
  refine (dyNeg_calls h1 (ny_sm hy)).mono ?_
  rintro en w' ⟨d, rfl, hf, hb⟩
  exact ⟨d, rfl, ⟨-m, e, hf, dyV_neg hn1, he, (valD_neg m e).symm, by rw [Int.natAbs_neg]; exact hlA⟩, hb⟩
set_option maxRecDepth 100000 in
set_option maxHeartbeats 4000000 in
theorem dySub_calls {x y : Value} {A B : Int} (h : DyV w x A) (h' : DyV w y B) (hl : (A - B).natAbs < 2 ^ kLim) (hT : TabAt w) : Calls Tryz.prog 57 #[x, y] w (DyW (A - B) w) := by
  have HVA := Lib.hid h
  have HVB := Lib.hid h'
  obtain ⟨m, e, ⟨v, rfl, hv⟩, _⟩ := h
  obtain ⟨n, f, ⟨u, rfl, hu⟩, _⟩ := h'
  obtain ⟨a, k, c, rfl⟩ := intSlice hv
  obtain ⟨a', k', c', rfl⟩ := intSlice hu
  obtain ⟨s, hs0⟩ : ∃ s, decide (m < 0) = s := ⟨_, rfl⟩
  obtain ⟨s', hs1⟩ : ∃ s, decide (n < 0) = s := ⟨_, rfl⟩
  rw [hs0] at HVA
  rw [hs1] at HVB
  rw [hs0, hs1]
  have hW := box3_of (s := s) (s' := s') (e := e) (f := f) hv hu
  have HLIM := Lib.hid hl
  have HTA := Lib.hid (hT.below hW.below)
  have HVA0 := Lib.hid (HVA.out.below hW.below)
  have HVB0 := Lib.hid (HVB.out.below hW.below)
  clear hv hu hs0 hs1 hl hT HVA HVB
  go_enter Tryz.func57, Tryz.ntmps57
  go_wp2_with fail
  unfold box3 at hW HTA HVA0 HVB0
  generalize ((w.alloc (.cells #[.bool s, .slice a k c, .int .i64 e] 26)).alloc (.cells #[.bool s', .slice a' k' c', .int .i64 f] 26)).alloc (.cells #[.bool false, .slice none 0 0, .int .i64 0] 26) = w0 at hW HTA HVA0 HVB0 ⊢
  have HW := Lib.hid hW
  clear hW
  have HQ1 := Lib.hid (fun (w' : World) (hb : Below w0.heap.size w0 w') => negV_calls (HVB0.out.below hb))
  have HS := Lib.hid (fun (w' : World) (hb : Below w0.heap.size w0 w') => HW.out.six hb)
  have HD := Lib.hid (Below.refl w0.heap.size w0).drew
  have hs0 := HS.out _ (Below.refl _ _)
  have hsd := HS.out _ HD.out
  unfold Six at hs0 hsd
  have hlt1 := HW.out.db.lt
  have hlt0 := HW.out.da.lt
  go_region_held3 (fun w' => w'.cell? ⟨w.heap.size, 0, none⟩ = some (.bool s) ∧ w'.cell? ⟨w.heap.size, 1, none⟩ = some (.slice a k c) ∧ w'.cell? ⟨w.heap.size, 2, none⟩ = some (.int .i64 e) ∧ w'.cell? ⟨w.heap.size + 1, 0, none⟩ = some (.bool s') ∧ w'.cell? ⟨w.heap.size + 1, 1, none⟩ = some (.slice a' k' c') ∧ w'.cell? ⟨w.heap.size + 1, 2, none⟩ = some (.int .i64 f))
    ((first | with_reducible exact hs2 | with_reducible exact hs1 | with_reducible exact hsd | with_reducible exact hs0 | with_reducible exact cells_kept (cells_kept (cells_kept hs2 (by omega) _ _) (by omega) _ _) (by omega) _ _))
    (first
      | (go_at_call 113; refine (HQ1.out _ (by first | exact HD.out | exact Below.refl _ _)).mono ?_; rintro e' w1 ⟨xn, rfl, hf, hb⟩; have hb1 : Below w0.heap.size w0 w1 := HD.out.trans hb; obtain ⟨bn, an, kn, cn, en, rfl⟩ := hf.form; have HF1 := Lib.hid hf; have hs1 := HS.out _ hb1; unfold Six at hs1; clear hf hb)
      | (go_at_call 62; refine (dyAdd_calls (HVA0.out.below hb1) HF1.out.v (by rw [← Int.sub_eq_add_neg]; exact HLIM.out) (HTA.out.below hb1)).mono ?_; rintro e' w2 ⟨d, rfl, hf, hb⟩; have hb2 : Below w0.heap.size w0 w2 := hb1.trans (hb.mono hb1.size); obtain ⟨bn2, an2, kn2, cn2, en2, rfl⟩ := hf.form; have HF2 := Lib.hid (hf.base (base' := w0.heap.size) hb1.size); have hr1 := HW.out.res.below hb2; have HR1 := Lib.hid hr1; obtain ⟨d0, d1, d2, f0, f1, f2, ht⟩ := hr1.facts; have hs2 := HS.out _ hb2; unfold Six at hs2; clear hf hb hr1))
  all_goals
    go_wp2_with fail
    refine bodyPost_ret (v := .tuple #[.agg #[.bool bn2, .slice an2 kn2 cn2, .int .i64 en2], .int .i64 0]) (by simp [results, Tryz.results57, go_sem, d0, d1, d2]) rfl ?_
    obtain ⟨r1, r2⟩ := dyO_set (HW.out.below.trans (hb2.mono HW.out.below.size)) (show w.heap.size ≤ w.heap.size + 1 + 1 by omega) HR1.out HF2.out HW.out.below.size
    exact ⟨_, rfl, by rw [Int.sub_eq_add_neg]; exact r1, r2⟩
set_option maxRecDepth 100000 in
set_option maxHeartbeats 4000000 in
/-- Half of a number, which is a multiple of a fine grid. -/
theorem half_calls {x : Value} {A C : Int} (h : DyV w x A) (hd : ∃ q, A = q * 2 ^ (kLow + 1)) (hC : A = C * 2) (hT : TabAt w) : Calls Tryz.prog 63 #[x, .int .i64 (-1)] w (DyW C w) := by
  obtain ⟨m, e, ⟨v, rfl, hv⟩, hn1, he, rfl, hlA⟩ := h
  have hy := ny_lim hn1 he hlA
  obtain ⟨a, k, c, rfl⟩ := intSlice hv
  obtain ⟨s, hs0⟩ : ∃ s, decide (m < 0) = s := ⟨_, rfl⟩
  rw [hs0]
  have hW := boxDD (s := s) (e := e) hv
  obtain ⟨e1, he1⟩ : ∃ e1, e + -1 = e1 := ⟨_, rfl⟩
  have hhalf : -3000 ≤ e1 ∧ valD m e1 = C := by
    have hge : -2999 ≤ e := by
      rcases hn1 with ⟨_, h0⟩ | h1
      · omega
      · obtain ⟨q, hq⟩ := hd
        refine Int.not_lt.1 fun hlt => ?_
        obtain ⟨j, hj⟩ : ∃ j : Nat, kLow + 1 = (e + 10000).toNat + (j + 1) := ⟨kLow - (e + 10000).toNat, by unfold kLow; omega⟩
        unfold valD at hq
        rw [hj, Int.pow_add, Int.pow_succ, ← Int.mul_assoc, Int.mul_comm q, Int.mul_assoc, Int.mul_comm m] at hq
        have := Int.eq_of_mul_eq_mul_left (two_pow_ne _) hq
        rw [← Int.mul_assoc] at this
        omega
    refine ⟨by omega, ?_⟩
    have h2 : valD m e = valD m e1 * 2 := by
      unfold valD
      rw [Int.mul_assoc, ← Int.pow_succ, show (e1 + 10000).toNat.succ = (e + 10000).toNat by omega]
    omega
  have hlC : C.natAbs < 2 ^ kLim := by omega
  have HC := Lib.hid (And.intro hhalf hlC)
  have hP := exact_pre (m := m) (e := e1) hhalf.1 (by have := hy.hi; omega) (by rw [hhalf.2]; exact hlC)
  have HX := Lib.hid (exact_calls (w := (w.alloc (.cells #[.bool s, .slice a k c, .int .i64 e] 26)).alloc (.cells #[.bool false, .slice none 0 0, .int .i64 0] 26)) (x := .agg #[.bool s, .slice a k c]) (m := m) (e := e1) ⟨_, by rw [hs0], hW.r⟩ hP.1 hhalf.1 hP.2 (hT.below hW.below))
  have ewr : IntKind.i64.wrap e1 = e1 := wrap_small (by have := hhalf.1; omega) (by have := hy.hi; omega)
  have HW := Lib.hid hW
  have hy1 := hy.lo
  have hy2 := hy.hi
  clear hv hs0 hn1 he hlA hy hd hC hT hhalf hlC hP hW
  go_enter Tryz.func63, Tryz.ntmps63
  go_wp2_with fail
  refine HX.out.mono ?_
  rintro e' w9 ⟨d, rfl, hf, hb⟩
  obtain ⟨e2, he2⟩ : ∃ e2, expI m e1 = e2 := ⟨_, rfl⟩
  rw [he2] at hf
  have HE1 := Lib.hid he2
  obtain ⟨b1, a1, k1, c1, rfl, hbq⟩ := hf.form
  clear hbq he2
  have HB9 := Lib.hid hb
  have hr1 := HW.out.res.below hb
  have HR1 := Lib.hid hr1
  obtain ⟨d0, d1, d2, f0, f1, f2, ht⟩ := hr1.facts
  have HF := Lib.hid hf
  clear hf hb hr1
  go_wp2_with fail
  refine bodyPost_ret (v := .tuple #[.agg #[.bool b1, .slice a1 k1 c1, .int .i64 e2], .int .i64 0]) (by simp [results, Tryz.results63, go_sem, d0, d1, d2]) rfl ?_
  obtain ⟨r1, r2⟩ := dy_set (HW.out.below.trans (HB9.out.mono HW.out.below.size)) (show w.heap.size ≤ w.heap.size + 1 by omega) HR1.out HF.out HW.out.below.size
  exact ⟨_, rfl, dyO_make (by rw [HE1.out]; exact r1) HC.out.1.1 HC.out.1.2 HC.out.2, r2⟩
end
end Go.Proofs.YtkpjikaobjpkoaaGreatDoor
/-
  Walks of grid.permitted, On, interval.Valid, Width.
-/
namespace Go.Proofs.YtkpjikaobjpkoaaGreatDoor
open Go.RowKit

/-- A value that reads as an interval of two dyadic numbers. -/
def IvV (w : World) (x : Value) (A B : Int) : Prop := ∃ s v e s' u f, x = .agg #[.bool s, v, .int .i64 e, .bool s', u, .int .i64 f] ∧ DyV w (.agg #[.bool s, v, .int .i64 e]) A ∧ DyV w (.agg #[.bool s', u, .int .i64 f]) B
theorem IvV.below {w w' : World} {x : Value} {A B : Int} (h : IvV w x A B) (hb : Below w.heap.size w w') : IvV w' x A B := by
  obtain ⟨s, v, e, s', u, f, h1, h2, h3⟩ := h
  exact ⟨s, v, e, s', u, f, h1, h2.below hb, h3.below hb⟩
theorem DyV.form {w : World} {s : Bool} {v : Value} {e V : Int} (h : DyV w (.agg #[.bool s, v, .int .i64 e]) V) : ∃ a k c, v = .slice a k c := by
  obtain ⟨m, e', ⟨v', h1, h2⟩, _⟩ := h
  cases h1
  exact intSlice h2
/-- The cells of an interval's box. -/
structure IvC (w : World) (p : Nat) (s s' : Bool) (v u : Value) (e f : Int) : Prop where
  c0 : w.cell? ⟨p, 0, none⟩ = some (.bool s)
  c1 : w.cell? ⟨p, 1, none⟩ = some v
  c2 : w.cell? ⟨p, 2, none⟩ = some (.int .i64 e)
  c3 : w.cell? ⟨p, 3, none⟩ = some (.bool s')
  c4 : w.cell? ⟨p, 4, none⟩ = some u
  c5 : w.cell? ⟨p, 5, none⟩ = some (.int .i64 f)
theorem IvC.lt {w : World} {p : Nat} {s s' : Bool} {v u : Value} {e f : Int} (h : IvC w p s s' v u e f) : p < w.heap.size := World.block_lt_of_cell? w _ h.c0
theorem IvC.below {w w' : World} {p : Nat} {s s' : Bool} {v u : Value} {e f : Int} (h : IvC w p s s' v u e f) (hb : Below w.heap.size w w') : IvC w' p s s' v u e f := by
  have hl := h.lt
  exact ⟨(hb.cell (p := ⟨p, 0, none⟩) hl).trans h.c0, (hb.cell (p := ⟨p, 1, none⟩) hl).trans h.c1, (hb.cell (p := ⟨p, 2, none⟩) hl).trans h.c2, (hb.cell (p := ⟨p, 3, none⟩) hl).trans h.c3, (hb.cell (p := ⟨p, 4, none⟩) hl).trans h.c4, (hb.cell (p := ⟨p, 5, none⟩) hl).trans h.c5⟩
theorem ivC_of {w : World} {p : Nat} {s s' : Bool} {v u : Value} {e f : Int} {T : TypeId} {fz : Nat × Nat} (h : w.heap[p]? = some (.cells #[.bool s, v, .int .i64 e, .bool s', u, .int .i64 f] T fz)) : IvC w p s s' v u e f :=
  ⟨(cell_of_blk h 0).trans rfl, (cell_of_blk h 1).trans rfl, (cell_of_blk h 2).trans rfl, (cell_of_blk h 3).trans rfl, (cell_of_blk h 4).trans rfl, (cell_of_blk h 5).trans rfl⟩
/-- The interval's box and the block of a dyadic result. -/
structure BoxI (w w0 : World) (s s' : Bool) (v u : Value) (e f : Int) : Prop where
  below : Below w.heap.size w w0
  ic : IvC w0 w.heap.size s s' v u e f
  res : ResD w0 (w.heap.size + 1)
theorem boxI_of (w : World) (s s' : Bool) (v u : Value) (e f : Int) : BoxI w ((w.alloc (.cells #[.bool s, v, .int .i64 e, .bool s', u, .int .i64 f] 28)).alloc (.cells #[.bool false, .slice none 0 0, .int .i64 0] 26)) s s' v u e f := by
  have hs : (w.alloc (.cells #[.bool s, v, .int .i64 e, .bool s', u, .int .i64 f] 28)).heap.size = w.heap.size + 1 := by simp
  have b1 := below_new w (.cells #[.bool s, v, .int .i64 e, .bool s', u, .int .i64 f] 28)
  have b2 := below_new (w.alloc (.cells #[.bool s, v, .int .i64 e, .bool s', u, .int .i64 f] 28)) (.cells #[.bool false, .slice none 0 0, .int .i64 0] 26)
  refine ⟨b1.trans (b2.mono (by omega)), (ivC_of (heap_alloc_new w _)).below b2, ?_⟩
  have := heap_alloc_new (w.alloc (.cells #[.bool s, v, .int .i64 e, .bool s', u, .int .i64 f] 28)) (.cells #[.bool false, .slice none 0 0, .int .i64 0] 26)
  rw [hs] at this
  exact this
theorem DyV.ny {w : World} {x : Value} {V : Int} (h : DyV w x V) : ∃ m e, DyR w x m e ∧ Ny m e ∧ V = valD m e := by
  obtain ⟨m, e, h1, h2, h3, h4, h5⟩ := h
  exact ⟨m, e, h1, ny_lim h2 h3 (h4 ▸ h5), h4⟩

section
variable {w : World}
theorem validV_calls {x : Value} {V : Int} (h : DyV w x V) : Calls Tryz.prog 111 #[x] w (Quiet (.bool true) w) := by
  obtain ⟨m, e, h1, h2, _⟩ := h.ny
  exact dyValid_calls h1 h2
theorem signV_calls {x : Value} {V : Int} (h : DyV w x V) : Calls Tryz.prog 58 #[x] w (Quiet (.int .i64 V.sign) w) := by
  obtain ⟨m, e, h1, h2, rfl⟩ := h.ny
  rw [valD_sign]
  exact dySign_calls h1 (ny_sm h2)
theorem permitted_calls (p : Int) : Calls Tryz.prog 119 #[.int .i64 p] w (Pure0 (.bool (decide (-2048 ≤ p) && decide (p ≤ 8192))) w) := by
  by_cases h1 : -2048 ≤ p <;> by_cases h2 : p ≤ 8192
  all_goals
    go_enter Tryz.func119, Tryz.ntmps119
    go_wp2_with fail
    go_ret
    exact pure_mk (by simp [h1, h2])
theorem asks_calls (p : Int) : Calls Tryz.prog 23 #[.int .i64 p] w (Pure0 (.bool (decide (0 ≤ p) && decide (p ≤ 512))) w) := by
  by_cases h1 : 0 ≤ p <;> by_cases h2 : p ≤ 512
  all_goals
    go_enter Tryz.func23, Tryz.ntmps23
    go_wp2_with fail
    go_ret
    exact pure_mk (by simp [h1, h2])
set_option maxHeartbeats 2000000 in
theorem ivValid_calls {x : Value} {A B : Int} (h : IvV w x A B) : Calls Tryz.prog 54 #[x] w (Quiet (.bool (decide (A ≤ B))) w) := by
  obtain ⟨s, v, e, s', u, f, rfl, hA, hB⟩ := h
  obtain ⟨a, k, c, rfl⟩ := hA.form
  obtain ⟨a', k', c', rfl⟩ := hB.form
  have HL := Lib.hid (fun o => below_new w o)
  have HC := Lib.hid (ivC_of (heap_alloc_new w (.cells #[.bool s, .slice a k c, .int .i64 e, .bool s', .slice a' k' c', .int .i64 f] 28)))
  have HA := Lib.hid (fun w' (hb : Below w.heap.size w w') => hA.below hb)
  have HB := Lib.hid (fun w' (hb : Below w.heap.size w w') => hB.below hb)
  obtain ⟨r, hr⟩ : ∃ r, decide (A ≤ B) = r := ⟨_, rfl⟩
  rw [hr]
  have HR := Lib.hid (show (decide (cmpZ A B ≤ 0)) = r by
    rw [← hr]
    unfold cmpZ
    rcases Int.lt_trichotomy A B with h | h | h
    · rw [if_pos h, decide_eq_true (by omega : A ≤ B)]; rfl
    · rw [if_neg (by omega), if_neg (by omega), decide_eq_true (by omega : A ≤ B)]; rfl
    · rw [if_neg (by omega), if_pos h, decide_eq_false (by omega : ¬ A ≤ B)]; rfl)
  obtain ⟨cc, hcc⟩ : ∃ cc, cmpZ A B = cc := ⟨_, rfl⟩
  rw [hcc] at HR
  have HCC := Lib.hid hcc
  clear hA hB hr hcc
  go_enter Tryz.func54, Tryz.ntmps54
  go_wp2_with fail
  refine (validV_calls (HA.out _ (HL.out _))).mono ?_
  rintro e' w1 ⟨rfl, hb⟩
  have hb1 := (HL.out _).trans (hb.mono (HL.out _).size)
  have HB1 := Lib.hid hb1
  have hc := HC.out.below hb
  have HC1 := Lib.hid hc
  have c3 := hc.c3
  have c4 := hc.c4
  have c5 := hc.c5
  have hlt := hc.lt
  clear hb hb1 hc
  go_wp2_with fail
  refine (validV_calls (HB.out _ HB1.out)).mono ?_
  rintro e' w2 ⟨rfl, hb⟩
  have hb2 := HB1.out.trans (hb.mono HB1.out.size)
  have HB2 := Lib.hid hb2
  have hc := HC1.out.below hb
  clear c3 c4 c5 hlt
  have c0 := hc.c0
  have c1 := hc.c1
  have c2 := hc.c2
  have c3 := hc.c3
  have c4 := hc.c4
  have c5 := hc.c5
  have hlt := hc.lt
  clear hb hb2 hc
  go_wp2_with fail
  refine (dyCmp_calls (HA.out _ HB2.out) (HB.out _ HB2.out)).mono ?_
  rintro e' w3 ⟨rfl, hb⟩
  have HB3 := Lib.hid (HB2.out.trans (hb.mono HB2.out.size))
  rw [HCC.out]
  clear hb
  go_wp2_with fail
  go_ret
  exact ⟨by rw [← HR.out]; rfl, HB3.out⟩
set_option maxHeartbeats 2000000 in
theorem width_calls {x : Value} {A B : Int} (h : IvV w x A B) (hl : (B - A).natAbs < 2 ^ kLim) (hT : TabAt w) : Calls Tryz.prog 26 #[x] w (DyW (B - A) w) := by
  obtain ⟨s, v, e, s', u, f, rfl, hA, hB⟩ := h
  obtain ⟨a, k, c, rfl⟩ := hA.form
  obtain ⟨a', k', c', rfl⟩ := hB.form
  have hW := boxI_of w s s' (.slice a k c) (.slice a' k' c') e f
  have HX := Lib.hid (dySub_calls (hB.below hW.below) (hA.below hW.below) hl (hT.below hW.below))
  have HW := Lib.hid hW
  clear hA hB hW hl hT
  go_enter Tryz.func26, Tryz.ntmps26
  go_wp2_with fail
  refine HX.out.mono ?_
  rintro e' w1 ⟨d, rfl, hf, hb⟩
  obtain ⟨b1, a1, k1, c1, e1, rfl⟩ := hf.form
  have HF := Lib.hid hf
  have HB1 := Lib.hid hb
  have hr1 := HW.out.res.below hb
  have HR1 := Lib.hid hr1
  obtain ⟨d0, d1, d2, f0, f1, f2, ht⟩ := hr1.facts
  clear hf hb hr1
  go_wp2_with fail
  refine bodyPost_ret (v := .tuple #[.agg #[.bool b1, .slice a1 k1 c1, .int .i64 e1], .int .i64 0]) (by simp [results, Tryz.results26, go_sem, d0, d1, d2]) rfl ?_
  obtain ⟨r1, r2⟩ := dyO_set (HW.out.below.trans (HB1.out.mono HW.out.below.size)) (show w.heap.size ≤ w.heap.size + 1 by omega) HR1.out HF.out HW.out.below.size
  exact ⟨_, rfl, r1, r2⟩
set_option maxHeartbeats 2000000 in
theorem mid_calls {x : Value} {A B C : Int} (h : IvV w x A B) (hl : (A + B).natAbs < 2 ^ kLim) (hd : ∃ q, A + B = q * 2 ^ (kLow + 1)) (hC : A + B = C * 2) (hT : TabAt w) : Calls Tryz.prog 28 #[x] w (DyW C w) := by
  obtain ⟨s, v, e, s', u, f, rfl, hA, hB⟩ := h
  obtain ⟨a, k, c, rfl⟩ := hA.form
  obtain ⟨a', k', c', rfl⟩ := hB.form
  have hW := boxI_of w s s' (.slice a k c) (.slice a' k' c') e f
  have HX := Lib.hid (dyAdd_calls (hA.below hW.below) (hB.below hW.below) hl (hT.below hW.below))
  have HTA := Lib.hid (hT.below hW.below)
  have HW := Lib.hid hW
  have HDC := Lib.hid (And.intro hd hC)
  clear hA hB hW hl hT hd hC
  go_enter Tryz.func28, Tryz.ntmps28
  go_wp2_with fail
  generalize (w.alloc (.cells #[.bool s, .slice a k c, .int .i64 e, .bool s', .slice a' k' c', .int .i64 f] 28)).alloc (.cells #[.bool false, .slice none 0 0, .int .i64 0] 26) = w0 at HX HTA HW ⊢
  refine HX.out.mono ?_
  rintro e' w1 ⟨d, rfl, hf, hb⟩
  obtain ⟨b1, a1, k1, c1, e1, rfl⟩ := hf.form
  have hbn := below_new w1 (.cells #[.bool b1, .slice a1 k1 c1, .int .i64 e1] 26)
  have HF := Lib.hid (hf.v.below hbn)
  have HB1 := Lib.hid (hb.trans (hbn.mono hb.size))
  clear hf hb hbn
  go_wp2_with fail
  refine (half_calls HF.out HDC.out.1 HDC.out.2 (HTA.out.below HB1.out)).mono ?_
  rintro e' w2 ⟨d, rfl, hf, hb⟩
  obtain ⟨b2, a2, k2, c2, e2, rfl⟩ := hf.form
  have HF2 := Lib.hid (hf.base (base' := w0.heap.size) HB1.out.size)
  have hb2 := HB1.out.trans (hb.mono HB1.out.size)
  have HB2 := Lib.hid hb2
  have hr1 := HW.out.res.below hb2
  have HR1 := Lib.hid hr1
  obtain ⟨d0, d1, d2, f0, f1, f2, ht⟩ := hr1.facts
  clear hf hb hb2 hr1
  go_wp2_with fail
  refine bodyPost_ret (v := .tuple #[.agg #[.bool b2, .slice a2 k2 c2, .int .i64 e2], .int .i64 0]) (by simp [results, Tryz.results28, go_sem, d0, d1, d2]) rfl ?_
  obtain ⟨r1, r2⟩ := dyO_set (HW.out.below.trans (HB2.out.mono HW.out.below.size)) (show w.heap.size ≤ w.heap.size + 1 by omega) HR1.out HF2.out HW.out.below.size
  exact ⟨_, rfl, r1, r2⟩
end
end Go.Proofs.YtkpjikaobjpkoaaGreatDoor
