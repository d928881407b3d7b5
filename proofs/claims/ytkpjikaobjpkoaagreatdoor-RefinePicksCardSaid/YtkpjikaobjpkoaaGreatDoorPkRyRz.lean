/-
  Walks of grid.round and Near.
-/
import Derived.Test.YtkpjikaobjpkoaaGreatDoorPkRwRx
namespace Go.Proofs.YtkpjikaobjpkoaaGreatDoor
open Go.RowKit

/-- The number of the grid of p that is nearest to V / 2^10000. -/
noncomputable def nearV (V p : Int) : Int := if onB V p then V else (V / 2 ^ (9999 - p).toNat + 1) / 2 * 2 ^ (10000 - p).toNat
theorem near_val {m e p : Int} {k : Nat} (he : -3000 ≤ e) (hp : p ≤ 512) (hk : e + p + 1 = -(k : Int)) : valD ((m / 2 ^ k + 1) / 2) (-p) = (valD m e / 2 ^ (9999 - p).toNat + 1) / 2 * 2 ^ (10000 - p).toNat := by
  have h1 : valD m e / 2 ^ (9999 - p).toNat = m / 2 ^ k := by
    unfold valD
    rw [show (9999 - p).toNat = k + (e + 10000).toNat by omega, Int.pow_add, Int.mul_ediv_mul_of_pos_left]
    rw [← two_pow_cast]
    have := Nat.pow_pos (n := (e + 10000).toNat) (show 0 < 2 by decide)
    omega
  rw [h1]
  unfold valD
  congr 2; omega
theorem resD_new (w : World) : ResD (w.alloc (.cells #[.bool false, .slice none 0 0, .int .i64 0] 26)) w.heap.size := heap_alloc_new w _

section
variable {w : World}
set_option maxRecDepth 100000 in
set_option maxHeartbeats 4000000 in
theorem round_calls {t u : Nat} {s : Bool} {v : Value} {z e p : Int} {k : Nat} (hc : DyC w t s v e) (hu : w.cell? ⟨u, 0, none⟩ = some (.int .i64 p)) (hi : IntR w (.agg #[.bool s, v]) z) (hz : z.natAbs < 2 ^ kBits) (he : e + p + 1 = -(k : Int)) (hk : k ≤ 20000) (he1 : -3000 ≤ e) (he2 : e ≤ 3000)
    (hp0 : 0 ≤ p) (hp1 : p ≤ 512) (hl : (valD ((z / 2 ^ k + 1) / 2) (-p)).natAbs < 2 ^ kLim) (hT : TabAt w) :
    Calls Tryz.prog 66 #[.int .i64 p, .func (.func 67) #[] #[.pointer (some ⟨t, 0, none⟩), .pointer (some ⟨u, 0, none⟩)]] w (DyW (valD ((z / 2 ^ k + 1) / 2) (-p)) w) := by
  have hbn := below_new w (.cells #[.bool false, .slice none 0 0, .int .i64 0] 26)
  have HW := Lib.hid (And.intro hbn (And.intro (resD_new w) (hT.below hbn)))
  have HN := Lib.hid (near1_calls (hc.below hbn) ((hbn.cell (p := ⟨u, 0, none⟩) (World.block_lt_of_cell? w _ hu)).trans hu) (hi.below hbn) hz he hk he1 he2)
  have HP := Lib.hid (fun w' : World => permitted_calls (w := w') p)
  rw [decide_eq_true (show -2048 ≤ p by omega), decide_eq_true (show p ≤ 8192 by omega)] at HP
  obtain ⟨z', hz'⟩ : ∃ z', (z / 2 ^ k + 1) / 2 = z' := ⟨_, rfl⟩
  rw [hz'] at HN hl ⊢
  obtain ⟨np, hnp⟩ : ∃ np, -p = np := ⟨_, rfl⟩
  rw [hnp] at hl ⊢
  have ewr : IntKind.i64.wrap np = np := wrap_small (by omega) (by omega)
  have HE := Lib.hid (And.intro (exact_pre (m := z') (e := np) (by omega) (by omega) hl) (And.intro hl (show -3000 ≤ np by omega)))
  clear hc hu hi hz he hk hl hT hbn hz'
  go_enter Tryz.func66, Tryz.ntmps66
  go_wp2_with fail
  refine (HP.out _).mono ?_
  rintro e' w' ⟨rfl, rfl⟩
  go_wp2_with fail
  refine HN.out.mono ?_
  rintro e' w1 ⟨x1, rfl, hf, hb⟩
  obtain ⟨b1, a1, k1, c1, rfl, hbq⟩ := hf.form
  clear hbq
  have HF1 := Lib.hid hf
  have HB1 := Lib.hid hb
  clear hf hb
  go_wp2_with fail
  refine (make_calls HF1.out.r HE.out.1.1 HE.out.2.2 HE.out.1.2 (HW.out.2.2.below HB1.out)).mono ?_
  rintro e' w9 ⟨d, rfl, hf, hb⟩
  obtain ⟨e2, he2'⟩ : ∃ e2, expI z' np = e2 := ⟨_, rfl⟩
  rw [he2'] at hf
  have HE1 := Lib.hid he2'
  obtain ⟨b2, a2, k2, c2, rfl, hbq⟩ := hf.form
  clear hbq he2'
  have hb9 := HB1.out.trans (hb.mono HB1.out.size)
  have HB9 := Lib.hid hb9
  have hr1 := HW.out.2.1.below hb9
  have HR1 := Lib.hid hr1
  obtain ⟨d0, d1, d2, f0, f1, f2, ht⟩ := hr1.facts
  have HF := Lib.hid (hf.base (base' := w.heap.size) (by have := HW.out.1.size; have := HB1.out.size; omega))
  clear hf hb hb9 hr1
  go_wp2_with fail
  refine bodyPost_ret (v := .tuple #[.agg #[.bool b2, .slice a2 k2 c2, .int .i64 e2], .int .i64 0]) (by simp [results, Tryz.results66, go_sem, d0, d1, d2]) rfl ?_
  obtain ⟨r1, r2⟩ := dy_set (HW.out.1.trans (HB9.out.mono HW.out.1.size)) (Nat.le_refl _) HR1.out HF.out (Nat.le_refl _)
  exact ⟨_, rfl, dyO_make (by rw [HE1.out]; exact r1) HE.out.2.2 rfl HE.out.2.1, r2⟩
/-- The boxes of the number and of the precision, and the result's block. -/
structure BoxN (w w0 : World) (s : Bool) (v : Value) (e p : Int) : Prop where
  below : Below w.heap.size w w0
  dc : DyC w0 w.heap.size s v e
  pc : w0.cell? ⟨w.heap.size + 1, 0, none⟩ = some (.int .i64 p)
  res : ResD w0 (w.heap.size + 1 + 1)
theorem boxN_of (w : World) (s : Bool) (v : Value) (e p : Int) : BoxN w (((w.alloc (.cells #[.bool s, v, .int .i64 e] 26)).alloc (.cells #[.int .i64 p] 3)).alloc (.cells #[.bool false, .slice none 0 0, .int .i64 0] 26)) s v e p := by
  obtain ⟨wa, hwa⟩ : ∃ wa, wa = w.alloc (.cells #[.bool s, v, .int .i64 e] 26) := ⟨_, rfl⟩
  obtain ⟨wb, hwb⟩ : ∃ wb, wb = wa.alloc (.cells #[.int .i64 p] 3) := ⟨_, rfl⟩
  obtain ⟨wc, hwc⟩ : ∃ wc, wc = wb.alloc (.cells #[.bool false, .slice none 0 0, .int .i64 0] 26) := ⟨_, rfl⟩
  have e1 : wa.heap.size = w.heap.size + 1 := by rw [hwa]; simp
  have e2 : wb.heap.size = w.heap.size + 1 + 1 := by rw [hwb]; simp [e1]
  have b1 : Below w.heap.size w wa := by rw [hwa]; exact below_new w _
  have b2 : Below wa.heap.size wa wb := by rw [hwb]; exact below_new wa _
  have b3 : Below wb.heap.size wb wc := by rw [hwc]; exact below_new wb _
  have b23 := b2.trans (b3.mono (by omega))
  rw [← hwa, ← hwb, ← hwc]
  refine ⟨b1.trans (b23.mono (by omega)), (dyC_of (by rw [hwa]; exact heap_alloc_new w _)).below b23, ?_, ?_⟩
  · rw [← e1]
    refine (b3.cell (p := ⟨wa.heap.size, 0, none⟩) (by simp; omega)).trans ?_
    have := cell_of_blk (show wb.heap[wa.heap.size]? = some (.cells #[.int .i64 p] 3 (0, 0)) by rw [hwb]; exact heap_alloc_new wa _) 0
    exact this.trans rfl
  · rw [← e2, hwc]; exact heap_alloc_new wb _
set_option maxRecDepth 100000 in
set_option maxHeartbeats 4000000 in
theorem near_calls {x : Value} {V p : Int} (h : DyV w x V) (hp0 : 0 ≤ p) (hp1 : p ≤ 512) (hl : (nearV V p).natAbs < 2 ^ kLim) (hT : TabAt w) : Calls Tryz.prog 29 #[x, .int .i64 p] w (DyW (nearV V p) w) := by
  have hon := fun w' (hb : Below w.heap.size w w') => on_calls (p := p) (h.below hb) (by omega) (by omega)
  obtain ⟨m, e, ⟨v, rfl, hv⟩, hn1, he, rfl, hlA⟩ := h
  have hy := ny_lim hn1 he hlA
  obtain ⟨a, k, c, rfl⟩ := intSlice hv
  obtain ⟨s, hs0⟩ : ∃ s, decide (m < 0) = s := ⟨_, rfl⟩
  rw [hs0] at hon
  rw [hs0]
  have hW := boxN_of w s (.slice a k c) e p
  have HON := Lib.hid (hon _ hW.below)
  have hIR : IntR (((w.alloc (.cells #[.bool s, .slice a k c, .int .i64 e] 26)).alloc (.cells #[.int .i64 p] 3)).alloc (.cells #[.bool false, .slice none 0 0, .int .i64 0] 26)) (.agg #[.bool s, .slice a k c]) m := ⟨_, by rw [hs0], hv.below hW.below⟩
  have HIR := Lib.hid hIR
  have HTA := Lib.hid (hT.below hW.below)
  have hmf : ∀ (fn : Fn) (first cap : Array Value) (w : World), (Instr.makeFunc fn first cap).run Tryz.prog w = .ok (.func fn first cap) w := fun _ _ _ _ => rfl
  obtain ⟨r, hr⟩ : ∃ r, onB (valD m e) p = r := ⟨_, rfl⟩
  rw [hr] at HON
  have HY := Lib.hid (And.intro hy (And.intro hlA (And.intro hn1 he)))
  have HLN := Lib.hid hl
  clear hon hv hs0 hT hIR hlA hn1 he hy hl
  go_enter Tryz.func29, Tryz.ntmps29
  go_wp2_with fail
  generalize ((w.alloc (.cells #[.bool s, .slice a k c, .int .i64 e] 26)).alloc (.cells #[.int .i64 p] 3)).alloc (.cells #[.bool false, .slice none 0 0, .int .i64 0] 26) = w0 at hW HON HIR HTA ⊢
  have HW := Lib.hid hW
  clear hW
  refine HON.out.mono ?_
  rintro e' w1 ⟨rfl, hb⟩
  have HB1 := Lib.hid hb
  have hc := HW.out.dc.below hb
  have c0 := hc.c0
  have c1 := hc.c1
  have c2 := hc.c2
  have hlt := hc.lt
  have hpl : w.heap.size + 1 < w0.heap.size := by have := HW.out.res.facts.2.2.2.2.2.2; omega
  have hpc := (hb.cell (p := ⟨w.heap.size + 1, 0, none⟩) hpl).trans HW.out.pc
  have hlt2 : w.heap.size + 1 < w1.heap.size := World.block_lt_of_cell? w1 _ hpc
  have HC1 := Lib.hid (And.intro hc hpc)
  clear hb hc hpl
  cases r
  · have HV := Lib.hid (show nearV (valD m e) p = (valD m e / 2 ^ (9999 - p).toNat + 1) / 2 * 2 ^ (10000 - p).toNat by unfold nearV; rw [hr]; rfl)
    have hodd : m % 2 = 1 := by
      rcases HY.out.2.2.1 with ⟨hm, _⟩ | h1
      · rw [hm, valD_zero, onB_zero] at hr; cases hr
      · exact h1
    have hlow : ¬ -p ≤ e := by
      rw [onB_odd hodd HY.out.2.2.2 (by omega)] at hr
      exact of_decide_eq_false hr
    obtain ⟨j, hj⟩ : ∃ j : Nat, e + p + 1 = -(j : Int) := ⟨(-(e + p + 1)).toNat, by omega⟩
    have hve := near_val (m := m) HY.out.2.2.2 hp1 hj
    have HVE := Lib.hid hve
    have HQ := Lib.hid (round_calls HC1.out.1 HC1.out.2 (HIR.out.below HB1.out) HY.out.1.sz hj (by have := HY.out.2.2.2; omega) HY.out.2.2.2 HY.out.1.hi hp0 hp1 (by rw [hve, ← HV.out]; exact HLN.out) (HTA.out.below HB1.out))
    clear hodd hlow hj hve hr
    go_wp2_with fail
    refine HQ.out.mono ?_
    rintro e' w9 ⟨d, rfl, hf, hb⟩
    obtain ⟨b2, a2, k2, c2', e2, rfl⟩ := hf.form
    have hb9 := HB1.out.trans (hb.mono HB1.out.size)
    have HB9 := Lib.hid hb9
    have hr1 := HW.out.res.below hb9
    have HR1 := Lib.hid hr1
    obtain ⟨d0, d1, d2, f0, f1, f2, ht⟩ := hr1.facts
    have HF := Lib.hid (hf.base (base' := w0.heap.size) HB1.out.size)
    clear hf hb hb9 hr1 c0 c1 c2 hlt hpc hlt2
    go_wp2_with fail
    refine bodyPost_ret (v := .tuple #[.agg #[.bool b2, .slice a2 k2 c2', .int .i64 e2], .int .i64 0]) (by simp [results, Tryz.results29, go_sem, d0, d1, d2]) rfl ?_
    obtain ⟨r1, r2⟩ := dyO_set (HW.out.below.trans (HB9.out.mono HW.out.below.size)) (show w.heap.size ≤ w.heap.size + 1 + 1 by omega) HR1.out HF.out HW.out.below.size
    exact ⟨_, rfl, by rw [HV.out, ← HVE.out]; exact r1, r2⟩
  · have HV := Lib.hid (show nearV (valD m e) p = valD m e by unfold nearV; rw [hr]; rfl)
    have HP := Lib.hid (exact_pre HY.out.2.2.2 HY.out.1.hi HY.out.2.1)
    clear hr
    go_wp2_with fail
    refine (make_calls (HIR.out.below HB1.out) HP.out.1 HY.out.2.2.2 HP.out.2 (HTA.out.below HB1.out)).mono ?_
    rintro e' w9 ⟨d, rfl, hf, hb⟩
    obtain ⟨e2, he2'⟩ : ∃ e2, expI m e = e2 := ⟨_, rfl⟩
    rw [he2'] at hf
    have HE1 := Lib.hid he2'
    obtain ⟨b2, a2, k2, c2', rfl, hbq⟩ := hf.form
    clear hbq he2'
    have hb9 := HB1.out.trans (hb.mono HB1.out.size)
    have HB9 := Lib.hid hb9
    have hr1 := HW.out.res.below hb9
    have HR1 := Lib.hid hr1
    obtain ⟨d0, d1, d2, f0, f1, f2, ht⟩ := hr1.facts
    have HF := Lib.hid (hf.base (base' := w0.heap.size) HB1.out.size)
    clear hf hb hb9 hr1 c0 c1 c2 hlt hpc hlt2
    go_wp2_with fail
    refine bodyPost_ret (v := .tuple #[.agg #[.bool b2, .slice a2 k2 c2', .int .i64 e2], .int .i64 0]) (by simp [results, Tryz.results29, go_sem, d0, d1, d2]) rfl ?_
    obtain ⟨r1, r2⟩ := dy_set (HW.out.below.trans (HB9.out.mono HW.out.below.size)) (show w.heap.size ≤ w.heap.size + 1 + 1 by omega) HR1.out HF.out HW.out.below.size
    exact ⟨_, rfl, by rw [HV.out]; exact dyO_make (by rw [HE1.out]; exact r1) HY.out.2.2.2 rfl HY.out.2.1, r2⟩
end
end Go.Proofs.YtkpjikaobjpkoaaGreatDoor
/-
  Walk of refine.Pick.
-/
namespace Go.Proofs.YtkpjikaobjpkoaaGreatDoor
open Go.RowKit

/-- The interval from A to B decides p (all in units of 2^-10000). -/
def decB (A B p : Int) : Bool := decide (0 ≤ p) && decide (p ≤ 512) && (decide (A ≤ B) && decide (B - A ≤ 2 ^ (9999 - p).toNat))
/-- The call returns a dyadic number and a flag. -/
def PickW (V : Int) (r : Bool) (w : World) (en : Ending) (w' : World) : Prop := ∃ d, en = .returned (.tuple #[d, .bool r]) ∧ DyO w' w.heap.size d V ∧ Below w.heap.size w w'
theorem dyO_zero (w : World) (base : Nat) : DyO w base (.agg #[.bool false, .slice none 0 0, .int .i64 0]) 0 :=
  ⟨0, 0, ⟨_, rfl, ⟨[], ⟨World.ownsRow_nil _ _ _ _, fun x hx => by simp at hx⟩, rfl, rfl⟩⟩, .inl ⟨rfl, rfl⟩, by decide, (valD_zero _).symm, Nat.pow_pos (by decide)⟩
theorem unit_val {p : Int} (hp0 : 0 ≤ p) (hp1 : p ≤ 512) : valD 1 (-p - 1) = 2 ^ (9999 - p).toNat := by
  unfold valD
  rw [Int.one_mul]
  congr 1; omega
theorem unit_lim {p : Int} (hp0 : 0 ≤ p) : ((2 : Int) ^ (9999 - p).toNat).natAbs < 2 ^ kLim := by
  have h : (9999 - p).toNat < kLim := by show _ < 12000; omega
  have e : Int.natAbs 2 = 2 := rfl
  rw [Int.natAbs_pow, e]
  generalize kLim = K at h ⊢
  exact Nat.pow_lt_pow_right (by decide) h
/-- The number 2^(-p-1), written down with an exponent of its own. -/
theorem unit_dyV {w : World} {b : Bool} {v : Value} {p lp : Int} (hp0 : 0 ≤ p) (hp1 : p ≤ 512) (hlp : lp = -p - 1) (h : IntR w (.agg #[.bool b, v]) 1) : DyV w (.agg #[.bool b, v, .int .i64 lp]) (2 ^ (9999 - p).toNat) := by
  subst hlp
  obtain ⟨v', e1, h1⟩ := h
  cases e1
  exact ⟨1, -p - 1, ⟨v, rfl, h1⟩, .inr (by decide), by omega, (unit_val hp0 hp1).symm, unit_lim hp0⟩
def kMid : Nat := 11000
theorem mid_lim {n m : Nat} (hn : n ≤ 2 ^ kMid) (hm : m ≤ 2 ^ kMid) : n + m < 2 ^ kLim := by
  have h : kMid + 1 < kLim := by decide
  generalize kMid = M at hn hm h
  generalize kLim = K at h ⊢
  have := Nat.pow_lt_pow_right (a := 2) (by decide) h
  rw [Nat.pow_succ] at this
  omega
theorem sum_lim {A B : Int} (hA : A.natAbs ≤ 2 ^ kMid) (hB : B.natAbs ≤ 2 ^ kMid) : (A + B).natAbs < 2 ^ kLim ∧ (B - A).natAbs < 2 ^ kLim := by
  have := mid_lim hA hB
  omega

theorem cmpZ_le {a b : Int} (h : a ≤ b) : ∃ c, cmpZ a b = c ∧ c ≤ 0 := by
  refine ⟨_, rfl, ?_⟩
  unfold cmpZ; split
  · omega
  · rw [if_neg (by omega)]; omega
/-- The number that an interval from A to B with the middle C gives. -/
noncomputable def pickV (A B C p : Int) : Int := bif decB A B p then nearV C p else 0
section
variable {w : World}
set_option maxRecDepth 100000 in
set_option maxHeartbeats 8000000 in
theorem pick_calls {x : Value} {A B C p : Int} (h : IvV w x A B) (hA : A.natAbs ≤ 2 ^ kMid) (hB : B.natAbs ≤ 2 ^ kMid) (hdv : ∃ q, A + B = q * 2 ^ (kLow + 1)) (hC : A + B = C * 2) (hl : (nearV C p).natAbs < 2 ^ kLim) (hT : TabAt w) : Calls Tryz.prog 8 #[x, .int .i64 p] w (PickW (pickV A B C p) (decB A B p) w) := by
  have HSM := Lib.hid (fun w' (hb : Below w.heap.size w w') => small_calls (h.below hb))
  have HWI := Lib.hid (fun w' (hb : Below w.heap.size w w') => width_calls (h.below hb) (sum_lim hA hB).2 (hT.below hb))
  have HMI := Lib.hid (fun w' (hb : Below w.heap.size w w') => mid_calls (h.below hb) (sum_lim hA hB).1 hdv hC (hT.below hb))
  have HNE := Lib.hid (fun w' x (hb : Below w.heap.size w w') (hx : DyV w' x C) (h0 : 0 ≤ p) (h1 : p ≤ 512) => near_calls hx h0 h1 hl (hT.below hb))
  obtain ⟨s, v, e, s', u, f, rfl, hx, hy⟩ := h
  obtain ⟨a, k, c, rfl⟩ := hx.form
  obtain ⟨a', k', c', rfl⟩ := hy.form
  have hW := boxI_of w s s' (.slice a k c) (.slice a' k' c') e f
  have HP := Lib.hid (fun w' : World => asks_calls (w := w') p)
  obtain ⟨r1, hr1⟩ : ∃ r, (decide (0 ≤ p) && decide (p ≤ 512)) = r := ⟨_, rfl⟩
  obtain ⟨r2, hr2⟩ : ∃ r, decide (A ≤ B) = r := ⟨_, rfl⟩
  have hr : decB A B p = (r1 && (r2 && decide (B - A ≤ 2 ^ (9999 - p).toNat))) := by rw [← hr1, ← hr2]; rfl
  obtain ⟨r, hrr⟩ : ∃ r, decB A B p = r := ⟨_, rfl⟩
  obtain ⟨V, hV⟩ : ∃ V, pickV A B C p = V := ⟨_, rfl⟩
  have hV2 : V = bif r then nearV C p else 0 := by rw [← hV, ← hrr]; rfl
  rw [hr1] at HP
  rw [hr2] at HSM
  rw [hrr] at hr ⊢
  rw [hV]
  have HR := Lib.hid (And.intro hr hV2)
  have HR1 := Lib.hid hr1
  clear hx hy hA hB hT hr1 hr2 hr hrr hV hV2 hdv hC hl
  go_enter Tryz.func8, Tryz.ntmps8
  go_wp2_with fail
  generalize (w.alloc (.cells #[.bool s, .slice a k c, .int .i64 e, .bool s', .slice a' k' c', .int .i64 f] 28)).alloc (.cells #[.bool false, .slice none 0 0, .int .i64 0] 26) = w0 at hW ⊢
  have HW := Lib.hid hW
  clear hW
  refine (HP.out _).mono ?_
  rintro e' w' ⟨rfl, rfl⟩
  cases r1
  · obtain rfl : r = false := by rw [HR.out.1]; rfl
    obtain rfl : V = 0 := HR.out.2
    have hr := HW.out.res
    have HD := Lib.hid hr
    obtain ⟨d0, d1, d2, f0, f1, f2, ht⟩ := hr.facts
    clear hr
    go_wp2_with fail
    refine bodyPost_ret (v := .tuple #[.agg #[.bool false, .slice none 0 0, .int .i64 0], .bool false]) (by simp [results, Tryz.results8, go_sem, d0, d1, d2]) rfl ?_
    obtain ⟨q1, q2⟩ := dyO_set HW.out.below (show w.heap.size ≤ w.heap.size + 1 by omega) HD.out (dyO_zero w0 w0.heap.size) HW.out.below.size
    exact ⟨_, rfl, q1, q2⟩
  · have hp0 : 0 ≤ p ∧ p ≤ 512 := by simpa using HR1.out
    obtain ⟨np, hnp⟩ : ∃ np, -p = np := ⟨_, rfl⟩
    obtain ⟨lp, hlp⟩ : ∃ lp, np - 1 = lp := ⟨_, rfl⟩
    have ewr : IntKind.i64.wrap np = np := wrap_small (by omega) (by omega)
    have ewl : IntKind.i64.wrap lp = lp := wrap_small (by omega) (by omega)
    have HU := Lib.hid (And.intro hp0 (show lp = -p - 1 by omega))
    clear hp0
    have hc := HW.out.ic
    have c0 := hc.c0
    have c1 := hc.c1
    have c2 := hc.c2
    have c3 := hc.c3
    have c4 := hc.c4
    have c5 := hc.c5
    have hlt := hc.lt
    have HB0 := Lib.hid HW.out.below
    clear hc
    go_wp2_with fail
    refine (HSM.out _ HB0.out).mono ?_
    rintro e' w1 ⟨rfl, hb⟩
    have HB1 := Lib.hid hb
    clear hb c0 c1 c2 c3 c4 c5 hlt
    cases r2
    · obtain rfl : r = false := by rw [HR.out.1]; rfl
      obtain rfl : V = 0 := HR.out.2
      have hr := HW.out.res.below HB1.out
      have HD := Lib.hid hr
      obtain ⟨d0, d1, d2, f0, f1, f2, ht⟩ := hr.facts
      clear hr
      go_wp2_with fail
      refine bodyPost_ret (v := .tuple #[.agg #[.bool false, .slice none 0 0, .int .i64 0], .bool false]) (by simp [results, Tryz.results8, go_sem, d0, d1, d2]) rfl ?_
      obtain ⟨q1, q2⟩ := dyO_set (HW.out.below.trans (HB1.out.mono HW.out.below.size)) (show w.heap.size ≤ w.heap.size + 1 by omega) HD.out (dyO_zero w1 w1.heap.size) (Nat.le_trans HW.out.below.size HB1.out.size)
      exact ⟨_, rfl, q1, q2⟩
    · go_wp2_with fail
      refine of1_calls.mono ?_
      rintro e' w2 ⟨x1, rfl, hf, hb⟩
      obtain ⟨b1, a1, k1, c1, rfl, hbq⟩ := hf.form
      clear hbq
      obtain ⟨L, hL⟩ : ∃ L, (2 : Int) ^ (9999 - p).toNat = L := ⟨_, rfl⟩
      have hbn := below_new w2 (.cells #[.bool b1, .slice a1 k1 c1, .int .i64 lp] 26)
      have HLV := Lib.hid (show DyV (w2.alloc (.cells #[.bool b1, .slice a1 k1 c1, .int .i64 lp] 26)) (.agg #[.bool b1, .slice a1 k1 c1, .int .i64 lp]) L by
        rw [← hL]; exact unit_dyV HU.out.1.1 HU.out.1.2 HU.out.2 (hf.r.below hbn))
      have HLC := Lib.hid (dyC_of (heap_alloc_new w2 (.cells #[.bool b1, .slice a1 k1 c1, .int .i64 lp] 26)))
      have HLR := Lib.hid (show r = decide (B - A ≤ L) by rw [HR.out.1, hL]; rfl)
      have hb2 := HB1.out.trans (hb.mono HB1.out.size)
      have hb3 := hb2.trans (hbn.mono hb2.size)
      have HB3 := Lib.hid hb3
      have HB3w := Lib.hid (HB0.out.trans (hb3.mono HB0.out.size))
      have hc := HW.out.ic.below hb3
      have c0 := hc.c0
      have c1 := hc.c1
      have c2 := hc.c2
      have c3 := hc.c3
      have c4 := hc.c4
      have c5 := hc.c5
      have hlt := hc.lt
      clear hc hb hb2 hb3 hbn hf hL
      go_wp2_with fail
      refine (HWI.out _ HB3w.out).mono ?_
      rintro e' w4 ⟨d, rfl, hf, hb⟩
      obtain ⟨b4, a4, k4, c4', e4, rfl⟩ := hf.form
      have hbn := below_new w4 (.cells #[.bool b4, .slice a4 k4 c4', .int .i64 e4] 26)
      have hb5 := hb.trans (hbn.mono hb.size)
      have HF4 := Lib.hid (hf.v.below hbn)
      have HLV5 := Lib.hid (HLV.out.below hb5)
      have HLC5 := Lib.hid (HLC.out.below hb5)
      have hb5' := HB3.out.trans (hb5.mono HB3.out.size)
      have HB5 := Lib.hid hb5'
      have HB5w := Lib.hid (HB0.out.trans (hb5'.mono HB0.out.size))
      have l0 := HLC5.out.c0
      have l1 := HLC5.out.c1
      have l2 := HLC5.out.c2
      have hlt2 := HLC5.out.lt
      clear hf hb hbn hb5 hb5' c0 c1 c2 c3 c4 c5 hlt
      go_wp2_with fail
      have HCM := Lib.hid (dyCmp_calls HF4.out HLV5.out)
      by_cases hcmp : B - A ≤ L
      · obtain ⟨cz, hcz, hcl⟩ := cmpZ_le hcmp
        rw [hcz] at HCM
        obtain rfl : r = true := by rw [HLR.out]; exact decide_eq_true hcmp
        obtain rfl : V = nearV C p := HR.out.2
        clear hcmp hcz
        refine HCM.out.mono ?_
        rintro e' w6 ⟨rfl, hb⟩
        have hb6 := HB5.out.trans (hb.mono HB5.out.size)
        have HB6 := Lib.hid hb6
        have hc := HW.out.ic.below hb6
        have c0 := hc.c0
        have c1 := hc.c1
        have c2 := hc.c2
        have c3 := hc.c3
        have c4 := hc.c4
        have c5 := hc.c5
        have hlt := hc.lt
        have HB6w := Lib.hid (HB0.out.trans (hb6.mono HB0.out.size))
        clear hc hb hb6 l0 l1 l2 hlt2
        go_wp2_with fail
        refine (HMI.out _ HB6w.out).mono ?_
        rintro e' w7 ⟨d, rfl, hf, hb⟩
        obtain ⟨b7, a7, k7, c7, e7, rfl⟩ := hf.form
        have hbn := below_new w7 (.cells #[.bool b7, .slice a7 k7 c7, .int .i64 e7] 26)
        have hb8 := hb.trans (hbn.mono hb.size)
        have HF7 := Lib.hid (hf.v.below hbn)
        have hb8' := HB6.out.trans (hb8.mono HB6.out.size)
        have HB8 := Lib.hid hb8'
        have HB8w := Lib.hid (HB0.out.trans (hb8'.mono HB0.out.size))
        clear hf hb hbn hb8 hb8' c0 c1 c2 c3 c4 c5 hlt hcl
        go_wp2_with fail
        refine (HNE.out _ _ HB8w.out HF7.out HU.out.1.1 HU.out.1.2).mono ?_
        rintro e' w9 ⟨d, rfl, hf, hb⟩
        obtain ⟨b9, a9, k9, c9, e9, rfl⟩ := hf.form
        have hbn := below_new w9 (.cells #[.bool b9, .slice a9 k9 c9, .int .i64 e9] 26)
        have hb10 := HB8.out.trans ((hb.trans (hbn.mono hb.size)).mono HB8.out.size)
        have HB10 := Lib.hid hb10
        have HF9 := Lib.hid ((hf.base (base' := w.heap.size) HB8w.out.size).below hbn)
        have hr := HW.out.res.below hb10
        have HD := Lib.hid hr
        obtain ⟨d0, d1, d2, f0, f1, f2, ht⟩ := hr.facts
        clear hr hf hb hbn hb10
        go_wp2_with fail
        refine bodyPost_ret (v := .tuple #[.agg #[.bool b9, .slice a9 k9 c9, .int .i64 e9], .bool true]) (by simp [results, Tryz.results8, go_sem, d0, d1, d2]) rfl ?_
        obtain ⟨q1, q2⟩ := dyO_set (HW.out.below.trans (HB10.out.mono HW.out.below.size)) (show w.heap.size ≤ w.heap.size + 1 by omega) HD.out HF9.out (Nat.le_refl _)
        exact ⟨_, rfl, q1, q2⟩
      · rw [cmpZ_gt (by omega)] at HCM
        obtain rfl : r = false := by rw [HLR.out]; exact decide_eq_false hcmp
        obtain rfl : V = 0 := HR.out.2
        clear hcmp
        refine HCM.out.mono ?_
        rintro e' w6 ⟨rfl, hb⟩
        have hb6 := HB5.out.trans (hb.mono HB5.out.size)
        have HB6 := Lib.hid hb6
        have hr := HW.out.res.below hb6
        have HD := Lib.hid hr
        obtain ⟨d0, d1, d2, f0, f1, f2, ht⟩ := hr.facts
        clear hr hb hb6 l0 l1 l2 hlt2
        go_wp2_with fail
        refine bodyPost_ret (v := .tuple #[.agg #[.bool false, .slice none 0 0, .int .i64 0], .bool false]) (by simp [results, Tryz.results8, go_sem, d0, d1, d2]) rfl ?_
        obtain ⟨q1, q2⟩ := dyO_set (HW.out.below.trans (HB6.out.mono HW.out.below.size)) (show w.heap.size ≤ w.heap.size + 1 by omega) HD.out (dyO_zero w6 w6.heap.size) (Nat.le_trans HW.out.below.size HB6.out.size)
        exact ⟨_, rfl, q1, q2⟩
end
end Go.Proofs.YtkpjikaobjpkoaaGreatDoor
