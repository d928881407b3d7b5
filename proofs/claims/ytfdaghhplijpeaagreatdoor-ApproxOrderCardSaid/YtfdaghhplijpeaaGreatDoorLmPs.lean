/-
  Walk of the law's sanity check.
-/
import Derived.Test.YtfdaghhplijpeaaGreatDoorLmPr
namespace Go.Proofs.YtfdaghhplijpeaaGreatDoor
open Go Go.RowKit Go.Ev

theorem StA.tabs {W w : World} {m : Mp} {h : Heap} (s : StA W m h w) (hT : Tabd W) : Tabd w := hT.below s.below
theorem ofB_calls {W : World} (hT : Tabd W) :
    Calls Tryz.prog 11 #[.string ⟨#[49, 32, 47, 32, 40, 112, 105, 32, 45, 32, 112, 105, 41]⟩, .int .i64 10] W fun e w' => ∃ s a k c x s' a' k' c' x', e = .returned (.tuple #[.agg #[.bool s, .slice a k c, .int .i64 x, .bool s', .slice a' k' c', .int .i64 x'], .int .i64 5]) ∧ Below W.heap.size W w' :=
  err_calls (ar := [.str [49, 32, 47, 32, 40, 112, 105, 32, 45, 32, 112, 105, 41], .int .i64 10]) (xs := [.string ⟨#[49, 32, 47, 32, 40, 112, 105, 32, 45, 32, 112, 105, 41]⟩, .int .i64 10]) pB_ok ⟨trivial, trivial, trivial⟩ rfl pB_eq hT
theorem ofC_calls {W : World} (hT : Tabd W) :
    Calls Tryz.prog 11 #[.string ⟨#[115, 113, 114, 116, 40, 50, 32, 45, 32, 112, 105, 41]⟩, .int .i64 10] W fun e w' => ∃ s a k c x s' a' k' c' x', e = .returned (.tuple #[.agg #[.bool s, .slice a k c, .int .i64 x, .bool s', .slice a' k' c', .int .i64 x'], .int .i64 11]) ∧ Below W.heap.size W w' :=
  err_calls (ar := [.str [115, 113, 114, 116, 40, 50, 32, 45, 32, 112, 105, 41], .int .i64 10]) (xs := [.string ⟨#[115, 113, 114, 116, 40, 50, 32, 45, 32, 112, 105, 41]⟩, .int .i64 10]) pC_ok ⟨trivial, trivial, trivial⟩ rfl pC_eq hT
section
variable {va vo vt vd vb : AVal} {hA hO hT hD hB hS : Heap} {y z : Int}
theorem o_calls (C : Chain va vo vt vd vb hA hO hT hD hB hS y z) {W w : World} {m : Mp} (st : StA W m hA w) :
    Calls Tryz.prog 13 #[.int .i64 1] w fun e w' => ∃ m' s a k c a' k' c', e = .returned (.agg #[.bool s, .slice a k c, .slice a' k' c']) ∧ StA W m' hO w' ∧ Vl m' hO vo (.agg #[.bool s, .slice a k c, .slice a' k' c']) ∧ (∀ v x, Vl m hA v x → Vl m' hO v x) ∧ (∀ k o, Loc m hA w k o → Loc m' hO w' k o) := by
  refine (step_calls (xs := [.int .i64 1]) C.o_ st ⟨trivial, trivial⟩ rfl).mono ?_
  rintro e w' ⟨m', rfl, hi, hs, hv, hl⟩
  obtain ⟨s, a, k, c, a', k', c', e⟩ := isRt_of C.io m'
  exact ⟨m', s, a, k, c, a', k', c', by rw [e], hs, ⟨hi, e⟩, hv, hl⟩
theorem t_calls (C : Chain va vo vt vd vb hA hO hT hD hB hS y z) {W w : World} {m : Mp} (st : StA W m hO w) :
    Calls Tryz.prog 13 #[.int .i64 3] w fun e w' => ∃ m' s a k c a' k' c', e = .returned (.agg #[.bool s, .slice a k c, .slice a' k' c']) ∧ StA W m' hT w' ∧ Vl m' hT vt (.agg #[.bool s, .slice a k c, .slice a' k' c']) ∧ (∀ v x, Vl m hO v x → Vl m' hT v x) ∧ (∀ k o, Loc m hO w k o → Loc m' hT w' k o) := by
  refine (step_calls (xs := [.int .i64 3]) C.t_ st ⟨trivial, trivial⟩ rfl).mono ?_
  rintro e w' ⟨m', rfl, hi, hs, hv, hl⟩
  obtain ⟨s, a, k, c, a', k', c', e⟩ := isRt_of C.it m'
  exact ⟨m', s, a, k, c, a', k', c', by rw [e], hs, ⟨hi, e⟩, hv, hl⟩
theorem d_calls (C : Chain va vo vt vd vb hA hO hT hD hB hS y z) {W w : World} {m : Mp} (st : StA W m hT w) {xo xt : Value} (ho : Vl m hT vo xo) (ht : Vl m hT vt xt) :
    Calls Tryz.prog 12 #[xo, xt] w fun e w' => ∃ m' s a k c a' k' c', e = .returned (.tuple #[.agg #[.bool s, .slice a k c, .slice a' k' c'], .int .i64 y]) ∧ StA W m' hD w' ∧ Vl m' hD vd (.agg #[.bool s, .slice a k c, .slice a' k' c']) ∧ (∀ v x, Vl m hT v x → Vl m' hD v x) ∧ (∀ k o, Loc m hT w k o → Loc m' hD w' k o) := by
  refine (step_calls (xs := [xo, xt]) C.d_ st ⟨ho.inn, ht.inn, trivial⟩ (by simp only [γs, ho.eq, ht.eq])).mono ?_
  rintro e w' ⟨m', rfl, hi, hs, hv, hl⟩
  obtain ⟨s, a, k, c, a', k', c', e⟩ := isRt_of C.id_ m'
  exact ⟨m', s, a, k, c, a', k', c', by simp only [γ, γs, e], hs, ⟨hi.1, e⟩, hv, hl⟩
theorem b_calls (C : Chain va vo vt vd vb hA hO hT hD hB hS y z) {W w : World} {m : Mp} (st : StA W m hD w) {xd : Value} (hd : Vl m hD vd xd) :
    Calls Tryz.prog 14 #[xd, .int .i64 10] w fun e w' => ∃ m' s a k c x s' a' k' c' x', e = .returned (.tuple #[.agg #[.bool s, .slice a k c, .int .i64 x, .bool s', .slice a' k' c', .int .i64 x'], .int .i64 z]) ∧ StA W m' hB w' ∧ Vl m' hB vb (.agg #[.bool s, .slice a k c, .int .i64 x, .bool s', .slice a' k' c', .int .i64 x']) ∧ (∀ v x, Vl m hD v x → Vl m' hB v x) ∧ (∀ k o, Loc m hD w k o → Loc m' hB w' k o) := by
  refine (step_calls (xs := [xd, .int .i64 10]) C.b_ st ⟨hd.inn, trivial, trivial⟩ (by simp only [γs, γ, hd.eq])).mono ?_
  rintro e w' ⟨m', rfl, hi, hs, hv, hl⟩
  obtain ⟨s, a, k, c, x, s', a', k', c', x', e⟩ := isIv_of C.ib m'
  exact ⟨m', s, a, k, c, x, s', a', k', c', x', by simp only [γ, γs, e], hs, ⟨hi.1, e⟩, hv, hl⟩
theorem s_calls (C : Chain va vo vt vd vb hA hO hT hD hB hS y z) {W w : World} {m : Mp} (st : StA W m hB w) {xa xb : Value} (ha : Vl m hB va xa) (hb : Vl m hB vb xb) :
    Calls Tryz.prog 15 #[xa, xb] w fun e w' => e = .returned (.bool true) ∧ Below W.heap.size W w' := by
  refine (step_calls (xs := [xa, xb]) C.s_ st ⟨ha.inn, hb.inn, trivial⟩ (by simp only [γs, ha.eq, hb.eq])).mono ?_
  rintro e w' ⟨m', rfl, _, hs, _, _⟩
  exact ⟨rfl, hs.below⟩
end
set_option maxRecDepth 100000 in
set_option maxHeartbeats 4000000 in
theorem awake_calls {W : World} (hT : Tabd W) :
    Calls Tryz.prog 4 #[] W fun e W' => e = .returned (.bool true) ∧ Below W.heap.size W W' := by
  obtain ⟨va, vo, vt, vd, vb, hA, hO, hT', hD, hB, hS, y, z, hC⟩ := chain_of chain_ok
  have C := Lib.hid hC
  have HT := Lib.hid hT
  clear hC hT
  have hal : ∀ (w : World) (o : Obj), Below w.heap.size w (w.alloc o) := fun w o => (Below.refl _ w).alloc (Nat.le_refl _) o
  have AL := Lib.hid hal
  clear hal
  go_enter Tryz.func4, Tryz.ntmps4
  go_wp2_with fail
  refine (ofA_calls C.out HT.out).mono ?_
  rintro e w1 ⟨m1, s, a1, k1, c1, x1, s2, a2, k2, c2, x2, rfl, h1, h2⟩
  have S1 := Lib.hid (fun o => h1.later (AL.out _ o))
  have L1 := Lib.hid (loc_new h1 (.cells #[.bool s, .slice a1 k1 c1, .int .i64 x1, .bool s2, .slice a2 k2 c2, .int .i64 x2] 42))
  have V1 := Lib.hid h2
  obtain ⟨g, hg⟩ : ∃ g, w1.heap.size = g := ⟨_, rfl⟩
  rw [hg] at L1
  clear h1 h2
  go_wp2_with fail
  refine (ofB_calls ((S1.out _).tabs HT.out)).mono ?_
  rintro e w2 ⟨s3, a3, k3, c3, x3, s4, a4, k4, c4, x4, rfl, hb⟩
  have S2 := Lib.hid (fun o => ((S1.out _).later hb).later (AL.out _ o))
  have L2 := Lib.hid (fun o => (L1.out.later hb).later (AL.out _ o))
  clear hb hg
  go_wp2_with fail
  refine (ofC_calls ((S2.out _).tabs HT.out)).mono ?_
  rintro e w3 ⟨s5, a5, k5, c5, x5, s6, a6, k6, c6, x6, rfl, hb⟩
  have S3 := Lib.hid (fun o => ((S2.out _).later hb).later (AL.out _ o))
  have L3 := Lib.hid (fun o => ((L2.out _).later hb).later (AL.out _ o))
  clear hb
  go_wp2_with fail
  refine (o_calls C.out (S3.out _)).mono ?_
  rintro e w4 ⟨m4, p1, p2, p3, p4, p5, p6, p7, rfl, hs, hv, hk, hl⟩
  have S4 := Lib.hid hs
  have L4 := Lib.hid (hl _ _ (L3.out _))
  have V4 := Lib.hid (And.intro (hk _ _ V1.out) hv)
  clear hs hv hk hl
  go_wp2_with fail
  refine (t_calls C.out S4.out).mono ?_
  rintro e w5 ⟨m5, q1, q2, q3, q4, q5, q6, q7, rfl, hs, hv, hk, hl⟩
  have S5 := Lib.hid hs
  have L5 := Lib.hid (hl _ _ L4.out)
  have V5 := Lib.hid (And.intro (hk _ _ V4.out.1) (And.intro (hk _ _ V4.out.2) hv))
  clear hs hv hk hl
  go_wp2_with fail
  refine (d_calls C.out S5.out V5.out.2.1 V5.out.2.2).mono ?_
  rintro e w6 ⟨m6, r1, r2, r3, r4, r5, r6, r7, rfl, hs, hv, hk, hl⟩
  have S6 := Lib.hid (fun o => hs.later (AL.out _ o))
  have L6 := Lib.hid (fun o => (hl _ _ L5.out).later (AL.out _ o))
  have V6 := Lib.hid (And.intro (hk _ _ V5.out.1) hv)
  clear hs hv hk hl
  go_wp2_with fail
  refine (b_calls C.out (S6.out _) V6.out.2).mono ?_
  rintro e w7 ⟨m7, u1, u2, u3, u4, u5, u6, u7, u8, u9, u10, rfl, hs, hv, hk, hl⟩
  have S7 := Lib.hid (fun o => hs.later (AL.out _ o))
  have hl7 := hl _ _ (L6.out _)
  have V7 := Lib.hid (And.intro (hk _ _ V6.out.1) hv)
  have d0 := cell_of_blk hl7.blk 0
  have d1 := cell_of_blk hl7.blk 1
  have d2 := cell_of_blk hl7.blk 2
  have d3 := cell_of_blk hl7.blk 3
  have d4 := cell_of_blk hl7.blk 4
  have d5 := cell_of_blk hl7.blk 5
  simp only [List.getElem?_toArray, List.getElem?_cons_zero, List.getElem?_cons_succ] at d0 d1 d2 d3 d4 d5
  have hg7 : g < w7.heap.size := World.block_lt_of_cell? w7 _ d0
  clear hs hv hk hl hl7
  go_wp2_with fail
  refine (s_calls C.out (S7.out _) V7.out.1 V7.out.2).mono ?_
  rintro e w8 ⟨rfl, hb⟩
  have S8 := Lib.hid hb
  clear hb
  go_wp2_with fail
  go_ret
  exact ⟨rfl, S8.out⟩
end Go.Proofs.YtfdaghhplijpeaaGreatDoor
