/-
  The walk of TimelineLoads.
-/
import Derived.Test.YtalmfmijjbpnpaaLoZzRb
-- VA
namespace Go.Proofs.Ytalmfmijjbpnpaa
open Go.RowKit

/-- An operation that is taken first, read off the list of a region's operations. -/
theorem takeL {P : Program} {md : Region.Mode} {l : List Oper} {Q : Exit → Act → World → Prop} {S : World → Prop} {i : Nat} {oi : Oper} {v : Value} {fuel : Nat} {listed : Array Bool} {a : Act} {w : World} (hi : l[i]? = some oi)
    (hs : Region.noSelect l.toArray = true) (hf : Region.free md l.toArray listed i = true) (hr : (Region.ready md l.toArray listed).contains i = true)
    (hQ : ∀ c a w, Q (.panic c) (a.put oi.dst v) w → Q (.panic c) a w) (hy : YieldsIf P l.toArray S oi v a) (hS : S w)
    (h : wpAnyH P md l.toArray Q S fuel (listed.setIfInBounds i true) (a.put oi.dst v) w) : wpAnyH P md l.toArray Q S (fuel + 1) listed a w :=
  wpAnyH_take (by rw [List.getElem?_toArray]; exact hi) hs hf hr hQ hy hS h
theorem consL {P : Program} {md : Region.Mode} {l : List Oper} {Q : Exit → Act → World → Prop} {S : World → Prop} {fuel : Nat} {listed : Array Bool} {a : Act} {w : World} {i : Nat} {o : Oper} {rs : List Nat} (ho : l[i]? = some o)
    (h : ∀ K' : Act → World → Prop, Shut (∀ a w, S w → (S w → wpAnyH P md l.toArray Q S fuel (listed.setIfInBounds i true) a w) → K' a w) → if Region.wanted o (yielded l.toArray a.tmps) = true then Oper.wp P o a w K' Q else K' (a.put o.dst undef) w)
    (hs : AllReadyH P md l.toArray Q S fuel listed a w rs) : AllReadyH P md l.toArray Q S fuel listed a w (i :: rs) :=
  AllReadyH.cons (by rw [List.getElem?_toArray]; exact ho) h hs

/-- The k-th history of a row of histories at g, in every later state. -/
structure Pick (wS : World) (g k : Nat) (Hk : Hist) (ml : List (Ln × Value)) (a1 : Option Addr) (c1 : Nat) (a2 : Option Addr) (c2 : Nat) (a3 : Option Addr) (c3 : Nat) : Prop where
  cells : ∀ w', Below wS.heap.size wS w' → w'.cell? ⟨g, k * 4, none⟩ = some (.slice a1 Hk.vs.length c1) ∧ w'.cell? ⟨g, k * 4 + 1, none⟩ = some (.slice a2 ml.length c2) ∧ w'.cell? ⟨g, k * 4 + 2, none⟩ = some (.slice a3 Hk.ss.length c3) ∧ w'.cell? ⟨g, k * 4 + 3, none⟩ = some (.string Hk.cur)
  at_ : ∀ w', Below wS.heap.size wS w' → HAt w' (.slice a1 Hk.vs.length c1) (.slice a2 ml.length c2) (.slice a3 Hk.ss.length c3) Hk ml
  n1 : Hk.vs.length ≤ 100000
  n2 : ml.length ≤ 100000
  n3 : Hk.ss.length ≤ 100000
  n4 : ∀ x ∈ ml, x.1.rd.length ≤ 100000
  nm : NmOk Hk

theorem pick2 {wS : World} {g : Nat} {H1 H2 : Hist} {m1 m2 : List (Ln × Value)} {a1 b1 a2 b2 a3 b3 : Option Addr} {c1 d1 c2 d2 c3 d3 : Nat}
    (hg : wS.heap[g]? = some (.cells #[.slice a1 H1.vs.length c1, .slice a2 m1.length c2, .slice a3 H1.ss.length c3, .string H1.cur, .slice b1 H2.vs.length d1, .slice b2 m2.length d2, .slice b3 H2.ss.length d3, .string H2.cur] 37 (0, 0)))
    (h1 : HAt wS (.slice a1 H1.vs.length c1) (.slice a2 m1.length c2) (.slice a3 H1.ss.length c3) H1 m1) (l1 : H1.vs.length ≤ 100000 ∧ m1.length ≤ 100000 ∧ H1.ss.length ≤ 100000 ∧ ∀ x ∈ m1, x.1.rd.length ≤ 100000) (n1 : NmOk H1)
    (h2 : HAt wS (.slice b1 H2.vs.length d1) (.slice b2 m2.length d2) (.slice b3 H2.ss.length d3) H2 m2) (l2 : H2.vs.length ≤ 100000 ∧ m2.length ≤ 100000 ∧ H2.ss.length ≤ 100000 ∧ ∀ x ∈ m2, x.1.rd.length ≤ 100000) (n2 : NmOk H2) :
    ∀ k, k < 2 → ∃ (Hk : Hist) (ml : List (Ln × Value)) (e1 : Option Addr) (f1 : Nat) (e2 : Option Addr) (f2 : Nat) (e3 : Option Addr) (f3 : Nat), Pick wS g k Hk ml e1 f1 e2 f2 e3 f3 := by
  intro k hk
  have hl : g < wS.heap.size := (Array.getElem?_eq_some_iff.1 hg).1
  match k, hk with
  | 0, _ => exact ⟨H1, m1, a1, c1, a2, c2, a3, c3, fun w' hb => by
      have h := (hb.block g hl).trans hg
      exact ⟨(cell_of_blk h 0).trans rfl, (cell_of_blk h 1).trans rfl, (cell_of_blk h 2).trans rfl, (cell_of_blk h 3).trans rfl⟩, fun w' hb => h1.below hb, l1.1, l1.2.1, l1.2.2.1, l1.2.2.2, n1⟩
  | 1, _ => exact ⟨H2, m2, b1, d1, b2, d2, b3, d3, fun w' hb => by
      have h := (hb.block g hl).trans hg
      exact ⟨(cell_of_blk h 4).trans rfl, (cell_of_blk h 5).trans rfl, (cell_of_blk h 6).trans rfl, (cell_of_blk h 7).trans rfl⟩, fun w' hb => h2.below hb, l2.1, l2.2.1, l2.2.2.1, l2.2.2.2, n2⟩

theorem valid29_at {w : World} {H : Hist} {ml : List (Ln × Value)} {vv bv sv : Value} {b : Bool} (h : HAt w vv bv sv H ml) (hn1 : H.vs.length ≤ 100000) (hn2 : ml.length ≤ 100000) (hn3 : H.ss.length ≤ 100000) (hn4 : ∀ x ∈ ml, x.1.rd.length ≤ 100000) (hsz : NmOk H) (hb : b = true ↔ WF H) :
    Calls Try.prog 29 #[.agg #[vv, bv, sv, .string H.cur]] w (Quiet (.bool b) w) :=
  (valid29 h hn1 hn2 hn3 hn4 hsz).mono fun _ _ ⟨b', he, hb', hbel⟩ => ⟨by rw [he, show b' = b by rw [Bool.eq_iff_iff]; exact hb'.trans hb.symm], hbel⟩
theorem valid31_at {w : World} {H : Hist} {ml : List (Ln × Value)} {vv bv sv : Value} {b : Bool} (h : HAt w vv bv sv H ml) (hn1 : H.vs.length ≤ 100000) (hn2 : ml.length ≤ 100000) (hn3 : H.ss.length ≤ 100000) (hn4 : ∀ x ∈ ml, x.1.rd.length ≤ 100000) (hsz : NmOk H) (hb : b = true ↔ WF H) :
    Calls Try.prog 31 #[.agg #[vv, bv, sv, .string H.cur]] w (Quiet (.bool b) w) :=
  (valid31 h hn1 hn2 hn3 hn4 hsz).mono fun _ _ ⟨b', he, hb', hbel⟩ => ⟨by rw [he, show b' = b by rw [Bool.eq_iff_iff]; exact hb'.trans hb.symm], hbel⟩

section
variable {w : World}

set_option maxRecDepth 100000 in
set_option maxHeartbeats 16000000 in
theorem loads7 (a0 a1 : Option Addr) (n0 c0 n1 c1 : Nat) (f0 f1 : Nat → Int) {vv bv sv : Value} {Hr : Hist} {mlr : List (Ln × Value)} (at0 field by0 : Int)
    (HSPO : Hid (∀ (w : World) (H : Hist) (ml : List (Ln × Value)) (vv bv sv : Value), HAt w vv bv sv H ml → WF H → NmOk H → Calls Try.prog 30 #[.agg #[vv, bv, sv, .string H.cur], .int .i64 at0, .int .i64 field, .int .i64 by0] w (SpoP w)))
    (h0 : RowF w a0 n0 f0) (h1 : RowF w a1 n1 f1) (hr : HAt w vv bv sv Hr mlr) (hnm : NmOk Hr) :
    Calls Try.prog 7 #[.slice a0 n0 c0, .slice a1 n1 c1, .agg #[vv, bv, sv, .string Hr.cur], .int .i64 at0, .int .i64 field, .int .i64 by0] w (Quiet (.bool true) w) := by
  have hm : maxLen ≤ 9223372036854775807 := by decide
  have hn0 : n0 ≤ 9223372036854775807 := Nat.le_trans h0.1 hm
  have hn1 : n1 ≤ 9223372036854775807 := Nat.le_trans h1.1 hm
  clear hm
  obtain ⟨x1a, k1, x2a, k2, x3a, k3, y1, y2, y3, rfl, rfl, rfl, hbox⟩ := boxI_mk hr
  obtain ⟨W1, hW1⟩ : ∃ W, W = w.alloc (.cells #[.slice x1a Hr.vs.length k1, .slice x2a mlr.length k2, .slice x3a Hr.ss.length k3, .string Hr.cur] 37) := ⟨_, rfl⟩
  rw [← hW1] at hbox
  have HX := Lib.hid hbox
  have HW := Lib.hid hW1
  have HRAW := Lib.hid (hr.below hbox.bel)
  have HNM := Lib.hid hnm
  have R0 := Lib.hid (fun w' (hb : Below w.heap.size w w') => (⟨h0.1, fun i hi => by
      obtain ⟨x, e, hc, hf⟩ := h0.2 i hi
      exact ⟨x, e, (hb.cell (World.block_lt_of_cell? w _ hc)).trans hc, hf⟩⟩ : RowF w' a0 n0 f0))
  have R1 := Lib.hid (fun w' (hb : Below w.heap.size w w') => (⟨h1.1, fun i hi => by
      obtain ⟨x, e, hc, hf⟩ := h1.2 i hi
      exact ⟨x, e, (hb.cell (World.block_lt_of_cell? w _ hc)).trans hc, hf⟩⟩ : RowF w' a1 n1 f1))
  have HB := Lib.hid (fun w' (hb : Below W1.heap.size W1 w') => hbox.bel.trans (hb.mono hbox.bel.size))
  clear h0 h1 hr hnm hbox hW1
  go_enter Try.func7, Try.ntmps7
  go_wp2_with fail
  rw [← HW.out]
  refine awake8.mono ?_
  rintro e w1 ⟨rfl, hb1⟩
  have HB1 := Lib.hid hb1
  clear hb1 HW
  by_cases hl0 : n0 ≤ 120
  case neg =>
    go_wp2_with fail
    refine (light_any _ _ _ _ hn0).mono ?_
    rintro e w1' ⟨rfl, rfl⟩
    rw [decide_eq_false hl0]
    clear hl0
    go_wp2_with fail
    go_ret
    exact ⟨rfl, HB.out _ HB1.out⟩
  by_cases hl1 : n1 ≤ 120
  case neg =>
    go_wp2_with fail
    refine (light_any _ _ _ _ hn0).mono ?_
    rintro e w1' ⟨rfl, rfl⟩
    rw [decide_eq_true hl0]
    go_wp2_with fail
    refine (light_any _ _ _ _ hn1).mono ?_
    rintro e w1' ⟨rfl, rfl⟩
    rw [decide_eq_false hl1]
    clear hl1
    go_wp2_with fail
    go_ret
    exact ⟨rfl, HB.out _ HB1.out⟩
  obtain ⟨g1, g2, g3, g4⟩ := HX.out.cells _ HB1.out
  go_wp2_with fail
  refine (light_any _ _ _ _ hn0).mono ?_
  rintro e w1' ⟨rfl, rfl⟩
  rw [decide_eq_true hl0]
  go_wp2_with fail
  refine (light_any _ _ _ _ hn1).mono ?_
  rintro e w1' ⟨rfl, rfl⟩
  rw [decide_eq_true hl1]
  go_wp2_with fail
  refine (brief27 (HRAW.out.below HB1.out)).mono ?_
  rintro e w2 ⟨b, rfl, hbr, hb2⟩
  have HB2 := Lib.hid (HB1.out.trans (hb2.mono HB1.out.size))
  have HBR := Lib.hid hbr
  clear hb2 hbr g1 g2 g3 g4 HB1
  cases b
  case false =>
    go_wp2_with fail
    go_ret
    exact ⟨rfl, HB.out _ HB2.out⟩
  have HA := Lib.hid (fun w' (hb : Below W1.heap.size W1 w') => acts24 a0 n0 c0 f0 (w := w') (R0.out _ (HB.out _ hb)) hl0)
  have HA2 := Lib.hid (fun w' (hb : Below W1.heap.size W1 w') => acts24 a1 n1 c1 f1 (w := w') (R1.out _ (HB.out _ hb)) hl1)
  clear hl0 hl1 R0 R1 hn0 hn1
  go_wp2_with fail
  refine (tw_new2 HB2.out 3).mono ?_
  rintro e w2 ⟨t, rfl, hnew⟩
  have HN := Lib.hid hnew
  clear hnew HB2
  go_wp2_with fail
  refine HN.out.mono ?_
  rintro e w3 ⟨u, rfl, h3⟩
  have H3 := Lib.hid h3
  clear h3 HN
  go_wp2_with fail
  refine (HA.out _ H3.out.below_of).mono ?_
  rintro e w4 ⟨la, b4, q4, rfl, hla, hlo, ho4, hb4⟩
  obtain ⟨D', h5, g, ha5, hrc, hcm, hcells⟩ := tw_row H3.out hb4 ho4
  have H5 := Lib.hid h5
  have HC := Lib.hid hcells
  have HLO := Lib.hid hlo
  obtain ⟨r, hr⟩ : ∃ r, la.length = r := ⟨_, rfl⟩
  rw [hr] at hla ha5 hrc
  have HR := Lib.hid hr
  have hr63 : (r : Int) ≤ 160 := by omega
  clear h5 hcells hlo ho4 hb4 H3 HA
  rw [hr]
  clear hr
  go_wp2_with fail
  go_loopg [13, 50] r (fun gh tv iv wr => ∃ (k t1 : Nat) (H : Hist), gh + k = r ∧ tv = .pointer (some ⟨t1, 0, none⟩) ∧ iv = .int .i64 k ∧ Tw W1 D' w4 t1 u H H wr)
  case atStart => exact ⟨0, t, _, rfl, rfl, rfl, H5.out⟩
  case round =>
    obtain ⟨k, t1, H, hk, rfl, rfl, hT⟩ := hrel
    have HT := Lib.hid hT
    have HK := Lib.hid hk
    have hk63 : (k : Int) ≤ 160 := by omega
    clear hT H5 hk
    by_cases hlt : k < r
    · obtain rfl := ha5 (by omega)
      have hx : la[k]? = some (la[k]'(by rw [HR.out]; exact hlt)) := List.getElem?_eq_getElem _
      obtain ⟨x, hxe⟩ : ∃ x, x = la[k]'(by rw [HR.out]; exact hlt) := ⟨_, rfl⟩
      rw [← hxe] at hx
      obtain ⟨q1, q2, q3⟩ := HC.out _ _ _ _ _ HT.out k x hx
      have HX1 := Lib.hid (HLO.out x (List.mem_of_getElem? hx)).1
      have hlt' : (k : Int) < r := by omega
      have hk0 : (0 : Int) ≤ k := by omega
      clear hx hxe
      go_wp2_with fail
      refine (do25 (HT.out.later ((Below.refl _ _).alloc (Nat.le_refl _) _)) HX1.out.1.1 HX1.out.1.2 HX1.out.2).mono ?_
      rintro e w6 ⟨t2, rfl, h6⟩
      have H6 := Lib.hid h6
      clear h6 HT q1 q2 q3
      go_wp2_with fail
      go_roundg (r - (k + 1))
      case measure => have := HK.out; omega
      case rel => exact ⟨k + 1, t2, _, by omega, rfl, by go_num, H6.out⟩
    · have hlt' : ¬ (k : Int) < r := by omega
      clear HC HK HLO HR ha5 hrc hcm hla
      go_wp2_with fail
      refine (tw_hist HT.out).mono ?_
      rintro e w6 ⟨q, rfl, hrv, hb⟩
      obtain ⟨j1, l1, j2, l2, j3, l3, f1, f2, f3⟩ := hrv.forms
      obtain ⟨v1, v2, v3, ml1⟩ := q
      dsimp only at f1 f2 f3 ⊢
      subst f1 f2 f3
      have HRV := Lib.hid hrv
      have H6 := Lib.hid (HT.out.later hb)
      clear hrv hb HT
      go_wp2_with fail
      refine (load_rv H6.out.1 HRV.out).mono ?_
      rintro e w7 ⟨x, q, rfl, hx, hxo, hb⟩
      have H7 := Lib.hid (tri_mk H6.out hx hxo hb)
      clear hx hxo hb H6 HRV
      go_wp2_with fail
      refine ((tri_hist H7.out).1 _ (Below.refl _ _)).mono ?_
      rintro e w8 ⟨q, rfl, hrv, hb⟩
      obtain ⟨i1, m1, i2, m2, i3, m3, f1, f2, f3⟩ := hrv.forms
      obtain ⟨v1, v2, v3, ml2⟩ := q
      dsimp only at f1 f2 f3 ⊢
      subst f1 f2 f3
      have HRV := Lib.hid hrv
      have H8 := Lib.hid (H7.out.later hb)
      clear hrv hb H7
      go_wp2_with fail
      refine (valid_rv H8.out.1 HRV.out).mono ?_
      rintro e w9 ⟨rfl, hb⟩
      have H9 := Lib.hid (H8.out.later hb)
      clear hb H8 HRV
      go_wp2_with fail
      refine (HA2.out _ H9.out.below_of).mono ?_
      rintro e w10 ⟨la, b4, q4, rfl, hla, hlo, ho4, hb4⟩
      obtain ⟨D2, h10, g2, ha10, hrc, hcm, hcells⟩ := tri_row H9.out hb4 ho4
      have H10 := Lib.hid h10
      have HC := Lib.hid hcells
      have HLO := Lib.hid hlo
      obtain ⟨r2, hr⟩ : ∃ r, la.length = r := ⟨_, rfl⟩
      rw [hr] at hla ha10 hrc
      have HR := Lib.hid hr
      have hr263 : (r2 : Int) ≤ 160 := by omega
      clear h10 hcells hlo ho4 hb4 H9 HA2
      rw [hr]
      clear hr
      go_wp2_with fail
      go_loopg [13, 17, 83] r2 (fun gh tv xv iv wr => ∃ (k t1 x1 : Nat) (H : Hist), gh + k = r2 ∧ tv = .pointer (some ⟨t1, 0, none⟩) ∧ xv = .pointer (some ⟨x1, 0, none⟩) ∧ iv = .int .i64 k ∧ Tri W1 D2 w10 t1 u x1 H wr)
      case atStart => exact ⟨0, _, _, _, rfl, rfl, rfl, rfl, H10.out⟩
      case round =>
        obtain ⟨k, t1, x1, H, hk, rfl, rfl, rfl, hT⟩ := hrel
        have HT := Lib.hid hT
        have HK := Lib.hid hk
        have hk63 : (k : Int) ≤ 160 := by omega
        clear hT H10 hk
        by_cases hlt : k < r2
        · obtain rfl := ha10 (by omega)
          have hx : la[k]? = some (la[k]'(by rw [HR.out]; exact hlt)) := List.getElem?_eq_getElem _
          obtain ⟨x, hxe⟩ : ∃ x, x = la[k]'(by rw [HR.out]; exact hlt) := ⟨_, rfl⟩
          rw [← hxe] at hx
          obtain ⟨q1, q2, q3⟩ := HC.out _ _ _ _ _ HT.out k x hx
          have HX1 := Lib.hid (HLO.out x (List.mem_of_getElem? hx)).1
          have hlt' : (k : Int) < r2 := by omega
          have hk0 : (0 : Int) ≤ k := by omega
          clear hx hxe
          go_wp2_with fail
          obtain ⟨wa, hwa⟩ : ∃ wa, wa = wr.alloc (.cells #[.int .i64 x.kind, .int .i64 x.n, .string x.name] 50) := ⟨_, rfl⟩
          rw [← hwa]
          have hba : Below wr.heap.size wr wa := by rw [hwa]; exact (Below.refl _ _).alloc (Nat.le_refl _) _
          have hk20 : wa.heap[wr.heap.size]? = some (.cells #[.int .i64 x.kind, .int .i64 x.n, .string x.name] 50 (0, 0)) := by rw [hwa]; exact heap_alloc_new wr _
          have hl20 : wr.heap.size < wa.heap.size := (Array.getElem?_eq_some_iff.1 hk20).1
          have H20 := Lib.hid (HT.out.more hba)
          have HBA := Lib.hid hba
          have HC20 := Lib.hid (fun (w' : World) (hb : w'.heap[wr.heap.size]? = wa.heap[wr.heap.size]?) => (⟨(cell_of_blk (hb.trans hk20) 0).trans rfl, (cell_of_blk (hb.trans hk20) 1).trans rfl, (cell_of_blk (hb.trans hk20) 2).trans rfl⟩ : w'.cell? ⟨wr.heap.size, 0, none⟩ = some (.int .i64 x.kind) ∧ w'.cell? ⟨wr.heap.size, 1, none⟩ = some (.int .i64 x.n) ∧ w'.cell? ⟨wr.heap.size, 2, none⟩ = some (.string x.name)))
          clear hwa hba hk20 q1 q2 q3
          refine ((tri_hist H20.out).1 _ (Below.refl _ _)).mono ?_
          rintro e wh ⟨q, rfl, hrv, hb⟩
          obtain ⟨b1, d1, b2, d2, b3, d3, f1, f2, f3⟩ := hrv.forms
          obtain ⟨v1, v2, v3, ml1⟩ := q
          dsimp only at f1 f2 f3 ⊢
          subst f1 f2 f3
          have HRV := Lib.hid hrv
          have HBH := Lib.hid hb
          have H21 := Lib.hid (H20.out.later hb)
          clear hrv hb
          go_wp2_with fail
          obtain ⟨wb, hwb⟩ : ∃ wb, wb = wh.alloc (.cells #[.slice b1 H.vs.length d1, .slice b2 ml1.length d2, .slice b3 H.ss.length d3, .string H.cur] 37) := ⟨_, rfl⟩
          rw [← hwb]
          have hbb : Below wh.heap.size wh wb := by rw [hwb]; exact (Below.refl _ _).alloc (Nat.le_refl _) _
          have hk21 : wb.heap[wh.heap.size]? = some (.cells #[.slice b1 H.vs.length d1, .slice b2 ml1.length d2, .slice b3 H.ss.length d3, .string H.cur] 37 (0, 0)) := by rw [hwb]; exact heap_alloc_new wh _
          have hl21 : wh.heap.size < wb.heap.size := (Array.getElem?_eq_some_iff.1 hk21).1
          have HBB := Lib.hid hbb
          have HS := Lib.hid (fun (w' : World) (hb : Below wb.heap.size wb w') => (⟨(cell_of_blk ((hb.block _ hl21).trans hk21) 0).trans rfl, (cell_of_blk ((hb.block _ hl21).trans hk21) 1).trans rfl, (cell_of_blk ((hb.block _ hl21).trans hk21) 2).trans rfl, (cell_of_blk ((hb.block _ hl21).trans hk21) 3).trans rfl, hb⟩ :
            w'.cell? ⟨wh.heap.size, 0, none⟩ = some (.slice b1 H.vs.length d1) ∧ w'.cell? ⟨wh.heap.size, 1, none⟩ = some (.slice b2 ml1.length d2) ∧ w'.cell? ⟨wh.heap.size, 2, none⟩ = some (.slice b3 H.ss.length d3) ∧ w'.cell? ⟨wh.heap.size, 3, none⟩ = some (.string H.cur) ∧ Below wb.heap.size wb w'))
          have H22 := Lib.hid (H21.out.later hbb)
          have H17 := Lib.hid (tri_hist H22.out).2
          have HRB := Lib.hid (HRV.out.below hbb)
          clear hwb hbb hk21 H21
          go_region_held3 (fun w' => w'.cell? ⟨wh.heap.size, 0, none⟩ = some (.slice b1 H.vs.length d1) ∧ w'.cell? ⟨wh.heap.size, 1, none⟩ = some (.slice b2 ml1.length d2) ∧ w'.cell? ⟨wh.heap.size, 2, none⟩ = some (.slice b3 H.ss.length d3) ∧ w'.cell? ⟨wh.heap.size, 3, none⟩ = some (.string H.cur) ∧ Below wb.heap.size wb w')
            ((refine HS.out _ ?_; first | exact hnn | exact (Below.refl _ _).drew))
            (first
              | (go_at_call 17; rename_i hq _ _; refine (H17.out _ hq.2.2.2.2).mono ?_; rintro e wx ⟨q, rfl, hrv, hb⟩; obtain ⟨j1, l1, j2, l2, j3, l3, f1, f2, f3⟩ := hrv.forms; obtain ⟨v1, v2, v3, ml2⟩ := q; dsimp only at f1 f2 f3 ⊢; subst f1 f2 f3; have hnn : Below wb.heap.size wb wx := hq.2.2.2.2.trans (hb.mono hq.2.2.2.2.size); have HRX := Lib.hid hrv; clear hrv hb hq)
              | (go_at_call 22; refine (same_rv H22.out.1 (HRB.out.below hnn) HRX.out).mono ?_; rintro e wx ⟨rfl, hb⟩; have hn := hnn.trans (hb.mono hnn.size); clear hnn hb; have hnn := hn; clear hn))
          all_goals
            have HBX : Hid (Below wa.heap.size wa wx) := Lib.hid (p := Below wa.heap.size wa wx) ((HBH.out.trans (HBB.out.mono HBH.out.size)).trans (hnn.mono (Nat.le_trans HBH.out.size HBB.out.size)))
            have HBW : Hid (Below wh.heap.size wh wx) := Lib.hid (p := Below wh.heap.size wh wx) (HBB.out.trans (hnn.mono HBB.out.size))
            obtain ⟨e0, e1, e2, e3, _⟩ := HS.out _ hnn
            obtain ⟨q1, q2, q3⟩ := HC20.out wx (HBX.out.block _ hl20)
            have hlx : wr.heap.size < wx.heap.size := Nat.lt_of_lt_of_le hl20 HBX.out.size
            have hne : ¬ wr.heap.size = wx.heap.size := Nat.ne_of_lt hlx
            clear hnn HRX H17 HRB H22 HS HBB HBH
            go_wp2_with fail
            obtain ⟨wy, hwy⟩ : ∃ wy, wy = wx.alloc (.cells #[.slice b1 H.vs.length d1, .slice b2 ml1.length d2, .slice b3 H.ss.length d3, .string H.cur] 56) := ⟨_, rfl⟩
            rw [← hwy]
            have hby : Below wx.heap.size wx wy := by rw [hwy]; exact (Below.refl _ _).alloc (Nat.le_refl _) _
            have hk56 : wy.heap[wx.heap.size]? = some (.cells #[.slice b1 H.vs.length d1, .slice b2 ml1.length d2, .slice b3 H.ss.length d3, .string H.cur] 56 (0, 0)) := by rw [hwy]; exact heap_alloc_new wx _
            have hay : Below wa.heap.size wa wy := HBX.out.trans (hby.mono HBX.out.size)
            have HQ := Lib.hid (H20.out.box hay (HRV.out.below ((HBW.out).trans (hby.mono HBW.out.size))) (Nat.le_refl _) HBX.out.size hk56)
            clear hwy hby hk56 hay HBX HBW HRV e0 e1 e2 e3 q1 q2 q3
            refine (qd_do1 HQ.out HX1.out.1.1 HX1.out.1.2 HX1.out.2).mono ?_
            rintro e w7 ⟨t2, rfl, h7⟩
            have H7 := Lib.hid h7
            obtain ⟨q1, q2, q3⟩ := HC20.out w7 (h7.kept (.inr ⟨Nat.le_refl _, hl20⟩))
            clear h7 HQ
            go_wp2_with fail
            refine (qd_do2 H7.out HX1.out.1.1 HX1.out.1.2 HX1.out.2).mono ?_
            rintro e w8 ⟨x2, rfl, h8⟩
            have H8 := Lib.hid h8
            clear h8 H7 q1 q2 q3
            go_wp2_with fail
            refine (qd_same1 H8.out).mono ?_
            rintro e w9 ⟨rfl, h9⟩
            have H9 := Lib.hid h9
            clear h9 H8
            go_wp2_with fail
            refine (qd_same2 H9.out).mono ?_
            rintro e w11 ⟨rfl, h11⟩
            have H11 := Lib.hid h11
            clear h11 H9
            go_wp2_with fail
            go_roundg (r2 - (k + 1))
            case measure => have := HK.out; omega
            case rel => exact ⟨k + 1, t2, x2, _, by omega, rfl, rfl, by go_num, HT.out.less HBA.out H11.out.drop⟩
        · have hlt' : ¬ (k : Int) < r2 := by omega
          obtain ⟨ra1, rc1, ra2, rn2, rc2, ra3, rc3, rml, ⟨e0, e1, e2, e3⟩, hAt⟩ := tri_ref HT.out
          have HAT := Lib.hid hAt
          clear hAt HC HK HLO HR ha10 hrc hcm hla
          go_wp2_with fail
          refine (HSPO.out _ _ _ _ _ _ HAT.out HT.out.1 (nm_of_wf HT.out.1)).mono ?_
          rintro e ws ⟨Hb, mlb, v1, v2, v3, rfl, hbent, hlen, hnb, hbel⟩
          obtain ⟨s1, d1, z1, rfl, _, _⟩ := hbent.vs.form
          obtain ⟨s2, d2, z2, rfl, _, _⟩ := hbent.bs.form
          obtain ⟨s3, d3, z3, rfl, _, _⟩ := hbent.ss.form
          have HBS := Lib.hid (HT.out.below_of.trans (hbel.mono HT.out.below_of.size))
          have HBENT := Lib.hid hbent
          have HLEN := Lib.hid hlen
          have HNB := Lib.hid hnb
          obtain ⟨g1, g2, g3, g4⟩ := HX.out.cells _ HBS.out
          have hblt := HX.out.blt _ HBS.out
          have hbne : ¬ w.heap.size = ws.heap.size := Nat.ne_of_lt hblt
          clear hbent hlen hnb hbel e0 e1 e2 e3 HAT HT
          go_wp2_with fail
          obtain ⟨wS, hwS⟩ : ∃ wS, wS = (ws.alloc (.cells #[.slice s1 Hb.vs.length d1, .slice s2 mlb.length d2, .slice s3 Hb.ss.length d3, .string Hb.cur] 37)).alloc (.cells #[.slice x1a Hr.vs.length k1, .slice x2a mlr.length k2, .slice x3a Hr.ss.length k3, .string Hr.cur, .slice s1 Hb.vs.length d1, .slice s2 mlb.length d2, .slice s3 Hb.ss.length d3, .string Hb.cur] 37) := ⟨_, rfl⟩
          rw [← hwS]
          have hbs : Below ws.heap.size ws wS := by rw [hwS]; exact below_alloc2 (Below.refl _ _) (Nat.le_refl _)
          have hkS : wS.heap[ws.heap.size + 1]? = some (.cells #[.slice x1a Hr.vs.length k1, .slice x2a mlr.length k2, .slice x3a Hr.ss.length k3, .string Hr.cur, .slice s1 Hb.vs.length d1, .slice s2 mlb.length d2, .slice s3 Hb.ss.length d3, .string Hb.cur] 37 (0, 0)) := by rw [hwS]; exact heap_alloc_new2 ws _ _
          have hbr := HBR.out trivial
          have HPK := Lib.hid (pick2 hkS ((HRAW.out.below HBS.out).below hbs) ⟨by have := hbr.1; omega, by have := hbr.2.1; omega, by have := hbr.2.2.1; omega, fun x hx => by have := hbr.2.2.2 x hx; omega⟩ HNM.out (HBENT.out.below hbs) HLEN.out HNB.out)
          have HBW := Lib.hid (HBS.out.trans (hbs.mono HBS.out.size))
          clear hwS hbs hkS hbr g1 g2 g3 g4 hblt hbne HBR HRAW HBS HNM HBENT HLEN HNB HX HSPO
          go_loopg [142] 2 (fun gh iv wq => ∃ k : Nat, gh + k = 2 ∧ iv = .int .i64 k ∧ Below wS.heap.size wS wq)
          case atStart => exact ⟨0, rfl, rfl, Below.refl _ _⟩
          case round =>
            obtain ⟨k, hk, rfl, hbq⟩ := hrel
            have HBQ := Lib.hid hbq
            have HK := Lib.hid hk
            clear hbq hk
            by_cases hlt : k < 2
            · obtain ⟨Hk, mlk, e1, f1, e2, f2, e3, f3, hpk⟩ := HPK.out k hlt
              obtain ⟨q0, q1, q2, q3⟩ := hpk.cells _ HBQ.out
              have HP := Lib.hid hpk
              have hk0 : (0 : Int) ≤ k := by omega
              have hk2 : (k : Int) < 2 := by omega
              clear hpk
              go_wp2_with fail
              obtain ⟨wa, hwa⟩ : ∃ wa, wa = wr.alloc (.cells #[.slice e1 Hk.vs.length f1, .slice e2 mlk.length f2, .slice e3 Hk.ss.length f3, .string Hk.cur] 37) := ⟨_, rfl⟩
              rw [← hwa]
              have hba : Below wr.heap.size wr wa := by rw [hwa]; exact (Below.refl _ _).alloc (Nat.le_refl _) _
              have hk27 : wa.heap[wr.heap.size]? = some (.cells #[.slice e1 Hk.vs.length f1, .slice e2 mlk.length f2, .slice e3 Hk.ss.length f3, .string Hk.cur] 37 (0, 0)) := by rw [hwa]; exact heap_alloc_new wr _
              have hl27 : wr.heap.size < wa.heap.size := (Array.getElem?_eq_some_iff.1 hk27).1
              have HBA := Lib.hid (HBQ.out.trans (hba.mono HBQ.out.size))
              have HS := Lib.hid (fun (w' : World) (hb : Below wa.heap.size wa w') => (⟨(cell_of_blk ((hb.block _ hl27).trans hk27) 0).trans rfl, (cell_of_blk ((hb.block _ hl27).trans hk27) 1).trans rfl, (cell_of_blk ((hb.block _ hl27).trans hk27) 2).trans rfl, (cell_of_blk ((hb.block _ hl27).trans hk27) 3).trans rfl, hb⟩ :
                w'.cell? ⟨wr.heap.size, 0, none⟩ = some (.slice e1 Hk.vs.length f1) ∧ w'.cell? ⟨wr.heap.size, 1, none⟩ = some (.slice e2 mlk.length f2) ∧ w'.cell? ⟨wr.heap.size, 2, none⟩ = some (.slice e3 Hk.ss.length f3) ∧ w'.cell? ⟨wr.heap.size, 3, none⟩ = some (.string Hk.cur) ∧ Below wa.heap.size wa w'))
              clear hwa hba hk27 hl27 q0 q1 q2 q3
              by_cases hWF : WF Hk
              · have HWF := Lib.hid hWF
                clear hWF
                refine (load28_yes (HP.out.at_ _ HBA.out) HWF.out HP.out.nm).mono ?_
                rintro e wl ⟨y, m, rfl, hrep, hown, hb⟩
                have HREP := Lib.hid hrep
                have HBL := Lib.hid hb
                have hat : ∀ w', Below wl.heap.size wl w' → Below wS.heap.size wS w' := fun w' hb' => (HBA.out.trans (hb.mono HBA.out.size)).trans (hb'.mono (Nat.le_trans HBA.out.size hb.size))
                have HBWL := Lib.hid hat
                have H29 := Lib.hid (fun w' (hb' : Below wl.heap.size wl w') => valid29_at (b := true) (HP.out.at_ _ (hat w' hb')) HP.out.n1 HP.out.n2 HP.out.n3 HP.out.n4 HP.out.nm ⟨fun _ => HWF.out, fun _ => rfl⟩)
                have H31 := Lib.hid (fun w' (hb' : Below wl.heap.size wl w') => valid31_at (b := true) (HP.out.at_ _ (hat w' hb')) HP.out.n1 HP.out.n2 HP.out.n3 HP.out.n4 HP.out.nm ⟨fun _ => HWF.out, fun _ => rfl⟩)
                have H17 := Lib.hid (fun w' (hb' : Below wl.heap.size wl w') => history17 (hrep.below hb') HWF.out)
                have H22 := Lib.hid (fun (w' : World) (hb' : Below wl.heap.size wl w') (b : Nat) (q : View) (hq : RepV w' b Hk q) => by
                  obtain ⟨l1, l2, l3, l4⟩ := lens_of HWF.out hq.ml
                  exact same22 hq.hAt (HP.out.at_ _ (hat w' hb')) l1 l2 l3 l4)
                have HSL := Lib.hid (fun (w' : World) (hb' : Below wl.heap.size wl w') => (by obtain ⟨s0, s1, s2, s3, _⟩ := HS.out w' (hb.trans (hb'.mono hb.size)); exact ⟨s0, s1, s2, s3, hb'⟩ : w'.cell? ⟨wr.heap.size, 0, none⟩ = some (.slice e1 Hk.vs.length f1) ∧ w'.cell? ⟨wr.heap.size, 1, none⟩ = some (.slice e2 mlk.length f2) ∧ w'.cell? ⟨wr.heap.size, 2, none⟩ = some (.slice e3 Hk.ss.length f3) ∧ w'.cell? ⟨wr.heap.size, 3, none⟩ = some (.string Hk.cur) ∧ Below wl.heap.size wl w'))
                obtain ⟨s0, s1', s2', s3', _⟩ := HSL.out _ (Below.refl _ _)
                clear hrep hown hb hat
                go_wp2_with fail
                refine wp_region_held_drew (S := (fun w' => w'.cell? ⟨wr.heap.size, 0, none⟩ = some (.slice e1 Hk.vs.length f1) ∧ w'.cell? ⟨wr.heap.size, 1, none⟩ = some (.slice e2 mlk.length f2) ∧ w'.cell? ⟨wr.heap.size, 2, none⟩ = some (.slice e3 Hk.ss.length f3) ∧ w'.cell? ⟨wr.heap.size, 3, none⟩ = some (.string Hk.cur) ∧ Below wl.heap.size wl w')) (by kernel_rfl) (HSL.out _ (Below.refl _ _).drew) (fun hHeld => ?_)
                obtain ⟨wq, hwq⟩ : ∃ wq, wq = wl.drew := ⟨_, rfl⟩
                rw [← hwq]
                rw [← hwq] at hHeld
                clear hwq
                refine takeL (i := 0) (oi := _) (v := ?_) rfl (by kernel_rfl) (by kernel_rfl) (by kernel_rfl) (fun _ _ _ h => h) (Or.inl ⟨by rfl, ?_⟩) hHeld ?_
                rotate_left
                · intro w hSw
                  try dsimp only at hSw
                  go_simp
                  try with_reducible rfl
                try simp only [Act.put, List.setIfInBounds_toArray, List.set_cons_zero, List.set_cons_succ]
                refine takeL (i := 2) (oi := _) (v := ?_) rfl (by kernel_rfl) (by kernel_rfl) (by kernel_rfl) (fun _ _ _ h => h) (Or.inl ⟨by rfl, ?_⟩) hHeld ?_
                rotate_left
                · intro w hSw
                  try dsimp only at hSw
                  go_simp
                  try with_reducible rfl
                try simp only [Act.put, List.setIfInBounds_toArray, List.set_cons_zero, List.set_cons_succ]
                refine wpAnyH_ready (rs := [1]) (by kernel_rfl) (by simp) ?_
                refine consL (o := _) rfl (fun K hK => ?_) AllReadyH.nil
                go_simp
                refine (H29.out _ hHeld.2.2.2.2).mono ?_
                rintro e wx ⟨rfl, hb⟩
                have hnn : Below wl.heap.size wl wx := hHeld.2.2.2.2.trans (hb.mono hHeld.2.2.2.2.size)
                have HNN := Lib.hid hnn
                clear hb hnn hHeld
                go_wp2_with fail
                refine hK.out _ _ (HSL.out _ HNN.out) (fun hHeld => ?_)
                clear hK K HNN
                try simp only [Act.put, List.setIfInBounds_toArray, List.set_cons_zero, List.set_cons_succ]
                refine wpAnyH_ready (rs := [3]) (by kernel_rfl) (by simp) ?_
                refine consL (o := _) rfl (fun K hK => ?_) AllReadyH.nil
                go_simp
                refine (H31.out _ hHeld.2.2.2.2).mono ?_
                rintro e wx ⟨rfl, hb⟩
                have hnn : Below wl.heap.size wl wx := hHeld.2.2.2.2.trans (hb.mono hHeld.2.2.2.2.size)
                have HNN := Lib.hid hnn
                clear hb hnn hHeld
                go_wp2_with fail
                refine hK.out _ _ (HSL.out _ HNN.out) (fun hHeld => ?_)
                clear hK K HNN
                try simp only [Act.put, List.setIfInBounds_toArray, List.set_cons_zero, List.set_cons_succ]
                refine takeL (i := 4) (oi := _) (v := ?_) rfl (by kernel_rfl) (by kernel_rfl) (by kernel_rfl) (fun _ _ _ h => h) (Or.inl ⟨by rfl, ?_⟩) hHeld ?_
                rotate_left
                · intro w hSw
                  try dsimp only at hSw
                  go_simp
                  try with_reducible rfl
                try simp only [Act.put, List.setIfInBounds_toArray, List.set_cons_zero, List.set_cons_succ]
                refine takeL (i := 5) (oi := _) (v := ?_) rfl (by kernel_rfl) (by kernel_rfl) (by kernel_rfl) (fun _ _ _ h => h) (Or.inl ⟨by rfl, ?_⟩) hHeld ?_
                rotate_left
                · intro w hSw
                  try dsimp only at hSw
                  go_simp
                  try with_reducible rfl
                try simp only [Act.put, List.setIfInBounds_toArray, List.set_cons_zero, List.set_cons_succ]
                refine takeL (i := 6) (oi := _) (v := ?_) rfl (by kernel_rfl) (by kernel_rfl) (by kernel_rfl) (fun _ _ _ h => h) (Or.inl ⟨by rfl, ?_⟩) hHeld ?_
                rotate_left
                · intro w hSw
                  try dsimp only at hSw
                  go_simp
                  try with_reducible rfl
                try simp only [Act.put, List.setIfInBounds_toArray, List.set_cons_zero, List.set_cons_succ]
                refine takeL (i := 7) (oi := _) (v := ?_) rfl (by kernel_rfl) (by kernel_rfl) (by kernel_rfl) (fun _ _ _ h => h) (Or.inl ⟨by rfl, ?_⟩) hHeld ?_
                rotate_left
                · intro w hSw
                  try dsimp only at hSw
                  go_simp
                  try with_reducible rfl
                try simp only [Act.put, List.setIfInBounds_toArray, List.set_cons_zero, List.set_cons_succ]
                refine takeL (i := 8) (oi := _) (v := ?_) rfl (by kernel_rfl) (by kernel_rfl) (by kernel_rfl) (fun _ _ _ h => h) (Or.inl ⟨by rfl, ?_⟩) hHeld ?_
                rotate_left
                · intro w hSw
                  try dsimp only at hSw
                  go_simp
                  try with_reducible rfl
                try simp only [Act.put, List.setIfInBounds_toArray, List.set_cons_zero, List.set_cons_succ]
                refine wpAnyH_ready (rs := [9]) (by kernel_rfl) (by simp) ?_
                refine consL (o := _) rfl (fun K hK => ?_) AllReadyH.nil
                go_simp
                refine (H31.out _ hHeld.2.2.2.2).mono ?_
                rintro e wx ⟨rfl, hb⟩
                have hnn : Below wl.heap.size wl wx := hHeld.2.2.2.2.trans (hb.mono hHeld.2.2.2.2.size)
                have HNN := Lib.hid hnn
                clear hb hnn hHeld
                go_wp2_with fail
                refine hK.out _ _ (HSL.out _ HNN.out) (fun hHeld => ?_)
                clear hK K HNN
                try simp only [Act.put, List.setIfInBounds_toArray, List.set_cons_zero, List.set_cons_succ]
                refine takeL (i := 10) (oi := _) (v := ?_) rfl (by kernel_rfl) (by kernel_rfl) (by kernel_rfl) (fun _ _ _ h => h) (Or.inl ⟨by rfl, ?_⟩) hHeld ?_
                rotate_left
                · intro w hSw
                  try dsimp only at hSw
                  go_simp
                  try with_reducible rfl
                try simp only [Act.put, List.setIfInBounds_toArray, List.set_cons_zero, List.set_cons_succ]
                refine takeL (i := 11) (oi := _) (v := ?_) rfl (by kernel_rfl) (by kernel_rfl) (by kernel_rfl) (fun _ _ _ h => h) (Or.inl ⟨by rfl, ?_⟩) hHeld ?_
                rotate_left
                · intro w hSw
                  try dsimp only at hSw
                  go_simp
                  try with_reducible rfl
                try simp only [Act.put, List.setIfInBounds_toArray, List.set_cons_zero, List.set_cons_succ]
                refine takeL (i := 12) (oi := _) (v := ?_) rfl (by kernel_rfl) (by kernel_rfl) (by kernel_rfl) (fun _ _ _ h => h) (Or.inl ⟨by rfl, ?_⟩) hHeld ?_
                rotate_left
                · intro w hSw
                  try dsimp only at hSw
                  go_simp
                  try with_reducible rfl
                try simp only [Act.put, List.setIfInBounds_toArray, List.set_cons_zero, List.set_cons_succ]
                refine takeL (i := 13) (oi := _) (v := ?_) rfl (by kernel_rfl) (by kernel_rfl) (by kernel_rfl) (fun _ _ _ h => h) (Or.inl ⟨by rfl, ?_⟩) hHeld ?_
                rotate_left
                · intro w hSw
                  try dsimp only at hSw
                  go_simp
                  try with_reducible rfl
                try simp only [Act.put, List.setIfInBounds_toArray, List.set_cons_zero, List.set_cons_succ]
                refine takeL (i := 14) (oi := _) (v := ?_) rfl (by kernel_rfl) (by kernel_rfl) (by kernel_rfl) (fun _ _ _ h => h) (Or.inl ⟨by rfl, ?_⟩) hHeld ?_
                rotate_left
                · intro w hSw
                  try dsimp only at hSw
                  go_simp
                  try with_reducible rfl
                try simp only [Act.put, List.setIfInBounds_toArray, List.set_cons_zero, List.set_cons_succ]
                refine takeL (i := 15) (oi := _) (v := ?_) rfl (by kernel_rfl) (by kernel_rfl) (by kernel_rfl) (fun _ _ _ h => h) (Or.inl ⟨by rfl, ?_⟩) hHeld ?_
                rotate_left
                · intro w hSw
                  try dsimp only at hSw
                  go_simp
                  try with_reducible rfl
                try simp only [Act.put, List.setIfInBounds_toArray, List.set_cons_zero, List.set_cons_succ]
                refine wpAnyH_ready (rs := [16]) (by kernel_rfl) (by simp) ?_
                refine consL (o := _) rfl (fun K hK => ?_) AllReadyH.nil
                go_simp
                refine (H31.out _ hHeld.2.2.2.2).mono ?_
                rintro e wx ⟨rfl, hb⟩
                have hnn : Below wl.heap.size wl wx := hHeld.2.2.2.2.trans (hb.mono hHeld.2.2.2.2.size)
                have HNN := Lib.hid hnn
                clear hb hnn hHeld
                go_wp2_with fail
                refine hK.out _ _ (HSL.out _ HNN.out) (fun hHeld => ?_)
                clear hK K HNN
                try simp only [Act.put, List.setIfInBounds_toArray, List.set_cons_zero, List.set_cons_succ]
                refine takeL (i := 17) (oi := _) (v := ?_) rfl (by kernel_rfl) (by kernel_rfl) (by kernel_rfl) (fun _ _ _ h => h) (Or.inl ⟨by rfl, ?_⟩) hHeld ?_
                rotate_left
                · intro w hSw
                  try dsimp only at hSw
                  go_simp
                  try with_reducible rfl
                try simp only [Act.put, List.setIfInBounds_toArray, List.set_cons_zero, List.set_cons_succ]
                refine takeL (i := 18) (oi := _) (v := ?_) rfl (by kernel_rfl) (by kernel_rfl) (by kernel_rfl) (fun _ _ _ h => h) (Or.inl ⟨by rfl, ?_⟩) hHeld ?_
                rotate_left
                · intro w hSw
                  try dsimp only at hSw
                  go_simp
                  try with_reducible rfl
                try simp only [Act.put, List.setIfInBounds_toArray, List.set_cons_zero, List.set_cons_succ]
                refine takeL (i := 19) (oi := _) (v := ?_) rfl (by kernel_rfl) (by kernel_rfl) (by kernel_rfl) (fun _ _ _ h => h) (Or.inl ⟨by rfl, ?_⟩) hHeld ?_
                rotate_left
                · intro w hSw
                  try dsimp only at hSw
                  go_simp
                  try with_reducible rfl
                try simp only [Act.put, List.setIfInBounds_toArray, List.set_cons_zero, List.set_cons_succ]
                refine takeL (i := 20) (oi := _) (v := ?_) rfl (by kernel_rfl) (by kernel_rfl) (by kernel_rfl) (fun _ _ _ h => h) (Or.inl ⟨by rfl, ?_⟩) hHeld ?_
                rotate_left
                · intro w hSw
                  try dsimp only at hSw
                  go_simp
                  try with_reducible rfl
                try simp only [Act.put, List.setIfInBounds_toArray, List.set_cons_zero, List.set_cons_succ]
                refine takeL (i := 21) (oi := _) (v := ?_) rfl (by kernel_rfl) (by kernel_rfl) (by kernel_rfl) (fun _ _ _ h => h) (Or.inl ⟨by rfl, ?_⟩) hHeld ?_
                rotate_left
                · intro w hSw
                  try dsimp only at hSw
                  go_simp
                  try with_reducible rfl
                try simp only [Act.put, List.setIfInBounds_toArray, List.set_cons_zero, List.set_cons_succ]
                refine takeL (i := 22) (oi := _) (v := ?_) rfl (by kernel_rfl) (by kernel_rfl) (by kernel_rfl) (fun _ _ _ h => h) (Or.inl ⟨by rfl, ?_⟩) hHeld ?_
                rotate_left
                · intro w hSw
                  try dsimp only at hSw
                  go_simp
                  try with_reducible rfl
                try simp only [Act.put, List.setIfInBounds_toArray, List.set_cons_zero, List.set_cons_succ]
                refine takeL (i := 23) (oi := _) (v := undef) rfl (by kernel_rfl) (by kernel_rfl) (by kernel_rfl) (fun _ _ _ h => h) (Or.inr ⟨by rfl, rfl⟩) hHeld ?_
                try simp only [Act.put, List.setIfInBounds_toArray, List.set_cons_zero, List.set_cons_succ]
                refine takeL (i := 24) (oi := _) (v := undef) rfl (by kernel_rfl) (by kernel_rfl) (by kernel_rfl) (fun _ _ _ h => h) (Or.inr ⟨by rfl, rfl⟩) hHeld ?_
                try simp only [Act.put, List.setIfInBounds_toArray, List.set_cons_zero, List.set_cons_succ]
                refine takeL (i := 25) (oi := _) (v := ?_) rfl (by kernel_rfl) (by kernel_rfl) (by kernel_rfl) (fun _ _ _ h => h) (Or.inl ⟨by rfl, ?_⟩) hHeld ?_
                rotate_left
                · intro w hSw
                  try dsimp only at hSw
                  go_simp
                  try with_reducible rfl
                try simp only [Act.put, List.setIfInBounds_toArray, List.set_cons_zero, List.set_cons_succ]
                refine takeL (i := 26) (oi := _) (v := ?_) rfl (by kernel_rfl) (by kernel_rfl) (by kernel_rfl) (fun _ _ _ h => h) (Or.inl ⟨by rfl, ?_⟩) hHeld ?_
                rotate_left
                · intro w hSw
                  try dsimp only at hSw
                  go_simp
                  try with_reducible rfl
                try simp only [Act.put, List.setIfInBounds_toArray, List.set_cons_zero, List.set_cons_succ]
                refine takeL (i := 27) (oi := _) (v := ?_) rfl (by kernel_rfl) (by kernel_rfl) (by kernel_rfl) (fun _ _ _ h => h) (Or.inl ⟨by rfl, ?_⟩) hHeld ?_
                rotate_left
                · intro w hSw
                  try dsimp only at hSw
                  go_simp
                  try with_reducible rfl
                try simp only [Act.put, List.setIfInBounds_toArray, List.set_cons_zero, List.set_cons_succ]
                refine takeL (i := 28) (oi := _) (v := ?_) rfl (by kernel_rfl) (by kernel_rfl) (by kernel_rfl) (fun _ _ _ h => h) (Or.inl ⟨by rfl, ?_⟩) hHeld ?_
                rotate_left
                · intro w hSw
                  try dsimp only at hSw
                  go_simp
                  try with_reducible rfl
                try simp only [Act.put, List.setIfInBounds_toArray, List.set_cons_zero, List.set_cons_succ]
                refine takeL (i := 29) (oi := _) (v := ?_) rfl (by kernel_rfl) (by kernel_rfl) (by kernel_rfl) (fun _ _ _ h => h) (Or.inl ⟨by rfl, ?_⟩) hHeld ?_
                rotate_left
                · intro w hSw
                  try dsimp only at hSw
                  go_simp
                  try with_reducible rfl
                try simp only [Act.put, List.setIfInBounds_toArray, List.set_cons_zero, List.set_cons_succ]
                refine takeL (i := 30) (oi := _) (v := ?_) rfl (by kernel_rfl) (by kernel_rfl) (by kernel_rfl) (fun _ _ _ h => h) (Or.inl ⟨by rfl, ?_⟩) hHeld ?_
                rotate_left
                · intro w hSw
                  try dsimp only at hSw
                  go_simp
                  try with_reducible rfl
                try simp only [Act.put, List.setIfInBounds_toArray, List.set_cons_zero, List.set_cons_succ]
                refine takeL (i := 31) (oi := _) (v := ?_) rfl (by kernel_rfl) (by kernel_rfl) (by kernel_rfl) (fun _ _ _ h => h) (Or.inl ⟨by rfl, ?_⟩) hHeld ?_
                rotate_left
                · intro w hSw
                  try dsimp only at hSw
                  go_simp
                  try with_reducible rfl
                try simp only [Act.put, List.setIfInBounds_toArray, List.set_cons_zero, List.set_cons_succ]
                refine takeL (i := 33) (oi := _) (v := ?_) rfl (by kernel_rfl) (by kernel_rfl) (by kernel_rfl) (fun _ _ _ h => h) (Or.inl ⟨by rfl, ?_⟩) hHeld ?_
                rotate_left
                · intro w hSw
                  try dsimp only at hSw
                  go_simp
                  try with_reducible rfl
                try simp only [Act.put, List.setIfInBounds_toArray, List.set_cons_zero, List.set_cons_succ]
                refine wpAnyH_ready (rs := [32]) (by kernel_rfl) (by simp) ?_
                refine consL (o := _) rfl (fun K hK => ?_) AllReadyH.nil
                go_simp
                refine (H17.out _ hHeld.2.2.2.2).mono ?_
                rintro e wx ⟨q, rfl, hrv, hb⟩
                obtain ⟨j1, l1, j2, l2, j3, l3, f1, f2, f3⟩ := hrv.forms
                obtain ⟨v1, v2, v3, ml2⟩ := q
                dsimp only at f1 f2 f3 ⊢
                subst f1 f2 f3
                have HRX := Lib.hid hrv
                clear hrv
                have hnn : Below wl.heap.size wl wx := hHeld.2.2.2.2.trans (hb.mono hHeld.2.2.2.2.size)
                have HNN := Lib.hid hnn
                clear hb hnn hHeld
                go_wp2_with fail
                refine hK.out _ _ (HSL.out _ HNN.out) (fun hHeld => ?_)
                clear hK K HNN
                try simp only [Act.put, List.setIfInBounds_toArray, List.set_cons_zero, List.set_cons_succ]
                refine wpAnyH_ready (rs := [34]) (by kernel_rfl) (by simp) ?_
                refine consL (o := _) rfl (fun K hK => ?_) AllReadyH.nil
                go_simp
                refine (H22.out _ hHeld.2.2.2.2 _ _ HRX.out).mono ?_
                rintro e wx ⟨rfl, hb⟩
                have hnn : Below wl.heap.size wl wx := hHeld.2.2.2.2.trans (hb.mono hHeld.2.2.2.2.size)
                have HNN := Lib.hid hnn
                clear hb hnn hHeld
                go_wp2_with fail
                refine hK.out _ _ (HSL.out _ HNN.out) (fun hHeld => ?_)
                clear hK K HNN
                try simp only [Act.put, List.setIfInBounds_toArray, List.set_cons_zero, List.set_cons_succ]
                refine takeL (i := 35) (oi := _) (v := ?_) rfl (by kernel_rfl) (by kernel_rfl) (by kernel_rfl) (fun _ _ _ h => h) (Or.inl ⟨by rfl, ?_⟩) hHeld ?_
                rotate_left
                · intro w hSw
                  try dsimp only at hSw
                  go_simp
                  try with_reducible rfl
                try simp only [Act.put, List.setIfInBounds_toArray, List.set_cons_zero, List.set_cons_succ]
                refine takeL (i := 36) (oi := _) (v := ?_) rfl (by kernel_rfl) (by kernel_rfl) (by kernel_rfl) (fun _ _ _ h => h) (Or.inl ⟨by rfl, ?_⟩) hHeld ?_
                rotate_left
                · intro w hSw
                  try dsimp only at hSw
                  go_simp
                  try with_reducible rfl
                try simp only [Act.put, List.setIfInBounds_toArray, List.set_cons_zero, List.set_cons_succ]
                refine takeL (i := 37) (oi := _) (v := ?_) rfl (by kernel_rfl) (by kernel_rfl) (by kernel_rfl) (fun _ _ _ h => h) (Or.inl ⟨by rfl, ?_⟩) hHeld ?_
                rotate_left
                · intro w hSw
                  try dsimp only at hSw
                  go_simp
                  try with_reducible rfl
                try simp only [Act.put, List.setIfInBounds_toArray, List.set_cons_zero, List.set_cons_succ]
                refine wpAnyH_done (by kernel_rfl) ?_ _
                have HFIN := Lib.hid (HBWL.out _ hHeld.2.2.2.2)
                clear hHeld
                go_wp2_with fail
                go_roundg (2 - (k + 1))
                case measure => have := HK.out; omega
                case rel => exact ⟨k + 1, by have := HK.out; omega, by go_num, HFIN.out⟩
              · have HNF := Lib.hid hWF
                clear hWF
                refine (load28_no (HP.out.at_ _ HBA.out) HNF.out HP.out.n1 HP.out.n2 HP.out.n3 HP.out.n4 HP.out.nm).mono ?_
                rintro e wl ⟨rfl, hb⟩
                have hat : ∀ w', Below wl.heap.size wl w' → Below wS.heap.size wS w' := fun w' hb' => (HBA.out.trans (hb.mono HBA.out.size)).trans (hb'.mono (Nat.le_trans HBA.out.size hb.size))
                have HBWL := Lib.hid hat
                have H29 := Lib.hid (fun w' (hb' : Below wl.heap.size wl w') => valid29_at (b := false) (HP.out.at_ _ (hat w' hb')) HP.out.n1 HP.out.n2 HP.out.n3 HP.out.n4 HP.out.nm ⟨fun h => (by cases h), fun h => absurd h HNF.out⟩)
                have H31 := Lib.hid (fun w' (hb' : Below wl.heap.size wl w') => valid31_at (b := false) (HP.out.at_ _ (hat w' hb')) HP.out.n1 HP.out.n2 HP.out.n3 HP.out.n4 HP.out.nm ⟨fun h => (by cases h), fun h => absurd h HNF.out⟩)
                have HSL := Lib.hid (fun (w' : World) (hb' : Below wl.heap.size wl w') => (by obtain ⟨s0, s1, s2, s3, _⟩ := HS.out w' (hb.trans (hb'.mono hb.size)); exact ⟨s0, s1, s2, s3, hb'⟩ : w'.cell? ⟨wr.heap.size, 0, none⟩ = some (.slice e1 Hk.vs.length f1) ∧ w'.cell? ⟨wr.heap.size, 1, none⟩ = some (.slice e2 mlk.length f2) ∧ w'.cell? ⟨wr.heap.size, 2, none⟩ = some (.slice e3 Hk.ss.length f3) ∧ w'.cell? ⟨wr.heap.size, 3, none⟩ = some (.string Hk.cur) ∧ Below wl.heap.size wl w'))
                obtain ⟨s0, s1', s2', s3', _⟩ := HSL.out _ (Below.refl _ _)
                clear hb hat
                go_wp2_with fail
                refine wp_region_held_drew (S := (fun w' => w'.cell? ⟨wr.heap.size, 0, none⟩ = some (.slice e1 Hk.vs.length f1) ∧ w'.cell? ⟨wr.heap.size, 1, none⟩ = some (.slice e2 mlk.length f2) ∧ w'.cell? ⟨wr.heap.size, 2, none⟩ = some (.slice e3 Hk.ss.length f3) ∧ w'.cell? ⟨wr.heap.size, 3, none⟩ = some (.string Hk.cur) ∧ Below wl.heap.size wl w')) (by kernel_rfl) (HSL.out _ (Below.refl _ _).drew) (fun hHeld => ?_)
                obtain ⟨wq, hwq⟩ : ∃ wq, wq = wl.drew := ⟨_, rfl⟩
                rw [← hwq]
                rw [← hwq] at hHeld
                clear hwq
                refine takeL (i := 0) (oi := _) (v := ?_) rfl (by kernel_rfl) (by kernel_rfl) (by kernel_rfl) (fun _ _ _ h => h) (Or.inl ⟨by rfl, ?_⟩) hHeld ?_
                rotate_left
                · intro w hSw
                  try dsimp only at hSw
                  go_simp
                  try with_reducible rfl
                try simp only [Act.put, List.setIfInBounds_toArray, List.set_cons_zero, List.set_cons_succ]
                refine takeL (i := 2) (oi := _) (v := ?_) rfl (by kernel_rfl) (by kernel_rfl) (by kernel_rfl) (fun _ _ _ h => h) (Or.inl ⟨by rfl, ?_⟩) hHeld ?_
                rotate_left
                · intro w hSw
                  try dsimp only at hSw
                  go_simp
                  try with_reducible rfl
                try simp only [Act.put, List.setIfInBounds_toArray, List.set_cons_zero, List.set_cons_succ]
                refine wpAnyH_ready (rs := [1]) (by kernel_rfl) (by simp) ?_
                refine consL (o := _) rfl (fun K hK => ?_) AllReadyH.nil
                go_simp
                refine (H29.out _ hHeld.2.2.2.2).mono ?_
                rintro e wx ⟨rfl, hb⟩
                have hnn : Below wl.heap.size wl wx := hHeld.2.2.2.2.trans (hb.mono hHeld.2.2.2.2.size)
                have HNN := Lib.hid hnn
                clear hb hnn hHeld
                go_wp2_with fail
                refine hK.out _ _ (HSL.out _ HNN.out) (fun hHeld => ?_)
                clear hK K HNN
                try simp only [Act.put, List.setIfInBounds_toArray, List.set_cons_zero, List.set_cons_succ]
                refine wpAnyH_ready (rs := [3]) (by kernel_rfl) (by simp) ?_
                refine consL (o := _) rfl (fun K hK => ?_) AllReadyH.nil
                go_simp
                refine (H31.out _ hHeld.2.2.2.2).mono ?_
                rintro e wx ⟨rfl, hb⟩
                have hnn : Below wl.heap.size wl wx := hHeld.2.2.2.2.trans (hb.mono hHeld.2.2.2.2.size)
                have HNN := Lib.hid hnn
                clear hb hnn hHeld
                go_wp2_with fail
                refine hK.out _ _ (HSL.out _ HNN.out) (fun hHeld => ?_)
                clear hK K HNN
                try simp only [Act.put, List.setIfInBounds_toArray, List.set_cons_zero, List.set_cons_succ]
                refine takeL (i := 4) (oi := _) (v := ?_) rfl (by kernel_rfl) (by kernel_rfl) (by kernel_rfl) (fun _ _ _ h => h) (Or.inl ⟨by rfl, ?_⟩) hHeld ?_
                rotate_left
                · intro w hSw
                  try dsimp only at hSw
                  go_simp
                  try with_reducible rfl
                try simp only [Act.put, List.setIfInBounds_toArray, List.set_cons_zero, List.set_cons_succ]
                refine takeL (i := 5) (oi := _) (v := ?_) rfl (by kernel_rfl) (by kernel_rfl) (by kernel_rfl) (fun _ _ _ h => h) (Or.inl ⟨by rfl, ?_⟩) hHeld ?_
                rotate_left
                · intro w hSw
                  try dsimp only at hSw
                  go_simp
                  try with_reducible rfl
                try simp only [Act.put, List.setIfInBounds_toArray, List.set_cons_zero, List.set_cons_succ]
                refine takeL (i := 6) (oi := _) (v := ?_) rfl (by kernel_rfl) (by kernel_rfl) (by kernel_rfl) (fun _ _ _ h => h) (Or.inl ⟨by rfl, ?_⟩) hHeld ?_
                rotate_left
                · intro w hSw
                  try dsimp only at hSw
                  go_simp
                  try with_reducible rfl
                try simp only [Act.put, List.setIfInBounds_toArray, List.set_cons_zero, List.set_cons_succ]
                refine takeL (i := 7) (oi := _) (v := ?_) rfl (by kernel_rfl) (by kernel_rfl) (by kernel_rfl) (fun _ _ _ h => h) (Or.inl ⟨by rfl, ?_⟩) hHeld ?_
                rotate_left
                · intro w hSw
                  try dsimp only at hSw
                  go_simp
                  try with_reducible rfl
                try simp only [Act.put, List.setIfInBounds_toArray, List.set_cons_zero, List.set_cons_succ]
                refine takeL (i := 8) (oi := _) (v := ?_) rfl (by kernel_rfl) (by kernel_rfl) (by kernel_rfl) (fun _ _ _ h => h) (Or.inl ⟨by rfl, ?_⟩) hHeld ?_
                rotate_left
                · intro w hSw
                  try dsimp only at hSw
                  go_simp
                  try with_reducible rfl
                try simp only [Act.put, List.setIfInBounds_toArray, List.set_cons_zero, List.set_cons_succ]
                refine wpAnyH_ready (rs := [9]) (by kernel_rfl) (by simp) ?_
                refine consL (o := _) rfl (fun K hK => ?_) AllReadyH.nil
                go_simp
                refine (H31.out _ hHeld.2.2.2.2).mono ?_
                rintro e wx ⟨rfl, hb⟩
                have hnn : Below wl.heap.size wl wx := hHeld.2.2.2.2.trans (hb.mono hHeld.2.2.2.2.size)
                have HNN := Lib.hid hnn
                clear hb hnn hHeld
                go_wp2_with fail
                refine hK.out _ _ (HSL.out _ HNN.out) (fun hHeld => ?_)
                clear hK K HNN
                try simp only [Act.put, List.setIfInBounds_toArray, List.set_cons_zero, List.set_cons_succ]
                refine takeL (i := 10) (oi := _) (v := ?_) rfl (by kernel_rfl) (by kernel_rfl) (by kernel_rfl) (fun _ _ _ h => h) (Or.inl ⟨by rfl, ?_⟩) hHeld ?_
                rotate_left
                · intro w hSw
                  try dsimp only at hSw
                  go_simp
                  try with_reducible rfl
                try simp only [Act.put, List.setIfInBounds_toArray, List.set_cons_zero, List.set_cons_succ]
                refine takeL (i := 11) (oi := _) (v := ?_) rfl (by kernel_rfl) (by kernel_rfl) (by kernel_rfl) (fun _ _ _ h => h) (Or.inl ⟨by rfl, ?_⟩) hHeld ?_
                rotate_left
                · intro w hSw
                  try dsimp only at hSw
                  go_simp
                  try with_reducible rfl
                try simp only [Act.put, List.setIfInBounds_toArray, List.set_cons_zero, List.set_cons_succ]
                refine takeL (i := 12) (oi := _) (v := ?_) rfl (by kernel_rfl) (by kernel_rfl) (by kernel_rfl) (fun _ _ _ h => h) (Or.inl ⟨by rfl, ?_⟩) hHeld ?_
                rotate_left
                · intro w hSw
                  try dsimp only at hSw
                  go_simp
                  try with_reducible rfl
                try simp only [Act.put, List.setIfInBounds_toArray, List.set_cons_zero, List.set_cons_succ]
                refine takeL (i := 13) (oi := _) (v := ?_) rfl (by kernel_rfl) (by kernel_rfl) (by kernel_rfl) (fun _ _ _ h => h) (Or.inl ⟨by rfl, ?_⟩) hHeld ?_
                rotate_left
                · intro w hSw
                  try dsimp only at hSw
                  go_simp
                  try with_reducible rfl
                try simp only [Act.put, List.setIfInBounds_toArray, List.set_cons_zero, List.set_cons_succ]
                refine takeL (i := 14) (oi := _) (v := ?_) rfl (by kernel_rfl) (by kernel_rfl) (by kernel_rfl) (fun _ _ _ h => h) (Or.inl ⟨by rfl, ?_⟩) hHeld ?_
                rotate_left
                · intro w hSw
                  try dsimp only at hSw
                  go_simp
                  try with_reducible rfl
                try simp only [Act.put, List.setIfInBounds_toArray, List.set_cons_zero, List.set_cons_succ]
                refine takeL (i := 15) (oi := _) (v := ?_) rfl (by kernel_rfl) (by kernel_rfl) (by kernel_rfl) (fun _ _ _ h => h) (Or.inl ⟨by rfl, ?_⟩) hHeld ?_
                rotate_left
                · intro w hSw
                  try dsimp only at hSw
                  go_simp
                  try with_reducible rfl
                try simp only [Act.put, List.setIfInBounds_toArray, List.set_cons_zero, List.set_cons_succ]
                refine wpAnyH_ready (rs := [16]) (by kernel_rfl) (by simp) ?_
                refine consL (o := _) rfl (fun K hK => ?_) AllReadyH.nil
                go_simp
                refine (H31.out _ hHeld.2.2.2.2).mono ?_
                rintro e wx ⟨rfl, hb⟩
                have hnn : Below wl.heap.size wl wx := hHeld.2.2.2.2.trans (hb.mono hHeld.2.2.2.2.size)
                have HNN := Lib.hid hnn
                clear hb hnn hHeld
                go_wp2_with fail
                refine hK.out _ _ (HSL.out _ HNN.out) (fun hHeld => ?_)
                clear hK K HNN
                try simp only [Act.put, List.setIfInBounds_toArray, List.set_cons_zero, List.set_cons_succ]
                refine takeL (i := 17) (oi := _) (v := ?_) rfl (by kernel_rfl) (by kernel_rfl) (by kernel_rfl) (fun _ _ _ h => h) (Or.inl ⟨by rfl, ?_⟩) hHeld ?_
                rotate_left
                · intro w hSw
                  try dsimp only at hSw
                  go_simp
                  try with_reducible rfl
                try simp only [Act.put, List.setIfInBounds_toArray, List.set_cons_zero, List.set_cons_succ]
                refine takeL (i := 18) (oi := _) (v := ?_) rfl (by kernel_rfl) (by kernel_rfl) (by kernel_rfl) (fun _ _ _ h => h) (Or.inl ⟨by rfl, ?_⟩) hHeld ?_
                rotate_left
                · intro w hSw
                  try dsimp only at hSw
                  go_simp
                  try with_reducible rfl
                try simp only [Act.put, List.setIfInBounds_toArray, List.set_cons_zero, List.set_cons_succ]
                refine takeL (i := 19) (oi := _) (v := ?_) rfl (by kernel_rfl) (by kernel_rfl) (by kernel_rfl) (fun _ _ _ h => h) (Or.inl ⟨by rfl, ?_⟩) hHeld ?_
                rotate_left
                · intro w hSw
                  try dsimp only at hSw
                  go_simp
                  try with_reducible rfl
                try simp only [Act.put, List.setIfInBounds_toArray, List.set_cons_zero, List.set_cons_succ]
                refine takeL (i := 20) (oi := _) (v := ?_) rfl (by kernel_rfl) (by kernel_rfl) (by kernel_rfl) (fun _ _ _ h => h) (Or.inl ⟨by rfl, ?_⟩) hHeld ?_
                rotate_left
                · intro w hSw
                  try dsimp only at hSw
                  go_simp
                  try with_reducible rfl
                try simp only [Act.put, List.setIfInBounds_toArray, List.set_cons_zero, List.set_cons_succ]
                refine takeL (i := 21) (oi := _) (v := ?_) rfl (by kernel_rfl) (by kernel_rfl) (by kernel_rfl) (fun _ _ _ h => h) (Or.inl ⟨by rfl, ?_⟩) hHeld ?_
                rotate_left
                · intro w hSw
                  try dsimp only at hSw
                  go_simp
                  try with_reducible rfl
                try simp only [Act.put, List.setIfInBounds_toArray, List.set_cons_zero, List.set_cons_succ]
                refine takeL (i := 22) (oi := _) (v := ?_) rfl (by kernel_rfl) (by kernel_rfl) (by kernel_rfl) (fun _ _ _ h => h) (Or.inl ⟨by rfl, ?_⟩) hHeld ?_
                rotate_left
                · intro w hSw
                  try dsimp only at hSw
                  go_simp
                  try with_reducible rfl
                try simp only [Act.put, List.setIfInBounds_toArray, List.set_cons_zero, List.set_cons_succ]
                refine takeL (i := 23) (oi := _) (v := ?_) rfl (by kernel_rfl) (by kernel_rfl) (by kernel_rfl) (fun _ _ _ h => h) (Or.inl ⟨by rfl, ?_⟩) hHeld ?_
                rotate_left
                · intro w hSw
                  try dsimp only at hSw
                  go_simp
                  try with_reducible rfl
                try simp only [Act.put, List.setIfInBounds_toArray, List.set_cons_zero, List.set_cons_succ]
                refine takeL (i := 24) (oi := _) (v := ?_) rfl (by kernel_rfl) (by kernel_rfl) (by kernel_rfl) (fun _ _ _ h => h) (Or.inl ⟨by rfl, ?_⟩) hHeld ?_
                rotate_left
                · intro w hSw
                  try dsimp only at hSw
                  go_simp
                  try with_reducible rfl
                try simp only [Act.put, List.setIfInBounds_toArray, List.set_cons_zero, List.set_cons_succ]
                refine takeL (i := 25) (oi := _) (v := ?_) rfl (by kernel_rfl) (by kernel_rfl) (by kernel_rfl) (fun _ _ _ h => h) (Or.inl ⟨by rfl, ?_⟩) hHeld ?_
                rotate_left
                · intro w hSw
                  try dsimp only at hSw
                  go_simp
                  try with_reducible rfl
                try simp only [Act.put, List.setIfInBounds_toArray, List.set_cons_zero, List.set_cons_succ]
                refine takeL (i := 26) (oi := _) (v := ?_) rfl (by kernel_rfl) (by kernel_rfl) (by kernel_rfl) (fun _ _ _ h => h) (Or.inl ⟨by rfl, ?_⟩) hHeld ?_
                rotate_left
                · intro w hSw
                  try dsimp only at hSw
                  go_simp
                  try with_reducible rfl
                try simp only [Act.put, List.setIfInBounds_toArray, List.set_cons_zero, List.set_cons_succ]
                refine takeL (i := 27) (oi := _) (v := ?_) rfl (by kernel_rfl) (by kernel_rfl) (by kernel_rfl) (fun _ _ _ h => h) (Or.inl ⟨by rfl, ?_⟩) hHeld ?_
                rotate_left
                · intro w hSw
                  try dsimp only at hSw
                  go_simp
                  try with_reducible rfl
                try simp only [Act.put, List.setIfInBounds_toArray, List.set_cons_zero, List.set_cons_succ]
                refine takeL (i := 28) (oi := _) (v := ?_) rfl (by kernel_rfl) (by kernel_rfl) (by kernel_rfl) (fun _ _ _ h => h) (Or.inl ⟨by rfl, ?_⟩) hHeld ?_
                rotate_left
                · intro w hSw
                  try dsimp only at hSw
                  go_simp
                  try with_reducible rfl
                try simp only [Act.put, List.setIfInBounds_toArray, List.set_cons_zero, List.set_cons_succ]
                refine takeL (i := 29) (oi := _) (v := ?_) rfl (by kernel_rfl) (by kernel_rfl) (by kernel_rfl) (fun _ _ _ h => h) (Or.inl ⟨by rfl, ?_⟩) hHeld ?_
                rotate_left
                · intro w hSw
                  try dsimp only at hSw
                  go_simp
                  try with_reducible rfl
                try simp only [Act.put, List.setIfInBounds_toArray, List.set_cons_zero, List.set_cons_succ]
                refine takeL (i := 30) (oi := _) (v := ?_) rfl (by kernel_rfl) (by kernel_rfl) (by kernel_rfl) (fun _ _ _ h => h) (Or.inl ⟨by rfl, ?_⟩) hHeld ?_
                rotate_left
                · intro w hSw
                  try dsimp only at hSw
                  go_simp
                  try with_reducible rfl
                try simp only [Act.put, List.setIfInBounds_toArray, List.set_cons_zero, List.set_cons_succ]
                refine takeL (i := 31) (oi := _) (v := undef) rfl (by kernel_rfl) (by kernel_rfl) (by kernel_rfl) (fun _ _ _ h => h) (Or.inr ⟨by rfl, rfl⟩) hHeld ?_
                try simp only [Act.put, List.setIfInBounds_toArray, List.set_cons_zero, List.set_cons_succ]
                refine takeL (i := 32) (oi := _) (v := undef) rfl (by kernel_rfl) (by kernel_rfl) (by kernel_rfl) (fun _ _ _ h => h) (Or.inr ⟨by rfl, rfl⟩) hHeld ?_
                try simp only [Act.put, List.setIfInBounds_toArray, List.set_cons_zero, List.set_cons_succ]
                refine takeL (i := 33) (oi := _) (v := undef) rfl (by kernel_rfl) (by kernel_rfl) (by kernel_rfl) (fun _ _ _ h => h) (Or.inr ⟨by rfl, rfl⟩) hHeld ?_
                try simp only [Act.put, List.setIfInBounds_toArray, List.set_cons_zero, List.set_cons_succ]
                refine takeL (i := 34) (oi := _) (v := undef) rfl (by kernel_rfl) (by kernel_rfl) (by kernel_rfl) (fun _ _ _ h => h) (Or.inr ⟨by rfl, rfl⟩) hHeld ?_
                try simp only [Act.put, List.setIfInBounds_toArray, List.set_cons_zero, List.set_cons_succ]
                refine takeL (i := 35) (oi := _) (v := undef) rfl (by kernel_rfl) (by kernel_rfl) (by kernel_rfl) (fun _ _ _ h => h) (Or.inr ⟨by rfl, rfl⟩) hHeld ?_
                try simp only [Act.put, List.setIfInBounds_toArray, List.set_cons_zero, List.set_cons_succ]
                refine takeL (i := 36) (oi := _) (v := ?_) rfl (by kernel_rfl) (by kernel_rfl) (by kernel_rfl) (fun _ _ _ h => h) (Or.inl ⟨by rfl, ?_⟩) hHeld ?_
                rotate_left
                · intro w hSw
                  try dsimp only at hSw
                  go_simp
                  try with_reducible rfl
                try simp only [Act.put, List.setIfInBounds_toArray, List.set_cons_zero, List.set_cons_succ]
                refine takeL (i := 37) (oi := _) (v := ?_) rfl (by kernel_rfl) (by kernel_rfl) (by kernel_rfl) (fun _ _ _ h => h) (Or.inl ⟨by rfl, ?_⟩) hHeld ?_
                rotate_left
                · intro w hSw
                  try dsimp only at hSw
                  go_simp
                  try with_reducible rfl
                try simp only [Act.put, List.setIfInBounds_toArray, List.set_cons_zero, List.set_cons_succ]
                refine wpAnyH_done (by kernel_rfl) ?_ _
                have HFIN := Lib.hid (HBWL.out _ hHeld.2.2.2.2)
                clear hHeld
                go_wp2_with fail
                go_roundg (2 - (k + 1))
                case measure => have := HK.out; omega
                case rel => exact ⟨k + 1, by have := HK.out; omega, by go_num, HFIN.out⟩
            · have hlt' : ¬ (k : Int) < 2 := by omega
              clear HPK HK
              go_wp2_with fail
              go_ret
              exact ⟨rfl, HB.out _ (HBW.out.trans (HBQ.out.mono HBW.out.size))⟩
end

end Go.Proofs.Ytalmfmijjbpnpaa
