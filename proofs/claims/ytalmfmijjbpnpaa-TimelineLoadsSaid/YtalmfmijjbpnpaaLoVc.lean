/-
  The walk of spoilt: one of its eight ways.
-/
import Derived.Test.YtalmfmijjbpnpaaLoVa
import Derived.Deep.DrawnRows
namespace Go.Proofs.Ytalmfmijjbpnpaa
open Go.RowKit
attribute [local go_sem ↓] Go.wp_at_zero Go.wp_at_succ

section
variable {w : World} {H : Hist} {ml : List (Ln × Value)}

set_option maxRecDepth 100000 in
set_option maxHeartbeats 8000000 in
theorem spoilt30_6 {vv bv sv : Value} (h : HAt w vv bv sv H ml) (hw : WF H) (hs : NmOk H) (at0 field by0 : Int) (hj56 : field % 8 = 6) (ha : -9223372036854775808 ≤ at0 ∧ at0 ≤ 9223372036854775807) (hf : -9223372036854775808 ≤ field ∧ field ≤ 9223372036854775807) (hby : -9223372036854775808 ≤ by0 ∧ by0 ≤ 9223372036854775807) :
    Calls Try.prog 30 #[.agg #[vv, bv, sv, .string H.cur], .int .i64 at0, .int .i64 field, .int .i64 by0] w (SpoP w) := by
  have HH := Lib.hid h
  have HW := Lib.hid hw
  have HS := Lib.hid hs
  have n1 := hw.v2
  have n2 : ml.length ≤ 16 := by have := hw.b2; rw [h.ml, List.length_map] at this; omega
  have n3 := hw.s2
  have hvv : vv.oneCell' = true := h.vs.one
  have hbv : bv.oneCell' = true := h.bs.one
  have hsv : sv.oneCell' = true := h.ss.one
  have HO1 := Lib.hid (one_ver H.vs)
  have HO2 := Lib.hid (one_ln ml (fun x hx => (h.rd x hx).one))
  have HO3 := Lib.hid (one_lb H.ss)
  obtain ⟨i1, hi1, hz11, hz12, hz13⟩ := info_parts info40
  obtain ⟨i2, hi2, hz21, hz22, hz23⟩ := info_parts info65
  obtain ⟨i3, hi3, hz31, hz32, hz33⟩ := info_parts info78
  have M1 := Lib.hid (show 0 + H.vs.length ≤ maxLen by unfold maxLen; omega)
  have M2 := Lib.hid (show 0 + ml.length ≤ maxLen by unfold maxLen; omega)
  have M3 := Lib.hid (show 0 + H.ss.length ≤ maxLen by unfold maxLen; omega)
  have B1 := Lib.hid (show (0 + H.vs.length) * 16 ≤ 140737488355328 by omega)
  have B2 := Lib.hid (show (0 + ml.length) * 48 ≤ 140737488355328 by omega)
  have B3 := Lib.hid (show (0 + H.ss.length) * 24 ≤ 140737488355328 by omega)
  clear h hw hs
  go_enter Try.func30, Try.ntmps30
  go_upto_region 1 with fail
  obtain ⟨W0, hW0⟩ : ∃ W0, W0 = (w.alloc (Obj.cells #[vv, bv, sv, Value.string H.cur] 37)).alloc (Obj.cells #[Value.slice none 0 0, Value.slice none 0 0, Value.slice none 0 0, Value.string { data := #[] }] 37) := ⟨_, rfl⟩
  rw [← hW0]
  have hs0 : W0.heap.size = w.heap.size + 2 := by rw [hW0]; simp
  have hb0 : Below w.heap.size w W0 := by rw [hW0]; exact ((Below.refl _ _).alloc (Nat.le_refl _) _).alloc (by simp) _
  have hbh : W0.heap[w.heap.size]? = some (.cells #[vv, bv, sv, .string H.cur] 37 (0, 0)) := by rw [hW0, Below.heap_alloc _ _ _ (by simp)]; exact heap_alloc_new w _
  have hrh : W0.heap[w.heap.size + 1]? = some (.cells #[.slice none 0 0, .slice none 0 0, .slice none 0 0, .string { data := #[] }] 37 (0, 0)) := by rw [hW0]; have := heap_alloc_new (w.alloc (Obj.cells #[vv, bv, sv, Value.string H.cur] 37)) (Obj.cells #[Value.slice none 0 0, Value.slice none 0 0, Value.slice none 0 0, Value.string { data := #[] }] 37); simpa using this
  have S0 := Lib.hid (⟨hbh, hrh, hb0⟩ : SpB w (.string H.cur) vv bv sv W0)
  have Z0 := Lib.hid hs0
  clear hW0 hbh hrh hb0 hs0
  go_cut [] (fun wx => ∃ v1, SpB w (.string H.cur) v1 bv sv wx ∧ wx.ownsRow (w.heap.size + 2) 40 2 v1 H.vs.length (verCells H.vs))
  case first =>
    obtain ⟨c0, c1, c2, c3⟩ := S0.out.cells
    have f0 := S0.out.fr 0
    have hl := S0.out.lt0
    go_wp2_with (refine wpList_app2 (w0 := W0) rfl (.tmp 11) (.tmp 13) 33 rfl W0.heap.size 40 i1 _ 2 16 Try.underlying33 hi1 hz11 hz12 hz13 rfl (by decide) _ 0 [] rfl (own_lit0a (Nat.le_refl _)) _ _ _ rfl (HH.out.vs.below (below_alloc1 S0.out.bel (Nat.le_refl _))) HO1.out M1.out B1.out (Nat.le_refl _) (below_alloc1 (Below.refl _ _) (Nat.le_refl _)) (Nat.zero_add _) (List.nil_append _) (fun a5 c5 w5 ho5 hb5 => ?_); have g0 : w5.frozen? ⟨w.heap.size, 0, none⟩ = false := (S0.out.below hb5).fr 0; have g1 := (S0.out.below hb5).cells; have g2 := (S0.out.below hb5).lt0; have HO5 := Lib.hid ho5; have HB5 := Lib.hid hb5; clear ho5 hb5)
    go_meet
    case rel =>
      have hb := S0.out.below HB5.out
      exact ⟨_, hb.put0 _, hb.own (by decide) (ownsRow_mono HO5.out (by rw [Z0.out]; exact Nat.le_refl _))⟩
  case rest =>
    obtain ⟨v1, hb1, ho1⟩ := hcut
    have S1 := Lib.hid hb1
    have P1 := Lib.hid ho1
    clear hb1 ho1 S0 Z0 HO1 M1 B1
    go_upto_region 2 with fail
    go_cut [] (fun wx => ∃ v2, SpB w (.string H.cur) v1 v2 sv wx ∧ wx.ownsRow (w.heap.size + 2) 40 2 v1 H.vs.length (verCells H.vs) ∧ wx.ownsRow (w.heap.size + 2) 65 3 v2 ml.length (lnCells ml))
    case first =>
      obtain ⟨c0, c1, c2, c3⟩ := S1.out.cells
      have f0 := S1.out.fr 1
      have hl := S1.out.lt0
      go_wp2_with (refine wpList_app2 (w0 := wc) rfl (.tmp 16) (.tmp 18) 34 rfl wc.heap.size 65 i2 _ 3 48 Try.underlying34 hi2 hz21 hz22 hz23 rfl (by decide) _ 0 [] rfl (own_lit0a (Nat.le_refl _)) _ _ _ rfl (HH.out.bs.below (below_alloc1 S1.out.bel (Nat.le_refl _))) HO2.out M2.out B2.out (Nat.le_refl _) (below_alloc1 (Below.refl _ _) (Nat.le_refl _)) (Nat.zero_add _) (List.nil_append _) (fun a5 c5 w5 ho5 hb5 => ?_); have g0 : w5.frozen? ⟨w.heap.size, 1, none⟩ = false := (S1.out.below hb5).fr 1; have g1 := (S1.out.below hb5).cells; have g2 := (S1.out.below hb5).lt0; have HO5 := Lib.hid ho5; have HB5 := Lib.hid hb5; clear ho5 hb5)
      go_meet
      case rel =>
        have hb := S1.out.below HB5.out
        have hs := S1.out.lt
        exact ⟨_, hb.put1 _, hb.own (by decide) (own_of_below P1.out HB5.out), hb.own (by decide) (ownsRow_mono HO5.out (by omega))⟩
    case rest =>
      obtain ⟨v2, hb1, ho1, ho2⟩ := hcut
      have S2 := Lib.hid hb1
      have Q1 := Lib.hid ho1
      have Q2 := Lib.hid ho2
      clear hb1 ho1 ho2 S1 P1 HO2 M2 B2
      go_upto_region 3 with fail
      go_cut [] (fun wx => ∃ v1 v2 v3, SpE w H ml v1 v2 v3 wx)
      case first =>
        obtain ⟨c0, c1, c2, c3⟩ := S2.out.cells
        have f0 := S2.out.fr 2
        have hl := S2.out.lt0
        go_wp2_with (refine wpList_app2 (w0 := wc) rfl (.tmp 21) (.tmp 23) 35 rfl wc.heap.size 78 i3 _ 2 24 Try.underlying35 hi3 hz31 hz32 hz33 rfl (by decide) _ 0 [] rfl (own_lit0a (Nat.le_refl _)) _ _ _ rfl (HH.out.ss.below (below_alloc1 S2.out.bel (Nat.le_refl _))) HO3.out M3.out B3.out (Nat.le_refl _) (below_alloc1 (Below.refl _ _) (Nat.le_refl _)) (Nat.zero_add _) (List.nil_append _) (fun a5 c5 w5 ho5 hb5 => ?_); have g0 : w5.frozen? ⟨w.heap.size, 2, none⟩ = false := (S2.out.below hb5).fr 2; have g1 := (S2.out.below hb5).cells; have g2 := (S2.out.below hb5).lt0; have HO5 := Lib.hid ho5; have HB5 := Lib.hid hb5; clear ho5 hb5)
        go_meet
        case rel =>
          have hb := S2.out.below HB5.out
          have hs := S2.out.lt
          exact ⟨_, _, _, SpE.start HW.out HH.out HS.out (hb.put2 _) (hb.own (by decide) (own_of_below Q1.out HB5.out)) (hb.own (by decide) (own_of_below Q2.out HB5.out)) (hb.own (by decide) (ownsRow_mono HO5.out (by omega)))⟩
      case rest =>
        obtain ⟨v1, v2, v3, hE⟩ := hcut
        obtain ⟨g1, p1, rfl, hp1, hq1, _⟩ := own_form hE.o1 HW.out.v1
        have hml0 : 0 < ml.length := by have := HW.out.b1; rw [HH.out.ml, List.length_map] at this; omega
        obtain ⟨g2, p2, rfl, hp2, hq2, _⟩ := own_form hE.o2 hml0
        obtain ⟨a3, g3, p3, rfl, _⟩ := own_addr hE.o3
        have hv1 := HW.out.v1
        obtain ⟨c0, c1, c2, c3⟩ := hE.b.cells
        have hl := hE.b.lt0
        have E := Lib.hid hE
        obtain ⟨k1, hk1, hk1l⟩ : ∃ k1 : Nat, at0 % (H.vs.length : Int) = k1 ∧ k1 < H.vs.length := mod_nat _ _ (by omega)
        obtain ⟨k2, hk2, hk2l⟩ : ∃ k2 : Nat, at0 % (ml.length : Int) = k2 ∧ k2 < ml.length := mod_nat _ _ hml0
        obtain ⟨j, hj, hj0, hj8⟩ : ∃ j : Int, field % 8 = j ∧ 0 ≤ j ∧ j < 8 := ⟨_, rfl, by omega, by omega⟩
        have HM3 := Lib.hid (fun w' => mod_any field 8 (by omega) (by omega) hf.1 hf.2 w')
        have HM4 := Lib.hid (fun (n : Int) (hn : 1 ≤ n ∧ n ≤ 1000000) w' => mod_any by0 n (by omega) (by omega) hby.1 hby.2 w')
        have HM5 := Lib.hid (fun (n : Int) (hn : 1 ≤ n ∧ n ≤ 1000000) w' => mod_any at0 n (by omega) (by omega) ha.1 ha.2 w')
        rw [hj] at HM3
        have HJ56 := Lib.hid (show j = 6 by omega)
        clear hj56
        clear hE S2 Q1 Q2 HO3 M3 B3 hj ha hf hby
        go_upto_region 4 with fail
        go_quiet ((go_at_call 12; exact Calls.quiet_of_same ((HM5.out _ (by constructor <;> omega) _).mono (fun _ _ h => ⟨h.1, h.2.symm⟩))))
        rw [hk1, hk2]
        obtain ⟨wq, hwq⟩ : ∃ q, q = wc.drewN nq := ⟨_, rfl⟩
        rw [← hwq]
        have hE := E.out.below (below_drewN (Below.refl _ _) nq)
        rw [← hwq] at hE
        clear hk1 hk2 hwq c0 c1 c2 c3 hl E
        obtain ⟨c0, c1, c2, c3⟩ := hE.b.cells
        have hl := hE.b.lt0
        have E := Lib.hid hE
        clear hE
        go_wp2_with fail
        refine (HM3.out _).mono ?_
        rintro e w' ⟨rfl, rfl⟩
        clear HM3
        go_upto_block 0 with fail
        go_cut [] (fun wx => ∃ (H' : Hist) (ml' : List (Ln × Value)) (v1 v2 v3 : Value), SpE w H' ml' v1 v2 v3 wx)
        case first =>
          have d3 : wq.frozen? ⟨g1, k1 * 2, none⟩ = false := E.out.o1.frozenAt _
          have d4 : wq.frozen? ⟨g2, k2 * 3 + 1, none⟩ = false := E.out.o2.frozenAt _
          have d5 : wq.frozen? ⟨g2, k2 * 3 + 2, none⟩ = false := E.out.o2.frozenAt _
          have hx1 : H.vs[k1]? = some (H.vs[k1]'hk1l) := List.getElem?_eq_getElem hk1l
          obtain ⟨x1, hx1e⟩ : ∃ x, x = H.vs[k1]'hk1l := ⟨_, rfl⟩
          rw [← hx1e] at hx1
          have hx2 : ml[k2]? = some (ml[k2]'hk2l) := List.getElem?_eq_getElem hk2l
          obtain ⟨x2, hx2e⟩ : ∃ x, x = ml[k2]'hk2l := ⟨_, rfl⟩
          rw [← hx2e] at hx2
          have y1 := own_cell E.out.o1 (verCells_get _ _ _ hx1).1
          have y2 := own_cell E.out.o2 (lnCells_get _ _ _ hx2).2.1
          have y3 := own_cell E.out.o2 (lnCells_get _ _ _ hx2).2.2
          clear hx1e hx2e
          have d6 := E.out.b.fr 1
          have d7 := E.out.b.fr 2
          have d8 := E.out.b.fr 3
          have i1 : (0 : Int) ≤ k1 := by omega
          have i2 : (k1 : Int) < H.vs.length := by omega
          have i3 : (0 : Int) ≤ k2 := by omega
          have i4 : (k2 : Int) < ml.length := by omega
          have w1 : IntKind.i64.wrap ((H.vs.length : Int) + 1) = (H.vs.length : Int) + 1 := IntWalk.i64_in _ (by omega)
          have w2 : IntKind.i64.wrap ((H.vs.length : Int) + 2) = (H.vs.length : Int) + 2 := IntWalk.i64_in _ (by omega)
          clear hj0 hj8
          obtain rfl := HJ56.out
          clear HJ56
          · have hbl := E.out.b.lt
            obtain ⟨r, hr, hr4⟩ : ∃ r : Nat, by0 % ((4 : Nat) : Int) = r ∧ r < 4 := mod_nat by0 4 (by omega)
            have hr' : by0 % 4 = (r : Int) := hr
            have hri : (0 : Int) ≤ r := by omega
            have hri4 : (r : Int) < 4 := by omega
            clear hr
            have hHC : ∀ w', Below wq.heap.size wq w' → w'.cell? ⟨w.heap.size, 0, none⟩ = some (.slice (some ⟨g1, 0, none⟩) H.vs.length p1) := fun w' hb => (hb.cell (p := ⟨w.heap.size, 0, none⟩) hl).trans c0
            have HC := Lib.hid hHC
            have HO2 := Lib.hid E.out.o2
            have HMG : Hid (∀ v n : Int, v = by0 ∨ v = at0 → 1 ≤ n ∧ n ≤ 1000000 → ∀ w', Calls Try.prog 12 #[.int .i64 v, .int .i64 n] w' (Pure0 (.int .i64 (v % n)) w')) := Lib.hid (p := ∀ v n : Int, v = by0 ∨ v = at0 → 1 ≤ n ∧ n ≤ 1000000 → ∀ w', Calls Try.prog 12 #[.int .i64 v, .int .i64 n] w' (Pure0 (.int .i64 (v % n)) w')) (fun v n hv hn w' => by
              rcases hv with rfl | rfl
              · exact HM4.out n hn w'
              · exact HM5.out n hn w')
            obtain ⟨i0, hi0, hz0, hz1, hz2⟩ := info_parts info65
            have hveil : veil (Op.load 34 (Operand.tmp 132)) = Op.load 34 (Operand.tmp 132) := rfl
            have hveil2 : veil (Op.load 9 (Operand.tmp 137)) = Op.load 9 (Operand.tmp 137) := rfl
            clear hHC
            go_wp2_with fail
            obtain ⟨wd, hwd⟩ : ∃ wd, wd = wq := ⟨_, rfl⟩
            rw [← hwd]
            have hd0 : Below wq.heap.size wq wd := by rw [hwd]; exact Below.refl _ _
            have y3d : wd.cell? ⟨w.heap.size, 1, none⟩ = some (.slice (some ⟨g2, 0, none⟩) ml.length p2) := by rw [hwd]; exact c1
            have hgd : w.heap.size < wd.heap.size := by rw [hwd]; exact hl
            clear hwd
            rw [← hveil, ← hveil2]
            have hrowA : (wd.alloc (.cells #[.string ⟨#[122, 122]⟩, .string ⟨#[97]⟩, .string ⟨#[57]⟩, .string ⟨#[99]⟩] 9)).cell? ⟨wd.heap.size, r, none⟩ = some (.string (nm4 r)) := row4_cell (heap_alloc_new wd _) hr4
            have hrowB : (wd.drew.alloc (.cells #[.string ⟨#[122, 122]⟩, .string ⟨#[97]⟩, .string ⟨#[57]⟩, .string ⟨#[99]⟩] 9)).cell? ⟨wd.heap.size, r, none⟩ = some (.string (nm4 r)) := row4_cell (heap_alloc_new wd.drew _) hr4
            all_goals
              go_region_held3 (fun w' => w'.cell? ⟨w.heap.size, 0, none⟩ = some (.slice (some ⟨g1, 0, none⟩) H.vs.length p1))
                ((first | exact (hB5.put1 _).cells.1 | exact hB5.cells.1 | exact HC.out _ hd0.drew | exact HC.out _ (below_alloc1 hd0 (Nat.le_refl _)).drew | exact HC.out _ (below_alloc2 hd0 (Nat.le_refl _)).drew))
                (first
                  | (refine step_app rfl (.tmp 133) (.tmp 141) 34 rfl (w.heap.size + 2) 65 i0 _ 3 48 Try.underlying34 hi0 hz0 hz1 hz2 rfl (by decide) _ _ _ rfl (own_of_below HO2.out (below_alloc2 hd0 (Nat.le_refl _)).drew) _ 1 _ rfl (sl_block (heap_alloc_new2 _ _ _) rfl (by decide)) (by intro u hu; simp at hu; rcases hu with rfl | rfl | rfl <;> rfl) (by unfold maxLen; omega) (by omega) (Nat.le_trans hbl (below_alloc2 hd0 (Nat.le_refl _)).drew.size) (fun a5 c5 w5 ho5 hf5 => ?_); have hF5 := (Fr.of_below (S := fun k => (Value.slice (some ⟨g2, 0, none⟩) ml.length p2).ownBlock = some k) (below_alloc2 hd0 (Nat.le_refl _)).drew).trans hf5 (fun _ _ e => e); have hB5 := E.out.b.fr_to hF5 (fun k hk => own_ge E.out.o2 hk); obtain ⟨s0, s1, s2, s3⟩ := hB5.cells; have s4 := hB5.fr 1; have s5 := hB5.lt0)
                  | (go_at_call 12; refine (HMG.out _ _ (by first | exact .inl rfl | exact .inr rfl) (by constructor <;> omega) _).mono ?_; rintro e w' ⟨rfl, rfl⟩))
            all_goals
              go_wp2_with fail
              go_meet
              case rel => exact ⟨_, _, _, _, _, E.out.branch n2 (nm := nm4 r) (p := by0) (nm4_size hr4) rfl hF5 (by rw [lnCells_one]; exact ho5)⟩
        case rest =>
          obtain ⟨H', ml', v1', v2', v3', hE'⟩ := hcut
          obtain ⟨q0, q1, q2, q3⟩ := hE'.b.cells
          obtain ⟨r0, r1, r2, r3⟩ := hE'.b.cellsR
          have s0 := hE'.b.frR 0
          have s1 := hE'.b.frR 1
          have s2 := hE'.b.frR 2
          have s3 := hE'.b.frR 3
          obtain ⟨a1', c1', x1', rfl, _⟩ := (own_slAt hE'.o1).form
          obtain ⟨a2', c2', x2', rfl, _⟩ := (own_slAt hE'.o2).form
          obtain ⟨a3', c3', x3', rfl, _⟩ := (own_slAt hE'.o3).form
          have E' := Lib.hid hE'
          clear hE' E
          go_wp2_with fail
          refine bodyPost_ret (v := .agg #[.slice a1' H'.vs.length c1', .slice a2' ml'.length c2', .slice a3' H'.ss.length c3', .string H'.cur]) (by simp [results, Try.results30, go_sem, r0, r1, r2, r3]) rfl ?_
          exact E'.out.done _ _ _ _

end

end Go.Proofs.Ytalmfmijjbpnpaa
