/-
  The walk of TimelinePlays.
-/
import Derived.Test.YtalmfmijjbpnpaaLoZo
import Derived.Test.YtalmfmijjbpnpaaLoZp
import Derived.Test.YtalmfmijjbpnpaaLoZq
namespace Go.Proofs.Ytalmfmijjbpnpaa
open Go.RowKit

/-- What stands for the k-th act. -/
theorem actCells_get : ∀ (l : List Ac) (k : Nat) (x : Ac), l[k]? = some x → (actCells l)[k * 3]? = some (.int .i64 x.kind) ∧ (actCells l)[k * 3 + 1]? = some (.int .i64 x.n) ∧ (actCells l)[k * 3 + 2]? = some (.string x.name)
  | [], _, _, h => by simp at h
  | y :: l, 0, x, h => by
    simp only [List.getElem?_cons_zero, Option.some.injEq] at h
    subst h
    exact ⟨rfl, rfl, rfl⟩
  | y :: l, k + 1, x, h => by
    obtain ⟨h1, h2, h3⟩ := actCells_get l k x (by simpa using h)
    have e : actCells (y :: l) = .int .i64 y.kind :: .int .i64 y.n :: .string y.name :: actCells l := rfl
    rw [e, show (k + 1) * 3 = k * 3 + 1 + 1 + 1 by omega, show k * 3 + 1 + 1 + 1 + 1 = (k * 3 + 1) + 1 + 1 + 1 by omega, show k * 3 + 1 + 1 + 1 + 2 = (k * 3 + 2) + 1 + 1 + 1 by omega]
    exact ⟨h1, h2, h3⟩
theorem actCells_len (l : List Ac) : (actCells l).length = l.length * 3 := by
  induction l with
  | nil => rfl
  | cons y l ih =>
    show (.int .i64 y.kind :: .int .i64 y.n :: .string y.name :: actCells l : List Value).length = _
    simp only [List.length_cons, ih]; omega
theorem actCells_app (a b : List Ac) : actCells a ++ actCells b = actCells (a ++ b) := by simp [actCells]

section
variable {W0 Wd w : World} {D : Nat → Prop} {t u : Nat} {H : Hist}

/-- Two new timelines, one of the program and one of the reference. -/
theorem tw_new2 (hb : Below W0.heap.size W0 w) (root : Int) : Calls Try.prog 10 #[.int .i64 root] w fun e w1 => ∃ t, e = .returned (.pointer (some ⟨t, 0, none⟩)) ∧
    Calls Try.prog 23 #[.int .i64 root] w1 fun e w2 => ∃ u, e = .returned (.pointer (some ⟨u, 0, none⟩)) ∧ Tw W0 (fun _ => False) W0 t u (newH root) (newH root) w2 := by
  refine (new10 root).mono ?_
  rintro e w1 ⟨t, m, rfl, hr, ho, hb1⟩
  refine ⟨t, rfl, (new23 root).mono ?_⟩
  rintro e w2 ⟨u, m', rfl, hr', ho', hb2⟩
  exact ⟨u, rfl, tw_new (wf_new root) hb hr ho hb1 hr' ho' hb2⟩

/-- A row of acts that was made behind the timelines is watched from now on; its cells are known in every later state. -/
theorem tw_row (h : Tw W0 D Wd t u H H w) {w' : World} (hb : Below w.heap.size w w') {a : Option Addr} {r c : Nat} {l : List Ac} (ho : w'.ownsRow w.heap.size 50 3 (.slice a r c) r (actCells l)) :
    ∃ D', Tw W0 D' w' t u H H w' ∧ ∃ g, (0 < r → a = some ⟨g, 0, none⟩) ∧ r ≤ c ∧ c ≤ maxLen ∧ ∀ t1 u1 H1 K1 w2, Tw W0 D' w' t1 u1 H1 K1 w2 → ∀ k x, l[k]? = some x →
      w2.cell? ⟨g, k * 3, none⟩ = some (.int .i64 x.kind) ∧ w2.cell? ⟨g, k * 3 + 1, none⟩ = some (.int .i64 x.n) ∧ w2.cell? ⟨g, k * 3 + 2, none⟩ = some (.string x.name) := by
  obtain ⟨a', g, c', e, ha, hg, h1, h2, hc⟩ := own_addr ho
  cases e
  refine ⟨_, h.watch hb (fun k => w.heap.size ≤ k ∧ k < w'.heap.size) (fun k hk => hk), g, ha, h1, h2, fun t1 u1 H1 K1 w2 hw2 k x hx => ?_⟩
  have hlt : k < l.length := (List.getElem?_eq_some_iff.1 hx).1
  have hll := ho.1
  rw [actCells_len] at hll
  have hr : 0 < r := by omega
  have hgl := hg hr
  have hge : w.heap.size ≤ g := own_ge ho (by rw [ha hr]; rfl)
  have hk := hw2.kept (k := g) ⟨hge, hgl⟩
  obtain ⟨q1, q2, q3⟩ := actCells_get l k x hx
  exact ⟨(World.cell?_of_block (a := ⟨g, _, none⟩) hk).trans (hc _ _ q1), (World.cell?_of_block (a := ⟨g, _, none⟩) hk).trans (hc _ _ q2), (World.cell?_of_block (a := ⟨g, _, none⟩) hk).trans (hc _ _ q3)⟩

set_option maxRecDepth 100000 in
set_option maxHeartbeats 4000000 in
theorem plays5 (root : Int) (a0 a1 : Option Addr) (n0 c0 n1 c1 : Nat) (f0 : Nat → Int) (L : List Ac) (h0 : RowF w a0 n0 f0) (h1 : SlAt w (.slice a1 n1 c1) n1 3 (actCells L)) (hL : L.length = n1) (hok : ∀ x ∈ L, AcOk x) (hn1 : n1 ≤ 9223372036854775807) :
    Calls Try.prog 5 #[.int .i64 root, .slice a0 n0 c0, .slice a1 n1 c1] w (Quiet (.bool true) w) := by
  have hm : maxLen ≤ 9223372036854775807 := by decide
  have hn0 : n0 ≤ 9223372036854775807 := Nat.le_trans h0.1 hm
  clear hm
  have R0 := Lib.hid h0
  have R1 := Lib.hid h1
  have HL := Lib.hid hL
  have HOK := Lib.hid hok
  clear h0 h1 hL hok
  by_cases hl0 : n0 ≤ 120
  · by_cases hl1 : n1 ≤ 40
    · have hl1' : ¬ (40 : Int) < n1 := by omega
      obtain ⟨i0, hi0, hz0, hz1, hz2⟩ := info_parts info50
      have HA := Lib.hid (fun w' (hb : Below w.heap.size w w') => acts24 a0 n0 c0 f0 (w := w') (by
        refine ⟨R0.out.1, fun i hi => ?_⟩
        obtain ⟨x, e, hc, hf⟩ := R0.out.2 i hi
        exact ⟨x, e, (hb.cell (World.block_lt_of_cell? w _ hc)).trans hc, hf⟩) hl0)
      go_enter Try.func5, Try.ntmps5
      go_wp2_with fail
      refine awake8.mono ?_
      rintro e w1 ⟨rfl, hb1⟩
      have HB1 := Lib.hid hb1
      clear hb1
      go_wp2_with fail
      refine (light_any _ _ _ _ hn0).mono ?_
      rintro e w1' ⟨rfl, rfl⟩
      rw [decide_eq_true hl0]
      go_wp2_with fail
      refine (tw_new2 HB1.out root).mono ?_
      rintro e w2 ⟨t, rfl, hnew⟩
      have HN := Lib.hid hnew
      clear hnew HB1
      go_wp2_with fail
      refine HN.out.mono ?_
      rintro e w3 ⟨u, rfl, h3⟩
      have H3 := Lib.hid h3
      clear h3 HN
      go_wp2_with fail
      refine (HA.out _ H3.out.below_of).mono ?_
      rintro e w4 ⟨la, b4, q4, rfl, hla, hlo, ho4, hb4⟩
      have HO4 := Lib.hid ho4
      have HB4 := Lib.hid hb4
      have HLO := Lib.hid hlo
      obtain ⟨r, hr⟩ : ∃ r, la.length + n1 = r := ⟨_, rfl⟩
      have HR := Lib.hid hr
      have hr160 : r ≤ 160 := by omega
      have HM1 := Lib.hid (show la.length + n1 ≤ maxLen by unfold maxLen; omega)
      have HM2 := Lib.hid (show (la.length + n1) * 32 ≤ 140737488355328 by omega)
      clear ho4 hb4 hlo hr
      go_wp2_with (refine wpList_app2 (w0 := w3) rfl (.tmp 27) (.tmp 28) 45 rfl w3.heap.size 50 i0 _ 3 32 Try.underlying45 hi0 hz0 hz1 hz2 rfl (by decide) _ _ _ rfl HO4.out _ _ _ rfl (R1.out.below ((H3.out.below_of).trans (HB4.out.mono H3.out.below_of.size))) (one_act L) HM1.out HM2.out (Nat.le_refl _) HB4.out HR.out (actCells_app la L) (fun a5 c5 w5 ho5 hb5 => ?_); have HO5 := Lib.hid ho5; have HB5 := Lib.hid hb5; clear ho5 hb5)
      obtain ⟨D', h5, g, ha5, hrc, hcm, hcells⟩ := tw_row H3.out HB5.out HO5.out
      have H5 := Lib.hid h5
      have HC := Lib.hid hcells
      have HAC : Hid (∀ x ∈ la ++ L, AcOk x) := Lib.hid (p := ∀ x ∈ la ++ L, AcOk x) (fun x hx => by
        rcases List.mem_append.1 hx with hx | hx
        · exact (HLO.out x hx).1
        · exact HOK.out x hx)
      have HLEN := Lib.hid (show (la ++ L).length = r by rw [List.length_append, HL.out, HR.out])
      clear h5 hcells HO5 HB5 HO4 HB4 HLO HOK HL HR HM1 HM2 H3 HA R0 R1
      have hr63 : (r : Int) ≤ 160 := by omega
      go_loopg [7, 31] r (fun gh tv iv wr => ∃ (k t1 : Nat) (H : Hist), gh + k = r ∧ tv = .pointer (some ⟨t1, 0, none⟩) ∧ iv = .int .i64 k ∧ Tw w D' w5 t1 u H H wr)
      case atStart => exact ⟨0, t, _, rfl, rfl, rfl, H5.out⟩
      case round =>
        obtain ⟨k, t1, H, hk, rfl, rfl, hT⟩ := hrel
        have HT := Lib.hid hT
        have HK := Lib.hid hk
        have hk63 : (k : Int) ≤ 160 := by omega
        clear hT H5 hk
        by_cases hlt : k < r
        · obtain rfl := ha5 (by omega)
          have hx : (la ++ L)[k]? = some ((la ++ L)[k]'(by rw [HLEN.out]; exact hlt)) := List.getElem?_eq_getElem _
          obtain ⟨x, hxe⟩ : ∃ x, x = (la ++ L)[k]'(by rw [HLEN.out]; exact hlt) := ⟨_, rfl⟩
          rw [← hxe] at hx
          obtain ⟨q1, q2, q3⟩ := HC.out _ _ _ _ _ HT.out k x hx
          have hax : AcOk x := HAC.out x (List.mem_of_getElem? hx)
          have HX := Lib.hid hax
          have hlt' : (k : Int) < r := by omega
          have hk0 : (0 : Int) ≤ k := by omega
          clear hx hxe hax
          by_cases hnm : 100 < x.name.size
          · have hnm' : (100 : Int) < x.name.size := by omega
            go_wp2_with fail
            go_ret
            exact ⟨rfl, (HT.out.later ((Below.refl _ _).alloc (Nat.le_refl _) _)).below_of⟩
          · have hnm' : ¬ (100 : Int) < x.name.size := by omega
            go_wp2_with fail
            refine (do25 (HT.out.later ((Below.refl _ _).alloc (Nat.le_refl _) _)) HX.out.1.1 HX.out.1.2 HX.out.2).mono ?_
            rintro e w6 ⟨t2, rfl, h6⟩
            have H6 := Lib.hid h6
            clear h6 HT q1 q2 q3
            go_wp2_with fail
            refine (same26 H6.out).mono ?_
            rintro e w7 ⟨rfl, h7⟩
            have H7 := Lib.hid h7
            clear h7 H6
            go_wp2_with fail
            go_roundg (r - (k + 1))
            case measure => have := HK.out; omega
            case rel => exact ⟨k + 1, t2, _, by omega, rfl, by go_num, H7.out⟩
        · have hlt' : ¬ (k : Int) < r := by omega
          go_wp2_with fail
          go_ret
          exact ⟨rfl, HT.out.below_of⟩
    · have hl1' : (40 : Int) < n1 := by omega
      go_enter Try.func5, Try.ntmps5
      go_wp2_with fail
      refine awake8.mono ?_
      rintro e w1 ⟨rfl, hb1⟩
      have HB1 := Lib.hid hb1
      clear hb1
      go_wp2_with fail
      refine (light_any _ _ _ _ hn0).mono ?_
      rintro e w1' ⟨rfl, rfl⟩
      rw [decide_eq_true hl0]
      go_wp2_with fail
      go_ret
      exact ⟨rfl, HB1.out⟩
  · have FF := Lib.hid hl0
    go_enter Try.func5, Try.ntmps5
    go_wp2_with fail
    refine awake8.mono ?_
    rintro e w1 ⟨rfl, hb1⟩
    have HB1 := Lib.hid hb1
    clear hb1
    go_wp2_with fail
    refine (light_any _ _ _ _ hn0).mono ?_
    rintro e w1' ⟨rfl, rfl⟩
    rw [decide_eq_false FF.out]
    go_wp2_with fail
    go_ret
    exact ⟨rfl, HB1.out⟩

end

end Go.Proofs.Ytalmfmijjbpnpaa
