/-
  The walk of TimelineForks.
-/
import Derived.Test.YtalmfmijjbpnpaaLoUVW
namespace Go.Proofs.Ytalmfmijjbpnpaa
open Go.RowKit

/-- A row of n integers f 0, f 1, .. that can be read. -/
def RowF (w : World) (a : Option Addr) (n : Nat) (f : Nat → Int) : Prop :=
  n ≤ maxLen ∧ ∀ i, i < n → ∃ x, a = some x ∧ w.cell? (x.add i) = some (.int .i64 (f i)) ∧ -9223372036854775808 ≤ f i ∧ f i ≤ 9223372036854775807

/-- The numbers that are committed. -/
def mods (f : Nat → Int) (k : Nat) : List Int := (List.range k).map fun i => f i % 100
theorem mods_len (f : Nat → Int) (k : Nat) : (mods f k).length = k := by unfold mods; simp
theorem commits_mods (H : Hist) (f : Nat → Int) (k : Nat) : commits H (mods f (k + 1)) = mCommit (commits H (mods f k)) (f k % 100) := by
  unfold mods
  rw [List.range_succ, List.map_append]
  exact commits_snoc _ _ _

section
variable {w : World}

/-- A history was returned, whose versions are a row of cells in new blocks. -/
theorem st_hist {W0 Wd : World} {D : Nat → Prop} {t : Nat} {H : Hist} (h : St W0 D Wd t H w) :
    Calls Try.prog 17 #[.pointer (some ⟨t, 0, none⟩)] w fun e w' => ∃ a c a2 n2 c2 a3 n3 c3, e = .returned (.agg #[.slice a H.vs.length c, .slice a2 n2 c2, .slice a3 n3 c3, .string H.cur]) ∧
      ∃ m : View, m.vv = .slice a H.vs.length c ∧ m.bv = .slice a2 n2 c2 ∧ m.sv = .slice a3 n3 c3 ∧ n2 = m.ml.length ∧ n3 = H.ss.length ∧ RepV w' w.heap.size H m ∧ St W0 D Wd t H w' ∧ Below w.heap.size w w' := by
  obtain ⟨hw, m, hr, ho⟩ := h
  refine (history17 hr hw).mono ?_
  rintro e w' ⟨m', rfl, hr', hb⟩
  obtain ⟨a1, c1, a2, c2, a3, c3, e1, e2, e3⟩ := hr'.forms
  exact ⟨a1, c1, a2, _, c2, a3, _, c3, by rw [e1, e2, e3], m', e1, e2, e3, rfl, rfl, hr', St.later ⟨hw, m, hr, ho⟩ hb, hb⟩

/-- The history that was returned lies in a cell of its own; its versions are watched. -/
theorem hist_kept {W0 w15 w16 w17 : World} {t : Nat} {H : Hist} {av a2 a3 : Option Addr} {cv n2 c2 n3 c3 : Nat}
    (h : St W0 (fun _ => False) W0 t H w15)
    (hq : ∃ m : View, m.vv = .slice av H.vs.length cv ∧ m.bv = .slice a2 n2 c2 ∧ m.sv = .slice a3 n3 c3 ∧ n2 = m.ml.length ∧ n3 = H.ss.length ∧ RepV w16 w15.heap.size H m ∧ St W0 (fun _ => False) W0 t H w16 ∧ Below w15.heap.size w15 w16)
    (e17 : w17 = w16.alloc (Obj.cells #[.slice av H.vs.length cv, .slice a2 n2 c2, .slice a3 n3 c3, .string H.cur] 37)) {i : Nat} (hi : i < H.vs.length) :
    ∃ g, av = some ⟨g, 0, none⟩ ∧ St W0 (fun k => w15.heap.size ≤ k ∧ k < w17.heap.size) w17 t H w17 ∧
      (w15.heap.size ≤ w16.heap.size ∧ w16.heap.size < w17.heap.size) ∧ (w15.heap.size ≤ g ∧ g < w17.heap.size) ∧
      w17.cell? ⟨w16.heap.size, 0, none⟩ = some (.slice (some ⟨g, 0, none⟩) H.vs.length cv) ∧
      w17.cell? ⟨g, i * 2, none⟩ = some (.int .i64 (H.vs.getD i default).par) ∧ H.vs.length ≤ cv ∧ cv ≤ maxLen := by
  obtain ⟨m, e1, e2, e3, _, _, hr, _, hb⟩ := hq
  have hb' : Below w16.heap.size w16 w17 := by rw [e17]; exact (Below.refl _ _).alloc (Nat.le_refl _) _
  have hr' := hr.below hb'
  have hvs := hr'.vs
  rw [e1] at hvs
  have hblk : w17.heap[w16.heap.size]? = some (.cells #[.slice av H.vs.length cv, .slice a2 n2 c2, .slice a3 n3 c3, .string H.cur] 37 (0, 0)) := by rw [e17]; exact heap_alloc_new w16 _
  have hs17 : w16.heap.size < w17.heap.size := (Array.getElem?_eq_some_iff.1 hblk).1
  obtain ⟨g, cap, he, hcap, hmax, hlt⟩ := own_form hvs (by omega)
  cases he
  have hge := own_ge hvs rfl
  have hs := hb.size
  refine ⟨g, rfl, h.watch (hb.trans (hb'.mono hs)) _ (fun k hk => hk), ⟨hs, hs17⟩, ⟨hge, hlt⟩, by rw [cell_of_blk hblk]; rfl, ?_, hcap, hmax⟩
  have hx : H.vs[i]? = some (H.vs.getD i default) := by rw [List.getD_eq_getElem?_getD, List.getElem?_eq_getElem hi]; rfl
  exact own_cell hvs (verCells_get _ _ _ hx).1

set_option maxRecDepth 100000 in
set_option maxHeartbeats 4000000 in
theorem forks3 (a0 a1 : Option Addr) (n0 c0 n1 c1 : Nat) (f0 f1 : Nat → Int) (a b : Int) (h0 : RowF w a0 n0 f0) (h1 : RowF w a1 n1 f1) :
    Calls Try.prog 3 #[.slice a0 n0 c0, .slice a1 n1 c1, .int .i64 a, .int .i64 b] w (Quiet (.bool true) w) := by
  have hm : maxLen ≤ 9223372036854775807 := by decide
  have hn0 : n0 ≤ 9223372036854775807 := Nat.le_trans h0.1 hm
  have hn1 : n1 ≤ 9223372036854775807 := Nat.le_trans h1.1 hm
  clear hm
  have R0 := Lib.hid h0.2
  have R1 := Lib.hid h1.2
  clear h0 h1
  by_cases hl0 : n0 ≤ 120
  · by_cases hl1 : n1 ≤ 120
    · have FF := Lib.hid (forks (mods f0 n0) (mods f1 n1) a b (by rw [mods_len]; exact hl0) (by rw [mods_len]; exact hl1))
      go_enter Try.func3, Try.ntmps3
      go_wp2_with fail
      refine awake8.mono ?_
      rintro e w1 ⟨rfl, hb1⟩
      have HB1 := Lib.hid hb1
      clear hb1
      go_wp2_with fail
      refine (light_any _ _ _ _ hn0).mono ?_
      rintro e w1' ⟨rfl, rfl⟩
      rw [decide_eq_true hl0]
      go_wp2_with fail
      refine (light_any _ _ _ _ hn1).mono ?_
      rintro e w1' ⟨rfl, rfl⟩
      rw [decide_eq_true hl1]
      go_wp2_with fail
      refine (st_new HB1.out 0).mono ?_
      rintro e w2 ⟨t, rfl, h2⟩
      have H2 := Lib.hid h2
      clear h2 HB1
      go_wp2_with fail
      go_loopw [29] (fun i wr => ∃ k : Nat, k ≤ n0 ∧ i = .int .i64 k ∧ St w (fun _ => False) w t (commits (newH 0) (mods f0 k)) wr) (fun i _ => n0 - (intOf i).toNat)
      case atStart => exact ⟨0, Nat.zero_le _, rfl, H2.out⟩
      case round =>
        obtain ⟨k, hk, rfl, hS⟩ := hrel
        have HS := Lib.hid hS
        clear hS H2
        by_cases hlt : k < n0
        · obtain ⟨x, rfl, hc, hf1, hf2⟩ := R0.out k hlt
          have hcell : wr.cell? (x.add k) = some (.int .i64 (f0 k)) := (HS.out.below_of.cell (by have := World.block_lt_of_cell? w _ hc; exact this)).trans hc
          have hlt' : (k : Int) < n0 := by omega
          clear hc
          go_wp2_with fail
          refine (mod_any (f0 k) 100 (by omega) (by omega) hf1 hf2 _).mono ?_
          rintro e w' ⟨rfl, rfl⟩
          go_wp2_with fail
          refine (st_commit HS.out _).mono ?_
          rintro e w3 ⟨rfl, h3⟩
          rw [← commits_mods] at h3
          have H3 := Lib.hid h3
          clear h3 HS
          go_wp2_with fail
          go_roundw
          case rel => exact ⟨k + 1, by omega, by go_num, H3.out⟩
          case measure => simp [intOf]; omega
        · obtain rfl : k = n0 := by omega
          clear hk hlt
          go_wp2_with fail
          have HS' := Lib.hid (show St w (fun _ => False) w t (F1 (mods f0 k)) wr from HS.out)
          clear HS
          refine (st_head HS'.out).mono ?_
          rintro e w4 ⟨rfl, h4⟩
          have H4 := Lib.hid h4
          clear h4 HS'
          go_wp2_with fail
          refine (st_branch H4.out sideN (by decide)).mono ?_
          rw [FF.out.b1]
          rintro e w5 ⟨rfl, h5⟩
          have H5 := Lib.hid (show St w (fun _ => False) w t (F2 (mods f0 k)) w5 from h5)
          clear h5 H4
          go_wp2_with fail
          refine (st_switch H5.out sideN (by decide)).mono ?_
          rw [FF.out.s2]
          rintro e w6 ⟨rfl, h6⟩
          have H6 := Lib.hid (show St w (fun _ => False) w t (F3 (mods f0 k)) w6 from h6)
          clear h6 H5
          go_wp2_with fail
          go_loopw [52] (fun i wr => ∃ k' : Nat, k' ≤ n1 ∧ i = .int .i64 k' ∧ St w (fun _ => False) w t (commits (F3 (mods f0 k)) (mods f1 k')) wr) (fun i _ => n1 - (intOf i).toNat)
          case atStart => exact ⟨0, Nat.zero_le _, rfl, H6.out⟩
          case round =>
            obtain ⟨j, hj, rfl, hS⟩ := hrel
            have HS := Lib.hid hS
            clear hS H6
            by_cases hlt : j < n1
            · obtain ⟨x, rfl, hc, hf1, hf2⟩ := R1.out j hlt
              have hcell : wr.cell? (x.add j) = some (.int .i64 (f1 j)) := (HS.out.below_of.cell (by have := World.block_lt_of_cell? w _ hc; exact this)).trans hc
              have hlt' : (j : Int) < n1 := by omega
              clear hc
              go_wp2_with fail
              refine (mod_any (f1 j) 100 (by omega) (by omega) hf1 hf2 _).mono ?_
              rintro e w' ⟨rfl, rfl⟩
              go_wp2_with fail
              refine (st_commit HS.out _).mono ?_
              rintro e w3 ⟨rfl, h3⟩
              rw [← commits_mods] at h3
              have H3 := Lib.hid h3
              clear h3 HS
              go_wp2_with fail
              go_roundw
              case rel => exact ⟨j + 1, by omega, by go_num, H3.out⟩
              case measure => simp [intOf]; omega
            · obtain rfl : j = n1 := by omega
              clear hj hlt
              have H7 := Lib.hid (show St w (fun _ => False) w t (F4 (mods f0 k) (mods f1 j)) wr from HS.out)
              clear HS
              go_wp2_with fail
              refine (st_head H7.out).mono ?_
              rintro e w8 ⟨rfl, h8⟩
              have H8 := Lib.hid h8
              clear h8 H7
              go_wp2_with fail
              refine (st_commit H8.out a).mono ?_
              rintro e w9 ⟨rfl, h9⟩
              have H9 := Lib.hid (show St w (fun _ => False) w t (F5 (mods f0 k) (mods f1 j) a) w9 from h9)
              clear h9 H8
              go_wp2_with fail
              refine (st_undo H9.out).mono ?_
              rintro e w10 ⟨rfl, h10⟩
              have H10 := Lib.hid (show St w (fun _ => False) w t (F6 (mods f0 k) (mods f1 j) a) w10 from h10)
              clear h10 H9
              go_wp2_with fail
              refine (st_head H10.out).mono ?_
              rw [FF.out.h6]
              rintro e w11 ⟨rfl, h11⟩
              have H11 := Lib.hid h11
              clear h11 H10
              go_wp2_with fail
              refine (st_switch H11.out mainN (by decide)).mono ?_
              rw [FF.out.s6]
              rintro e w12 ⟨rfl, h12⟩
              have H12 := Lib.hid (show St w (fun _ => False) w t (F7 (mods f0 k) (mods f1 j) a) w12 from h12)
              clear h12 H11
              go_wp2_with fail
              refine (st_head H12.out).mono ?_
              rw [FF.out.h7]
              rintro e w13 ⟨rfl, h13⟩
              have H13 := Lib.hid h13
              clear h13 H12
              go_wp2_with fail
              refine (st_commit H13.out b).mono ?_
              rintro e w14 ⟨rfl, h14⟩
              have H14 := Lib.hid (show St w (fun _ => False) w t (F8 (mods f0 k) (mods f1 j) a b) w14 from h14)
              clear h14 H13
              go_wp2_with fail
              refine (st_head H14.out).mono ?_
              rintro e w15 ⟨rfl, h15⟩
              have H15 := Lib.hid h15
              clear h15 H14
              go_wp2_with fail
              refine (st_hist H15.out).mono ?_
              rintro e w16 ⟨av, cv, a2, n2, c2, a3, n3, c3, rfl, hq⟩
              have HQ := Lib.hid hq
              clear hq
              obtain ⟨w17, e17⟩ : ∃ x, x = w16.alloc (Obj.cells #[.slice av (F8 (mods f0 k) (mods f1 j) a b).vs.length cv, .slice a2 n2 c2, .slice a3 n3 c3, .string (F8 (mods f0 k) (mods f1 j) a b).cur] 37) := ⟨_, rfl⟩
              obtain ⟨g, rfl, h17, hd1, hd2, hk1, hk2, hcv⟩ := hist_kept H15.out HQ.out e17 FF.out.l8
              rw [FF.out.p8] at hk2
              have H17 := Lib.hid h17
              have E17 := Lib.hid e17
              have HD := Lib.hid (⟨hd1, hd2⟩ : (w15.heap.size ≤ w16.heap.size ∧ w16.heap.size < w17.heap.size) ∧ w15.heap.size ≤ g ∧ g < w17.heap.size)
              have HK1 := Lib.hid hk1
              have HK2 := Lib.hid hk2
              clear h17 e17 hd1 hd2 hk1 hk2 H15 HQ
              go_wp2_with fail
              rw [← E17.out]
              refine (st_switch H17.out sideN (by decide)).mono ?_
              rw [FF.out.s8]
              rintro e w18 ⟨rfl, h18⟩
              have H18 := Lib.hid (show St w (fun k => w15.heap.size ≤ k ∧ k < w17.heap.size) w17 t (F9 (mods f0 k) (mods f1 j) a b) w18 from h18)
              clear h18 H17 E17
              go_wp2_with fail
              refine (st_head H18.out).mono ?_
              rw [FF.out.h9]
              rintro e w19 ⟨rfl, h19⟩
              have H19 := Lib.hid h19
              clear h19 H18
              go_wp2_with fail
              refine (st_redo H19.out).mono ?_
              rw [FF.out.r9]
              rintro e w20 ⟨rfl, h20⟩
              have H20 := Lib.hid (show St w (fun k => w15.heap.size ≤ k ∧ k < w17.heap.size) w17 t (F10 (mods f0 k) (mods f1 j) a b) w20 from h20)
              clear h20 H19
              go_wp2_with fail
              refine (st_root H20.out).mono ?_
              rw [FF.out.o10]
              rintro e w21 ⟨rfl, h21⟩
              have H21 := Lib.hid h21
              clear h21 H20
              go_wp2_with fail
              refine (st_switch H21.out mainN (by decide)).mono ?_
              rw [FF.out.s10]
              rintro e w22 ⟨rfl, h22⟩
              have H22 := Lib.hid (show St w (fun k => w15.heap.size ≤ k ∧ k < w17.heap.size) w17 t (F11 (mods f0 k) (mods f1 j) a b) w22 from h22)
              clear h22 H21
              go_wp2_with fail
              refine (st_head H22.out).mono ?_
              rw [FF.out.h11]
              rintro e w23 ⟨rfl, h23⟩
              have H23 := Lib.hid h23
              clear h23 H22
              go_wp2_with fail
              refine (st_root H23.out).mono ?_
              rw [FF.out.o11]
              rintro e w24 ⟨rfl, h24⟩
              have k1 : w24.cell? ⟨w16.heap.size, 0, none⟩ = some (.slice (some ⟨g, 0, none⟩) (F8 (mods f0 k) (mods f1 j) a b).vs.length cv) := (World.cell?_of_block (a := ⟨w16.heap.size, 0, none⟩) (h24.kept HD.out.1)).trans HK1.out
              have k2 : w24.cell? ⟨g, hdN (F8 (mods f0 k) (mods f1 j) a b) * 2, none⟩ = some (.int .i64 (hdN (F1 (mods f0 k)))) := (World.cell?_of_block (a := ⟨g, _, none⟩) (h24.kept HD.out.2)).trans HK2.out
              have hi : (hdN (F8 (mods f0 k) (mods f1 j) a b) : Int) < (F8 (mods f0 k) (mods f1 j) a b).vs.length := by have := FF.out.l8; omega
              have H24 := Lib.hid h24
              clear h24 H23 HK1 HK2 HD
              go_wp2_with fail
              go_ret
              exact ⟨rfl, H24.out.below_of⟩
    · have FF := Lib.hid hl1
      go_enter Try.func3, Try.ntmps3
      go_wp2_with fail
      refine awake8.mono ?_
      rintro e w1 ⟨rfl, hb1⟩
      have HB1 := Lib.hid hb1
      clear hb1
      go_wp2_with fail
      refine (light_any _ _ _ _ hn0).mono ?_
      rintro e w1' ⟨rfl, rfl⟩
      rw [decide_eq_true hl0]
      go_wp2_with fail
      refine (light_any _ _ _ _ hn1).mono ?_
      rintro e w1' ⟨rfl, rfl⟩
      rw [decide_eq_false FF.out]
      go_wp2_with fail
      go_ret
      exact ⟨rfl, HB1.out⟩
  · have FF := Lib.hid hl0
    go_enter Try.func3, Try.ntmps3
    go_wp2_with fail
    refine awake8.mono ?_
    rintro e w1 ⟨rfl, hb1⟩
    have HB1 := Lib.hid hb1
    clear hb1
    go_wp2_with fail
    refine (light_any _ _ _ _ hn0).mono ?_
    rintro e w1' ⟨rfl, rfl⟩
    rw [decide_eq_false FF.out]
    go_wp2_with fail
    go_ret
    exact ⟨rfl, HB1.out⟩

end

end Go.Proofs.Ytalmfmijjbpnpaa
