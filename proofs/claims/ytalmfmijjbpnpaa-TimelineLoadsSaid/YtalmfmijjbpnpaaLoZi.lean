/-
  The walk of Redo of the reference.
-/
import Derived.Test.YtalmfmijjbpnpaaLoZh
namespace Go.Proofs.Ytalmfmijjbpnpaa
open Go.RowKit

section
variable {w : World} {t : Nat} {H : Hist} {m : View}

set_option maxRecDepth 100000 in
set_option maxHeartbeats 2000000 in
theorem refRedo46 (h : Rep w 56 t H m) (hw : WF H) :
    Calls Try.prog 46 #[.pointer (some ⟨t, 0, none⟩)] w (Mut (.int .i64 (cRedo H)) (mRedo H) 56 t m w) := by
  obtain ⟨g, cap, rv, hbv, hlen, hcap, hml, k0, k1, k2, hg, hgt, hrow⟩ := cur_mem h hw
  rw [(hd_eq hw).1] at k1
  obtain ⟨ra, rg, rc, rfl, hra, hrg, hrc1, hrc2, hrcell⟩ := own_addr hrow
  have hci : ci H < m.ml.length := (List.getElem?_eq_some_iff.1 hml).1
  have hl1 : (ci H : Int) < m.ml.length := by omega
  have hl0 : (0 : Int) ≤ ci H := by omega
  have c1 : w.cell? ⟨t, 1, none⟩ = some (.slice (some ⟨g, 0, none⟩) m.ml.length cap) := by rw [cell_of_blk h.blk, ← hbv]; rfl
  have ht : t < w.heap.size := h.lt (.inl rfl)
  have HR := Lib.hid h
  have HW := Lib.hid hw
  have HROW := Lib.hid hrow
  have hL := Lib.hid (fun w' (hb : Below w.heap.size w w') => refLine78 (h.below hb) (by have := hw.b2; omega))
  have hS : ∀ w', Below w.heap.size w w' → w'.cell? ⟨t, 1, none⟩ = some (.slice (some ⟨g, 0, none⟩) m.ml.length cap) ∧ w'.cell? ⟨g, ci H * 3, none⟩ = some (.string H.cur) ∧ w'.cell? ⟨g, ci H * 3 + 1, none⟩ = some (.int .i64 (hdN H)) ∧ w'.cell? ⟨g, ci H * 3 + 2, none⟩ = some (.slice ra (curLn H).rd.length rc) ∧ Below w.heap.size w w' :=
    fun w' hb => ⟨(hb.cell (p := ⟨t, 1, none⟩) ht).trans c1, (hb.cell (p := ⟨g, _, none⟩) hg).trans k0, (hb.cell (p := ⟨g, _, none⟩) hg).trans k1, (hb.cell (p := ⟨g, _, none⟩) hg).trans k2, hb⟩
  have HS := Lib.hid hS
  clear hml hbv hrow h hw hlen hrg hS
  go_enter Try.func46, Try.ntmps46
  go_upto_region 1 with fail
  go_cut [3] from 5 to 33 (fun s wx => ∃ B, s = .pointer (some ⟨B, 0, none⟩) ∧ Box w H ra rc B wx)
  case first =>
    go_region_held3 (fun w' => w'.cell? ⟨t, 1, none⟩ = some (.slice (some ⟨g, 0, none⟩) m.ml.length cap) ∧ w'.cell? ⟨g, ci H * 3, none⟩ = some (.string H.cur) ∧ w'.cell? ⟨g, ci H * 3 + 1, none⟩ = some (.int .i64 (hdN H)) ∧ w'.cell? ⟨g, ci H * 3 + 2, none⟩ = some (.slice ra (curLn H).rd.length rc) ∧ Below w.heap.size w w')
      ((refine HS.out _ ?_; first | exact hbb | exact hbb.alloc hbb.size _ | exact ((hbb.setCell (Nat.le_refl _) _).setCell (Nat.le_refl _) _).setCell (Nat.le_refl _) _ | exact (Below.refl _ _).drew | exact ((Below.refl _ _).alloc (Nat.le_refl _) _).drew))
      ((go_at_call 78; rename_i hq _ _; refine (hL.out _ hq.2.2.2.2).mono ?_; rintro e w1 ⟨rfl, hb1⟩; have hbb : Below w.heap.size w w1 := hq.2.2.2.2.trans (hb1.mono hq.2.2.2.2.size); clear hq; (first | (have hbx : w1.heap[w.heap.size]? = some (.cells #[.string { data := #[] }, .int .i64 0, .slice none 0 0] 65 (0, 0)) := (hb1.block w.heap.size (by simp)).trans (heap_alloc_new w _); have x0 : w1.cell? ⟨w.heap.size, 0, none⟩ = some (.string { data := #[] }) := (cell_of_blk hbx 0).trans rfl; have x1 : w1.cell? ⟨w.heap.size, 1, none⟩ = some (.int .i64 0) := (cell_of_blk hbx 1).trans rfl; have x2 : w1.cell? ⟨w.heap.size, 2, none⟩ = some (.slice none 0 0) := (cell_of_blk hbx 2).trans rfl; have y0 := frozen_of_blk hbx 0; have y1 := frozen_of_blk hbx 1; have y2 := frozen_of_blk hbx 2; have HBX := Lib.hid hbx; clear hbx) | skip); clear hb1))
    all_goals
      go_wp2_with fail
      go_meet
      case rel =>
        first
          | exact ⟨_, rfl, box_new hbb⟩
          | exact ⟨_, rfl, box_set (Nat.le_refl _) hbb HBX.out⟩
  case rest =>
    obtain ⟨B, rfl, hB0, hbb, hblk⟩ := hcut
    have _b0 := (cell_of_blk hblk 0).trans (by rfl : _ = some (Value.string H.cur))
    have _b1 := (cell_of_blk hblk 1).trans (by rfl : _ = some (Value.int .i64 (hdN H)))
    have b2 := (cell_of_blk hblk 2).trans (by rfl : _ = some (Value.slice ra (curLn H).rd.length rc))
    have HBB := Lib.hid hbb
    have HBK := Lib.hid hblk
    have HB0 := Lib.hid hB0
    clear hbb hblk hB0 k0 k1 k2 c1 HS hL hl1 hl0
    by_cases hz : (curLn H).rd = []
    · have E1 := Lib.hid (⟨if_pos hz, if_pos hz⟩ : cRedo H = 15 ∧ mRedo H = H)
      have hz' : (((curLn H).rd.length : Int) == 0) = true := by simp [hz]
      clear hz
      go_wp2_with fail
      go_ret
      rw [E1.out.1, E1.out.2]
      exact Mut.none HR.out HBB.out
    · have hpos : 0 < (curLn H).rd.length := List.length_pos_iff.2 hz
      have E1 := Lib.hid (⟨if_neg hz, if_neg hz⟩ : cRedo H = 0 ∧ mRedo H = setCur H ⟨H.cur, lastRd H, (curLn H).rd.dropLast⟩)
      have hz' : (((curLn H).rd.length : Int) == 0) = false := by simp; omega
      obtain rfl := hra hpos
      have hkl : w.cell? ⟨rg, (curLn H).rd.length - 1, none⟩ = some (.int .i64 (lastRd H)) := (own_last HROW.out hz).1
      have hrgl : rg < w.heap.size := World.block_lt_of_cell? _ _ hkl
      have hrgt : rg ≠ t := own_ne_blk HROW.out HR.out.blk (by decide) rg rfl
      have b3 : wc.cell? ⟨rg, (curLn H).rd.length - 1, none⟩ = some (.int .i64 (lastRd H)) := (HBB.out.cell (p := ⟨rg, _, none⟩) hrgl).trans hkl
      have hBt : B ≠ t := by have := HB0.out; omega
      have hHS : ∀ w', Fr (fun k => k = t) wc w' → w'.cell? ⟨B, 2, none⟩ = some (.slice (some ⟨rg, 0, none⟩) (curLn H).rd.length rc) ∧ w'.cell? ⟨rg, (curLn H).rd.length - 1, none⟩ = some (.int .i64 (lastRd H)) ∧ Fr (fun k => k = t) wc w' := fun w' hb =>
        ⟨hb.cell b2 hBt, hb.cell b3 hrgt, hb⟩
      have hRows := own_frame HROW.out (Fr.of_below (S := fun _ => False) HBB.out) (fun _ _ e => e)
      have hdl : (intCells (curLn H).rd).take (((curLn H).rd.length - 1) * 1) = intCells (curLn H).rd.dropLast := by unfold intCells; rw [List.dropLast_eq_take, List.map_take, Nat.mul_one]
      have hsl := fun w' (hb : Below wc.heap.size wc w') => (sl_take hRows hrc1 hrc2 (i := (curLn H).rd.length - 1) (by omega)).below hb
      rw [hdl] at hsl
      have HSL := Lib.hid hsl
      have HS := Lib.hid hHS
      have hrl : (curLn H).rd.length ≤ 1000 := rd_len HW.out (ci_lt HW.out).2.2
      have hln : (curLn H).rd.dropLast.length = (curLn H).rd.length - 1 := List.length_dropLast
      have HLN := Lib.hid hln
      obtain ⟨i0, hi0, hz0, hz1, hz2⟩ := info_parts info3
      have hi1 : ((curLn H).rd.length : Int) - 1 < (curLn H).rd.length := by omega
      have hi00 : (0 : Int) ≤ ((curLn H).rd.length : Int) - 1 := by omega
      have hi3 : (1 : Int) ≤ (curLn H).rd.length := by omega
      have hi4 : ((curLn H).rd.length : Int) ≤ (rc : Int) + 1 := by omega
      have hi5 : 1 ≤ (curLn H).rd.length := by omega
      have hi2 : ((curLn H).rd.length : Int) - 1 ≤ rc := by omega
      have hiw : IntKind.i64.wrap (((curLn H).rd.length : Int) - 1) = ((curLn H).rd.length : Int) - 1 := IntWalk.i64_in _ (by omega)
      have hit : (((curLn H).rd.length : Int) - 1).toNat = (curLn H).rd.length - 1 := by omega
      clear hHS hRows hz hdl hsl hkl hln b3 hrcell hpos
      go_wp2_with fail
      go_upto_region 5 with fail
      obtain ⟨wd, hwd⟩ : ∃ wd, wd = wc := ⟨_, rfl⟩
      rw [← hwd]
      have hd0 : Below wc.heap.size wc wd := by rw [hwd]; exact Below.refl _ _
      clear hwd
      go_region_held3 (fun w' => w'.cell? ⟨B, 2, none⟩ = some (.slice (some ⟨rg, 0, none⟩) (curLn H).rd.length rc) ∧ w'.cell? ⟨rg, (curLn H).rd.length - 1, none⟩ = some (.int .i64 (lastRd H)) ∧ Fr (fun k => k = t) wc w')
        ((refine HS.out _ ?_; first | exact hA3 | exact Fr.of_below hA1 | exact Fr.of_below hd0.drew | (rename_i hq _ _; exact hq.2.2.alloc _)))
        (first
          | (refine step_app2 rfl (.tmp 26) (.tmp 31) 22 rfl wc.heap.size 3 i0 _ 1 8 Try.underlying22 hi0 hz0 hz1 hz2 rfl (by decide) _ 0 [] rfl (own_lit0a hd0.size) _ _ _ rfl (HSL.out _ (below_alloc1 hd0 (Nat.le_refl _)).drew) (one_int _) (by unfold maxLen; omega) (by omega) (Nat.le_refl _) (below_alloc1 hd0 (Nat.le_refl _)).drew (Nat.zero_add _) (List.nil_append _) (fun a1 c1 w1 ho1 hA1 hk1 => ?_); clear hk1)
          | (go_at_call 77; refine (refSet77' (HR.out.below (HBB.out.trans (hA1.mono HBB.out.size))) (by have := HW.out.b2; omega) HW.out.cur (lastRd H) (rd := (curLn H).rd.dropLast) HLN.out (ownsRow_mono ho1 (Nat.zero_le _)) (fun k hk ho => by have := own_ge ho1 hk; have := HR.out.lt ho; have := HBB.out.size; omega)).mono ?_; rintro e w3 h3; have hA3 : Fr (fun k => k = t) wc w3 := (Fr.of_below hA1).trans h3.2.choose_spec.2.1 (fun _ _ e => e); obtain ⟨rfl, h3'⟩ := id h3; have H3 := Lib.hid h3; clear h3 h3'))
      all_goals
        have HO1 := Lib.hid ho1
        have HA1 := Lib.hid hA1
        clear ho1 hA1 hA3
        go_wp2_with fail
        go_ret
        rw [E1.out.1, E1.out.2]
        exact Mut.ofSet (Fr.of_below (HBB.out.trans (HA1.out.mono HBB.out.size))) (fun k hk => .inl hk) (fun k hk => by have := own_ge HO1.out hk; have := HBB.out.size; omega) H3.out

end

end Go.Proofs.Ytalmfmijjbpnpaa
