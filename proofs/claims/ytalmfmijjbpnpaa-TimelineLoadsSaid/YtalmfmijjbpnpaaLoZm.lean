/-
  The walk of Branch of the reference.
-/
import Derived.Test.YtalmfmijjbpnpaaLoZl
namespace Go.Proofs.Ytalmfmijjbpnpaa
open Go.RowKit

section
variable {w : World} {t : Nat} {H : Hist} {m : View}

/-- A row with one branch more, from the three appends. -/
theorem mut_insB' {w3 : World} {a : Option Addr} {c r n n1 : Nat} {v : Value} {name : ByteArray} {hd : Int} (h : Rep w 56 t H m) (hn : H.bs.length = n) (hn1 : n + 1 = n1) (hi : r ≤ n) (hb : Below w.heap.size w w3)
    (ho : w3.ownsRow w.heap.size 65 3 (.slice a n1 c) n1 ((lnCells m.ml).take (r * 3) ++ [.string name, .int .i64 hd, .slice none 0 0] ++ (lnCells m.ml).drop (r * 3))) :
    Mut v { H with bs := ins H.bs r ⟨name, hd, []⟩ } 56 t m w (.returned v) (w3.setCell ⟨t, 1, Option.none⟩ (.slice a n1 c)) := by
  subst hn1 hn
  have hlen : m.ml.length = H.bs.length := by rw [h.ml, List.length_map]
  rw [List.append_assoc] at ho
  exact mut_insB (w3 := w) h (Fr.refl _ _) (by omega) (by rw [hlen]; exact ownsRow_mono ho (Nat.zero_le _)) (Fr.of_below hb) (fun k hk => .inr (own_ge ho hk))

set_option maxRecDepth 100000 in
set_option maxHeartbeats 4000000 in
theorem refBranch47 (h : Rep w 56 t H m) (hw : WF H) (name : ByteArray) (hnm : name.size ≤ maxLen) :
    Calls Try.prog 47 #[.pointer (some ⟨t, 0, none⟩), .string name] w (Mut (.int .i64 (cBranch H name)) (mBranch H name) 56 t m w) := by
  have hb2 := hw.b2
  have hB := Lib.hid (refBranch79 h (by omega) name)
  have hW := Lib.hid (fun w' => word62 name hnm w')
  have ht : t < w.heap.size := h.lt (.inl rfl)
  have HR := Lib.hid h
  have hlen : m.ml.length = H.bs.length := by rw [h.ml, List.length_map]
  have HONE := Lib.hid (one_lnm h)
  have hbs := h.bs
  rw [hlen] at hbs
  obtain ⟨a0, g0, cap0, hsv0, _⟩ := own_addr hbs
  have c1 : w.cell? ⟨t, 1, none⟩ = some (.slice a0 H.bs.length cap0) := by rw [h.cellT.2.1, hsv0]
  by_cases hz : takenE name (hasN name (bnames H)) H.bs.length = 0
  · obtain ⟨z1, z2, z3⟩ := takenE_zero hz
    rw [z1] at hW
    rw [z2] at hB
    have E1 := Lib.hid (show cBranch H name = 0 from hz)
    have e2 : mBranch H name = { H with bs := ins H.bs (rank name (bnames H)) ⟨name, hdN H, []⟩ } := if_pos hz
    have hrk : rank name (bnames H) ≤ H.bs.length := by have := rank_le name (bnames H); simpa [bnames] using this
    have f1 : w.frozen? ⟨t, 1, none⟩ = false := h.frT 1
    obtain ⟨r, hr⟩ : ∃ r, r = rank name (bnames H) := ⟨_, rfl⟩
    rw [← hr] at hB hrk e2
    obtain ⟨a, cap, fv, rv, hsv, hT, hD, hcase⟩ := row_parts hbs hrk
    rw [hsv0] at hsv
    cases hsv
    have E2 := Lib.hid e2
    obtain ⟨n, hn⟩ : ∃ n, n = H.bs.length := ⟨_, rfl⟩
    rw [← hn] at hrk hD hcase c1 hb2 z3
    have HN := Lib.hid hn.symm
    have HRK := Lib.hid hrk
    obtain ⟨r1, hr1'⟩ : ∃ r1, r + 1 = r1 := ⟨_, rfl⟩
    obtain ⟨n1, hn1'⟩ : ∃ n1, n + 1 = n1 := ⟨_, rfl⟩
    have HR1 := Lib.hid hr1'
    have HN1 := Lib.hid hn1'
    have HLE := Lib.hid (show r1 + (n - r) = n1 by omega)
    have HM1 := Lib.hid (show r1 + (n - r) ≤ maxLen by unfold maxLen; omega)
    have HM2 := Lib.hid (show (r1 + (n - r)) * 48 ≤ 140737488355328 by omega)
    have HM3 := Lib.hid (show 0 + r ≤ maxLen by unfold maxLen; omega)
    have HM4 := Lib.hid (show (0 + r) * 48 ≤ 140737488355328 by omega)
    have HM5 := Lib.hid (show r + 1 ≤ maxLen by unfold maxLen; omega)
    have HM6 := Lib.hid (show (r + 1) * 48 ≤ 140737488355328 by omega)
    have hr63 : (r : Int) ≤ 1000 := by omega
    have hr0 : (0 : Int) ≤ r := by omega
    have hr1 : (r : Int) ≤ n := by omega
    have hn16 : (n : Int) < 16 := by omega
    have HTK := Lib.hid (fun u (hu : u ∈ (lnCells m.ml).take (r * 3)) => HONE.out u (List.mem_of_mem_take hu))
    have HDK := Lib.hid (fun u (hu : u ∈ (lnCells m.ml).drop (r * 3)) => HONE.out u (List.mem_of_mem_drop hu))
    obtain ⟨i0, hi0, hz0, hz1, hz2⟩ := info_parts info65
    have hone2 : ∀ u ∈ [Value.string name, Value.int .i64 (hdN H), Value.slice none 0 0], u.oneCell' = true := by
      intro u hu
      simp at hu
      rcases hu with rfl | rfl | rfl <;> rfl
    have H2 := Lib.hid hone2
    have HH := Lib.hid (fun w' (hb : Below w.heap.size w w') => refHead56 (h.below hb) hw)
    have HT := Lib.hid hT
    have HD := Lib.hid hD
    clear hbs hlen hT hD hz hr h hsv0 e2 z1 z2 hone2 hn hw hr1' hn1'
    rcases hcase with ⟨rfl, rfl, rfl, rfl, rfl, rfl⟩ | ⟨g, rfl, hc1, hc2, rfl, ⟨hcr, rfl⟩ | ⟨hcr, rfl⟩⟩
    all_goals
      first | subst hcr | skip
      go_enter Try.func47, Try.ntmps47
      go_wp2_with fail
      refine hB.out.mono ?_
      rintro e w1 ⟨rfl, hb1⟩
      have d1 : w1.cell? ⟨t, 1, none⟩ = _ := (hb1.cell (p := ⟨t, 1, none⟩) ht).trans c1
      have ht1 : t < w1.heap.size := Nat.lt_of_lt_of_le ht hb1.size
      have HB1 := Lib.hid hb1
      clear hb1
      go_wp2_with fail
      refine (hW.out _).mono ?_
      rintro e w2 ⟨rfl, rfl⟩
      go_wp2_with (first
        | (refine wpList_app2 rfl (.tmp 28) (.tmp 35) 34 rfl w.heap.size 65 i0 _ 3 48 Try.underlying34 hi0 hz0 hz1 hz2 rfl (by decide) _ 0 [] rfl (own_lit0a HB1.out.size) _ _ _ rfl (HT.out _ (below_alloc1 HB1.out (Nat.le_refl _))) HTK.out HM3.out HM4.out (Nat.le_refl _) (below_alloc1 HB1.out (Nat.le_refl _)) (Nat.zero_add _) (List.nil_append _) (fun a1 k1 w3 ho1 hA1 => ?_)))
      have HO1 := Lib.hid ho1
      have HA1 := Lib.hid hA1
      clear ho1 hA1
      refine (HH.out _ HA1.out).mono ?_
      rintro e w4 ⟨rfl, hb4⟩
      have HO4 := Lib.hid (own_frame HO1.out (Fr.of_below (S := fun _ => False) hb4) (fun _ _ e => e))
      have HA4 := Lib.hid (HA1.out.trans (hb4.mono HA1.out.size))
      clear hb4
      go_wp2_with (first
        | (refine wpList_app2 rfl (.tmp 36) (.tmp 41) 34 rfl w.heap.size 65 i0 _ 3 48 Try.underlying34 hi0 hz0 hz1 hz2 rfl (by decide) _ _ _ rfl (HO4.out.alloc _) _ 1 [.string name, .int .i64 (hdN H), .slice none 0 0] rfl (sl_block (heap_alloc_new _ _) rfl (by decide)) H2.out HM5.out HM6.out (Nat.le_refl _) (below_alloc1 HA4.out (Nat.le_refl _)) HR1.out rfl (fun a5 k5 w5 ho5 hA5 => ?_); have d5 : w5.cell? ⟨t, 1, none⟩ = _ := (hA5.cell (p := ⟨t, 1, none⟩) ht).trans c1; have HO5 := Lib.hid ho5; have HA5 := Lib.hid hA5; clear ho5 hA5)
        | (refine wpList_app2 rfl (.tmp 44) (.tmp 51) 34 rfl w.heap.size 65 i0 _ 3 48 Try.underlying34 hi0 hz0 hz1 hz2 rfl (by decide) _ _ _ rfl HO5.out _ _ _ rfl (HD.out _ HA5.out) HDK.out HM1.out HM2.out (Nat.le_refl _) HA5.out HLE.out rfl (fun a6 k6 w6 ho6 hA6 => ?_); have d6 : w6.cell? ⟨t, 1, none⟩ = _ := (hA6.cell (p := ⟨t, 1, none⟩) ht).trans c1; have g6 : w6.frozen? ⟨t, 1, none⟩ = false := (hA6.frozen (p := ⟨t, 1, none⟩) ht).trans f1; have HO6 := Lib.hid ho6; have HA6 := Lib.hid hA6; clear ho6 hA6))
      go_ret
      rw [E1.out, E2.out]
      exact mut_insB' HR.out HN.out HN1.out HRK.out HA6.out HO6.out
  · have E1 := Lib.hid (show cBranch H name = takenE name (hasN name (bnames H)) H.bs.length from rfl)
    have E2 := Lib.hid (show mBranch H name = H from if_neg hz)
    have hok := hz
    unfold takenE at hok
    clear h hbs hlen
    cases hwb : wordB name
    · have e3 : takenE name (hasN name (bnames H)) H.bs.length = 1 := by unfold takenE; rw [hwb]; rfl
      have E3 := Lib.hid e3
      rw [hwb] at hW
      clear hz hok e3 hwb
      go_enter Try.func47, Try.ntmps47
      go_wp2_with fail
      refine hB.out.mono ?_
      rintro e w1 ⟨rfl, hb1⟩
      have HB1 := Lib.hid hb1
      clear hb1
      go_wp2_with fail
      refine (hW.out _).mono ?_
      rintro e w2 ⟨rfl, rfl⟩
      go_wp2_with fail
      go_ret
      rw [E1.out, E2.out, E3.out]
      exact Mut.none HR.out HB1.out
    · rw [hwb] at hW
      cases hok2 : hasN name (bnames H)
      · have hlen : 16 ≤ H.bs.length := by
          rw [hwb, hok2] at hok
          by_cases h16 : 16 ≤ H.bs.length
          · exact h16
          · exact absurd (by rw [if_pos rfl, if_neg (by decide), if_neg h16]) hok
        have e3 : takenE name (hasN name (bnames H)) H.bs.length = 7 := by unfold takenE; rw [hwb, hok2, if_pos rfl, if_neg (by decide), if_pos hlen]
        have E3 := Lib.hid (hok2 ▸ e3)
        rw [hok2] at hB E1
        have hl16 : (16 : Int) ≤ H.bs.length := by omega
        clear hz hok e3 hwb hok2 hlen
        go_enter Try.func47, Try.ntmps47
        go_wp2_with fail
        refine hB.out.mono ?_
        rintro e w1 ⟨rfl, hb1⟩
        have d1 : w1.cell? ⟨t, 1, none⟩ = _ := (hb1.cell (p := ⟨t, 1, none⟩) ht).trans c1
        have HB1 := Lib.hid hb1
        clear hb1
        go_wp2_with fail
        refine (hW.out _).mono ?_
        rintro e w2 ⟨rfl, rfl⟩
        go_wp2_with fail
        go_ret
        rw [E1.out, E2.out, E3.out]
        exact Mut.none HR.out HB1.out
      · have e3 : takenE name (hasN name (bnames H)) H.bs.length = 16 := by unfold takenE; rw [hwb, hok2, if_pos rfl, if_pos rfl]
        have E3 := Lib.hid (hok2 ▸ e3)
        rw [hok2] at hB E1
        clear hz hok e3 hwb hok2
        go_enter Try.func47, Try.ntmps47
        go_wp2_with fail
        refine hB.out.mono ?_
        rintro e w1 ⟨rfl, hb1⟩
        have HB1 := Lib.hid hb1
        clear hb1
        go_wp2_with fail
        refine (hW.out _).mono ?_
        rintro e w2 ⟨rfl, rfl⟩
        go_wp2_with fail
        go_ret
        rw [E1.out, E2.out, E3.out]
        exact Mut.none HR.out HB1.out

end

end Go.Proofs.Ytalmfmijjbpnpaa
