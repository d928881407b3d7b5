/-
  The walk of Valid of the reference.
-/
import Derived.Test.YtalmfmijjbpnpaaLoZtZuZvZw
import Derived.Test.YtalmfmijjbpnpaaLoZa
import Derived.Deep.CutRange
namespace Go.Proofs.Ytalmfmijjbpnpaa
open Go.RowKit

/-- The name at k comes behind the one ahead of it. -/
def PrevOk (l : List ByteArray) (k : Nat) (nm : ByteArray) : Prop := ∀ k' p, k = k' + 1 → l[k']? = some p → ltN p nm = true
theorem prevOk_zero (l : List ByteArray) (nm : ByteArray) {k : Nat} (hk : k = 0) : PrevOk l k nm := fun k' p h => by omega
theorem prevOk_mk {l : List ByteArray} {k k' : Nat} {p nm : ByteArray} (hk : k = k' + 1) (hp : l[k']? = some p) (h : ltN p nm = true) : PrevOk l k nm := fun k2 q h2 hq => by
  obtain rfl : k2 = k' := by omega
  rw [hp] at hq; cases hq
  exact h
theorem ordN_next {l : List ByteArray} {k : Nat} {nm : ByteArray} (h : OrdN (l.take k)) (hx : l[k]? = some nm) (hw : wordB nm = true) (hp : PrevOk l k nm) : OrdN (l.take (k + 1)) := by
  cases k with
  | zero => exact ordN_step0 hx hw
  | succ k' =>
    have hl := (List.getElem?_eq_some_iff.1 hx).1
    exact ordN_step h (List.getElem?_eq_getElem (by omega)) hx hw (hp k' _ rfl (List.getElem?_eq_getElem (by omega)))
theorem ordN_prev {l : List ByteArray} {k : Nat} {nm : ByteArray} (h : OrdN l) (hx : l[k]? = some nm) : wordB nm = true ∧ PrevOk l k nm :=
  ⟨ordN_word h hx, fun k' p hk hp => by subst hk; exact ordN_lt h hp hx⟩

/-- What a branch must meet by itself and beside the one ahead of it. -/
def LineOk (l : List ByteArray) (k : Nat) (nm : ByteArray) (hd : Int) (n : Nat) : Prop := wordB nm = true ∧ PrevOk l k nm ∧ VerOk n hd

theorem iffT {P : Prop} (h : ¬ P) : (true = true ↔ ¬ P) := ⟨fun _ => h, fun _ => rfl⟩
theorem iffF {P : Prop} (h : P) : (false = true ↔ ¬ P) := ⟨fun e => (by cases e), fun e => absurd h e⟩

section
variable {w : World} {H : Hist} {ml : List (Ln × Value)}

set_option maxRecDepth 100000 in
set_option maxHeartbeats 8000000 in
theorem valid31 {vv bv sv : Value} (h : HAt w vv bv sv H ml) (hn1 : H.vs.length ≤ 100000) (hn2 : ml.length ≤ 100000) (hn3 : H.ss.length ≤ 100000) (hn4 : ∀ x ∈ ml, x.1.rd.length ≤ 100000) (hsz : NmOk H) :
    Calls Try.prog 31 #[.agg #[vv, bv, sv, .string H.cur]] w (BoolP (WF H) w) := by
  obtain ⟨a1, c1, a2, c2, a3, c3, x1, x2, x3, rfl, rfl, rfl, hbox⟩ := boxI_mk h
  obtain ⟨W1, hW1⟩ : ∃ W, W = w.alloc (.cells #[.slice a1 H.vs.length c1, .slice a2 ml.length c2, .slice a3 H.ss.length c3, .string H.cur] 37) := ⟨_, rfl⟩
  rw [← hW1] at hbox
  have HX := Lib.hid hbox
  have HW := Lib.hid hW1
  have HN4 := Lib.hid hn4
  have HSZ := Lib.hid hsz
  have hlen : ml.length = H.bs.length := by rw [hbox.ml, List.length_map]
  have HLEN := Lib.hid hlen
  clear h hbox hW1 hn4 hsz hlen
  by_cases z1 : H.vs.length < 1
  · have z1' : (H.vs.length : Int) < 1 := by omega
    go_enter Try.func31, Try.ntmps31
    go_wp2_with fail
    go_ret
    rw [← HW.out]
    exact boolP_false (fun h => by have := (wf_size h).1.1; omega) HX.out.bel
  have z1' : ¬ (H.vs.length : Int) < 1 := by omega
  by_cases z2 : 1000 < H.vs.length
  · have z2' : (1000 : Int) < H.vs.length := by omega
    go_enter Try.func31, Try.ntmps31
    go_wp2_with fail
    go_ret
    rw [← HW.out]
    exact boolP_false (fun h => by have := (wf_size h).1.2; omega) HX.out.bel
  have z2' : ¬ (1000 : Int) < H.vs.length := by omega
  by_cases z3 : ml.length < 1
  · have z3' : (ml.length : Int) < 1 := by omega
    go_enter Try.func31, Try.ntmps31
    go_wp2_with fail
    go_ret
    rw [← HW.out]
    exact boolP_false (fun h => by have := (wf_size h).2.1.1; have := HLEN.out; omega) HX.out.bel
  have z3' : ¬ (ml.length : Int) < 1 := by omega
  by_cases z4 : 16 < ml.length
  · have z4' : (16 : Int) < ml.length := by omega
    go_enter Try.func31, Try.ntmps31
    go_wp2_with fail
    go_ret
    rw [← HW.out]
    exact boolP_false (fun h => by have := (wf_size h).2.1.2; have := HLEN.out; omega) HX.out.bel
  have z4' : ¬ (16 : Int) < ml.length := by omega
  by_cases z5 : 16 < H.ss.length
  · have z5' : (16 : Int) < H.ss.length := by omega
    go_enter Try.func31, Try.ntmps31
    go_wp2_with fail
    go_ret
    rw [← HW.out]
    exact boolP_false (fun h => by have := (wf_size h).2.2; omega) HX.out.bel
  have z5' : ¬ (16 : Int) < H.ss.length := by omega
  go_enter Try.func31, Try.ntmps31
  go_wp2_with fail
  rw [← HW.out]
  clear HW
  go_loopg [43] H.vs.length (fun g iv wr => ∃ k : Nat, g + k = H.vs.length ∧ iv = .int .i64 k ∧ (∀ i v, i < k → H.vs[i]? = some v → ParOk i v.par) ∧ Below W1.heap.size W1 wr)
  case atStart => exact ⟨0, rfl, rfl, fun i v hi => absurd hi (Nat.not_lt_zero _), Below.refl _ _⟩
  case round =>
    obtain ⟨k, hk, rfl, hp, hb⟩ := hrel
    obtain ⟨g1, g2, g3, g4⟩ := HX.out.cells _ hb
    have hBl := HX.out.blt _ hb
    have HB := Lib.hid hb
    have HP := Lib.hid hp
    have HK := Lib.hid hk
    have hk63 : (k : Int) ≤ 1000 := by omega
    clear hb hp hk
    by_cases hlt : k < H.vs.length
    · have hv : H.vs[k]? = some (H.vs[k]'hlt) := List.getElem?_eq_getElem hlt
      obtain ⟨v, hve⟩ : ∃ v, v = H.vs[k]'hlt := ⟨_, rfl⟩
      rw [← hve] at hv
      obtain ⟨r1, r2⟩ := HX.out.ver _ HB.out k v hv
      obtain rfl := HX.out.e1 (by omega)
      have HV := Lib.hid hv
      have hlt' : (k : Int) < H.vs.length := by omega
      have hk0 : (0 : Int) ≤ k := by omega
      obtain ⟨p, hpe⟩ : ∃ p, p = v.par := ⟨_, rfl⟩
      rw [← hpe] at r1
      have HPE := Lib.hid hpe
      clear hv hve hpe
      have hbad : ∀ w', Below wr.heap.size wr w' → ¬ ParOk k p → BoolP (WF H) w (.returned (.bool false)) w' := fun w' hb' hnp => boolP_false (fun h => hnp (by rw [HPE.out]; exact wf_par h HV.out)) (HX.out.bel.trans ((HB.out.trans (hb'.mono HB.out.size)).mono HX.out.bel.size))
      have HBAD := Lib.hid hbad
      have hgood : ParOk k p → ∀ i v, i < k + 1 → H.vs[i]? = some v → ParOk i v.par := fun hg i u hi hu => by
        by_cases e : i = k
        · subst e
          have := HV.out; rw [hu] at this; cases this
          rw [← HPE.out]; exact hg
        · exact HP.out i u (by omega) hu
      have HGOOD := Lib.hid hgood
      clear hbad hgood
      by_cases hk1 : k = 0
      · have hk2 : ((k : Int) == 0) = true := by simp [hk1]
        have HK1 := Lib.hid hk1
        by_cases hp1 : p = -1
        · have hq1 : ¬ (k : Int) ≤ -1 := by omega
          rw [hp1] at r1
          have HP1 := Lib.hid hp1
          clear hp1 hk1
          go_wp2_with fail
          go_roundg (H.vs.length - (k + 1))
          case measure => have := HK.out; omega
          case rel => exact ⟨k + 1, by omega, by go_num, HGOOD.out (by unfold ParOk; rw [if_pos HK1.out]; exact HP1.out), HB.out.alloc HB.out.size _⟩
        · have HP1 := Lib.hid (show ¬ ParOk k p by unfold ParOk; rw [if_pos hk1]; exact hp1)
          by_cases hp2 : (k : Int) ≤ p
          · clear hp1 hk1
            go_wp2_with fail
            go_ret
            exact HBAD.out _ ((Below.refl _ _).alloc (Nat.le_refl _) _) HP1.out
          · have hp3 : p < -1 := by omega
            clear hp1 hk1
            go_wp2_with fail
            go_ret
            exact HBAD.out _ ((Below.refl _ _).alloc (Nat.le_refl _) _) HP1.out
      · have hk2 : ((k : Int) == 0) = false := by simp [hk1]
        have HK1 := Lib.hid hk1
        by_cases hp2 : (k : Int) ≤ p
        · have HP1 := Lib.hid (show ¬ ParOk k p by unfold ParOk; rw [if_neg hk1]; omega)
          clear hk1
          go_wp2_with fail
          go_ret
          exact HBAD.out _ ((Below.refl _ _).alloc (Nat.le_refl _) _) HP1.out
        · by_cases hp3 : p < -1
          · have HP1 := Lib.hid (show ¬ ParOk k p by unfold ParOk; rw [if_neg hk1]; omega)
            clear hk1
            go_wp2_with fail
            go_ret
            exact HBAD.out _ ((Below.refl _ _).alloc (Nat.le_refl _) _) HP1.out
          · by_cases hp4 : p = -1
            · have HP1 := Lib.hid (show ¬ ParOk k p by unfold ParOk; rw [if_neg hk1]; omega)
              rw [hp4] at r1
              have hq1 : ¬ (k : Int) ≤ -1 := by omega
              clear hk1 hp4
              go_wp2_with fail
              go_ret
              exact HBAD.out _ ((Below.refl _ _).alloc (Nat.le_refl _) _) HP1.out
            · have hp5 : (p == -1) = false := by simp [hp4]
              have HP1 := Lib.hid (show ParOk k p by unfold ParOk; rw [if_neg hk1]; omega)
              clear hk1 hp4
              go_wp2_with fail
              go_roundg (H.vs.length - (k + 1))
              case measure => have := HK.out; omega
              case rel => exact ⟨k + 1, by omega, by go_num, HGOOD.out HP1.out, HB.out.alloc HB.out.size _⟩
    · have hlt' : ¬ (k : Int) < H.vs.length := by omega
      have HPAR := Lib.hid (show ∀ i v, H.vs[i]? = some v → ParOk i v.par from fun i v hv => HP.out i v (by have := (List.getElem?_eq_some_iff.1 hv).1; omega) hv)
      clear HP HK
      go_wp2_with fail
      go_loopg [6, 69] ml.length (fun g cv iv wq => ∃ (k : Nat) (b : Bool), g + k = ml.length ∧ iv = .int .i64 k ∧ cv = .bool b ∧ CurI H.cur ml k b ∧ LeadI H.vs ml k ∧ OrdN ((bnames H).take k) ∧ Below W1.heap.size W1 wq)
      case atStart => exact ⟨0, false, rfl, rfl, rfl, curI_zero _ _, leadI_zero _ _, ordN_nil, HB.out⟩
      case round =>
        obtain ⟨k, b, hk, rfl, rfl, hcb, hld, hod, hb⟩ := hrel
        obtain ⟨g1, g2, g3, g4⟩ := HX.out.cells _ hb
        have hBl := HX.out.blt _ hb
        have HB2 := Lib.hid hb
        have HCB := Lib.hid hcb
        have HLD := Lib.hid hld
        have HOD := Lib.hid hod
        have HK := Lib.hid hk
        have hk63 : (k : Int) ≤ 1000 := by omega
        clear hb hcb hld hod hk HB
        by_cases hlt : k < ml.length
        · have hx : ml[k]? = some (ml[k]'hlt) := List.getElem?_eq_getElem hlt
          obtain ⟨x, hxe⟩ : ∃ x, x = ml[k]'hlt := ⟨_, rfl⟩
          rw [← hxe] at hx
          obtain ⟨r1, r2, r3⟩ := HX.out.line _ HB2.out k x hx
          obtain rfl := HX.out.e2 (by omega)
          have hrd := HX.out.rd _ HB2.out x (List.mem_of_getElem? hx)
          have hrn := HN4.out x (List.mem_of_getElem? hx)
          obtain ⟨⟨nm, hd, rd⟩, rv⟩ := x
          dsimp only at r1 r2 r3 hrd hrn
          obtain ⟨ar, cr, xr, rfl, har, hcr⟩ := hrd.form
          have hbn : (bnames H)[k]? = some nm := by unfold bnames; rw [HX.out.ml, List.getElem?_map, List.getElem?_map, hx]; rfl
          have HXX := Lib.hid hx
          have HBN := Lib.hid hbn
          have HAR := Lib.hid har
          have HCR := Lib.hid hcr
          have hlt' : (k : Int) < ml.length := by omega
          have hk0 : (0 : Int) ≤ k := by omega
          have hmem : (⟨nm, hd, rd⟩ : Ln) ∈ H.bs := by rw [HX.out.ml]; exact List.mem_map.2 ⟨_, List.mem_of_getElem? hx, rfl⟩
          have HMEM := Lib.hid hmem
          have hnmz := HSZ.out.1 _ hmem
          dsimp only at hnmz
          have HWD := Lib.hid (fun w' => word62 nm hnmz w')
          clear hx hxe hrd hbn har hcr hmem hnmz
          go_upto_region 14 with fail
          go_cut [69, 104] from 69 to 157 (fun iv bv wx => iv = .int .i64 k ∧ ∃ (bb : Bool) (n : Nat), bv = .bool bb ∧ (bb = true ↔ ¬ LineOk (bnames H) k nm hd H.vs.length) ∧ wx = (wr.alloc (.cells #[.string nm, .int .i64 hd, .slice ar rd.length cr] 65)).drewN n)
          case first =>
            cases hwx : wordB nm
            · rw [hwx] at HWD
              have HWX := Lib.hid hwx
              clear hwx
              go_quiet ((go_at_call 62; exact Calls.quiet_of_same ((HWD.out _).mono (fun _ _ h => ⟨h.1, h.2.symm⟩))))
              go_wp2_with fail
              go_meet
              case rel => exact ⟨rfl, true, nq, rfl, iffT (fun h => by have := h.1; rw [HWX.out] at this; cases this), rfl⟩
            · rw [hwx] at HWD
              have HWX := Lib.hid hwx
              clear hwx
              by_cases hkz : k = 0
              · have hkp : decide (0 < k) = false := by simp [hkz]
                have hkp2 : decide ((0 : Int) < (k : Int)) = false := by simp [hkz]
                have HKZ := Lib.hid hkz
                clear hkz
                by_cases h1 : hd < 0
                · go_quiet ((go_at_call 62; exact Calls.quiet_of_same ((HWD.out _).mono (fun _ _ h => ⟨h.1, h.2.symm⟩))))
                  go_wp2_with fail
                  go_meet
                  case rel => exact ⟨rfl, true, nq, rfl, iffT (fun h => by have := h.2.2.1; omega), rfl⟩
                by_cases h2 : (H.vs.length : Int) ≤ hd
                · go_quiet ((go_at_call 62; exact Calls.quiet_of_same ((HWD.out _).mono (fun _ _ h => ⟨h.1, h.2.symm⟩))))
                  go_wp2_with fail
                  go_meet
                  case rel => exact ⟨rfl, true, nq, rfl, iffT (fun h => by have := h.2.2.2; omega), rfl⟩
                go_quiet ((go_at_call 62; exact Calls.quiet_of_same ((HWD.out _).mono (fun _ _ h => ⟨h.1, h.2.symm⟩))))
                go_wp2_with fail
                go_meet
                case rel => exact ⟨rfl, false, nq, rfl, iffF ⟨HWX.out, prevOk_zero _ _ HKZ.out, by omega, by omega⟩, rfl⟩
              · have hkp : (0 : Int) < k := by omega
                have hkp2 : 0 < k := by omega
                have hkp3 : decide (0 < k) = true := by simp; omega
                obtain ⟨k', hk'⟩ : ∃ k' : Nat, k = k' + 1 := ⟨k - 1, by omega⟩
                have hk'l : k' < ml.length := by omega
                have hk'l' : (k' : Int) < ml.length := by omega
                have hk'0 : (0 : Int) ≤ k' := by omega
                have hpx : ml[k']? = some (ml[k']'hk'l) := List.getElem?_eq_getElem hk'l
                obtain ⟨px, hpxe⟩ : ∃ px, px = ml[k']'hk'l := ⟨_, rfl⟩
                rw [← hpxe] at hpx
                have t1 := (HX.out.line _ HB2.out k' px hpx).1
                obtain ⟨pn, hpn⟩ : ∃ pn, pn = px.1.nm := ⟨_, rfl⟩
                rw [← hpn] at t1
                have hpb : (bnames H)[k']? = some pn := by unfold bnames; rw [HX.out.ml, List.getElem?_map, List.getElem?_map, hpx, hpn]; rfl
                have HPB := Lib.hid hpb
                have HK' := Lib.hid hk'
                have z6 : (x2.add (k' * 3)).block < wr.heap.size := World.block_lt_of_cell? wr _ t1
                have hwr : IntKind.i64.wrap ((k : Int) - 1) = (k' : Int) := by rw [IntWalk.i64_in _ (by omega)]; omega
                clear hkz hpx hpxe hpn hpb hk'
                cases hl : ltN pn nm
                · have hl' : Op.bytesLess pn.toList nm.toList = false := hl
                  have HL := Lib.hid hl
                  clear hl
                  go_quiet ((go_at_call 62; exact Calls.quiet_of_same ((HWD.out _).mono (fun _ _ h => ⟨h.1, h.2.symm⟩))))
                  go_wp2_with fail
                  go_meet
                  case rel => exact ⟨rfl, true, nq, rfl, iffT (fun h => by have := h.2.1 k' pn HK'.out HPB.out; rw [HL.out] at this; cases this), rfl⟩
                · have hl' : Op.bytesLess pn.toList nm.toList = true := hl
                  have HL := Lib.hid hl
                  clear hl
                  by_cases h1 : hd < 0
                  · go_quiet ((go_at_call 62; exact Calls.quiet_of_same ((HWD.out _).mono (fun _ _ h => ⟨h.1, h.2.symm⟩))))
                    go_wp2_with fail
                    go_meet
                    case rel => exact ⟨rfl, true, nq, rfl, iffT (fun h => by have := h.2.2.1; omega), rfl⟩
                  by_cases h2 : (H.vs.length : Int) ≤ hd
                  · go_quiet ((go_at_call 62; exact Calls.quiet_of_same ((HWD.out _).mono (fun _ _ h => ⟨h.1, h.2.symm⟩))))
                    go_wp2_with fail
                    go_meet
                    case rel => exact ⟨rfl, true, nq, rfl, iffT (fun h => by have := h.2.2.2; omega), rfl⟩
                  go_quiet ((go_at_call 62; exact Calls.quiet_of_same ((HWD.out _).mono (fun _ _ h => ⟨h.1, h.2.symm⟩))))
                  go_wp2_with fail
                  go_meet
                  case rel => exact ⟨rfl, false, nq, rfl, iffF ⟨HWX.out, prevOk_mk HK'.out HPB.out HL.out, by omega, by omega⟩, rfl⟩
          case rest =>
            obtain ⟨rfl, bb, nq, rfl, hbb, hwc⟩ := hcut
            have hB8 : Below W1.heap.size W1 wc := by rw [hwc]; exact below_drewN' (HB2.out.alloc HB2.out.size _) nq
            have hb08 : Below wr.heap.size wr wc := by rw [hwc]; exact below_drewN' ((Below.refl _ _).alloc (Nat.le_refl _) _) nq
            have hcr2 : ∀ w', Below wc.heap.size wc w' → ∀ (j : Nat) (u : Value), (intCells rd)[j]? = some u → w'.cell? (xr.add j) = some u := fun w' hb j u hu => ((hb08.trans (hb.mono hb08.size)).cell (HCR.out j u hu).1).trans (HCR.out j u hu).2
            have HCR2 := Lib.hid hcr2
            have hbx : wc.heap[wr.heap.size]? = some (.cells #[.string nm, .int .i64 hd, .slice ar rd.length cr] 65 (0, 0)) := by rw [hwc]; exact heap_alloc_new wr _
            have h8l : wr.heap.size < wc.heap.size := (Array.getElem?_eq_some_iff.1 hbx).1
            obtain ⟨B8, hB8e⟩ : ∃ B8, B8 = wr.heap.size := ⟨_, rfl⟩
            rw [← hB8e] at hbx h8l ⊢
            have hY : ∀ w', Below wc.heap.size wc w' → w'.cell? ⟨B8, 0, none⟩ = some (.string nm) ∧ w'.cell? ⟨B8, 1, none⟩ = some (.int .i64 hd) ∧ w'.cell? ⟨B8, 2, none⟩ = some (.slice ar rd.length cr) := fun w' hb => by
              have hk := (hb.block B8 h8l).trans hbx
              exact ⟨(cell_of_blk hk 0).trans rfl, (cell_of_blk hk 1).trans rfl, (cell_of_blk hk 2).trans rfl⟩
            have HY := Lib.hid hY
            have HB8 := Lib.hid hB8
            have HBB := Lib.hid hbb
            have HNQ := Lib.hid hB8e
            obtain ⟨y0, y1, y2⟩ := hY wc (Below.refl _ _)
            clear hwc hY hB8 hbx hbb hb08 hcr2 HCR g1 g2 g3 g4 r1 r2 r3 hBl h8l hB8e
            cases bb
            · have hgood : LineOk (bnames H) k nm hd H.vs.length := Classical.byContradiction (fun h => by have := HBB.out.2 h; cases this)
              have HG := Lib.hid hgood
              have HOD2 := Lib.hid (ordN_next HOD.out HBN.out hgood.1 hgood.2.1)
              clear hgood
              go_wp2_with fail
              go_loopg [9, 10] (rd.length + 1) (fun g atv iv wq => ∃ (k2 : Nat) (a iz : Int), g = k2 + 1 ∧ k2 ≤ rd.length ∧ iz = (k2 : Int) - 1 ∧ atv = .int .i64 a ∧ iv = .int .i64 iz ∧ (leadsR H.vs hd rd.reverse ↔ leadsR H.vs a (rd.take k2).reverse) ∧ Below wc.heap.size wc wq)
              case atStart => exact ⟨rd.length, hd, _, rfl, Nat.le_refl _, rfl, rfl, rfl, by rw [List.take_length], Below.refl _ _⟩
              case round =>
                obtain ⟨k2, a, iz, hg, hk2, hiz, rfl, rfl, hch, hb⟩ := hrel
                obtain ⟨y0, y1, y2⟩ := HY.out _ hb
                have HB9 := Lib.hid (HB8.out.trans (hb.mono HB8.out.size))
                have HB9' := Lib.hid hb
                obtain ⟨g1, g2, g3, g4⟩ := HX.out.cells _ HB9.out
                have HCH := Lib.hid hch
                have HGK := Lib.hid hg
                clear hb hch hg
                cases k2 with
                | zero =>
                  obtain rfl : iz = -1 := by omega
                  have HLD2 := Lib.hid (leadI_step HLD.out HXX.out ⟨HG.out.2.2, HCH.out.2 (by simp [leadsR])⟩)
                  clear hiz
                  cases b
                  · by_cases hnc : nm = H.cur
                    · have hne : (nm.toList == H.cur.toList) = true := by rw [hnc]; simp
                      have HNC := Lib.hid hnc
                      clear hnc
                      go_wp2_with fail
                      go_roundg (ml.length - (k + 1))
                      case measure => have := HK.out; omega
                      case rel => exact ⟨k + 1, true, by omega, by go_num, rfl, curI_yes HXX.out HNC.out, HLD2.out, HOD2.out, HB9.out⟩
                    · have hne : (nm.toList == H.cur.toList) = false := by rw [beq_eq_false_iff_ne]; exact fun e => hnc (ba_ext e)
                      have HNC := Lib.hid hnc
                      clear hnc
                      go_wp2_with fail
                      go_roundg (ml.length - (k + 1))
                      case measure => have := HK.out; omega
                      case rel => exact ⟨k + 1, false, by omega, by go_num, rfl, curI_no HCB.out HXX.out HNC.out, HLD2.out, HOD2.out, HB9.out⟩
                  · go_wp2_with fail
                    go_roundg (ml.length - (k + 1))
                    case measure => have := HK.out; omega
                    case rel => exact ⟨k + 1, true, by omega, by go_num, rfl, curI_keep HCB.out, HLD2.out, HOD2.out, HB9.out⟩
                | succ k3 =>
                  obtain rfl : iz = (k3 : Int) := by omega
                  have hlt3 : k3 < rd.length := by omega
                  obtain rfl := HAR.out (by omega)
                  have hx3 : rd[k3]? = some (rd[k3]'hlt3) := List.getElem?_eq_getElem hlt3
                  obtain ⟨r, hr⟩ : ∃ r, r = rd[k3]'hlt3 := ⟨_, rfl⟩
                  rw [← hr] at hx3
                  have q1 := HCR2.out _ HB9'.out _ _ (intCells_get hx3)
                  have hch := HCH.out
                  rw [take_rev hx3] at hch
                  have HCH2 := Lib.hid (show WF H → leadsR H.vs a (r :: (rd.take k3).reverse) from fun h => hch.1 (wf_lead h HMEM.out).2)
                  have HCH3 := Lib.hid hch
                  have hlt3' : (k3 : Int) < rd.length := by omega
                  have hk30 : (0 : Int) ≤ k3 := by omega
                  clear hch hx3 hr hiz
                  by_cases hr0 : r < 0
                  · go_wp2_with fail
                    go_quiet (fail)
                    go_wp2_with fail
                    go_ret
                    exact boolP_false (fun h => by have := (HCH2.out h).1; omega) (HX.out.bel.trans ((below_drewN' HB9.out _).mono HX.out.bel.size))
                  · have hr0d : decide (r < 0) = false := by simp; omega
                    by_cases hr1 : (H.vs.length : Int) ≤ r
                    · have hr1d : decide ((H.vs.length : Int) ≤ r) = true := by simpa using hr1
                      go_wp2_with fail
                      go_quiet (fail)
                      go_wp2_with fail
                      go_ret
                      exact boolP_false (fun h => by have := (HCH2.out h).2.1; omega) (HX.out.bel.trans ((below_drewN' HB9.out _).mono HX.out.bel.size))
                    · obtain ⟨rn, hrn⟩ : ∃ rn : Nat, r = rn := ⟨r.toNat, by omega⟩
                      subst hrn
                      have hrl : rn < H.vs.length := by omega
                      obtain rfl := HX.out.e1 (by omega)
                      have hvx : H.vs[rn]? = some (H.vs[rn]'hrl) := List.getElem?_eq_getElem hrl
                      have q2 := (HX.out.ver _ HB9.out rn _ hvx).1
                      have hpe : (H.vs[rn]'hrl).par = (H.vs.getD rn default).par := by rw [List.getD_eq_getElem?_getD, List.getElem?_eq_getElem hrl]; rfl
                      rw [hpe] at q2
                      obtain ⟨p, hp⟩ : ∃ p, p = (H.vs.getD rn default).par := ⟨_, rfl⟩
                      rw [← hp] at q2
                      have HP := Lib.hid hp
                      have hrA : (rn : Int) < H.vs.length := by omega
                      have hrB : (0 : Int) ≤ rn := by omega
                      have hrC : decide (H.vs.length ≤ rn) = false := by simp; omega
                      have hrD : decide ((H.vs.length : Int) ≤ (rn : Int)) = false := by simp; omega
                      clear hvx hpe hp
                      by_cases hpa : p = a
                      · have hpb : (p != a) = false := by simp [hpa]
                        have hpc : (p == a) = true := by simp [hpa]
                        have HPA := Lib.hid hpa
                        clear hpa
                        go_wp2_with fail
                        go_quiet (fail)
                        go_wp2_with fail
                        go_roundg (k3 + 1)
                        case measure => have := HGK.out; omega
                        case rel => exact ⟨k3, (rn : Int), (k3 : Int) - 1, rfl, by omega, rfl, rfl, by go_num, HCH3.out.trans ⟨fun h => h.2.2.2, fun h => ⟨hrB, hrA, by show (H.vs.getD rn default).par = a; rw [← HP.out]; exact HPA.out, h⟩⟩, below_drewN' HB9'.out _⟩
                      · have hpb : (p != a) = true := by simp [hpa]
                        have hpc : (p == a) = false := by simp [hpa]
                        have HPA := Lib.hid hpa
                        clear hpa
                        go_wp2_with fail
                        go_quiet (fail)
                        go_wp2_with fail
                        go_ret
                        exact boolP_false (fun h => HPA.out (by rw [HP.out]; exact (HCH2.out h).2.2.1)) (HX.out.bel.trans ((below_drewN' HB9.out _).mono HX.out.bel.size))
            · go_wp2_with fail
              go_ret
              exact boolP_false (fun h => HBB.out.1 (by simp) ⟨(ordN_prev (wf_bn h) HBN.out).1, (ordN_prev (wf_bn h) HBN.out).2, h.hd _ HMEM.out⟩) (HX.out.bel.trans (HB8.out.mono HX.out.bel.size))
        · have hlt' : ¬ (k : Int) < ml.length := by omega
          have HCUR := Lib.hid (curI_end HCB.out HX.out.ml (by omega))
          have HLEAD := Lib.hid (leadI_end HLD.out HX.out.ml (by omega))
          have HBNS := Lib.hid (show OrdN (bnames H) by
            have := HOD.out
            rwa [List.take_of_length_le (by have := HLEN.out; simp [bnames]; omega)] at this)
          clear HCB HLD HK HOD
          go_wp2_with fail
          go_loopg [161] H.ss.length (fun g iv wq => ∃ k : Nat, g + k = H.ss.length ∧ iv = .int .i64 k ∧ LabI H k ∧ OrdN ((snames H).take k) ∧ Below W1.heap.size W1 wq)
          case atStart => exact ⟨0, rfl, rfl, labI_zero H, ordN_nil, HB2.out⟩
          case round =>
            obtain ⟨k, hk, rfl, hlb, hod, hb⟩ := hrel
            obtain ⟨g1, g2, g3, g4⟩ := HX.out.cells _ hb
            have hBl := HX.out.blt _ hb
            have HB4 := Lib.hid hb
            have HLB := Lib.hid hlb
            have HOD := Lib.hid hod
            have HK := Lib.hid hk
            have hk63 : (k : Int) ≤ 1000 := by omega
            clear hb hlb hk hod HB2
            by_cases hlt : k < H.ss.length
            · have hs : H.ss[k]? = some (H.ss[k]'hlt) := List.getElem?_eq_getElem hlt
              obtain ⟨s, hse⟩ : ∃ s, s = H.ss[k]'hlt := ⟨_, rfl⟩
              rw [← hse] at hs
              obtain ⟨r1, r2⟩ := HX.out.label _ HB4.out k s hs
              obtain rfl := HX.out.e3 (by omega)
              obtain ⟨nm, sv⟩ := s
              dsimp only at r1 r2
              have hbn : (snames H)[k]? = some nm := by unfold snames; rw [List.getElem?_map, hs]; rfl
              have hmem : (⟨nm, sv⟩ : Lb) ∈ H.ss := List.mem_of_getElem? hs
              have HS := Lib.hid hs
              have HBN := Lib.hid hbn
              have HMEM := Lib.hid hmem
              have hlt' : (k : Int) < H.ss.length := by omega
              have hk0 : (0 : Int) ≤ k := by omega
              have hnmz := HSZ.out.2 _ hmem
              dsimp only at hnmz
              have HWD := Lib.hid (fun w' => word62 nm hnmz w')
              clear hs hse hbn hmem hnmz
              go_upto_region 28 with fail
              go_cut [161, 196] from 161 to 197 (fun iv bv wx => iv = .int .i64 k ∧ ∃ (bb : Bool) (n : Nat), bv = .bool bb ∧ (bb = true ↔ ¬ LineOk (snames H) k nm sv H.vs.length) ∧ wx = (wr.alloc (.cells #[.string nm, .int .i64 sv] 78)).drewN n)
              case first =>
                cases hwx : wordB nm
                · rw [hwx] at HWD
                  have HWX := Lib.hid hwx
                  clear hwx
                  go_quiet ((go_at_call 62; exact Calls.quiet_of_same ((HWD.out _).mono (fun _ _ h => ⟨h.1, h.2.symm⟩))))
                  go_wp2_with fail
                  go_meet
                  case rel => exact ⟨rfl, true, nq, rfl, iffT (fun h => by have := h.1; rw [HWX.out] at this; cases this), rfl⟩
                · rw [hwx] at HWD
                  have HWX := Lib.hid hwx
                  clear hwx
                  by_cases hkz : k = 0
                  · have hkp : decide (0 < k) = false := by simp [hkz]
                    have hkp2 : decide ((0 : Int) < (k : Int)) = false := by simp [hkz]
                    have HKZ := Lib.hid hkz
                    clear hkz
                    by_cases h1 : sv < 0
                    · go_quiet ((go_at_call 62; exact Calls.quiet_of_same ((HWD.out _).mono (fun _ _ h => ⟨h.1, h.2.symm⟩))))
                      go_wp2_with fail
                      go_meet
                      case rel => exact ⟨rfl, true, nq, rfl, iffT (fun h => by have := h.2.2.1; omega), rfl⟩
                    by_cases h2 : (H.vs.length : Int) ≤ sv
                    · go_quiet ((go_at_call 62; exact Calls.quiet_of_same ((HWD.out _).mono (fun _ _ h => ⟨h.1, h.2.symm⟩))))
                      go_wp2_with fail
                      go_meet
                      case rel => exact ⟨rfl, true, nq, rfl, iffT (fun h => by have := h.2.2.2; omega), rfl⟩
                    go_quiet ((go_at_call 62; exact Calls.quiet_of_same ((HWD.out _).mono (fun _ _ h => ⟨h.1, h.2.symm⟩))))
                    go_wp2_with fail
                    go_meet
                    case rel => exact ⟨rfl, false, nq, rfl, iffF ⟨HWX.out, prevOk_zero _ _ HKZ.out, by omega, by omega⟩, rfl⟩
                  · have hkp : (0 : Int) < k := by omega
                    have hkp2 : 0 < k := by omega
                    have hkp3 : decide (0 < k) = true := by simp; omega
                    obtain ⟨k', hk'⟩ : ∃ k' : Nat, k = k' + 1 := ⟨k - 1, by omega⟩
                    have hk'l : k' < H.ss.length := by omega
                    have hk'l' : (k' : Int) < H.ss.length := by omega
                    have hk'0 : (0 : Int) ≤ k' := by omega
                    have hpx : H.ss[k']? = some (H.ss[k']'hk'l) := List.getElem?_eq_getElem hk'l
                    obtain ⟨px, hpxe⟩ : ∃ px, px = H.ss[k']'hk'l := ⟨_, rfl⟩
                    rw [← hpxe] at hpx
                    have t1 := (HX.out.label _ HB4.out k' px hpx).1
                    obtain ⟨pn, hpn⟩ : ∃ pn, pn = px.nm := ⟨_, rfl⟩
                    rw [← hpn] at t1
                    have hpb : (snames H)[k']? = some pn := by unfold snames; rw [List.getElem?_map, hpx, hpn]; rfl
                    have HPB := Lib.hid hpb
                    have HK' := Lib.hid hk'
                    have z6 : (x3.add (k' * 2)).block < wr.heap.size := World.block_lt_of_cell? wr _ t1
                    have hwr : IntKind.i64.wrap ((k : Int) - 1) = (k' : Int) := by rw [IntWalk.i64_in _ (by omega)]; omega
                    clear hkz hpx hpxe hpn hpb hk'
                    cases hl : ltN pn nm
                    · have hl' : Op.bytesLess pn.toList nm.toList = false := hl
                      have HL := Lib.hid hl
                      clear hl
                      go_quiet ((go_at_call 62; exact Calls.quiet_of_same ((HWD.out _).mono (fun _ _ h => ⟨h.1, h.2.symm⟩))))
                      go_wp2_with fail
                      go_meet
                      case rel => exact ⟨rfl, true, nq, rfl, iffT (fun h => by have := h.2.1 k' pn HK'.out HPB.out; rw [HL.out] at this; cases this), rfl⟩
                    · have hl' : Op.bytesLess pn.toList nm.toList = true := hl
                      have HL := Lib.hid hl
                      clear hl
                      by_cases h1 : sv < 0
                      · go_quiet ((go_at_call 62; exact Calls.quiet_of_same ((HWD.out _).mono (fun _ _ h => ⟨h.1, h.2.symm⟩))))
                        go_wp2_with fail
                        go_meet
                        case rel => exact ⟨rfl, true, nq, rfl, iffT (fun h => by have := h.2.2.1; omega), rfl⟩
                      by_cases h2 : (H.vs.length : Int) ≤ sv
                      · go_quiet ((go_at_call 62; exact Calls.quiet_of_same ((HWD.out _).mono (fun _ _ h => ⟨h.1, h.2.symm⟩))))
                        go_wp2_with fail
                        go_meet
                        case rel => exact ⟨rfl, true, nq, rfl, iffT (fun h => by have := h.2.2.2; omega), rfl⟩
                      go_quiet ((go_at_call 62; exact Calls.quiet_of_same ((HWD.out _).mono (fun _ _ h => ⟨h.1, h.2.symm⟩))))
                      go_wp2_with fail
                      go_meet
                      case rel => exact ⟨rfl, false, nq, rfl, iffF ⟨HWX.out, prevOk_mk HK'.out HPB.out HL.out, by omega, by omega⟩, rfl⟩
              case rest =>
                obtain ⟨rfl, bb, nq, rfl, hbb, hwc⟩ := hcut
                have hB8 : Below W1.heap.size W1 wc := by rw [hwc]; exact below_drewN' (HB4.out.alloc HB4.out.size _) nq
                have HB8 := Lib.hid hB8
                have HBB := Lib.hid hbb
                clear hwc hB8 hbb g1 g2 g3 g4 r1 r2 hBl
                cases bb
                · have hgood : LineOk (snames H) k nm sv H.vs.length := Classical.byContradiction (fun h => by have := HBB.out.2 h; cases this)
                  have HOD2 := Lib.hid (ordN_next HOD.out HBN.out hgood.1 hgood.2.1)
                  have HLB2 := Lib.hid (labI_step HLB.out HS.out hgood.2.2)
                  clear hgood
                  go_wp2_with fail
                  go_roundg (H.ss.length - (k + 1))
                  case measure => have := HK.out; omega
                  case rel => exact ⟨k + 1, by omega, by go_num, HLB2.out, HOD2.out, HB8.out⟩
                · go_wp2_with fail
                  go_ret
                  exact boolP_false (fun h => HBB.out.1 (by simp) ⟨(ordN_prev (wf_sn h) HBN.out).1, (ordN_prev (wf_sn h) HBN.out).2, h.sv _ HMEM.out⟩) (HX.out.bel.trans (HB8.out.mono HX.out.bel.size))
            · have hlt' : ¬ (k : Int) < H.ss.length := by omega
              have HLAB := Lib.hid (labI_end HLB.out (by omega))
              have HSNS := Lib.hid (show OrdN (snames H) by
                have := HOD.out
                rwa [List.take_of_length_le (by simp [snames]; omega)] at this)
              have HSZE := Lib.hid (show SizeOk H from ⟨⟨by omega, by omega⟩, ⟨by have := HLEN.out; omega, by have := HLEN.out; omega⟩, by omega⟩)
              clear HLB HK HOD
              go_wp2_with fail
              go_ret
              exact ⟨b, rfl, ⟨fun hb1 => wf_of HSZE.out HPAR.out HLEAD.out HLAB.out (HCUR.out.1 hb1) HBNS.out HSNS.out, fun h => HCUR.out.2 (wf_cur h)⟩, HX.out.bel.trans (HB4.out.mono HX.out.bel.size)⟩

end

end Go.Proofs.Ytalmfmijjbpnpaa
