/-
  Walks of branch and snapshot of the reference.
-/
import Derived.Test.YtalmfmijjbpnpaaLoZa
import Derived.Test.YtalmfmijjbpnpaaLoDEF
namespace Go.Proofs.Ytalmfmijjbpnpaa
open Go.RowKit

section
variable {w : World} {t : Nat} {H : Hist} {m : View}

set_option maxRecDepth 100000 in
set_option maxHeartbeats 1000000 in
theorem refBranch79 (h : Rep w 56 t H m) (hn : H.bs.length ≤ 1000) (name : ByteArray) :
    Calls Try.prog 79 #[.pointer (some ⟨t, 0, none⟩), .string name] w (Quiet (.tuple #[.int .i64 (rank name (bnames H)), .bool (hasN name (bnames H))]) w) := by
  obtain ⟨a, g, cap, hbv, ha, hg, hcap, hcm, hcell⟩ := own_addr h.bs
  have hml := h.ml
  have hlen : m.ml.length = H.bs.length := by rw [hml, List.length_map]
  have hnmk : ∀ k, k < m.ml.length → ∃ x, m.ml[k]? = some x ∧ x.1.nm = (bnames H).getD k ByteArray.empty := fun k hk => by
    refine ⟨m.ml[k], List.getElem?_eq_getElem hk, ?_⟩
    unfold bnames
    rw [hml, List.getD_eq_getElem?_getD, List.map_map, List.getElem?_map, List.getElem?_eq_getElem hk]; rfl
  have hblen : (bnames H).length = m.ml.length := by rw [hlen]; simp [bnames]
  have hn' : m.ml.length ≤ 1000 := by omega
  clear hml hlen hn
  have c1 : w.cell? ⟨t, 1, none⟩ = some (.slice a m.ml.length cap) := by rw [cell_of_blk h.blk, ← hbv]; rfl
  have hnm : ∀ k, k < m.ml.length → w.cell? ⟨g, k * 3, none⟩ = some (.string ((bnames H).getD k ByteArray.empty)) := fun k hk => by
    obtain ⟨x, hx, hxn⟩ := hnmk k hk
    rw [hcell _ _ (lnCells_get _ _ _ hx).1, hxn]
  have HNM := Lib.hid hnm
  have HBL := Lib.hid hblen
  have HA := Lib.hid ha
  clear hnmk hnm hblen hcell hbv hg ha
  clear h
  go_enter Try.func79, Try.ntmps79
  go_wp2_with fail
  go_loop [6] (fun i => ∃ k : Nat, k ≤ m.ml.length ∧ i = .int .i64 k ∧ ∀ j, j < k → ltN ((bnames H).getD j ByteArray.empty) name = true) (fun i => m.ml.length - (intOf i).toNat)
  case atStart => exact ⟨0, Nat.zero_le _, rfl, fun j h => absurd h (Nat.not_lt_zero _)⟩
  case round =>
    obtain ⟨k, hk, rfl, hall⟩ := hrel
    have HL := Lib.hid hall
    clear hall
    by_cases hlt : k < m.ml.length
    · obtain rfl := HA.out (by omega)
      have hlt' : (k : Int) < m.ml.length := by omega
      have hk0 : (0 : Int) ≤ k := by omega
      have hcn := HNM.out k hlt
      obtain ⟨nm, hnm⟩ : ∃ nm, nm = (bnames H).getD k ByteArray.empty := ⟨_, rfl⟩
      rw [← hnm] at hcn
      have HN := Lib.hid hnm
      clear hnm
      cases hc : ltN nm name
      · have hc' : Op.bytesLess nm.toList name.toList = false := hc
        have hfin : ∀ k', k ≤ k' → True := fun _ _ => trivial
        clear hfin
        by_cases he : nm = name
        · have hres : rank name (bnames H) = k ∧ hasN name (bnames H) = true := by
            have h1 : (bnames H)[k]? = some name := by
              have hl : k < (bnames H).length := by rw [HBL.out]; exact hlt
              have := HN.out
              rw [List.getD_eq_getElem?_getD, List.getElem?_eq_getElem hl] at this
              rw [List.getElem?_eq_getElem hl, ← he, this]; rfl
            have hr : k = rank name (bnames H) := by
              refine rank_unique name _ k (by rw [HBL.out]; exact hk) (fun j a hj ha => ?_) (fun a ha => ?_)
              · have := HL.out j hj
                rw [List.getD_eq_getElem?_getD, ha] at this
                exact this
              · rw [h1] at ha
                cases ha
                exact ltN_irrefl _
            refine ⟨hr.symm, ?_⟩
            unfold hasN
            rw [← hr, h1]
            exact decide_eq_true rfl
          have HF := Lib.hid hres
          clear hres hc
          subst he
          go_wp2_with fail
          go_region
          all_goals
            go_wp2_with fail
            go_ret2
            refine ⟨?_, (Below.refl _ _).drew⟩
            rw [HF.out.1, HF.out.2]; rfl
        · have hres : rank name (bnames H) = k ∧ hasN name (bnames H) = false := by
            have hl : k < (bnames H).length := by rw [HBL.out]; exact hlt
            have h1 : (bnames H)[k]? = some nm := by
              have := HN.out
              rw [List.getD_eq_getElem?_getD, List.getElem?_eq_getElem hl] at this
              rw [List.getElem?_eq_getElem hl, this]; rfl
            have hr : k = rank name (bnames H) := by
              refine rank_unique name _ k (by rw [HBL.out]; exact hk) (fun j a hj ha => ?_) (fun a ha => ?_)
              · have := HL.out j hj
                rw [List.getD_eq_getElem?_getD, ha] at this
                exact this
              · rw [h1] at ha
                cases ha
                exact hc
            refine ⟨hr.symm, ?_⟩
            unfold hasN
            rw [← hr, h1]
            exact decide_eq_false (by simpa using he)
          have HF := Lib.hid hres
          have hbe : (nm.toList == name.toList) = false := by rw [beq_eq_false_iff_ne]; exact fun e => he (ba_ext e)
          clear hres hc
          go_wp2_with fail
          go_region
          all_goals
            go_wp2_with fail
            go_ret2
            refine ⟨?_, (Below.refl _ _).drew⟩
            rw [HF.out.1, HF.out.2]; rfl
      · have hc' : Op.bytesLess nm.toList name.toList = true := hc
        have hst : ∀ j, j < k + 1 → ltN ((bnames H).getD j ByteArray.empty) name = true := fun j hj => by
          by_cases e : j = k
          · rw [e, ← HN.out]; exact hc
          · exact HL.out j (by omega)
        have HS := Lib.hid hst
        clear hst hc
        go_wp2_with fail
        go_round
        case rel => exact ⟨k + 1, by omega, by go_num, HS.out⟩
        case measure => simp [intOf]; omega
    · obtain rfl : k = m.ml.length := by omega
      have hres : rank name (bnames H) = m.ml.length ∧ hasN name (bnames H) = false := by
        have h1 : (bnames H)[m.ml.length]? = none := List.getElem?_eq_none (by rw [HBL.out]; exact Nat.le_refl _)
        have hr : m.ml.length = rank name (bnames H) := by
          refine rank_unique name _ _ (by rw [HBL.out]; exact Nat.le_refl _) (fun j a hj ha => ?_) (fun a ha => ?_)
          · have := HL.out j hj
            rw [List.getD_eq_getElem?_getD, ha] at this
            exact this
          · rw [h1] at ha; cases ha
        refine ⟨hr.symm, ?_⟩
        unfold hasN
        rw [← hr, h1]; rfl
      have HF := Lib.hid hres
      clear hres
      go_wp2_with fail
      go_region
      all_goals
        go_wp2_with fail
        go_ret2
        refine ⟨?_, (Below.refl _ _).drew⟩
        rw [HF.out.1, HF.out.2]; rfl

set_option maxRecDepth 100000 in
set_option maxHeartbeats 1000000 in
theorem refSnapshot82 (h : Rep w 56 t H m) (hn : H.ss.length ≤ 1000) (name : ByteArray) :
    Calls Try.prog 82 #[.pointer (some ⟨t, 0, none⟩), .string name] w (Quiet (.tuple #[.int .i64 (rank name (snames H)), .bool (hasN name (snames H))]) w) := by
  obtain ⟨a, g, cap, hbv, ha, hg, hcap, hcm, hcell⟩ := own_addr h.ss
  have hnmk : ∀ k, k < H.ss.length → ∃ x, H.ss[k]? = some x ∧ x.nm = (snames H).getD k ByteArray.empty := fun k hk => by
    refine ⟨H.ss[k], List.getElem?_eq_getElem hk, ?_⟩
    unfold snames
    rw [List.getD_eq_getElem?_getD, List.getElem?_map, List.getElem?_eq_getElem hk]; rfl
  have hblen : (snames H).length = H.ss.length := by simp [snames]
  have c1 : w.cell? ⟨t, 2, none⟩ = some (.slice a H.ss.length cap) := by rw [cell_of_blk h.blk, ← hbv]; rfl
  have hnm : ∀ k, k < H.ss.length → w.cell? ⟨g, k * 2, none⟩ = some (.string ((snames H).getD k ByteArray.empty)) := fun k hk => by
    obtain ⟨x, hx, hxn⟩ := hnmk k hk
    rw [hcell _ _ (lbCells_get _ _ _ hx).1, hxn]
  have HNM := Lib.hid hnm
  have HBL := Lib.hid hblen
  have HA := Lib.hid ha
  clear hnmk hnm hblen hcell hbv hg ha
  clear h
  go_enter Try.func82, Try.ntmps82
  go_wp2_with fail
  go_loop [6] (fun i => ∃ k : Nat, k ≤ H.ss.length ∧ i = .int .i64 k ∧ ∀ j, j < k → ltN ((snames H).getD j ByteArray.empty) name = true) (fun i => H.ss.length - (intOf i).toNat)
  case atStart => exact ⟨0, Nat.zero_le _, rfl, fun j h => absurd h (Nat.not_lt_zero _)⟩
  case round =>
    obtain ⟨k, hk, rfl, hall⟩ := hrel
    have HL := Lib.hid hall
    clear hall
    by_cases hlt : k < H.ss.length
    · obtain rfl := HA.out (by omega)
      have hlt' : (k : Int) < H.ss.length := by omega
      have hk0 : (0 : Int) ≤ k := by omega
      have hcn := HNM.out k hlt
      obtain ⟨nm, hnm⟩ : ∃ nm, nm = (snames H).getD k ByteArray.empty := ⟨_, rfl⟩
      rw [← hnm] at hcn
      have HN := Lib.hid hnm
      clear hnm
      cases hc : ltN nm name
      · have hc' : Op.bytesLess nm.toList name.toList = false := hc
        have hfin : ∀ k', k ≤ k' → True := fun _ _ => trivial
        clear hfin
        by_cases he : nm = name
        · have hres : rank name (snames H) = k ∧ hasN name (snames H) = true := by
            have h1 : (snames H)[k]? = some name := by
              have hl : k < (snames H).length := by rw [HBL.out]; exact hlt
              have := HN.out
              rw [List.getD_eq_getElem?_getD, List.getElem?_eq_getElem hl] at this
              rw [List.getElem?_eq_getElem hl, ← he, this]; rfl
            have hr : k = rank name (snames H) := by
              refine rank_unique name _ k (by rw [HBL.out]; exact hk) (fun j a hj ha => ?_) (fun a ha => ?_)
              · have := HL.out j hj
                rw [List.getD_eq_getElem?_getD, ha] at this
                exact this
              · rw [h1] at ha
                cases ha
                exact ltN_irrefl _
            refine ⟨hr.symm, ?_⟩
            unfold hasN
            rw [← hr, h1]
            exact decide_eq_true rfl
          have HF := Lib.hid hres
          clear hres hc
          subst he
          go_wp2_with fail
          go_region
          all_goals
            go_wp2_with fail
            go_ret2
            refine ⟨?_, (Below.refl _ _).drew⟩
            rw [HF.out.1, HF.out.2]; rfl
        · have hres : rank name (snames H) = k ∧ hasN name (snames H) = false := by
            have hl : k < (snames H).length := by rw [HBL.out]; exact hlt
            have h1 : (snames H)[k]? = some nm := by
              have := HN.out
              rw [List.getD_eq_getElem?_getD, List.getElem?_eq_getElem hl] at this
              rw [List.getElem?_eq_getElem hl, this]; rfl
            have hr : k = rank name (snames H) := by
              refine rank_unique name _ k (by rw [HBL.out]; exact hk) (fun j a hj ha => ?_) (fun a ha => ?_)
              · have := HL.out j hj
                rw [List.getD_eq_getElem?_getD, ha] at this
                exact this
              · rw [h1] at ha
                cases ha
                exact hc
            refine ⟨hr.symm, ?_⟩
            unfold hasN
            rw [← hr, h1]
            exact decide_eq_false (by simpa using he)
          have HF := Lib.hid hres
          have hbe : (nm.toList == name.toList) = false := by rw [beq_eq_false_iff_ne]; exact fun e => he (ba_ext e)
          clear hres hc
          go_wp2_with fail
          go_region
          all_goals
            go_wp2_with fail
            go_ret2
            refine ⟨?_, (Below.refl _ _).drew⟩
            rw [HF.out.1, HF.out.2]; rfl
      · have hc' : Op.bytesLess nm.toList name.toList = true := hc
        have hst : ∀ j, j < k + 1 → ltN ((snames H).getD j ByteArray.empty) name = true := fun j hj => by
          by_cases e : j = k
          · rw [e, ← HN.out]; exact hc
          · exact HL.out j (by omega)
        have HS := Lib.hid hst
        clear hst hc
        go_wp2_with fail
        go_round
        case rel => exact ⟨k + 1, by omega, by go_num, HS.out⟩
        case measure => simp [intOf]; omega
    · obtain rfl : k = H.ss.length := by omega
      have hres : rank name (snames H) = H.ss.length ∧ hasN name (snames H) = false := by
        have h1 : (snames H)[H.ss.length]? = none := List.getElem?_eq_none (by rw [HBL.out]; exact Nat.le_refl _)
        have hr : H.ss.length = rank name (snames H) := by
          refine rank_unique name _ _ (by rw [HBL.out]; exact Nat.le_refl _) (fun j a hj ha => ?_) (fun a ha => ?_)
          · have := HL.out j hj
            rw [List.getD_eq_getElem?_getD, ha] at this
            exact this
          · rw [h1] at ha; cases ha
        refine ⟨hr.symm, ?_⟩
        unfold hasN
        rw [← hr, h1]; rfl
      have HF := Lib.hid hres
      clear hres
      go_wp2_with fail
      go_region
      all_goals
        go_wp2_with fail
        go_ret2
        refine ⟨?_, (Below.refl _ _).drew⟩
        rw [HF.out.1, HF.out.2]; rfl

end

end Go.Proofs.Ytalmfmijjbpnpaa
