/-
  The reference's naturals: walks of at, Trim, Of, Valid.
-/
import Derived.Test.YtkpjikaobjpkoaaGreatDoorPkRyRz
namespace Go.Proofs.YtkpjikaobjpkoaaGreatDoor
open Go.RowKit

theorem el_past {l : List Nat} {k : Nat} (h : l.length ≤ k) : el l k = 0 := by
  unfold el; rw [List.getD_eq_getElem?_getD, List.getElem?_eq_none h]; rfl

section
variable {w : World}
set_option maxHeartbeats 1000000 in
theorem rat_calls {v : Value} {l : List Nat} (h : NatSl w v l) (k : Nat) : Calls Tryz.prog 105 #[v, .int .i64 (k : Int)] w (Pure0 (.int .u64 (el l k : Nat)) w) := by
  obtain ⟨a, c, x, rfl, ha, hc, hm, hcell⟩ := h.form
  have hk0 : ¬ (k : Int) < 0 := by omega
  by_cases hk : k < l.length
  · obtain rfl := ha (by omega)
    have q := hcell k hk
    have hi : (k : Int) < l.length := by omega
    have hi0 : (0 : Int) ≤ k := by omega
    have bd := limbs_get h.2 k
    obtain ⟨d, hd⟩ : ∃ d, l.getD k 0 = d := ⟨_, rfl⟩
    rw [hd] at q bd
    have HD := Lib.hid (show el l k = d from hd)
    clear hcell h ha hd
    go_enter Tryz.func105, Tryz.ntmps105
    go_wp2_with fail
    go_ret
    exact pure_mk (by rw [HD.out]; try go_num)
  · have HD := Lib.hid (el_past (l := l) (k := k) (by omega))
    have hi : ¬ (k : Int) < l.length := by omega
    clear hcell h ha
    go_enter Tryz.func105, Tryz.ntmps105
    go_wp2_with fail
    go_ret
    exact pure_mk (by rw [HD.out]; rfl)

set_option maxHeartbeats 1000000 in
theorem rvalid_calls {v : Value} {n : Nat} (h : NatR w v n) : Calls Tryz.prog 155 #[v] w (Pure0 (.bool true) w) := by
  obtain ⟨l, hl, hs, hv⟩ := h
  obtain ⟨a, c, x, rfl, ha, hc, hm, hcell⟩ := hl.form
  by_cases h0 : l.length = 0
  · rw [h0]
    clear hcell hl ha hs hm hc h0
    go_enter Tryz.func155, Tryz.ntmps155
    go_wp2_with fail
    go_ret
    exact pure_mk rfl
  · obtain rfl := ha (by omega)
    obtain ⟨k, hk⟩ : ∃ k, l.length = k + 1 := ⟨l.length - 1, by omega⟩
    have q := hcell k (by omega)
    have hne := szN_top l (by omega)
    rw [hs, hk, Nat.add_sub_cancel] at hne
    obtain ⟨d, hd⟩ : ∃ d, l.getD k 0 = d := ⟨_, rfl⟩
    rw [hd] at q
    have hne2 : (d : Int) ≠ 0 := by
      have : el l k = d := hd
      omega
    rw [hk]
    have e1 : ((k : Int) + 1 == 0) = false := by rw [beq_eq_false_iff_ne]; omega
    have e2 : ((k + 1 : Nat) : Int) - 1 = k := by omega
    unfold maxLen at hm
    have hk2 : (k : Int) + 1 ≤ 9223372036854775807 := by omega
    have HNE := Lib.hid (show ((d : Int) != 0) = true by rw [bne_iff_ne]; exact hne2)
    clear hcell hl ha hs hd hne hm h0 hne2
    go_enter Tryz.func155, Tryz.ntmps155
    go_wp2_with fail
    go_ret
    exact pure_mk (by show Value.bool _ = _; rw [HNE.out])
end
end Go.Proofs.YtkpjikaobjpkoaaGreatDoor
/-
  The reference's naturals: walks of Trim, Of.
-/
namespace Go.Proofs.YtkpjikaobjpkoaaGreatDoor
open Go.RowKit

theorem one_u32 (l : List Nat) : ∀ u ∈ u32Cells l, u.oneCell' = true := fun u hu => by
  unfold u32Cells at hu
  obtain ⟨x, _, rfl⟩ := List.mem_map.1 hu
  rfl
theorem take_cells {w : World} {x : Addr} {l : List Nat} (h : ∀ i, i < l.length → w.cell? (x.add i) = some (.int .u32 (l.getD i 0 : Nat))) {k : Nat} (hk : k ≤ l.length) (j : Nat) (u : Value) (hu : (u32Cells (l.take k))[j]? = some u) : (w.alloc (.cells #[] 143)).cell? (x.add j) = some u := by
  have hj : j < k := by
    have := (List.getElem?_eq_some_iff.1 hu).1
    unfold u32Cells at this
    rw [List.length_map, List.length_take] at this
    omega
  rw [u32_take, List.getElem?_take, if_pos hj, u32_get (by omega)] at hu
  cases hu
  have h1 := h j (by omega)
  exact (((Below.refl w.heap.size w).alloc (Nat.le_refl _) (.cells #[] 143)).cell (World.block_lt_of_cell? w _ h1)).trans h1

section
variable {w : World}
set_option maxHeartbeats 2000000 in
theorem rtrim_calls {v : Value} {l : List Nat} (h : NatSl w v l) (hn : l.length ≤ 1000000000) : Calls Tryz.prog 104 #[v] w (NatP (val l) w) := by
  have HLM := Lib.hid h.2
  have hown : (w.alloc (.cells #[] 143)).ownsRow w.heap.size 143 1 (.slice (some ⟨w.heap.size, 0, none⟩) 0 0) 0 [] := World.ownsRow_lit w #[] 0 (Nat.le_refl _) (by unfold maxLen; omega) rfl
  have HOWN := Lib.hid hown
  obtain ⟨i0, hi0, hz0, hz1, hz2⟩ := info_parts infoU32
  obtain ⟨a, c, x, rfl, ha, hc, hm, hcell⟩ := h.form
  by_cases h0 : l.length = 0
  · obtain rfl := List.eq_nil_of_length_eq_zero h0
    rcases h.1.2 with ⟨e, _⟩ | ⟨x', c', e, _, _, _⟩
    · cases e
      clear h ha hcell hown hm
      go_enter Tryz.func104, Tryz.ntmps104
      go_wp2_with fail
      go_loop [3] (fun i => i = .int .i64 0) (fun i => (intOf i).toNat)
      case atStart => rfl
      case round =>
        obtain rfl := hrel
        go_wp2_with fail
        go_ret
        exact ⟨_, rfl, ⟨[], ⟨HOWN.out, fun x hx => by simp at hx⟩, rfl, rfl⟩, (Below.refl w.heap.size w).alloc (Nat.le_refl _) (.cells #[] 143)⟩
    · cases e
      clear h ha hcell hown hm
      go_enter Tryz.func104, Tryz.ntmps104
      go_wp2_with fail
      go_loop [3] (fun i => i = .int .i64 0) (fun i => (intOf i).toNat)
      case atStart => rfl
      case round =>
        obtain rfl := hrel
        have hc0 : (0 : Int) ≤ c := by omega
        go_wp2_with (at_builtin; refine wpList_append_own _ rfl _ _ 22 rfl w.heap.size 143 i0 _ 1 4 Tryz.underlying22 hi0 hz0 hz1 hz2 rfl (by decide) _ 0 [] rfl HOWN.out x' 0 c [] rfl rfl (fun j u hu => by simp at hu) (fun u hu => by simp at hu) (by unfold maxLen; omega) (by omega) (by simp) ?_)
        intro v' w' hown' hgrow _
        try simp only [List.nil_append, Nat.zero_add] at hown'
        have HO := Lib.hid hown'
        have HG := Lib.hid hgrow
        clear hown' hgrow
        go_wp2_with fail
        go_ret
        exact ⟨_, rfl, ⟨[], ⟨HO.out, fun x hx => by simp at hx⟩, rfl, rfl⟩, ((Below.refl w.heap.size w).alloc (Nat.le_refl _) (.cells #[] 143)).grown HG.out (by simp) (by intro k hk; simp [Value.ownBlock] at hk; omega)⟩
  · obtain rfl := ha (by omega)
    have HCELL := Lib.hid hcell
    have hm2 := hm
    unfold maxLen at hm
    clear h hcell ha hown hm2
    go_enter Tryz.func104, Tryz.ntmps104
    go_wp2_with fail
    go_loop [3] (fun i => ∃ k : Nat, k ≤ l.length ∧ i = .int .i64 k ∧ ∀ j, k ≤ j → j < l.length → l.getD j 0 = 0) (fun i => (intOf i).toNat)
    case atStart => exact ⟨_, Nat.le_refl _, rfl, fun j h1 h2 => by omega⟩
    case round =>
      obtain ⟨k, hk, rfl, hz⟩ := hrel
      have HZ := Lib.hid hz
      clear hz
      have hkc : (k : Int) ≤ c := by omega
      have hk00 : (0 : Int) ≤ k := by omega
      by_cases hk0 : 0 < k
      · have hk0' : (0 : Int) < k := by omega
        have hc1 := HCELL.out (k - 1) (by omega)
        have e1 : ((k : Int) - 1).toNat = k - 1 := by omega
        have e2 : (0 : Int) ≤ (k : Int) - 1 := by omega
        have e3 : (k : Int) - 1 < l.length := by omega
        obtain ⟨d, hd⟩ : ∃ d, l.getD (k - 1) 0 = d := ⟨_, rfl⟩
        rw [hd] at hc1
        have HD := Lib.hid hd
        clear hd
        by_cases hx : d = 0
        · have HX := Lib.hid (HD.out.trans hx)
          subst hx
          go_wp2_with fail
          go_round
          case rel => exact ⟨k - 1, by omega, by go_num, fun j h1 h2 => by
            by_cases e : j = k - 1
            · rw [e]; exact HX.out
            · exact HZ.out j (by omega) h2⟩
          case measure => simp [intOf]; omega
        · have hxb : ((d : Int) == 0) = false := by simpa using hx
          have HEQ := Lib.hid (show szN l = k from szN_eq l k hk HZ.out (.inr (by rw [HD.out]; exact hx)))
          have HTL := Lib.hid (show (l.take k).length = k by rw [List.length_take]; omega)
          have HLN := Lib.hid (show (u32Cells (l.take k)).length = k * 1 by unfold u32Cells; rw [List.length_map, HTL.out, Nat.mul_one])
          have HO1 := Lib.hid (one_u32 (l.take k))
          have HSRC := Lib.hid (fun j u hu => take_cells HCELL.out (show k ≤ l.length by omega) j u hu)
          have HSZ := Lib.hid (show szN (l.take k) = (l.take k).length by rw [← HEQ.out]; exact szN_take_len l)
          have HVT := Lib.hid (show val (l.take k) = val l by rw [← HEQ.out]; exact val_take l)
          clear hx
          go_wp2_with (at_builtin; refine wpList_append_own _ rfl _ _ 22 rfl w.heap.size 143 i0 _ 1 4 Tryz.underlying22 hi0 hz0 hz1 hz2 rfl (by decide) _ 0 [] rfl HOWN.out x k c (u32Cells (l.take k)) rfl HLN.out ?_ HO1.out (by unfold maxLen; omega) (by omega) (by simp) ?_)
          · exact HSRC.out
          · intro v' w' hown' hgrow _
            try simp only [List.nil_append, Nat.zero_add] at hown'
            have HO := Lib.hid hown'
            have HG := Lib.hid hgrow
            clear hown' hgrow
            go_wp2_with fail
            go_ret
            exact ⟨_, rfl, ⟨l.take k, ⟨by rw [HTL.out]; exact HO.out, limbs_take HLM.out k⟩, HSZ.out, HVT.out⟩, ((Below.refl w.heap.size w).alloc (Nat.le_refl _) (.cells #[] 143)).grown HG.out (by simp) (by intro k hk; simp [Value.ownBlock] at hk; omega)⟩
      · obtain rfl : k = 0 := by omega
        have HEQ := Lib.hid (show szN l = 0 from szN_eq l 0 hk HZ.out (.inl rfl))
        have HTL := Lib.hid (show (l.take 0).length = 0 by rw [List.length_take]; omega)
        have HLN := Lib.hid (show (u32Cells (l.take 0)).length = 0 * 1 by unfold u32Cells; rw [List.length_map, HTL.out, Nat.mul_one])
        have HO1 := Lib.hid (one_u32 (l.take 0))
        have HSRC := Lib.hid (fun j u hu => take_cells HCELL.out (show 0 ≤ l.length by omega) j u hu)
        have HSZ := Lib.hid (show szN (l.take 0) = (l.take 0).length by rw [← HEQ.out]; exact szN_take_len l)
        have HVT := Lib.hid (show val (l.take 0) = val l by rw [← HEQ.out]; exact val_take l)
        go_wp2_with (at_builtin; refine wpList_append_own _ rfl _ _ 22 rfl w.heap.size 143 i0 _ 1 4 Tryz.underlying22 hi0 hz0 hz1 hz2 rfl (by decide) _ 0 [] rfl HOWN.out x 0 c (u32Cells (l.take 0)) rfl HLN.out ?_ HO1.out (by unfold maxLen; omega) (by omega) (by simp) ?_)
        · exact HSRC.out
        · intro v' w' hown' hgrow _
          try simp only [List.nil_append, Nat.zero_add] at hown'
          have HO := Lib.hid hown'
          have HG := Lib.hid hgrow
          clear hown' hgrow
          go_wp2_with fail
          go_ret
          exact ⟨_, rfl, ⟨l.take 0, ⟨by rw [HTL.out]; exact HO.out, limbs_take HLM.out 0⟩, HSZ.out, HVT.out⟩, ((Below.refl w.heap.size w).alloc (Nat.le_refl _) (.cells #[] 143)).grown HG.out (by simp) (by intro k hk; simp [Value.ownBlock] at hk; omega)⟩

set_option maxHeartbeats 400000 in
theorem rof_calls (n : Nat) (h : n < 18446744073709551616) : Calls Tryz.prog 52 #[.int .u64 (n : Int)] w (NatP n w) := by
  obtain ⟨lo, hlo⟩ : ∃ lo, n % 4294967296 = lo := ⟨_, rfl⟩
  obtain ⟨hi, hhi⟩ : ∃ hi, n / 4294967296 = hi := ⟨_, rfl⟩
  have hv : val [lo, hi] = n := by simp only [val]; omega
  obtain ⟨W1, hW1⟩ : ∃ W1, W1 = w.alloc (.cells #[.int .u32 (lo : Int), .int .u32 (hi : Int)] 143) := ⟨_, rfl⟩
  have hb : Below w.heap.size w W1 := by rw [hW1]; exact (Below.refl _ _).alloc (Nat.le_refl _) _
  have ho : NatOw W1 w.heap.size (.slice (some ⟨w.heap.size, 0, none⟩) 2 2) [lo, hi] := by
    refine ⟨⟨rfl, .inr ⟨w.heap.size, 2, #[.int .u32 (lo : Int), .int .u32 (hi : Int)], rfl, Nat.le_refl _, ?_, Nat.le_refl _, by unfold maxLen; omega, rfl, rfl⟩⟩, ?_⟩
    · rw [hW1]; exact heap_alloc_new w _
    · intro x hx
      simp only [List.mem_cons, List.not_mem_nil, or_false] at hx
      rcases hx with rfl | rfl <;> omega
  have HT := Lib.hid (rtrim_calls ho.sl (by simp))
  have HB := Lib.hid hb
  have HW := Lib.hid hW1
  have HV := Lib.hid hv
  have e1 : (n : Int) % 4294967296 = (lo : Int) := by omega
  have e2 : (n : Int) / 4294967296 = (hi : Int) := by omega
  have e3 : (hi : Int) % 4294967296 = (hi : Int) := by omega
  clear ho hb hW1 hlo hhi hv
  go_enter Tryz.func52, Tryz.ntmps52
  go_wp2_with fail
  rw [← HW.out]
  refine HT.out.mono ?_
  rintro e w' ⟨v, rfl, hf, hb⟩
  have HF := Lib.hid hf
  have HB2 := Lib.hid hb
  clear hf hb
  go_wp2_with fail
  go_ret
  exact ⟨_, rfl, HV.out ▸ HF.out.base HB.out.size, HB.out.trans (HB2.out.mono HB.out.size)⟩
end
end Go.Proofs.YtkpjikaobjpkoaaGreatDoor
