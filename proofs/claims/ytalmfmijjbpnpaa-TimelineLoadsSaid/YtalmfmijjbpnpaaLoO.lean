/-
  Walks of slices.Delete at branches.
-/
import Derived.Test.YtalmfmijjbpnpaaLoM
namespace Go.Proofs.Ytalmfmijjbpnpaa
open Go.RowKit

/-- What Delete answers, of a row of n elements xs, with the one at i left out. -/
def Del (E : TypeId) (sz : Nat) (s : Value) (n i : Nat) (xs : List Value) (w : World) (e : Ending) (w' : World) : Prop :=
  ∃ v', e = .returned v' ∧ w'.ownsRow 0 E sz v' (n - 1) (xs.take (i * sz) ++ xs.drop ((i + 1) * sz)) ∧ Fr (fun k => s.ownBlock = some k) w w' ∧ ∀ g, v'.ownBlock = some g → s.ownBlock = some g

section
variable {w : World}

set_option maxRecDepth 100000 in
set_option maxHeartbeats 1000000 in
theorem delete81_raw (g n cap i : Nat) (cur xs : List Value) (hg : w.heap[g]? = some (.cells cur.toArray 65 (0, 0))) (hcur : cur.length = cap * 3) (htake : cur.take (n * 3) = xs) (hi : i < n) (hnc : n ≤ cap) (hcm : cap ≤ maxLen)
    (hx : ∀ u ∈ xs, u.oneCell' = true) (hn : n ≤ 100) :
    Calls Try.prog 81 #[.slice (some ⟨g, 0, none⟩) n cap, .int .i64 i, .int .i64 ((i : Int) + 1)] w fun e w' => ∃ R : List Value, R.length = cap * 3 ∧ R.take ((n - 1) * 3) = xs.take (i * 3) ++ xs.drop ((i + 1) * 3) ∧
      e = .returned (.slice (some ⟨g, 0, none⟩) (n - 1) cap) ∧ Fr (fun k => k = g) w w' ∧ w'.heap[g]? = some (.cells R.toArray 65 (0, 0)) := by
  obtain ⟨i0, hi0, hz0, hz1, hz2⟩ := info_parts info65
  have hxl : xs.length = n * 3 := by rw [← htake, List.length_take]; omega
  obtain ⟨news, hne⟩ : ∃ news, news = xs.drop ((i + 1) * 3) := ⟨_, rfl⟩
  have hnl : news.length = (n - (i + 1)) * 3 := by rw [hne, List.length_drop]; omega
  have hc63 : cap ≤ 9223372036854775807 := by unfold maxLen at hcm; omega
  -- the cells that are moved
  have hcell : ∀ j u, news[j]? = some u → w.cell? ⟨g, (i + 1) * 3 + j, none⟩ = some u := fun j u hj => by
    rw [cell_of_blk hg, List.getElem?_toArray]
    rw [hne, ← htake, List.getElem?_drop, List.getElem?_take] at hj
    split at hj
    · exact hj
    · cases hj
  obtain ⟨ad, had, hadc⟩ : ∃ ad : Addr, (if cap = i + 1 then some ⟨g, 0, none⟩ else some ⟨g, (i + 1) * 3, none⟩) = some ad ∧ ∀ j u, news[j]? = some u → w.cell? (ad.add j) = some u := by
    split
    · refine ⟨_, rfl, fun j u hj => ?_⟩
      have : news = [] := List.eq_nil_of_length_eq_zero (by rw [hnl]; omega)
      rw [this] at hj
      simp at hj
    · refine ⟨_, rfl, fun j u hj => ?_⟩
      have hadd : (⟨g, (i + 1) * 3, none⟩ : Addr).add j = ⟨g, (i + 1) * 3 + j, none⟩ := by unfold Addr.add; split <;> simp_all
      rw [hadd]
      exact hcell j u hj
  obtain ⟨R1, hR1⟩ : ∃ R1, R1 = cur.take (i * 3) ++ news ++ cur.drop (i * 3 + news.length) := ⟨_, rfl⟩
  have hR1l : R1.length = cap * 3 := by rw [hR1, List.length_append, List.length_append, List.length_take, List.length_drop]; omega
  have hapD : ∀ ty dc, (Builtin.append_ #[34, 34] ty #[.slice (some ⟨g, 0, none⟩) i cap, .slice (some ad) (n - (i + 1)) dc]).run Try.prog w.drew = .ok (.slice (some ⟨g, 0, none⟩) (n - 1) cap) (w.drew.setRow g R1.toArray) := fun ty dc => by
    have := run_append_room (P := Try.prog) w.drew 34 ty 65 i0 Try.underlying34 hi0 g i cap cur.toArray hg ad (n - (i + 1)) dc news (by rw [hz1]; exact hnl) hadc (fun u hu => hx u (by rw [hne] at hu; exact List.mem_of_mem_drop hu)) (by omega)
      (by rw [hz1]; simp; omega)
    rw [this, show i + (n - (i + 1)) = n - 1 by omega, hz1, hR1]
  obtain ⟨W1, hW1⟩ : ∃ W1, W1 = w.drew.setRow g R1.toArray := ⟨_, rfl⟩
  rw [← hW1] at hapD
  have hF1 : Fr (fun k => k = g) w W1 := by rw [hW1]; exact ⟨rfl, rfl, rfl, by simp [World.setRow], fun k _ hk => setRow_other w.drew g k _ hk⟩
  have hG1 : W1.heap[g]? = some (.cells R1.toArray 65 (0, 0)) := by rw [hW1]; exact setRow_heap w.drew g _ _ _ _ hg
  obtain ⟨Z, hZ⟩ : ∃ Z, Z = (Builtin.zeroCells (Value.agg #[Value.string ByteArray.empty, Value.int IntKind.i64 0, Value.slice none 0 0]).cells 1).toList := ⟨_, rfl⟩
  have hZl : Z.length = 3 := by rw [hZ, Array.length_toList, size_zeroCells]; rfl
  have hZ1 : ∀ v ∈ Z, v.oneCell' = true := by
    intro v hv
    rw [hZ] at hv
    simp only [Builtin.zeroCells, Value.cells, Array.toList_map, List.mem_map] at hv
    obtain ⟨k, hk, rfl⟩ := hv
    have hk3 : k % 3 = 0 ∨ k % 3 = 1 ∨ k % 3 = 2 := by omega
    rcases hk3 with h | h | h <;> simp [h, Value.oneCell']
  have hclr : ∀ ty dc, (Builtin.clear_ #[34] ty #[.slice (some ⟨g, (n - 1) * 3, none⟩) 1 dc]).run Try.prog W1 = .ok (.tuple #[]) (W1.setRow g (lay R1 ((n - 1) * 3) Z).toArray) := fun ty dc => by
    rw [hZ]
    exact run_clear_gen W1 34 ty 65 i0 _ g ((n - 1) * 3) 1 dc R1 65 Try.underlying34 hi0 hz0 hG1 (by omega) (by rw [← hZ, hZl, hR1l]; omega) (by rw [← hZ]; exact hZ1)
  have hb1 : (i : Int) + 1 ≤ n := by omega
  have hb2 : (n : Int) ≤ cap := by omega
  have hb3 : (i : Int) ≤ (i : Int) + 1 := by omega
  have hb4 : (i : Int) ≤ n := by omega
  have hb5 : (0 : Int) ≤ i := by omega
  have hb6 : ¬ cap = n - 1 := by omega
  have hic : i ≤ cap := by omega
  have hb0 : (0 : Int) ≤ (i : Int) + 1 := by omega
  have htn : ((i : Int) + 1).toNat = i + 1 := by omega
  have hq : ((i : Int) == (i : Int) + 1) = false := by rw [beq_eq_false_iff_ne]; omega
  have HAP := Lib.hid hapD
  have HCL := Lib.hid hclr
  have hclr2 : ∀ ty dc, (Builtin.clear_ #[34] ty #[.slice (some ⟨g, (n - 1) * 3, none⟩) (n - (n - 1)) dc]).run Try.prog W1 = .ok (.tuple #[]) (W1.setRow g (lay R1 ((n - 1) * 3) Z).toArray) := fun ty dc => by
    rw [show n - (n - 1) = 1 by omega]; exact hclr ty dc
  have HCL2 := Lib.hid hclr2
  clear hclr2
  have HAD := Lib.hid had
  have HF := Lib.hid (⟨hF1, hG1, hR1l⟩ : Fr (fun k => k = g) w W1 ∧ W1.heap[g]? = some (.cells R1.toArray 65 (0, 0)) ∧ R1.length = cap * 3)
  have HT : Hid ((lay R1 ((n - 1) * 3) Z).length = cap * 3 ∧ (lay R1 ((n - 1) * 3) Z).take ((n - 1) * 3) = xs.take (i * 3) ++ xs.drop ((i + 1) * 3)) := by
    refine Lib.hid ⟨by rw [length_lay (by rw [hZl, hR1l]; omega), hR1l], ?_⟩
    unfold lay
    rw [List.take_append_of_le_length (by rw [List.length_take, hR1l]; omega), List.take_take, Nat.min_self, hR1, ← hne, ← htake, List.take_take, show min (i * 3) (n * 3) = i * 3 by omega]
    exact List.take_left' (by rw [List.length_append, List.length_take, hnl]; omega)
  clear hapD hclr had hF1 hG1 hR1l hR1 hW1 hZ hZl hZ1 hadc hcell hnl hne hxl htake
  by_cases hcap : cap = i + 1
  · have hads := HAD.out
    rw [if_pos hcap] at hads
    cases hads
    have HCAP := Lib.hid hcap
    obtain rfl : n = i + 1 := by omega
    subst hcap
    clear HAD HCAP
    go_enter Try.func81, Try.ntmps81
    go_wp2_with fail
    go_region_law (refine step_append_eq rfl _ _ 34 34 rfl _ _ (by simp [Act.eval, Act.put]) (by simp [Act.eval, Act.put]) (HAP.out 34 0) ?_)
    go_wp2_with (first | (refine wpList_clear_eq rfl _ 34 rfl _ rfl (HCL.out _ _) ?_; simp only [Act.put]) | (refine wpList_clear_eq rfl _ 34 rfl _ rfl (HCL2.out _ _) ?_; simp only [Act.put]))
    go_ret
    obtain ⟨hF1, hG1, hR1l⟩ := HF.out
    exact ⟨_, HT.out.1, HT.out.2, rfl, hF1.trans (S' := fun k => k = g) ⟨rfl, rfl, rfl, by simp [World.setRow], fun k _ hk => setRow_other W1 g k _ hk⟩ (fun _ _ e => e), setRow_heap W1 g _ _ _ _ hG1⟩
  · have hads := HAD.out
    rw [if_neg hcap] at hads
    cases hads
    clear HAD
    go_enter Try.func81, Try.ntmps81
    go_wp2_with fail
    go_region_law (refine step_append_eq rfl _ _ 34 34 rfl _ _ (by simp [Act.eval, Act.put]) (by simp [Act.eval, Act.put]) (HAP.out 34 (cap - (i + 1))) ?_)
    go_wp2_with (first | (refine wpList_clear_eq rfl _ 34 rfl _ rfl (HCL.out _ _) ?_; simp only [Act.put]) | (refine wpList_clear_eq rfl _ 34 rfl _ rfl (HCL2.out _ _) ?_; simp only [Act.put]))
    go_ret
    obtain ⟨hF1, hG1, hR1l⟩ := HF.out
    exact ⟨_, HT.out.1, HT.out.2, rfl, hF1.trans (S' := fun k => k = g) ⟨rfl, rfl, rfl, by simp [World.setRow], fun k _ hk => setRow_other W1 g k _ hk⟩ (fun _ _ e => e), setRow_heap W1 g _ _ _ _ hG1⟩

theorem delete81 (s : Value) (n i : Nat) (xs : List Value) (hown : w.ownsRow 0 65 3 s n xs) (hx : ∀ u ∈ xs, u.oneCell' = true) (hi : i < n) (hn : n ≤ 100) :
    Calls Try.prog 81 #[s, .int .i64 i, .int .i64 ((i : Int) + 1)] w (Del 65 3 s n i xs w) := by
  rcases hown.2 with ⟨rfl, h0⟩ | ⟨g, cap, cur, rfl, _, hg, hnc, hcm, hcs, htake⟩
  · omega
  · have hxl := hown.1
    refine (delete81_raw g n cap i cur.toList xs (by simpa using hg) (by rw [Array.length_toList]; exact hcs) htake hi hnc hcm hx hn).mono ?_
    rintro e w' ⟨R, hR, hRt, rfl, hf, hh⟩
    refine ⟨_, rfl, ⟨?_, .inr ⟨g, cap, _, rfl, Nat.zero_le _, hh, by omega, hcm, by simpa using hR, hRt⟩⟩, hf.mono (fun k _ e => by rw [e]; rfl), fun k hk => hk⟩
    rw [List.length_append, List.length_take, List.length_drop, hxl]; omega

end

end Go.Proofs.Ytalmfmijjbpnpaa
