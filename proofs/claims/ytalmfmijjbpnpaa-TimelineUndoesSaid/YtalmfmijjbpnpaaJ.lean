/-
  Walks of slices.Clone at versions, branches, snapshots, ints.
-/
import Derived.Test.YtalmfmijjbpnpaaI
namespace Go.Proofs.Ytalmfmijjbpnpaa
open Go.RowKit

/-- A slice value that reads as n elements of sz cells each. -/
def SlAt (w : World) (v : Value) (n sz : Nat) (xs : List Value) : Prop :=
  xs.length = n * sz ∧ ((v = .slice none 0 0 ∧ n = 0) ∨ ∃ a cap, v = .slice (some a) n cap ∧ n ≤ cap ∧ cap ≤ maxLen ∧ ∀ j u, xs[j]? = some u → w.cell? (a.add j) = some u)

section
variable {w : World}

set_option maxHeartbeats 400000 in
theorem clone69 (v : Value) (n : Nat) (xs : List Value) (hv : SlAt w v n 2 xs) (h1 : ∀ u ∈ xs, u.oneCell' = true) (hn : n ≤ 100000) :
    Calls Try.prog 69 #[v] w fun e w' => ∃ v', e = .returned v' ∧ w'.ownsRow w.heap.size 40 2 v' n xs ∧ Below w.heap.size w w' := by
  obtain ⟨hl, ⟨rfl, rfl⟩ | ⟨a, cap, rfl, hnc, hcm, hcell⟩⟩ := hv
  · obtain rfl : xs = [] := List.eq_nil_of_length_eq_zero (by simpa using hl)
    have hq := fun w => Lib.run_eql_slice_nil (P := Try.prog) w 33 40 none 0 0 0 0 Try.underlying33
    go_enter Try.func69, Try.ntmps69
    go_wp2_with fail
    go_ret
    exact ⟨_, rfl, World.ownsRow_nil _ _ _ _, Below.refl _ _⟩
  · have hq := fun w => Lib.run_eql_slice_nil (P := Try.prog) w 33 40 (some a) n cap 0 0 Try.underlying33
    obtain ⟨i0, hi0, hz0, hz1, hz2⟩ := info_parts info40
    have HC := Lib.hid hcell
    have H1 := Lib.hid h1
    clear hcell h1
    go_enter Try.func69, Try.ntmps69
    have hown : (w.alloc (.cells #[] 40)).ownsRow w.heap.size 40 2 (.slice (some ⟨w.heap.size, 0, none⟩) 0 0) 0 [] := World.ownsRow_lit w #[] 0 (Nat.le_refl _) (by unfold maxLen; omega) rfl
    have HOWN := Lib.hid hown
    clear hown
    go_wp2_with (at_builtin; refine wpList_append_own _ rfl _ _ 33 rfl w.heap.size 40 i0 _ 2 16 Try.underlying33 hi0 hz0 hz1 hz2 rfl (by decide) _ 0 [] rfl HOWN.out a n cap xs rfl hl ?_ H1.out (by unfold maxLen; omega) (by omega) (by simp) ?_)
    · intro j u hu
      have := HC.out j u hu
      exact (((Below.refl w.heap.size w).alloc (Nat.le_refl _) (.cells #[] 40)).cell (World.block_lt_of_cell? w _ this)).trans this
    · intro v' w' hown' hgrow _
      try simp only [List.nil_append, Nat.zero_add] at hown'
      have HO := Lib.hid hown'
      have HG := Lib.hid hgrow
      clear hown' hgrow
      go_wp2_with fail
      go_ret
      exact ⟨_, rfl, HO.out, ((Below.refl w.heap.size w).alloc (Nat.le_refl _) (.cells #[] 40)).grown HG.out (by simp) (by intro k hk; simp [Value.ownBlock] at hk; omega)⟩

set_option maxHeartbeats 400000 in
theorem clone70 (v : Value) (n : Nat) (xs : List Value) (hv : SlAt w v n 3 xs) (h1 : ∀ u ∈ xs, u.oneCell' = true) (hn : n ≤ 100000) :
    Calls Try.prog 70 #[v] w fun e w' => ∃ v', e = .returned v' ∧ w'.ownsRow w.heap.size 65 3 v' n xs ∧ Below w.heap.size w w' := by
  obtain ⟨hl, ⟨rfl, rfl⟩ | ⟨a, cap, rfl, hnc, hcm, hcell⟩⟩ := hv
  · obtain rfl : xs = [] := List.eq_nil_of_length_eq_zero (by simpa using hl)
    have hq := fun w => Lib.run_eql_slice_nil (P := Try.prog) w 34 65 none 0 0 0 0 Try.underlying34
    go_enter Try.func70, Try.ntmps70
    go_wp2_with fail
    go_ret
    exact ⟨_, rfl, World.ownsRow_nil _ _ _ _, Below.refl _ _⟩
  · have hq := fun w => Lib.run_eql_slice_nil (P := Try.prog) w 34 65 (some a) n cap 0 0 Try.underlying34
    obtain ⟨i0, hi0, hz0, hz1, hz2⟩ := info_parts info65
    have HC := Lib.hid hcell
    have H1 := Lib.hid h1
    clear hcell h1
    go_enter Try.func70, Try.ntmps70
    have hown : (w.alloc (.cells #[] 65)).ownsRow w.heap.size 65 3 (.slice (some ⟨w.heap.size, 0, none⟩) 0 0) 0 [] := World.ownsRow_lit w #[] 0 (Nat.le_refl _) (by unfold maxLen; omega) rfl
    have HOWN := Lib.hid hown
    clear hown
    go_wp2_with (at_builtin; refine wpList_append_own _ rfl _ _ 34 rfl w.heap.size 65 i0 _ 3 48 Try.underlying34 hi0 hz0 hz1 hz2 rfl (by decide) _ 0 [] rfl HOWN.out a n cap xs rfl hl ?_ H1.out (by unfold maxLen; omega) (by omega) (by simp) ?_)
    · intro j u hu
      have := HC.out j u hu
      exact (((Below.refl w.heap.size w).alloc (Nat.le_refl _) (.cells #[] 65)).cell (World.block_lt_of_cell? w _ this)).trans this
    · intro v' w' hown' hgrow _
      try simp only [List.nil_append, Nat.zero_add] at hown'
      have HO := Lib.hid hown'
      have HG := Lib.hid hgrow
      clear hown' hgrow
      go_wp2_with fail
      go_ret
      exact ⟨_, rfl, HO.out, ((Below.refl w.heap.size w).alloc (Nat.le_refl _) (.cells #[] 65)).grown HG.out (by simp) (by intro k hk; simp [Value.ownBlock] at hk; omega)⟩

set_option maxHeartbeats 400000 in
theorem clone71 (v : Value) (n : Nat) (xs : List Value) (hv : SlAt w v n 2 xs) (h1 : ∀ u ∈ xs, u.oneCell' = true) (hn : n ≤ 100000) :
    Calls Try.prog 71 #[v] w fun e w' => ∃ v', e = .returned v' ∧ w'.ownsRow w.heap.size 78 2 v' n xs ∧ Below w.heap.size w w' := by
  obtain ⟨hl, ⟨rfl, rfl⟩ | ⟨a, cap, rfl, hnc, hcm, hcell⟩⟩ := hv
  · obtain rfl : xs = [] := List.eq_nil_of_length_eq_zero (by simpa using hl)
    have hq := fun w => Lib.run_eql_slice_nil (P := Try.prog) w 35 78 none 0 0 0 0 Try.underlying35
    go_enter Try.func71, Try.ntmps71
    go_wp2_with fail
    go_ret
    exact ⟨_, rfl, World.ownsRow_nil _ _ _ _, Below.refl _ _⟩
  · have hq := fun w => Lib.run_eql_slice_nil (P := Try.prog) w 35 78 (some a) n cap 0 0 Try.underlying35
    obtain ⟨i0, hi0, hz0, hz1, hz2⟩ := info_parts info78
    have HC := Lib.hid hcell
    have H1 := Lib.hid h1
    clear hcell h1
    go_enter Try.func71, Try.ntmps71
    have hown : (w.alloc (.cells #[] 78)).ownsRow w.heap.size 78 2 (.slice (some ⟨w.heap.size, 0, none⟩) 0 0) 0 [] := World.ownsRow_lit w #[] 0 (Nat.le_refl _) (by unfold maxLen; omega) rfl
    have HOWN := Lib.hid hown
    clear hown
    go_wp2_with (at_builtin; refine wpList_append_own _ rfl _ _ 35 rfl w.heap.size 78 i0 _ 2 24 Try.underlying35 hi0 hz0 hz1 hz2 rfl (by decide) _ 0 [] rfl HOWN.out a n cap xs rfl hl ?_ H1.out (by unfold maxLen; omega) (by omega) (by simp) ?_)
    · intro j u hu
      have := HC.out j u hu
      exact (((Below.refl w.heap.size w).alloc (Nat.le_refl _) (.cells #[] 78)).cell (World.block_lt_of_cell? w _ this)).trans this
    · intro v' w' hown' hgrow _
      try simp only [List.nil_append, Nat.zero_add] at hown'
      have HO := Lib.hid hown'
      have HG := Lib.hid hgrow
      clear hown' hgrow
      go_wp2_with fail
      go_ret
      exact ⟨_, rfl, HO.out, ((Below.refl w.heap.size w).alloc (Nat.le_refl _) (.cells #[] 78)).grown HG.out (by simp) (by intro k hk; simp [Value.ownBlock] at hk; omega)⟩

set_option maxHeartbeats 400000 in
theorem clone72 (v : Value) (n : Nat) (xs : List Value) (hv : SlAt w v n 1 xs) (h1 : ∀ u ∈ xs, u.oneCell' = true) (hn : n ≤ 100000) :
    Calls Try.prog 72 #[v] w fun e w' => ∃ v', e = .returned v' ∧ w'.ownsRow w.heap.size 3 1 v' n xs ∧ Below w.heap.size w w' := by
  obtain ⟨hl, ⟨rfl, rfl⟩ | ⟨a, cap, rfl, hnc, hcm, hcell⟩⟩ := hv
  · obtain rfl : xs = [] := List.eq_nil_of_length_eq_zero (by simpa using hl)
    have hq := fun w => Lib.run_eql_slice_nil (P := Try.prog) w 22 3 none 0 0 0 0 Try.underlying22
    go_enter Try.func72, Try.ntmps72
    go_wp2_with fail
    go_ret
    exact ⟨_, rfl, World.ownsRow_nil _ _ _ _, Below.refl _ _⟩
  · have hq := fun w => Lib.run_eql_slice_nil (P := Try.prog) w 22 3 (some a) n cap 0 0 Try.underlying22
    obtain ⟨i0, hi0, hz0, hz1, hz2⟩ := info_parts info3
    have HC := Lib.hid hcell
    have H1 := Lib.hid h1
    clear hcell h1
    go_enter Try.func72, Try.ntmps72
    have hown : (w.alloc (.cells #[] 3)).ownsRow w.heap.size 3 1 (.slice (some ⟨w.heap.size, 0, none⟩) 0 0) 0 [] := World.ownsRow_lit w #[] 0 (Nat.le_refl _) (by unfold maxLen; omega) rfl
    have HOWN := Lib.hid hown
    clear hown
    go_wp2_with (at_builtin; refine wpList_append_own _ rfl _ _ 22 rfl w.heap.size 3 i0 _ 1 8 Try.underlying22 hi0 hz0 hz1 hz2 rfl (by decide) _ 0 [] rfl HOWN.out a n cap xs rfl hl ?_ H1.out (by unfold maxLen; omega) (by omega) (by simp) ?_)
    · intro j u hu
      have := HC.out j u hu
      exact (((Below.refl w.heap.size w).alloc (Nat.le_refl _) (.cells #[] 3)).cell (World.block_lt_of_cell? w _ this)).trans this
    · intro v' w' hown' hgrow _
      try simp only [List.nil_append, Nat.zero_add] at hown'
      have HO := Lib.hid hown'
      have HG := Lib.hid hgrow
      clear hown' hgrow
      go_wp2_with fail
      go_ret
      exact ⟨_, rfl, HO.out, ((Below.refl w.heap.size w).alloc (Nat.le_refl _) (.cells #[] 3)).grown HG.out (by simp) (by intro k hk; simp [Value.ownBlock] at hk; omega)⟩

end

end Go.Proofs.Ytalmfmijjbpnpaa
