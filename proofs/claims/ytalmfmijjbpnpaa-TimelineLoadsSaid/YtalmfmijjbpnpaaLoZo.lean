/-
  The walk of do: one act of both timelines.
-/
import Derived.Test.YtalmfmijjbpnpaaLoZn
namespace Go.Proofs.Ytalmfmijjbpnpaa
open Go.RowKit

section
variable {W0 Wd w : World} {D : Nat → Prop} {t u : Nat} {H : Hist}

/-- do returns a timeline of the program and true; both timelines hold H' then. -/
def DoP (W0 : World) (D : Nat → Prop) (Wd : World) (u : Nat) (H' : Hist) (e : Ending) (w' : World) : Prop :=
  ∃ t', e = .returned (.tuple #[.pointer (some ⟨t', 0, none⟩), .bool true]) ∧ Tw W0 D Wd t' u H' H' w'

/-- The box of the act, in every later state. -/
theorem do_box {kind n : Int} {name : ByteArray} (h : Tw W0 D Wd t u H H w) :
    ∃ D', Tw W0 D' (w.alloc (.cells #[.int .i64 kind, .int .i64 n, .string name] 50)) t u H H (w.alloc (.cells #[.int .i64 kind, .int .i64 n, .string name] 50)) ∧
      (∀ t1 u1 H1 K1 w2, Tw W0 D' (w.alloc (.cells #[.int .i64 kind, .int .i64 n, .string name] 50)) t1 u1 H1 K1 w2 → w2.cell? ⟨w.heap.size, 1, none⟩ = some (.int .i64 n) ∧ w2.cell? ⟨w.heap.size, 2, none⟩ = some (.string name)) ∧
      (∀ t1 u1 H1 K1 w2, Tw W0 D' (w.alloc (.cells #[.int .i64 kind, .int .i64 n, .string name] 50)) t1 u1 H1 K1 w2 → Tw W0 D Wd t1 u1 H1 K1 w2) := by
  have hb : Below w.heap.size w (w.alloc (.cells #[.int .i64 kind, .int .i64 n, .string name] 50)) := (Below.refl _ _).alloc (Nat.le_refl _) _
  refine ⟨_, h.more hb, fun t1 u1 H1 K1 w2 h2 => ?_, fun t1 u1 H1 K1 w2 h2 => h.less hb h2⟩
  have hk := h2.kept (k := w.heap.size) (.inr ⟨Nat.le_refl _, by simp⟩)
  rw [heap_alloc_new] at hk
  exact ⟨(cell_of_blk hk 1).trans rfl, (cell_of_blk hk 2).trans rfl⟩

set_option maxRecDepth 100000 in
set_option maxHeartbeats 1000000 in
theorem do_commit {kind n j : Int} {name : ByteArray} (h : Tw W0 D Wd t u H H w) (hm : ∀ w', Calls Try.prog 12 #[.int .i64 kind, .int .i64 16] w' (Pure0 (.int .i64 j) w')) (hj : j < 4) :
    Calls Try.prog 25 #[.pointer (some ⟨t, 0, none⟩), .pointer (some ⟨u, 0, none⟩), .agg #[.int .i64 kind, .int .i64 n, .string name]] w (DoP W0 D Wd u (mCommit H n)) := by
  obtain ⟨D', h1, hc, hb⟩ := do_box (kind := kind) (n := n) (name := name) h
  have HT := Lib.hid h1
  have HC := Lib.hid hc
  have HB := Lib.hid hb
  have HM := Lib.hid hm
  clear h1 hc hb hm h
  go_enter Try.func25, Try.ntmps25
  go_wp2_with fail
  refine (HM.out _).mono ?_
  rintro e w1 ⟨rfl, rfl⟩
  go_wp2_with fail
  have HT := Lib.hid (HT.out.later ((Below.refl _ _).drew))
  have hq0 := (HC.out _ _ _ _ _ HT.out).1
  go_region_held3 (fun w' => w'.cell? ⟨w.heap.size, 1, none⟩ = some (.int .i64 n))
    (first | exact hq0 | exact hq)
    (first
      | (go_at_call 11; refine (twl_commit HT.out n).mono ?_; rintro e wx ⟨rfl, hx⟩; have hq := (HC.out _ _ _ _ _ hx).1; clear HT; have HT := Lib.hid hx; clear hx)
      | (go_at_call 44; refine (twr_commit HT.out n).mono ?_; rintro e wx ⟨rfl, hx⟩; have hq := (HC.out _ _ _ _ _ hx).1; clear HT; have HT := Lib.hid hx; clear hx))
  all_goals
    clear hq0 hq
    go_wp2_with fail
    go_ret2
    exact ⟨_, rfl, HB.out _ _ _ _ _ HT.out⟩

set_option maxRecDepth 100000 in
set_option maxHeartbeats 1000000 in
theorem do_undo {kind n j : Int} {name : ByteArray} (h : Tw W0 D Wd t u H H w) (hm : ∀ w', Calls Try.prog 12 #[.int .i64 kind, .int .i64 16] w' (Pure0 (.int .i64 j) w')) (hj : 4 ≤ j ∧ j < 7) :
    Calls Try.prog 25 #[.pointer (some ⟨t, 0, none⟩), .pointer (some ⟨u, 0, none⟩), .agg #[.int .i64 kind, .int .i64 n, .string name]] w (DoP W0 D Wd u (mUndo H)) := by
  obtain ⟨hj1, hj2⟩ := hj
  have hj4 : ¬ j < 4 := by omega
  obtain ⟨D', h1, hc, hb⟩ := do_box (kind := kind) (n := n) (name := name) h
  have HT := Lib.hid h1
  have HC := Lib.hid hc
  have HB := Lib.hid hb
  have HM := Lib.hid hm
  clear h1 hc hb hm h
  go_enter Try.func25, Try.ntmps25
  go_wp2_with fail
  refine (HM.out _).mono ?_
  rintro e w1 ⟨rfl, rfl⟩
  go_wp2_with fail
  refine (twl_undo HT.out).mono ?_
  rintro e w2 ⟨rfl, h2⟩
  have HT2 := Lib.hid h2
  clear h2 HT
  go_wp2_with fail
  refine (twr_undo HT2.out).mono ?_
  rintro e w3 ⟨rfl, h3⟩
  have HT3 := Lib.hid h3
  clear h3 HT2
  go_wp2_with fail
  go_ret2
  exact ⟨_, rfl, HB.out _ _ _ _ _ HT3.out⟩

set_option maxRecDepth 100000 in
set_option maxHeartbeats 1000000 in
theorem do_redo {kind n j : Int} {name : ByteArray} (h : Tw W0 D Wd t u H H w) (hm : ∀ w', Calls Try.prog 12 #[.int .i64 kind, .int .i64 16] w' (Pure0 (.int .i64 j) w')) (hj : 7 ≤ j ∧ j < 9) :
    Calls Try.prog 25 #[.pointer (some ⟨t, 0, none⟩), .pointer (some ⟨u, 0, none⟩), .agg #[.int .i64 kind, .int .i64 n, .string name]] w (DoP W0 D Wd u (mRedo H)) := by
  obtain ⟨hj1, hj2⟩ := hj
  have hj4 : ¬ j < 4 := by omega
  have hj7 : ¬ j < 7 := by omega
  obtain ⟨D', h1, hc, hb⟩ := do_box (kind := kind) (n := n) (name := name) h
  have HT := Lib.hid h1
  have HC := Lib.hid hc
  have HB := Lib.hid hb
  have HM := Lib.hid hm
  clear h1 hc hb hm h
  go_enter Try.func25, Try.ntmps25
  go_wp2_with fail
  refine (HM.out _).mono ?_
  rintro e w1 ⟨rfl, rfl⟩
  go_wp2_with fail
  refine (twl_redo HT.out).mono ?_
  rintro e w2 ⟨rfl, h2⟩
  have HT2 := Lib.hid h2
  clear h2 HT
  go_wp2_with fail
  refine (twr_redo HT2.out).mono ?_
  rintro e w3 ⟨rfl, h3⟩
  have HT3 := Lib.hid h3
  clear h3 HT2
  go_wp2_with fail
  go_ret2
  exact ⟨_, rfl, HB.out _ _ _ _ _ HT3.out⟩

set_option maxRecDepth 100000 in
set_option maxHeartbeats 1000000 in
theorem do_branch {kind n : Int} {name : ByteArray} (h : Tw W0 D Wd t u H H w) (hm : ∀ w', Calls Try.prog 12 #[.int .i64 kind, .int .i64 16] w' (Pure0 (.int .i64 9) w')) (hn : name.size ≤ maxLen) :
    Calls Try.prog 25 #[.pointer (some ⟨t, 0, none⟩), .pointer (some ⟨u, 0, none⟩), .agg #[.int .i64 kind, .int .i64 n, .string name]] w (DoP W0 D Wd u (mBranch H name)) := by
  obtain ⟨D', h1, hc, hb⟩ := do_box (kind := kind) (n := n) (name := name) h
  have HT := Lib.hid h1
  have HC := Lib.hid hc
  have HB := Lib.hid hb
  have HM := Lib.hid hm
  clear h1 hc hb hm h
  go_enter Try.func25, Try.ntmps25
  go_wp2_with fail
  refine (HM.out _).mono ?_
  rintro e w1 ⟨rfl, rfl⟩
  go_wp2_with fail
  have HT := Lib.hid (HT.out.later ((Below.refl _ _).drew))
  have hq0 := (HC.out _ _ _ _ _ HT.out).2
  go_region_held3 (fun w' => w'.cell? ⟨w.heap.size, 2, none⟩ = some (.string name))
    (first | exact hq0 | exact hq)
    (first
      | (go_at_call 14; refine (twl_branch HT.out name hn).mono ?_; rintro e wx ⟨rfl, hx⟩; have hq := (HC.out _ _ _ _ _ hx).2; clear HT; have HT := Lib.hid hx; clear hx)
      | (go_at_call 47; refine (twr_branch HT.out name hn).mono ?_; rintro e wx ⟨rfl, hx⟩; have hq := (HC.out _ _ _ _ _ hx).2; clear HT; have HT := Lib.hid hx; clear hx))
  all_goals
    clear hq0 hq
    go_wp2_with fail
    go_ret2
    exact ⟨_, rfl, HB.out _ _ _ _ _ HT.out⟩

set_option maxRecDepth 100000 in
set_option maxHeartbeats 1000000 in
theorem do_switch {kind n : Int} {name : ByteArray} (h : Tw W0 D Wd t u H H w) (hm : ∀ w', Calls Try.prog 12 #[.int .i64 kind, .int .i64 16] w' (Pure0 (.int .i64 10) w')) (hn : name.size ≤ maxLen) :
    Calls Try.prog 25 #[.pointer (some ⟨t, 0, none⟩), .pointer (some ⟨u, 0, none⟩), .agg #[.int .i64 kind, .int .i64 n, .string name]] w (DoP W0 D Wd u (mSwitch H name)) := by
  obtain ⟨D', h1, hc, hb⟩ := do_box (kind := kind) (n := n) (name := name) h
  have HT := Lib.hid h1
  have HC := Lib.hid hc
  have HB := Lib.hid hb
  have HM := Lib.hid hm
  clear h1 hc hb hm h
  go_enter Try.func25, Try.ntmps25
  go_wp2_with fail
  refine (HM.out _).mono ?_
  rintro e w1 ⟨rfl, rfl⟩
  go_wp2_with fail
  have HT := Lib.hid (HT.out.later ((Below.refl _ _).drew))
  have hq0 := (HC.out _ _ _ _ _ HT.out).2
  go_region_held3 (fun w' => w'.cell? ⟨w.heap.size, 2, none⟩ = some (.string name))
    (first | exact hq0 | exact hq)
    (first
      | (go_at_call 15; refine (twl_switch HT.out name hn).mono ?_; rintro e wx ⟨rfl, hx⟩; have hq := (HC.out _ _ _ _ _ hx).2; clear HT; have HT := Lib.hid hx; clear hx)
      | (go_at_call 48; refine (twr_switch HT.out name hn).mono ?_; rintro e wx ⟨rfl, hx⟩; have hq := (HC.out _ _ _ _ _ hx).2; clear HT; have HT := Lib.hid hx; clear hx))
  all_goals
    clear hq0 hq
    go_wp2_with fail
    go_ret2
    exact ⟨_, rfl, HB.out _ _ _ _ _ HT.out⟩

set_option maxRecDepth 100000 in
set_option maxHeartbeats 1000000 in
theorem do_remove {kind n : Int} {name : ByteArray} (h : Tw W0 D Wd t u H H w) (hm : ∀ w', Calls Try.prog 12 #[.int .i64 kind, .int .i64 16] w' (Pure0 (.int .i64 11) w')) (hn : name.size ≤ maxLen) :
    Calls Try.prog 25 #[.pointer (some ⟨t, 0, none⟩), .pointer (some ⟨u, 0, none⟩), .agg #[.int .i64 kind, .int .i64 n, .string name]] w (DoP W0 D Wd u (mRemove H name)) := by
  obtain ⟨D', h1, hc, hb⟩ := do_box (kind := kind) (n := n) (name := name) h
  have HT := Lib.hid h1
  have HC := Lib.hid hc
  have HB := Lib.hid hb
  have HM := Lib.hid hm
  clear h1 hc hb hm h
  go_enter Try.func25, Try.ntmps25
  go_wp2_with fail
  refine (HM.out _).mono ?_
  rintro e w1 ⟨rfl, rfl⟩
  go_wp2_with fail
  have HT := Lib.hid (HT.out.later ((Below.refl _ _).drew))
  have hq0 := (HC.out _ _ _ _ _ HT.out).2
  go_region_held3 (fun w' => w'.cell? ⟨w.heap.size, 2, none⟩ = some (.string name))
    (first | exact hq0 | exact hq)
    (first
      | (go_at_call 49; refine (twl_remove HT.out name hn).mono ?_; rintro e wx ⟨rfl, hx⟩; have hq := (HC.out _ _ _ _ _ hx).2; clear HT; have HT := Lib.hid hx; clear hx)
      | (go_at_call 50; refine (twr_remove HT.out name hn).mono ?_; rintro e wx ⟨rfl, hx⟩; have hq := (HC.out _ _ _ _ _ hx).2; clear HT; have HT := Lib.hid hx; clear hx))
  all_goals
    clear hq0 hq
    go_wp2_with fail
    go_ret2
    exact ⟨_, rfl, HB.out _ _ _ _ _ HT.out⟩

set_option maxRecDepth 100000 in
set_option maxHeartbeats 1000000 in
theorem do_snap {kind n : Int} {name : ByteArray} (h : Tw W0 D Wd t u H H w) (hm : ∀ w', Calls Try.prog 12 #[.int .i64 kind, .int .i64 16] w' (Pure0 (.int .i64 12) w')) (hn : name.size ≤ maxLen) :
    Calls Try.prog 25 #[.pointer (some ⟨t, 0, none⟩), .pointer (some ⟨u, 0, none⟩), .agg #[.int .i64 kind, .int .i64 n, .string name]] w (DoP W0 D Wd u (mSnap H name)) := by
  obtain ⟨D', h1, hc, hb⟩ := do_box (kind := kind) (n := n) (name := name) h
  have HT := Lib.hid h1
  have HC := Lib.hid hc
  have HB := Lib.hid hb
  have HM := Lib.hid hm
  clear h1 hc hb hm h
  go_enter Try.func25, Try.ntmps25
  go_wp2_with fail
  refine (HM.out _).mono ?_
  rintro e w1 ⟨rfl, rfl⟩
  go_wp2_with fail
  have HT := Lib.hid (HT.out.later ((Below.refl _ _).drew))
  have hq0 := (HC.out _ _ _ _ _ HT.out).2
  go_region_held3 (fun w' => w'.cell? ⟨w.heap.size, 2, none⟩ = some (.string name))
    (first | exact hq0 | exact hq)
    (first
      | (go_at_call 20; refine (twl_snap HT.out name hn).mono ?_; rintro e wx ⟨rfl, hx⟩; have hq := (HC.out _ _ _ _ _ hx).2; clear HT; have HT := Lib.hid hx; clear hx)
      | (go_at_call 51; refine (twr_snap HT.out name hn).mono ?_; rintro e wx ⟨rfl, hx⟩; have hq := (HC.out _ _ _ _ _ hx).2; clear HT; have HT := Lib.hid hx; clear hx))
  all_goals
    clear hq0 hq
    go_wp2_with fail
    go_ret2
    exact ⟨_, rfl, HB.out _ _ _ _ _ HT.out⟩

set_option maxRecDepth 100000 in
set_option maxHeartbeats 1000000 in
theorem do_rest {kind n : Int} {name : ByteArray} (h : Tw W0 D Wd t u H H w) (hm : ∀ w', Calls Try.prog 12 #[.int .i64 kind, .int .i64 16] w' (Pure0 (.int .i64 13) w')) (hn : name.size ≤ maxLen) :
    Calls Try.prog 25 #[.pointer (some ⟨t, 0, none⟩), .pointer (some ⟨u, 0, none⟩), .agg #[.int .i64 kind, .int .i64 n, .string name]] w (DoP W0 D Wd u (mRest H name)) := by
  obtain ⟨D', h1, hc, hb⟩ := do_box (kind := kind) (n := n) (name := name) h
  have HT := Lib.hid h1
  have HC := Lib.hid hc
  have HB := Lib.hid hb
  have HM := Lib.hid hm
  clear h1 hc hb hm h
  go_enter Try.func25, Try.ntmps25
  go_wp2_with fail
  refine (HM.out _).mono ?_
  rintro e w1 ⟨rfl, rfl⟩
  go_wp2_with fail
  have HT := Lib.hid (HT.out.later ((Below.refl _ _).drew))
  have hq0 := (HC.out _ _ _ _ _ HT.out).2
  go_region_held3 (fun w' => w'.cell? ⟨w.heap.size, 2, none⟩ = some (.string name))
    (first | exact hq0 | exact hq)
    (first
      | (go_at_call 21; refine (twl_rest HT.out name hn).mono ?_; rintro e wx ⟨rfl, hx⟩; have hq := (HC.out _ _ _ _ _ hx).2; clear HT; have HT := Lib.hid hx; clear hx)
      | (go_at_call 52; refine (twr_rest HT.out name hn).mono ?_; rintro e wx ⟨rfl, hx⟩; have hq := (HC.out _ _ _ _ _ hx).2; clear HT; have HT := Lib.hid hx; clear hx))
  all_goals
    clear hq0 hq
    go_wp2_with fail
    go_ret2
    exact ⟨_, rfl, HB.out _ _ _ _ _ HT.out⟩

set_option maxRecDepth 100000 in
set_option maxHeartbeats 1000000 in
theorem do_forget {kind n : Int} {name : ByteArray} (h : Tw W0 D Wd t u H H w) (hm : ∀ w', Calls Try.prog 12 #[.int .i64 kind, .int .i64 16] w' (Pure0 (.int .i64 14) w')) (hn : name.size ≤ maxLen) :
    Calls Try.prog 25 #[.pointer (some ⟨t, 0, none⟩), .pointer (some ⟨u, 0, none⟩), .agg #[.int .i64 kind, .int .i64 n, .string name]] w (DoP W0 D Wd u (mForget H name)) := by
  obtain ⟨D', h1, hc, hb⟩ := do_box (kind := kind) (n := n) (name := name) h
  have HT := Lib.hid h1
  have HC := Lib.hid hc
  have HB := Lib.hid hb
  have HM := Lib.hid hm
  clear h1 hc hb hm h
  go_enter Try.func25, Try.ntmps25
  go_wp2_with fail
  refine (HM.out _).mono ?_
  rintro e w1 ⟨rfl, rfl⟩
  go_wp2_with fail
  have HT := Lib.hid (HT.out.later ((Below.refl _ _).drew))
  have hq0 := (HC.out _ _ _ _ _ HT.out).2
  go_region_held3 (fun w' => w'.cell? ⟨w.heap.size, 2, none⟩ = some (.string name))
    (first | exact hq0 | exact hq)
    (first
      | (go_at_call 53; refine (twl_forget HT.out name hn).mono ?_; rintro e wx ⟨rfl, hx⟩; have hq := (HC.out _ _ _ _ _ hx).2; clear HT; have HT := Lib.hid hx; clear hx)
      | (go_at_call 54; refine (twr_forget HT.out name hn).mono ?_; rintro e wx ⟨rfl, hx⟩; have hq := (HC.out _ _ _ _ _ hx).2; clear HT; have HT := Lib.hid hx; clear hx))
  all_goals
    clear hq0 hq
    go_wp2_with fail
    go_ret2
    exact ⟨_, rfl, HB.out _ _ _ _ _ HT.out⟩

set_option maxRecDepth 100000 in
set_option maxHeartbeats 1000000 in
theorem do_copy {kind n : Int} {name : ByteArray} (h : Tw W0 D Wd t u H H w) (hm : ∀ w', Calls Try.prog 12 #[.int .i64 kind, .int .i64 16] w' (Pure0 (.int .i64 15) w')) :
    Calls Try.prog 25 #[.pointer (some ⟨t, 0, none⟩), .pointer (some ⟨u, 0, none⟩), .agg #[.int .i64 kind, .int .i64 n, .string name]] w (DoP W0 D Wd u H) := by
  obtain ⟨D', h1, _, hb⟩ := do_box (kind := kind) (n := n) (name := name) h
  have HT := Lib.hid h1
  have HB := Lib.hid hb
  have HM := Lib.hid hm
  clear h1 hb hm h
  go_enter Try.func25, Try.ntmps25
  go_wp2_with fail
  refine (HM.out _).mono ?_
  rintro e w1 ⟨rfl, rfl⟩
  go_wp2_with fail
  refine (tw_copy HT.out).mono ?_
  rintro e w2 ⟨t', rfl, h2⟩
  have HT2 := Lib.hid h2
  clear h2 HT
  go_wp2_with fail
  go_ret2
  exact ⟨_, rfl, HB.out _ _ _ _ _ HT2.out⟩

theorem do25 {kind n : Int} {name : ByteArray} (h : Tw W0 D Wd t u H H w) (hk1 : -9223372036854775808 ≤ kind) (hk2 : kind ≤ 9223372036854775807) (hn : name.size ≤ maxLen) :
    Calls Try.prog 25 #[.pointer (some ⟨t, 0, none⟩), .pointer (some ⟨u, 0, none⟩), .agg #[.int .i64 kind, .int .i64 n, .string name]] w (DoP W0 D Wd u (actM H kind n name)) := by
  have hm := fun w' => mod_any kind 16 (by omega) (by omega) hk1 hk2 w'
  have hlo := Int.emod_nonneg kind (b := 16) (by omega)
  have hhi := Int.emod_lt_of_pos kind (b := 16) (by omega)
  unfold actM
  generalize kind % 16 = j at hm hlo hhi
  by_cases h4 : j < 4
  · rw [if_pos h4]; exact do_commit h hm h4
  rw [if_neg h4]
  by_cases h7 : j < 7
  · rw [if_pos h7]; exact do_undo h hm ⟨by omega, h7⟩
  rw [if_neg h7]
  by_cases h9 : j < 9
  · rw [if_pos h9]; exact do_redo h hm ⟨by omega, h9⟩
  rw [if_neg h9]
  by_cases e9 : j = 9
  · subst e9; rw [if_pos rfl]; exact do_branch h hm hn
  rw [if_neg e9]
  by_cases e10 : j = 10
  · subst e10; rw [if_pos rfl]; exact do_switch h hm hn
  rw [if_neg e10]
  by_cases e11 : j = 11
  · subst e11; rw [if_pos rfl]; exact do_remove h hm hn
  rw [if_neg e11]
  by_cases e12 : j = 12
  · subst e12; rw [if_pos rfl]; exact do_snap h hm hn
  rw [if_neg e12]
  by_cases e13 : j = 13
  · subst e13; rw [if_pos rfl]; exact do_rest h hm hn
  rw [if_neg e13]
  by_cases e14 : j = 14
  · subst e14; rw [if_pos rfl]; exact do_forget h hm hn
  rw [if_neg e14]
  obtain rfl : j = 15 := by omega
  exact do_copy h hm

end

end Go.Proofs.Ytalmfmijjbpnpaa
