/-
  Walk of the heap's Pop; the first number of a heap is its greatest.
-/
import Derived.Test.YtfdaghhplijpeaaGreatDoorLmOhOi
namespace Go.Proofs.YtfdaghhplijpeaaGreatDoor
open Go Go.RowKit

theorem pop_DOx {l : List Int} {n : Nat} (h : HO l) (hn : l.length = n + 1) : DOx (swapped l 0 n) n 0 := by
  have g := fun k => swapped_get (l := l) (i := 0) (j := n) (by omega) (by omega) k
  refine ⟨fun i h0 h1 h2 => ?_, fun h => by omega⟩
  rw [g, g, if_neg (by omega), if_neg (by omega), if_neg (by omega), if_neg h2]
  exact h i h0 (by omega)
theorem heap_max {l : List Int} (h : HO l) : ∀ (k : Nat), k < l.length → l.getD k 0 ≤ l.getD 0 0 := by
  intro k
  induction k using Nat.strongRecOn with
  | _ k ih =>
    intro hk
    rcases Nat.eq_zero_or_pos k with rfl | h0
    · exact Int.le_refl _
    · have h1 := h k h0 hk
      have h2 := ih ((k - 1) / 2) (by omega) (by omega)
      omega
theorem heap_max_mem {l : List Int} (h : HO l) {x : Int} (hx : x ∈ l) : x ≤ l.getD 0 0 := by
  obtain ⟨k, h1, rfl⟩ := mem_getD.1 hx
  exact heap_max h k h1
theorem take_get {l : List Int} {n k : Nat} (hk : k < n) : (l.take n).getD k 0 = l.getD k 0 := by
  rw [List.getD_eq_getElem?_getD, List.getElem?_take, if_pos hk, List.getD_eq_getElem?_getD]
theorem HOn.take {l : List Int} {n : Nat} (h : HOn l n) : HO (l.take n) := fun i h0 h1 => by
  have hi : i < n := by simp at h1; omega
  rw [take_get hi, take_get (by omega)]
  exact h i h0 hi
/-- What lies in the heap behind a Pop. -/
theorem pop_mem {w wr : World} {B q n : Nat} {v : Value} {l l' : List Int} (hn : l.length = n + 1) (hu : DnR w B q v n (swapped l 0 n) l' wr) :
    l'.getD n 0 = l.getD 0 0 ∧ (∀ y, y ∈ l'.take n → y ∈ l) ∧ (∀ y, y ∈ l → y ∈ l'.take n ∨ y = l.getD 0 0) := by
  have g := fun k => swapped_get (l := l) (i := 0) (j := n) (by omega) (by omega) k
  obtain ⟨_, h2, h3, h4, _⟩ := hu
  rw [swapped_length] at h2
  refine ⟨by rw [h4 n (Nat.le_refl _), g, if_pos rfl], fun y hy => ?_, fun y hy => ?_⟩
  · obtain ⟨k, hk, e⟩ := mem_getD.1 hy
    have hkn : k < n := by simp at hk; omega
    rw [take_get hkn] at e
    obtain ⟨k', hk', e'⟩ := (h3 y).1 ⟨k, hkn, e⟩
    exact (mem_swapped (by omega) (by omega) y).1 (mem_getD.2 ⟨k', by rw [swapped_length]; omega, e'⟩)
  · obtain ⟨k, hk, e⟩ := mem_getD.1 ((mem_swapped (i := 0) (j := n) (by omega) (by omega) y).2 hy)
    rw [swapped_length] at hk
    by_cases hkn : k < n
    · left
      obtain ⟨k', hk', e'⟩ := (h3 y).2 ⟨k, hkn, e⟩
      exact mem_getD.2 ⟨k', by simp; omega, by rw [take_get hk']; exact e'⟩
    · right
      have : k = n := by omega
      subst this
      rw [g, if_pos rfl] at e
      exact e.symm
set_option maxRecDepth 100000 in
set_option maxHeartbeats 4000000 in
theorem heapPop_calls {w : World} {B q : Nat} {v : Value} {l : List Int} (h : HeapR w B q v l) (n : Nat) (hn : l.length = n + 1) (hl : n ≤ 9000) (ho : HO l) :
    Calls Tryz.prog 26 #[heapI q] w fun e w' => e = .returned (.iface 3 (.int .i64 (l.getD 0 0))) ∧ ∃ v' l', HeapR w' B q v' l' ∧ HO l' ∧ l'.length = n ∧ (∀ y, y ∈ l' → y ∈ l) ∧ (∀ y, y ∈ l → y ∈ l' ∨ y = l.getD 0 0) ∧
      v'.ownBlock = v.ownBlock ∧ Fr (fun k => k = q ∨ v.ownBlock = some k) w w' := by
  have H := Lib.hid h
  have HOL := Lib.hid (And.intro ho (And.intro hn hl))
  clear h ho
  have rp := run_Pop q
  have rn := run_Len q
  have rs := run_Swap q
  unfold heapI
  unfold ptr
  go_enter Tryz.func26, Tryz.ntmps26
  go_wp2_with fail
  refine (len_calls H.out).mono ?_
  rintro e w2 ⟨rfl, rfl⟩
  rw [hn]
  have hw : IntKind.i64.wrap (n : Int) = (n : Int) := IntWalk.i64_in _ ⟨by omega, by omega⟩
  have n0 : (0 : Int) ≤ (n : Int) := by omega
  clear hn hl
  go_wp2_with fail
  refine (swap_calls (i := 0) (j := n) H.out (by have := HOL.out.2; omega) (by have := HOL.out.2; omega) (by have := HOL.out.2; omega)).mono ?_
  rintro e w3 ⟨rfl, h3, hf3⟩
  have H3 := Lib.hid (And.intro h3 hf3)
  clear h3 hf3
  go_wp2_with fail
  refine (down_calls H3.out.1 n (by rw [swapped_length]; exact HOL.out.2.1) (by have := HOL.out.2.2; omega) (pop_DOx HOL.out.1 HOL.out.2.1)).mono ?_
  rintro e w4 ⟨⟨b, rfl⟩, l', hu, ho'⟩
  have HU := Lib.hid (And.intro hu ho')
  clear hu ho'
  go_wp2_with fail
  refine (numPop_calls (m := n) HU.out.1.1 (by rw [HU.out.1.2.1, swapped_length]; exact HOL.out.2.1) (by have := HOL.out.2.2; omega)).mono ?_
  rintro e w5 ⟨rfl, v', h5, hv5, hf5⟩
  have H5 := Lib.hid (And.intro h5 (And.intro hv5 hf5))
  clear h5 hv5 hf5
  rw [(pop_mem HOL.out.2.1 HU.out.1).1]
  go_wp2_with fail
  go_ret
  refine ⟨rfl, v', _, H5.out.1, HU.out.2.take, by have := HU.out.1.2.1; rw [swapped_length] at this; have := HOL.out.2.1; simp; omega, (pop_mem HOL.out.2.1 HU.out.1).2.1, (pop_mem HOL.out.2.1 HU.out.1).2.2, H5.out.2.1, ?_⟩
  exact ((H3.out.2.mono (fun _ _ e => .inr e)).trans HU.out.1.2.2.2.2 (fun _ _ e => .inr e)).trans H5.out.2.2 (fun _ _ e => .inl e)
end Go.Proofs.YtfdaghhplijpeaaGreatDoor
/-
  Lists of nodes in memory; walk of the graph's Node.
-/
namespace Go.Proofs.YtfdaghhplijpeaaGreatDoor
open Go Go.RowKit

def nd0 : Nd := ⟨0, 0, 0, 0, ByteArray.empty⟩
theorem ndsCells_length (L : List Nd) : (ndsCells L).length = L.length * 5 := by
  induction L with
  | nil => rfl
  | cons x L ih => simp only [ndsCells, List.flatMap_cons, List.length_append] at ih ⊢; rw [ih]; simp [ndCells]; omega
theorem ndsCells_get : ∀ (L : List Nd) (i j : Nat), i < L.length → j < 5 → (ndsCells L)[i * 5 + j]? = (ndCells (L.getD i nd0))[j]?
  | [], i, j, h, _ => by simp at h
  | x :: L, 0, j, _, hj => by
    simp only [ndsCells, List.flatMap_cons]
    rw [List.getElem?_append_left (by simp [ndCells]; omega)]
    simp
  | x :: L, i + 1, j, h, hj => by
    have ih := ndsCells_get L i j (by simpa using h) hj
    simp only [ndsCells, List.flatMap_cons] at ih ⊢
    rw [List.getElem?_append_right (by simp [ndCells]; omega)]
    have : (i + 1) * 5 + j - (ndCells x).length = i * 5 + j := by simp [ndCells]; omega
    rw [this, ih]
    simp
/-- A row of nodes. -/
structure NdsR (w : World) (B : Nat) (v : Value) (L : List Nd) : Prop where
  own : w.ownsRow B 63 5 v L.length (ndsCells L)
theorem NdsR.slice {w : World} {B : Nat} {v : Value} {L : List Nd} (h : NdsR w B v L) : ∃ a c, v = .slice a L.length c := by
  rcases h.own.2 with ⟨rfl, e⟩ | ⟨g, c, _, rfl, _⟩
  · rw [e]; exact ⟨_, _, rfl⟩
  · exact ⟨_, _, rfl⟩
theorem NdsR.form {w : World} {B : Nat} {v : Value} {L : List Nd} (h : NdsR w B v L) {i : Nat} (hi : i < L.length) {x : Nd} (hx : L.getD i nd0 = x) : ∃ g c, v = .slice (some ⟨g, 0, none⟩) L.length c ∧
    w.cell? ⟨g, i * 5, none⟩ = some (.int .i64 x.k) ∧ w.cell? ⟨g, i * 5 + 1, none⟩ = some (.int .i64 x.a) ∧ w.cell? ⟨g, i * 5 + 2, none⟩ = some (.int .i64 x.b) ∧ w.cell? ⟨g, i * 5 + 3, none⟩ = some (.int .i64 x.n) ∧ w.cell? ⟨g, i * 5 + 4, none⟩ = some (.string x.t) := by
  obtain ⟨g, c, rfl, _⟩ := own_form h.own (by omega)
  have q := fun j (hj : j < 5) => (h.own.cellAt (i * 5 + j) (by omega)).trans (ndsCells_get L i j hi hj)
  rw [hx] at q
  exact ⟨g, c, rfl, q 0 (by omega), q 1 (by omega), q 2 (by omega), q 3 (by omega), q 4 (by omega)⟩
theorem NdsR.frame {w w' : World} {B : Nat} {v : Value} {L : List Nd} {S : Nat → Prop} (h : NdsR w B v L) (hf : Fr S w w') (hS : ∀ k, v.ownBlock = some k → ¬ S k) : NdsR w' B v L := ⟨own_frame h.own hf hS⟩
/-- The program's graph lies in block p: its nodes are L, in the row v; its index is the map m. -/
structure GraphR (w : World) (B p : Nat) (v m : Value) (L : List Nd) : Prop where
  blk : w.heap[p]? = some (.cells #[v, m] 95 (0, 0))
  nds : NdsR w B v L
set_option maxRecDepth 100000 in
set_option maxHeartbeats 2000000 in
theorem node_calls {w : World} {B p : Nat} {v m : Value} {L : List Nd} (h : GraphR w B p v m L) {i : Nat} (hi : i < L.length) (_hl : L.length ≤ 10000) {x : Nd} (hx : L.getD i nd0 = x) :
    Calls Tryz.prog 24 #[ptr p, .int .i64 i] w fun e w' => e = .returned (.tuple #[ndVal x, .bool true]) ∧ Fr (fun _ => False) w w' := by
  obtain ⟨g, c, rfl, c0, c1, c2, c3, c4⟩ := h.nds.form hi hx
  have b0 := cell_of_blk h.blk 0
  simp only [List.getElem?_toArray, List.getElem?_cons_zero] at b0
  have hp : p < w.heap.size := World.block_lt_of_cell? w _ b0
  have hg : g < w.heap.size := World.block_lt_of_cell? w _ c0
  obtain ⟨n, hn⟩ : ∃ n, L.length = n := ⟨_, rfl⟩
  rw [hn] at hi _hl b0
  clear h hx hn
  have i0 : (0 : Int) ≤ (i : Int) := by omega
  have i1 : (i : Int) < (n : Int) := by omega
  unfold ptr ndVal
  go_enter Tryz.func24, Tryz.ntmps24
  go_wp2_with fail
  refine bodyPost_ret (by simp [results, Tryz.results24, go_sem]; try rfl) rfl ?_
  exact ⟨rfl, (Fr.refl _ w).alloc _⟩
set_option maxRecDepth 100000 in
set_option maxHeartbeats 2000000 in
theorem node_bad {w : World} {B p : Nat} {v m : Value} {L : List Nd} (h : GraphR w B p v m L) {i : Int} (hi : i < 0 ∨ (L.length : Int) ≤ i) (hl : L.length ≤ 10000) :
    Calls Tryz.prog 24 #[ptr p, .int .i64 i] w fun e w' => e = .returned (.tuple #[ndVal nd0, .bool false]) ∧ Fr (fun _ => False) w w' := by
  have b0 := cell_of_blk h.blk 0
  simp only [List.getElem?_toArray, List.getElem?_cons_zero] at b0
  have hp : p < w.heap.size := World.block_lt_of_cell? w _ b0
  obtain ⟨a, c, rfl⟩ := h.nds.slice
  obtain ⟨n, hn⟩ : ∃ n, L.length = n := ⟨_, rfl⟩
  rw [hn] at hi hl b0
  clear h hn
  unfold ptr ndVal nd0
  rcases hi with hi | hi
  all_goals
    go_enter Tryz.func24, Tryz.ntmps24
    go_wp2_with fail
    refine bodyPost_ret (by simp [results, Tryz.results24, go_sem]; try rfl) rfl ?_
    exact ⟨rfl, (Fr.refl _ w).alloc _⟩
/-- Two rows with the same numbers are found equal. -/
theorem row_cells {w : World} {B : Nat} {v : Value} {zs : List Int} (h : w.ownsRow B 3 1 v zs.length (ints zs)) :
    ∃ a c, v = .slice a zs.length c ∧ ∀ k, k < zs.length → ∃ g, a = some ⟨g, 0, none⟩ ∧ w.cell? ⟨g, k, none⟩ = some (.int .i64 (zs.getD k 0)) := by
  by_cases h0 : 0 < zs.length
  · obtain ⟨g, c, rfl, _⟩ := own_form h h0
    exact ⟨_, c, rfl, fun k hk => ⟨g, rfl, by rw [h.cellAt k (by omega), ints_get hk]⟩⟩
  · rcases h.2 with ⟨rfl, e⟩ | ⟨g, c, _, rfl, _⟩
    · rw [e]; exact ⟨_, _, rfl, fun k hk => by omega⟩
    · exact ⟨_, _, rfl, fun k hk => by omega⟩
set_option maxRecDepth 100000 in
set_option maxHeartbeats 2000000 in
theorem same_calls {w : World} {B B' : Nat} {v1 v2 : Value} {zs : List Int} (h1 : w.ownsRow B 3 1 v1 zs.length (ints zs)) (h2 : w.ownsRow B' 3 1 v2 zs.length (ints zs)) (hl : zs.length ≤ 10000) :
    Calls Tryz.prog 23 #[v1, v2] w fun e w' => e = .returned (.bool true) ∧ Fr (fun _ => False) w w' := by
  obtain ⟨a1, c1, rfl, g1⟩ := row_cells h1
  obtain ⟨a2, c2, rfl, g2⟩ := row_cells h2
  clear h1 h2
  have G1 := Lib.hid g1
  have G2 := Lib.hid g2
  clear g1 g2
  obtain ⟨n, hn⟩ : ∃ n, zs.length = n := ⟨_, rfl⟩
  rw [hn] at hl G1 G2 ⊢
  clear hn
  go_enter Tryz.func23, Tryz.ntmps23
  go_wp2_with fail
  go_loopw [8] (fun i wr => Fr (fun _ => False) w wr ∧ ∃ k : Nat, k ≤ n ∧ i = .int .i64 k) (fun i _ => n - (intOf i).toNat)
  case atStart => exact ⟨Fr.refl _ _, 0, by omega, rfl⟩
  case round =>
    obtain ⟨hS, k, hk, rfl⟩ := hrel
    by_cases hkn : k < n
    · obtain ⟨b1, rfl, e1⟩ := G1.out k hkn
      obtain ⟨b2, rfl, e2⟩ := G2.out k hkn
      have e1' := hS.cell e1 (fun e => e)
      have e2' := hS.cell e2 (fun e => e)
      have HS := Lib.hid hS
      clear hS e1 e2
      go_wp2_with (go_quiet (fail))
      go_roundw
      case rel => exact ⟨HS.out.drewN _, k + 1, by omega, by go_num⟩
      case measure => simp [intOf]; omega
    · have hkn' : k = n := by omega
      have HS := Lib.hid hS
      clear hS
      go_wp2_with fail
      go_ret
      exact ⟨by simp, HS.out⟩
set_option maxHeartbeats 1000000 in
theorem millSame_calls {w : World} {B B' : Nat} {v1 v2 : Value} {zs : List Int} (h1 : w.ownsRow B 3 1 v1 zs.length (ints zs)) (h2 : w.ownsRow B' 3 1 v2 zs.length (ints zs)) (hl : zs.length ≤ 10000) :
    Calls Tryz.prog 8 #[v1, v2] w fun e w' => e = .returned (.bool true) ∧ Fr (fun _ => False) w w' := by
  have H := Lib.hid (And.intro h1 (And.intro h2 hl))
  obtain ⟨a1, c1, rfl, _⟩ := row_cells h1
  obtain ⟨a2, c2, rfl, _⟩ := row_cells h2
  clear h1 h2 hl
  go_enter Tryz.func8, Tryz.ntmps8
  go_wp2_with fail
  refine (same_calls H.out.1 H.out.2.1 H.out.2.2).mono ?_
  rintro e w1 ⟨rfl, hf⟩
  have HF := Lib.hid hf
  clear hf
  go_wp2_with fail
  go_ret
  exact ⟨rfl, HF.out⟩
end Go.Proofs.YtfdaghhplijpeaaGreatDoor
