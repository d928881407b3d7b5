/-
  Walk of the mill's part, from depth to depth.
-/
import Derived.Test.YtfdaghhplijpeaaGreatDoorLmOu
namespace Go.Proofs.YtfdaghhplijpeaaGreatDoor
open Go Go.RowKit

theorem pow2_succ (d : Nat) : 2 ^ (d + 1) = 2 * 2 ^ d := by rw [Nat.pow_succ]; omega
theorem arity_cases (k : Int) : arity k = 0 ∨ arity k = 1 ∨ arity k = 2 := by unfold arity; split; simp; split <;> simp
theorem arity_1 {k : Int} (h : arity k = 1) : 5 ≤ k := by unfold arity at h; split at h; simp at h; omega
theorem arity_2 {k : Int} (h : arity k = 2) : 6 ≤ k ∧ k ≤ 9 := by unfold arity at h; split at h; simp at h; split at h; omega; simp at h
theorem PartW.from_ {W0 w w2 w' : World} {p n k k2 k' d : Nat} {vt v v' : Value} {L L2 : List Nd} (h : PartW W0 w2 p vt n k2 v L d v' L2 k' w') (hF : Fr (· = p) w w2) (a0 : k ≤ k2) (a1 : k < n → k < k2) (a2 : k ≤ n → k2 ≤ n) : PartW W0 w p vt n k v L d v' L2 k' w' where
  mill := h.mill
  row := h.row
  nds := h.nds
  pos := h.pos
  len := h.len
  k0 := by have := h.k0; omega
  k1 := fun e => by have := a1 e; have := h.k0; omega
  k2 := fun e => h.k2 (a2 e)
  own := fun j e => (h.own j e).imp id (fun q => by have := hF.size; omega)
  fr := (hF.mono (fun _ _ e => .inl e)).trans h.fr (fun _ _ e => e)
theorem PartW.deeper {W0 w w' : World} {p n k k' d d' : Nat} {vt v v' : Value} {L L2 : List Nd} (h : PartW W0 w p vt n k v L d v' L2 k' w') (hd : d ≤ d') : PartW W0 w p vt n k v L d' v' L2 k' w' :=
  { h with len := Nat.le_trans h.len (Nat.pow_le_pow_right (by omega) hd) }
theorem partW_app {W0 w w1 w9 : World} {p n k k' g cap d : Nat} {vt v v1 : Value} {L M : List Nd} {y : Nd} {o : Obj} (hM : Mill W0 w1 p vt n k') (hN : NdsR w1 W0.heap.size v1 (L ++ M)) (hm : ∀ x ∈ M, MNd x) (hown : ∀ j, v1.ownBlock = some j → v.ownBlock = some j ∨ w.heap.size ≤ j)
    (hf : Fr (fun j => j = p ∨ v.ownBlock = some j) w w1) (h1 : NdsR w9 W0.heap.size (.slice (some ⟨g, 0, none⟩) ((L ++ M).length + 1) cap) ((L ++ M) ++ [y])) (h2 : Fr (fun j => v1.ownBlock = some j) (w1.alloc o) w9) (h3 : v1.ownBlock = some g ∨ (w1.alloc o).heap.size ≤ g)
    (hy : MNd y) (hlen : M.length + 2 ≤ 2 ^ d) (a0 : k ≤ k') (a1 : k < n → k < k') (a2 : k ≤ n → k' ≤ n) : PartW W0 w p vt n k v L d (.slice (some ⟨g, 0, none⟩) ((L ++ M).length + 1) cap) (M ++ [y]) k' w9 where
  mill := (hM.stay ((Fr.refl (fun _ => False) w1).alloc o) (fun _ e => e.elim) (fun e => e)).stay h2 (fun j e => (hN.own.lt j e).1) (tape_row hM.tape hN)
  row := by rw [← List.append_assoc]; exact h1
  nds := fun x hx => by
    rcases List.mem_append.1 hx with hx | hx
    · exact hm x hx
    · simp at hx; rw [hx]; exact hy
  pos := by simp
  len := by rw [List.length_append]; simpa using hlen
  k0 := a0
  k1 := a1
  k2 := a2
  own := fun j e => by
    have e1 : g = j := by simpa [Value.ownBlock] using e
    subst e1
    rcases h3 with h | h
    · exact hown g h
    · have := hf.size; simp at h; exact .inr (by omega)
  fr := (hf.trans ((Fr.refl (fun _ => False) w1).alloc o) (fun _ _ e => e.elim)).trans h2 fun j hj e => by
    rcases hown j e with q | q
    · exact .inr q
    · omega
set_option maxRecDepth 100000 in
set_option maxHeartbeats 16000000 in
theorem part_step {D : Int} {d : Nat} (h2 : 2 ≤ D) (h8 : D ≤ 8) (hd : 1 ≤ d) (hd7 : d ≤ 7) (ih : PartOk (D - 1) d) (i1 : PartOk 1 1) : PartOk D (d + 1) := by
  intro W0 w p n k vt v L closed hM hN hL
  obtain ⟨a, c, rfl⟩ := hN.slice
  have HP := Lib.hid (tape_row hM.tape hN)
  obtain ⟨m, hm⟩ : ∃ m, L.length = m := ⟨_, rfl⟩
  have HM0 := Lib.hid hM
  have HN := Lib.hid hN
  have HL := Lib.hid hL
  have HM := Lib.hid hm
  have HD := Lib.hid (show 1 ≤ d + 1 by omega)
  have HPm := Lib.hid (show (Value.slice a m c).ownBlock ≠ some p by rw [← hm]; exact HP.out)
  have HNm := Lib.hid (show NdsR w W0.heap.size (.slice a m c) L by rw [← hm]; exact hN)
  have hD1 : ¬ D ≤ 1 := by omega
  rw [hm] at hL ⊢
  clear hM hN hm
  unfold ptr
  go_enter Tryz.func41, Tryz.ntmps41
  go_wp2_with fail
  refine HM0.out.more.mono ?_
  rintro e w1 ⟨rfl, hM1, hF1⟩
  have HM1 := Lib.hid (And.intro hM1 (hF1.mono (S' := (· = p)) (fun _ _ e => e.elim)))
  clear hM1 hF1
  by_cases hk : k < n
  · rw [decide_eq_true hk]
    have HK := Lib.hid hk
    clear hk
    by_cases h24 : 24 < m
    · go_wp2_with fail
      refine (HM1.out.1.next 5 (by omega) (by omega)).mono ?_
      rintro e w2 ⟨r, k2, rfl, r0, r5, a0, a1, a2, hM2, hF2⟩
      have HM2 := Lib.hid (And.intro hM2 (And.intro (HM1.out.2.trans hF2 (fun _ _ e => e)) (And.intro a0 (And.intro a1 a2))))
      have hr : r = 0 ∨ r = 1 ∨ r = 2 ∨ r = 3 ∨ r = 4 := by omega
      clear hM2 hF2 r0 r5 a0 a1 a2
      rcases hr with rfl | rfl | rfl | rfl | rfl
      · go_wp2_with fail
        refine (HM2.out.1.next 2 (by omega) (by omega)).mono ?_
        rintro e w3 ⟨r, k3, rfl, r0, r5, a0, a1, a2, hM3, hF3⟩
        have HM3 := Lib.hid (And.intro hM3 (And.intro (HM2.out.2.1.trans hF3 (fun _ _ e => e)) (And.intro a0 (And.intro a1 a2))))
        have hr : r = 0 ∨ r = 1 := by omega
        clear hM3 hF3 r0 r5 a0 a1 a2
        rcases hr with rfl | rfl
        · go_wp2_with (at_builtin; refine app_node rfl _ _ rfl W0.heap.size (by have := HM3.out.1.below.size; simp; omega) _ L (by rw [HM.out]; rfl) (HN.out.taped HM3.out.2.1 HP.out _) _ ⟨3, 0, 0, 0, ByteArray.empty⟩ rfl (heap_alloc_new _ _) (by have := HL.out; omega) ?_; intro g cap w9 hn9 hf9 hg9; have H9 := Lib.hid (And.intro hn9 (And.intro hf9 hg9)); rw [HM.out]; clear hn9 hf9 hg9)
          go_ret
          have P := partW_one (d := d + 1) HM3.out.1 HN.out HM3.out.2.1 ((Fr.refl _ _).alloc _) H9.out.1 H9.out.2.1 H9.out.2.2 HP.out ⟨by simp, by simp, by simp, by simp, fun _ _ => rfl, by simp, fun _ => rfl⟩ HD.out (by have := HM2.out.2.2.1; have := HM3.out.2.2.1; omega) (fun e => by have := HM2.out.2.2.2.1 e; have := HM3.out.2.2.1; omega) (fun e => HM3.out.2.2.2.2 (HM2.out.2.2.2.2 e))
          rw [HM.out] at P
          exact ⟨_, _, _, rfl, P⟩
        · go_wp2_with (at_builtin; refine app_node rfl _ _ rfl W0.heap.size (by have := HM3.out.1.below.size; simp; omega) _ L (by rw [HM.out]; rfl) (HN.out.taped HM3.out.2.1 HP.out _) _ ⟨4, 0, 0, 0, ByteArray.empty⟩ rfl (heap_alloc_new _ _) (by have := HL.out; omega) ?_; intro g cap w9 hn9 hf9 hg9; have H9 := Lib.hid (And.intro hn9 (And.intro hf9 hg9)); rw [HM.out]; clear hn9 hf9 hg9)
          go_ret
          have P := partW_one (d := d + 1) HM3.out.1 HN.out HM3.out.2.1 ((Fr.refl _ _).alloc _) H9.out.1 H9.out.2.1 H9.out.2.2 HP.out ⟨by simp, by simp, by simp, by simp, fun _ _ => rfl, by simp, fun _ => rfl⟩ HD.out (by have := HM2.out.2.2.1; have := HM3.out.2.2.1; omega) (fun e => by have := HM2.out.2.2.2.1 e; have := HM3.out.2.2.1; omega) (fun e => HM3.out.2.2.2.2 (HM2.out.2.2.2.2 e))
          rw [HM.out] at P
          exact ⟨_, _, _, rfl, P⟩
      · cases closed
        · go_wp2_with fail
          refine (names_calls w2).mono ?_
          rintro e w3 ⟨rfl, hw3⟩
          have hb3 : w3.heap[w2.heap.size]? = some (.cells ⟨nms.map .string⟩ 9 (0, 0)) := by rw [hw3]; show (w2.heap.push _)[w2.heap.size]? = _; simp
          have hF3 : Fr (fun _ => False) w2 w3 := by rw [hw3]; exact (Fr.refl _ _).alloc _
          have HB3 := Lib.hid (And.intro hb3 (And.intro hF3 (HM2.out.1.stay hF3 (fun _ e => e.elim) (fun e => e))))
          clear hw3 hb3 hF3
          go_wp2_with fail
          refine (names_calls w3).mono ?_
          rintro e w4 ⟨rfl, hw4⟩
          have hF4 : Fr (fun _ => False) w3 w4 := by rw [hw4]; exact (Fr.refl _ _).alloc _
          have HB4 := Lib.hid (And.intro hF4 (HB3.out.2.2.stay hF4 (fun _ e => e.elim) (fun e => e)))
          clear hw4 hF4
          go_wp2_with fail
          refine (HB4.out.2.next 5 (by omega) (by omega)).mono ?_
          rintro e w5 ⟨r, k3, rfl, r0, r5, a0, a1, a2, hM5, hF5⟩
          obtain ⟨i, rfl⟩ : ∃ i : Nat, r = (i : Int) := ⟨r.toNat, by omega⟩
          have hsz3 : w2.heap.size < w3.heap.size := (Array.getElem?_eq_some_iff.1 HB3.out.1).1
          have hc : w5.cell? ⟨w2.heap.size, i, none⟩ = some (.string (nms.getD i ByteArray.empty)) :=
            str_cell (((hF5.block _ (by have := HB4.out.1.size; omega) (fun e => by have := HM2.out.1.tape.lt; omega)).trans (HB4.out.1.block _ hsz3 (fun e => e))).trans HB3.out.1) (show i < 5 by omega)
          have hs := getD_mem_str (l := nms) (i := i) (show i < 5 by omega)
          have HM3 := Lib.hid (And.intro hM5 (And.intro (((HM2.out.2.1.trans HB3.out.2.1 (fun _ _ e => e.elim)).trans HB4.out.1 (fun _ _ e => e.elim)).trans hF5 (fun _ _ e => e)) (And.intro a0 (And.intro a1 (And.intro a2 hs)))))
          generalize nms.getD i ByteArray.empty = s at hc HM3
          clear hM5 hF5 a0 a1 a2 hs hsz3
          go_wp2_with (at_builtin; refine app_node rfl _ _ rfl W0.heap.size (by have := HM3.out.1.below.size; simp; omega) _ L (by rw [HM.out]; rfl) (HN.out.taped HM3.out.2.1 HP.out _) _ ⟨2, 0, 0, 0, s⟩ rfl (heap_alloc_new _ _) (by have := HL.out; omega) ?_; intro g cap w9 hn9 hf9 hg9; have H9 := Lib.hid (And.intro hn9 (And.intro hf9 hg9)); rw [HM.out]; clear hn9 hf9 hg9)
          go_ret
          have P := partW_one (d := d + 1) HM3.out.1 HN.out HM3.out.2.1 ((Fr.refl _ _).alloc _) H9.out.1 H9.out.2.1 H9.out.2.2 HP.out ⟨by simp, by simp, by simp, fun _ => HM3.out.2.2.2.2.2, by simp, by simp, fun _ => rfl⟩ HD.out (by have := HM2.out.2.2.1; have := HM3.out.2.2.1; omega) (fun e => by have := HM2.out.2.2.2.1 e; have := HM3.out.2.2.1; omega) (fun e => HM3.out.2.2.2.2.1 (HM2.out.2.2.2.2 e))
          rw [HM.out] at P
          exact ⟨_, _, _, rfl, P⟩
        · go_wp2_with fail
          refine HM2.out.1.number.mono ?_
          rintro e w3 ⟨s, k3, rfl, hs, a0, a1, a2, hM3, hF3⟩
          have HM3 := Lib.hid (And.intro hM3 (And.intro (HM2.out.2.1.trans hF3 (fun _ _ e => e)) (And.intro a0 (And.intro a1 (And.intro a2 hs)))))
          clear hM3 hF3 a0 a1 a2 hs
          go_wp2_with (at_builtin; refine app_node rfl _ _ rfl W0.heap.size (by have := HM3.out.1.below.size; simp; omega) _ L (by rw [HM.out]; rfl) (HN.out.taped HM3.out.2.1 HP.out _) _ ⟨1, 0, 0, 0, s⟩ rfl (heap_alloc_new _ _) (by have := HL.out; omega) ?_; intro g cap w9 hn9 hf9 hg9; have H9 := Lib.hid (And.intro hn9 (And.intro hf9 hg9)); rw [HM.out]; clear hn9 hf9 hg9)
          go_ret
          have P := partW_one (d := d + 1) HM3.out.1 HN.out HM3.out.2.1 ((Fr.refl _ _).alloc _) H9.out.1 H9.out.2.1 H9.out.2.2 HP.out ⟨by simp, by simp, fun _ => HM3.out.2.2.2.2.2, by simp, by simp, by simp, fun _ => rfl⟩ HD.out (by have := HM2.out.2.2.1; have := HM3.out.2.2.1; omega) (fun e => by have := HM2.out.2.2.2.1 e; have := HM3.out.2.2.1; omega) (fun e => HM3.out.2.2.2.2.1 (HM2.out.2.2.2.2 e))
          rw [HM.out] at P
          exact ⟨_, _, _, rfl, P⟩
      · cases closed
        · go_wp2_with fail
          refine (names_calls w2).mono ?_
          rintro e w3 ⟨rfl, hw3⟩
          have hb3 : w3.heap[w2.heap.size]? = some (.cells ⟨nms.map .string⟩ 9 (0, 0)) := by rw [hw3]; show (w2.heap.push _)[w2.heap.size]? = _; simp
          have hF3 : Fr (fun _ => False) w2 w3 := by rw [hw3]; exact (Fr.refl _ _).alloc _
          have HB3 := Lib.hid (And.intro hb3 (And.intro hF3 (HM2.out.1.stay hF3 (fun _ e => e.elim) (fun e => e))))
          clear hw3 hb3 hF3
          go_wp2_with fail
          refine (names_calls w3).mono ?_
          rintro e w4 ⟨rfl, hw4⟩
          have hF4 : Fr (fun _ => False) w3 w4 := by rw [hw4]; exact (Fr.refl _ _).alloc _
          have HB4 := Lib.hid (And.intro hF4 (HB3.out.2.2.stay hF4 (fun _ e => e.elim) (fun e => e)))
          clear hw4 hF4
          go_wp2_with fail
          refine (HB4.out.2.next 5 (by omega) (by omega)).mono ?_
          rintro e w5 ⟨r, k3, rfl, r0, r5, a0, a1, a2, hM5, hF5⟩
          obtain ⟨i, rfl⟩ : ∃ i : Nat, r = (i : Int) := ⟨r.toNat, by omega⟩
          have hsz3 : w2.heap.size < w3.heap.size := (Array.getElem?_eq_some_iff.1 HB3.out.1).1
          have hc : w5.cell? ⟨w2.heap.size, i, none⟩ = some (.string (nms.getD i ByteArray.empty)) :=
            str_cell (((hF5.block _ (by have := HB4.out.1.size; omega) (fun e => by have := HM2.out.1.tape.lt; omega)).trans (HB4.out.1.block _ hsz3 (fun e => e))).trans HB3.out.1) (show i < 5 by omega)
          have hs := getD_mem_str (l := nms) (i := i) (show i < 5 by omega)
          have HM3 := Lib.hid (And.intro hM5 (And.intro (((HM2.out.2.1.trans HB3.out.2.1 (fun _ _ e => e.elim)).trans HB4.out.1 (fun _ _ e => e.elim)).trans hF5 (fun _ _ e => e)) (And.intro a0 (And.intro a1 (And.intro a2 hs)))))
          generalize nms.getD i ByteArray.empty = s at hc HM3
          clear hM5 hF5 a0 a1 a2 hs hsz3
          go_wp2_with (at_builtin; refine app_node rfl _ _ rfl W0.heap.size (by have := HM3.out.1.below.size; simp; omega) _ L (by rw [HM.out]; rfl) (HN.out.taped HM3.out.2.1 HP.out _) _ ⟨2, 0, 0, 0, s⟩ rfl (heap_alloc_new _ _) (by have := HL.out; omega) ?_; intro g cap w9 hn9 hf9 hg9; have H9 := Lib.hid (And.intro hn9 (And.intro hf9 hg9)); rw [HM.out]; clear hn9 hf9 hg9)
          go_ret
          have P := partW_one (d := d + 1) HM3.out.1 HN.out HM3.out.2.1 ((Fr.refl _ _).alloc _) H9.out.1 H9.out.2.1 H9.out.2.2 HP.out ⟨by simp, by simp, by simp, fun _ => HM3.out.2.2.2.2.2, by simp, by simp, fun _ => rfl⟩ HD.out (by have := HM2.out.2.2.1; have := HM3.out.2.2.1; omega) (fun e => by have := HM2.out.2.2.2.1 e; have := HM3.out.2.2.1; omega) (fun e => HM3.out.2.2.2.2.1 (HM2.out.2.2.2.2 e))
          rw [HM.out] at P
          exact ⟨_, _, _, rfl, P⟩
        · go_wp2_with fail
          refine HM2.out.1.number.mono ?_
          rintro e w3 ⟨s, k3, rfl, hs, a0, a1, a2, hM3, hF3⟩
          have HM3 := Lib.hid (And.intro hM3 (And.intro (HM2.out.2.1.trans hF3 (fun _ _ e => e)) (And.intro a0 (And.intro a1 (And.intro a2 hs)))))
          clear hM3 hF3 a0 a1 a2 hs
          go_wp2_with (at_builtin; refine app_node rfl _ _ rfl W0.heap.size (by have := HM3.out.1.below.size; simp; omega) _ L (by rw [HM.out]; rfl) (HN.out.taped HM3.out.2.1 HP.out _) _ ⟨1, 0, 0, 0, s⟩ rfl (heap_alloc_new _ _) (by have := HL.out; omega) ?_; intro g cap w9 hn9 hf9 hg9; have H9 := Lib.hid (And.intro hn9 (And.intro hf9 hg9)); rw [HM.out]; clear hn9 hf9 hg9)
          go_ret
          have P := partW_one (d := d + 1) HM3.out.1 HN.out HM3.out.2.1 ((Fr.refl _ _).alloc _) H9.out.1 H9.out.2.1 H9.out.2.2 HP.out ⟨by simp, by simp, fun _ => HM3.out.2.2.2.2.2, by simp, by simp, by simp, fun _ => rfl⟩ HD.out (by have := HM2.out.2.2.1; have := HM3.out.2.2.1; omega) (fun e => by have := HM2.out.2.2.2.1 e; have := HM3.out.2.2.1; omega) (fun e => HM3.out.2.2.2.2.1 (HM2.out.2.2.2.2 e))
          rw [HM.out] at P
          exact ⟨_, _, _, rfl, P⟩
      · go_wp2_with fail
        refine HM2.out.1.number.mono ?_
        rintro e w3 ⟨s, k3, rfl, hs, a0, a1, a2, hM3, hF3⟩
        have HM3 := Lib.hid (And.intro hM3 (And.intro (HM2.out.2.1.trans hF3 (fun _ _ e => e)) (And.intro a0 (And.intro a1 (And.intro a2 hs)))))
        clear hM3 hF3 a0 a1 a2 hs
        go_wp2_with (at_builtin; refine app_node rfl _ _ rfl W0.heap.size (by have := HM3.out.1.below.size; simp; omega) _ L (by rw [HM.out]; rfl) (HN.out.taped HM3.out.2.1 HP.out _) _ ⟨1, 0, 0, 0, s⟩ rfl (heap_alloc_new _ _) (by have := HL.out; omega) ?_; intro g cap w9 hn9 hf9 hg9; have H9 := Lib.hid (And.intro hn9 (And.intro hf9 hg9)); rw [HM.out]; clear hn9 hf9 hg9)
        go_ret
        have P := partW_one (d := d + 1) HM3.out.1 HN.out HM3.out.2.1 ((Fr.refl _ _).alloc _) H9.out.1 H9.out.2.1 H9.out.2.2 HP.out ⟨by simp, by simp, fun _ => HM3.out.2.2.2.2.2, by simp, by simp, by simp, fun _ => rfl⟩ HD.out (by have := HM2.out.2.2.1; have := HM3.out.2.2.1; omega) (fun e => by have := HM2.out.2.2.2.1 e; have := HM3.out.2.2.1; omega) (fun e => HM3.out.2.2.2.2.1 (HM2.out.2.2.2.2 e))
        rw [HM.out] at P
        exact ⟨_, _, _, rfl, P⟩
      · go_wp2_with fail
        refine HM2.out.1.number.mono ?_
        rintro e w3 ⟨s, k3, rfl, hs, a0, a1, a2, hM3, hF3⟩
        have HM3 := Lib.hid (And.intro hM3 (And.intro (HM2.out.2.1.trans hF3 (fun _ _ e => e)) (And.intro a0 (And.intro a1 (And.intro a2 hs)))))
        clear hM3 hF3 a0 a1 a2 hs
        go_wp2_with (at_builtin; refine app_node rfl _ _ rfl W0.heap.size (by have := HM3.out.1.below.size; simp; omega) _ L (by rw [HM.out]; rfl) (HN.out.taped HM3.out.2.1 HP.out _) _ ⟨1, 0, 0, 0, s⟩ rfl (heap_alloc_new _ _) (by have := HL.out; omega) ?_; intro g cap w9 hn9 hf9 hg9; have H9 := Lib.hid (And.intro hn9 (And.intro hf9 hg9)); rw [HM.out]; clear hn9 hf9 hg9)
        go_ret
        have P := partW_one (d := d + 1) HM3.out.1 HN.out HM3.out.2.1 ((Fr.refl _ _).alloc _) H9.out.1 H9.out.2.1 H9.out.2.2 HP.out ⟨by simp, by simp, fun _ => HM3.out.2.2.2.2.2, by simp, by simp, by simp, fun _ => rfl⟩ HD.out (by have := HM2.out.2.2.1; have := HM3.out.2.2.1; omega) (fun e => by have := HM2.out.2.2.2.1 e; have := HM3.out.2.2.1; omega) (fun e => HM3.out.2.2.2.2.1 (HM2.out.2.2.2.2 e))
        rw [HM.out] at P
        exact ⟨_, _, _, rfl, P⟩
    · go_wp2_with fail
      refine (HM1.out.1.range 1 16 (by omega) (by omega) (by omega)).mono ?_
      rintro e w2 ⟨kd, k2, rfl, b1, b16, a0, a1, a2, hM2, hF2⟩
      have HM2 := Lib.hid (And.intro hM2 (And.intro (HM1.out.2.trans hF2 (fun _ _ e => e)) (And.intro a0 (And.intro a1 a2))))
      clear hM2 hF2 a0 a1 a2
      go_wp2_with fail
      refine (operands_calls b1 b16 _).mono ?_
      rintro e w3 ⟨rfl, hw3⟩
      rw [hw3]
      clear hw3
      rcases arity_cases kd with h0 | h0 | h0
      · rw [h0]
        clear h0
        go_wp2_with fail
        refine (i1 closed HM2.out.1 (HNm.out.frame HM2.out.2.1 (fun j hj e => HPm.out (hj.trans (congrArg some e)))) HL.out).mono ?_
        rintro e w4 ⟨v', L2, k4, rfl, hP4⟩
        have P4 := Lib.hid (hP4.from_ HM2.out.2.1 HM2.out.2.2.1 HM2.out.2.2.2.1 HM2.out.2.2.2.2)
        clear hP4
        go_wp2_with fail
        go_ret
        exact ⟨_, _, _, rfl, P4.out.deeper (d' := d + 1) (by omega)⟩
      · rw [h0]
        have hk5 := arity_1 h0
        clear h0
        by_cases h10 : kd = 10
        · go_wp2_with fail
          refine (HM2.out.1.range (-3) 4 (by omega) (by omega) (by omega)).mono ?_
          rintro e w4 ⟨q, k4, rfl, q1, q2, a0, a1, a2, hM4, hF4⟩
          have HM4 := Lib.hid (And.intro hM4 (And.intro (HM2.out.2.1.trans hF4 (fun _ _ e => e)) (And.intro (Nat.le_trans HM2.out.2.2.1 a0) (And.intro (fun e => Nat.lt_of_lt_of_le (HM2.out.2.2.2.1 e) a0) (fun e => a2 (HM2.out.2.2.2.2 e)))))) 
          have HQ := Lib.hid (And.intro q1 (And.intro q2 (And.intro h10 (And.intro hk5 (And.intro b1 b16)))))
          clear hM4 hF4 a0 a1 a2 q1 q2 h10 hk5 b1 b16
          go_wp2_with fail
          refine (ih closed HM4.out.1 (HNm.out.frame HM4.out.2.1 (fun j hj e => HPm.out (hj.trans (congrArg some e)))) HL.out).mono ?_
          rintro e w5 ⟨v1, L1, k5, rfl, hP1⟩
          obtain ⟨a1, c1, rfl⟩ := hP1.row.slice
          obtain ⟨m1, hm1⟩ : ∃ m1, (L ++ L1).length = m1 := ⟨_, rfl⟩
          have b1 : m1 ≤ 200 := by
            have := hP1.len
            have : 2 ^ d ≤ 2 ^ 7 := Nat.pow_le_pow_right (by omega) hd7
            have := HM.out
            rw [← hm1, List.length_append]; omega
          have HM1' := Lib.hid hm1
          have P1 := Lib.hid (hP1.from_ HM4.out.2.1 HM4.out.2.2.1 HM4.out.2.2.2.1 HM4.out.2.2.2.2)
          rw [hm1]
          clear hP1 hm1
          go_wp2_with (at_builtin; refine app_node rfl _ _ rfl W0.heap.size (by have := P1.out.mill.below.size; simp; omega) _ (L ++ L1) (by rw [HM1'.out]; rfl) ⟨P1.out.row.own.alloc _⟩ _ ⟨10, (m1 : Int) - 1, 0, q, ByteArray.empty⟩ rfl (heap_alloc_new _ _) (by have := HM1'.out; omega) ?_; intro g cap w9 hn9 hf9 hg9; have H9 := Lib.hid (And.intro hn9 (And.intro hf9 hg9)); rw [HM1'.out]; clear hn9 hf9 hg9)
          go_ret
          have H91 := H9.out.1
          have P := partW_app (d := d + 1) P1.out.mill P1.out.row P1.out.nds P1.out.own P1.out.fr H9.out.1 H9.out.2.1 H9.out.2.2 ⟨by simp, by simp, fun e => by simp at e, fun e => by simp at e, fun _ _ => rfl, fun _ => ⟨HQ.out.1, by have := HQ.out.2.1; simp; omega⟩, fun e => by simp at e⟩ (by have := P1.out.len; have := pow2_succ d; omega) P1.out.k0 P1.out.k1 P1.out.k2
          rw [HM1'.out] at P
          exact ⟨_, _, _, rfl, P⟩
        · have HM4 := HM2
          have HQ := Lib.hid (And.intro h10 (And.intro hk5 (And.intro b1 b16)))
          go_wp2_with fail
          clear h10 hk5 b1 b16
          refine (ih closed HM4.out.1 (HNm.out.frame HM4.out.2.1 (fun j hj e => HPm.out (hj.trans (congrArg some e)))) HL.out).mono ?_
          rintro e w5 ⟨v1, L1, k5, rfl, hP1⟩
          obtain ⟨a1, c1, rfl⟩ := hP1.row.slice
          obtain ⟨m1, hm1⟩ : ∃ m1, (L ++ L1).length = m1 := ⟨_, rfl⟩
          have b1 : m1 ≤ 200 := by
            have := hP1.len
            have : 2 ^ d ≤ 2 ^ 7 := Nat.pow_le_pow_right (by omega) hd7
            have := HM.out
            rw [← hm1, List.length_append]; omega
          have HM1' := Lib.hid hm1
          have P1 := Lib.hid (hP1.from_ HM4.out.2.1 HM4.out.2.2.1 HM4.out.2.2.2.1 HM4.out.2.2.2.2)
          rw [hm1]
          clear hP1 hm1
          go_wp2_with (at_builtin; refine app_node rfl _ _ rfl W0.heap.size (by have := P1.out.mill.below.size; simp; omega) _ (L ++ L1) (by rw [HM1'.out]; rfl) ⟨P1.out.row.own.alloc _⟩ _ ⟨kd, (m1 : Int) - 1, 0, 0, ByteArray.empty⟩ rfl (heap_alloc_new _ _) (by have := HM1'.out; omega) ?_; intro g cap w9 hn9 hf9 hg9; have H9 := Lib.hid (And.intro hn9 (And.intro hf9 hg9)); rw [HM1'.out]; clear hn9 hf9 hg9)
          go_ret
          have H91 := H9.out.1
          have P := partW_app (d := d + 1) P1.out.mill P1.out.row P1.out.nds P1.out.own P1.out.fr H9.out.1 H9.out.2.1 H9.out.2.2 ⟨by have := HQ.out; simp; omega, by have := HQ.out; simp; omega, fun e => by have := HQ.out; simp at e; omega, fun e => by have := HQ.out; simp at e; omega, fun _ _ => rfl, fun e => by have := HQ.out; simp at e; omega, fun _ => rfl⟩ (by have := P1.out.len; have := pow2_succ d; omega) P1.out.k0 P1.out.k1 P1.out.k2
          rw [HM1'.out] at P
          exact ⟨_, _, _, rfl, P⟩
      · rw [h0]
        have hk5 := arity_2 h0
        have HQ := Lib.hid hk5
        have HM4 := HM2
        clear h0 hk5
        go_wp2_with fail
        refine (ih closed HM4.out.1 (HNm.out.frame HM4.out.2.1 (fun j hj e => HPm.out (hj.trans (congrArg some e)))) HL.out).mono ?_
        rintro e w5 ⟨v1, L1, k5, rfl, hP1⟩
        obtain ⟨a1, c1, rfl⟩ := hP1.row.slice
        obtain ⟨m1, hm1⟩ : ∃ m1, (L ++ L1).length = m1 := ⟨_, rfl⟩
        have b1 : m1 ≤ 200 := by
          have := hP1.len
          have : 2 ^ d ≤ 2 ^ 7 := Nat.pow_le_pow_right (by omega) hd7
          have := HM.out
          rw [← hm1, List.length_append]; omega
        have HM1' := Lib.hid hm1
        have P1 := Lib.hid (hP1.from_ HM4.out.2.1 HM4.out.2.2.1 HM4.out.2.2.2.1 HM4.out.2.2.2.2)
        rw [hm1]
        clear hP1 hm1
        go_wp2_with fail
        refine (ih closed P1.out.mill (by have R := P1.out.row; rw [HM1'.out] at R; exact R) (by have := HM1'.out; omega)).mono ?_
        rintro e w6 ⟨v2, L2, k6, rfl, hP2⟩
        obtain ⟨a2, c2, rfl⟩ := hP2.row.slice
        obtain ⟨m2, hm2⟩ : ∃ m2, ((L ++ L1) ++ L2).length = m2 := ⟨_, rfl⟩
        have b2 : m2 ≤ 400 := by
          have := hP2.len
          have : 2 ^ d ≤ 2 ^ 7 := Nat.pow_le_pow_right (by omega) hd7
          have := HM1'.out
          rw [← hm2, List.length_append]; omega
        have HM2' := Lib.hid hm2
        have P2 := Lib.hid hP2
        rw [hm2]
        clear hP2 hm2
        go_wp2_with (at_builtin; refine app_node rfl _ _ rfl W0.heap.size (by have := P2.out.mill.below.size; simp; omega) _ ((L ++ L1) ++ L2) (by rw [HM2'.out]; rfl) ⟨P2.out.row.own.alloc _⟩ _ ⟨kd, (m1 : Int) - 1, (m2 : Int) - 1, 0, ByteArray.empty⟩ rfl (heap_alloc_new _ _) (by have := HM2'.out; omega) ?_; intro g cap w9 hn9 hf9 hg9; have H9 := Lib.hid (And.intro hn9 (And.intro hf9 hg9)); rw [HM2'.out]; clear hn9 hf9 hg9)
        go_ret
        have T := P1.out.then (by rw [HM1'.out]; exact P2.out)
        have H91 := H9.out.1
        rw [List.append_assoc L L1 L2] at H91
        have P := partW_app (d := d + 1) (M := L1 ++ L2) P2.out.mill T.1 (fun x hx => (List.mem_append.1 hx).elim (P1.out.nds x) (P2.out.nds x)) T.2.1 T.2.2 H91 H9.out.2.1 H9.out.2.2 ⟨by have := HQ.out; simp; omega, by have := HQ.out; simp; omega, fun e => by have := HQ.out; simp at e; omega, fun e => by have := HQ.out; simp at e; omega, fun _ _ => rfl, fun e => by have := HQ.out; simp at e; omega, fun _ => rfl⟩
          (by have := P1.out.len; have := P2.out.len; have := pow2_succ d; rw [List.length_append]; omega) (Nat.le_trans P1.out.k0 P2.out.k0) (fun e => Nat.lt_of_lt_of_le (P1.out.k1 e) P2.out.k0) (fun e => P2.out.k2 (P1.out.k2 e))
        rw [← List.append_assoc, HM2'.out] at P
        exact ⟨_, _, _, rfl, P⟩
  · rw [decide_eq_false hk]
    clear hk
    go_wp2_with fail
    refine (HM1.out.1.next 5 (by omega) (by omega)).mono ?_
    rintro e w2 ⟨r, k2, rfl, r0, r5, a0, a1, a2, hM2, hF2⟩
    have HM2 := Lib.hid (And.intro hM2 (And.intro (HM1.out.2.trans hF2 (fun _ _ e => e)) (And.intro a0 (And.intro a1 a2))))
    have hr : r = 0 ∨ r = 1 ∨ r = 2 ∨ r = 3 ∨ r = 4 := by omega
    clear hM2 hF2 r0 r5 a0 a1 a2
    rcases hr with rfl | rfl | rfl | rfl | rfl
    · go_wp2_with fail
      refine (HM2.out.1.next 2 (by omega) (by omega)).mono ?_
      rintro e w3 ⟨r, k3, rfl, r0, r5, a0, a1, a2, hM3, hF3⟩
      have HM3 := Lib.hid (And.intro hM3 (And.intro (HM2.out.2.1.trans hF3 (fun _ _ e => e)) (And.intro a0 (And.intro a1 a2))))
      have hr : r = 0 ∨ r = 1 := by omega
      clear hM3 hF3 r0 r5 a0 a1 a2
      rcases hr with rfl | rfl
      · go_wp2_with (at_builtin; refine app_node rfl _ _ rfl W0.heap.size (by have := HM3.out.1.below.size; simp; omega) _ L (by rw [HM.out]; rfl) (HN.out.taped HM3.out.2.1 HP.out _) _ ⟨3, 0, 0, 0, ByteArray.empty⟩ rfl (heap_alloc_new _ _) (by have := HL.out; omega) ?_; intro g cap w9 hn9 hf9 hg9; have H9 := Lib.hid (And.intro hn9 (And.intro hf9 hg9)); rw [HM.out]; clear hn9 hf9 hg9)
        go_ret
        have P := partW_one (d := d + 1) HM3.out.1 HN.out HM3.out.2.1 ((Fr.refl _ _).alloc _) H9.out.1 H9.out.2.1 H9.out.2.2 HP.out ⟨by simp, by simp, by simp, by simp, fun _ _ => rfl, by simp, fun _ => rfl⟩ HD.out (by have := HM2.out.2.2.1; have := HM3.out.2.2.1; omega) (fun e => by have := HM2.out.2.2.2.1 e; have := HM3.out.2.2.1; omega) (fun e => HM3.out.2.2.2.2 (HM2.out.2.2.2.2 e))
        rw [HM.out] at P
        exact ⟨_, _, _, rfl, P⟩
      · go_wp2_with (at_builtin; refine app_node rfl _ _ rfl W0.heap.size (by have := HM3.out.1.below.size; simp; omega) _ L (by rw [HM.out]; rfl) (HN.out.taped HM3.out.2.1 HP.out _) _ ⟨4, 0, 0, 0, ByteArray.empty⟩ rfl (heap_alloc_new _ _) (by have := HL.out; omega) ?_; intro g cap w9 hn9 hf9 hg9; have H9 := Lib.hid (And.intro hn9 (And.intro hf9 hg9)); rw [HM.out]; clear hn9 hf9 hg9)
        go_ret
        have P := partW_one (d := d + 1) HM3.out.1 HN.out HM3.out.2.1 ((Fr.refl _ _).alloc _) H9.out.1 H9.out.2.1 H9.out.2.2 HP.out ⟨by simp, by simp, by simp, by simp, fun _ _ => rfl, by simp, fun _ => rfl⟩ HD.out (by have := HM2.out.2.2.1; have := HM3.out.2.2.1; omega) (fun e => by have := HM2.out.2.2.2.1 e; have := HM3.out.2.2.1; omega) (fun e => HM3.out.2.2.2.2 (HM2.out.2.2.2.2 e))
        rw [HM.out] at P
        exact ⟨_, _, _, rfl, P⟩
    · cases closed
      · go_wp2_with fail
        refine (names_calls w2).mono ?_
        rintro e w3 ⟨rfl, hw3⟩
        have hb3 : w3.heap[w2.heap.size]? = some (.cells ⟨nms.map .string⟩ 9 (0, 0)) := by rw [hw3]; show (w2.heap.push _)[w2.heap.size]? = _; simp
        have hF3 : Fr (fun _ => False) w2 w3 := by rw [hw3]; exact (Fr.refl _ _).alloc _
        have HB3 := Lib.hid (And.intro hb3 (And.intro hF3 (HM2.out.1.stay hF3 (fun _ e => e.elim) (fun e => e))))
        clear hw3 hb3 hF3
        go_wp2_with fail
        refine (names_calls w3).mono ?_
        rintro e w4 ⟨rfl, hw4⟩
        have hF4 : Fr (fun _ => False) w3 w4 := by rw [hw4]; exact (Fr.refl _ _).alloc _
        have HB4 := Lib.hid (And.intro hF4 (HB3.out.2.2.stay hF4 (fun _ e => e.elim) (fun e => e)))
        clear hw4 hF4
        go_wp2_with fail
        refine (HB4.out.2.next 5 (by omega) (by omega)).mono ?_
        rintro e w5 ⟨r, k3, rfl, r0, r5, a0, a1, a2, hM5, hF5⟩
        obtain ⟨i, rfl⟩ : ∃ i : Nat, r = (i : Int) := ⟨r.toNat, by omega⟩
        have hsz3 : w2.heap.size < w3.heap.size := (Array.getElem?_eq_some_iff.1 HB3.out.1).1
        have hc : w5.cell? ⟨w2.heap.size, i, none⟩ = some (.string (nms.getD i ByteArray.empty)) :=
          str_cell (((hF5.block _ (by have := HB4.out.1.size; omega) (fun e => by have := HM2.out.1.tape.lt; omega)).trans (HB4.out.1.block _ hsz3 (fun e => e))).trans HB3.out.1) (show i < 5 by omega)
        have hs := getD_mem_str (l := nms) (i := i) (show i < 5 by omega)
        have HM3 := Lib.hid (And.intro hM5 (And.intro (((HM2.out.2.1.trans HB3.out.2.1 (fun _ _ e => e.elim)).trans HB4.out.1 (fun _ _ e => e.elim)).trans hF5 (fun _ _ e => e)) (And.intro a0 (And.intro a1 (And.intro a2 hs)))))
        generalize nms.getD i ByteArray.empty = s at hc HM3
        clear hM5 hF5 a0 a1 a2 hs hsz3
        go_wp2_with (at_builtin; refine app_node rfl _ _ rfl W0.heap.size (by have := HM3.out.1.below.size; simp; omega) _ L (by rw [HM.out]; rfl) (HN.out.taped HM3.out.2.1 HP.out _) _ ⟨2, 0, 0, 0, s⟩ rfl (heap_alloc_new _ _) (by have := HL.out; omega) ?_; intro g cap w9 hn9 hf9 hg9; have H9 := Lib.hid (And.intro hn9 (And.intro hf9 hg9)); rw [HM.out]; clear hn9 hf9 hg9)
        go_ret
        have P := partW_one (d := d + 1) HM3.out.1 HN.out HM3.out.2.1 ((Fr.refl _ _).alloc _) H9.out.1 H9.out.2.1 H9.out.2.2 HP.out ⟨by simp, by simp, by simp, fun _ => HM3.out.2.2.2.2.2, by simp, by simp, fun _ => rfl⟩ HD.out (by have := HM2.out.2.2.1; have := HM3.out.2.2.1; omega) (fun e => by have := HM2.out.2.2.2.1 e; have := HM3.out.2.2.1; omega) (fun e => HM3.out.2.2.2.2.1 (HM2.out.2.2.2.2 e))
        rw [HM.out] at P
        exact ⟨_, _, _, rfl, P⟩
      · go_wp2_with fail
        refine HM2.out.1.number.mono ?_
        rintro e w3 ⟨s, k3, rfl, hs, a0, a1, a2, hM3, hF3⟩
        have HM3 := Lib.hid (And.intro hM3 (And.intro (HM2.out.2.1.trans hF3 (fun _ _ e => e)) (And.intro a0 (And.intro a1 (And.intro a2 hs)))))
        clear hM3 hF3 a0 a1 a2 hs
        go_wp2_with (at_builtin; refine app_node rfl _ _ rfl W0.heap.size (by have := HM3.out.1.below.size; simp; omega) _ L (by rw [HM.out]; rfl) (HN.out.taped HM3.out.2.1 HP.out _) _ ⟨1, 0, 0, 0, s⟩ rfl (heap_alloc_new _ _) (by have := HL.out; omega) ?_; intro g cap w9 hn9 hf9 hg9; have H9 := Lib.hid (And.intro hn9 (And.intro hf9 hg9)); rw [HM.out]; clear hn9 hf9 hg9)
        go_ret
        have P := partW_one (d := d + 1) HM3.out.1 HN.out HM3.out.2.1 ((Fr.refl _ _).alloc _) H9.out.1 H9.out.2.1 H9.out.2.2 HP.out ⟨by simp, by simp, fun _ => HM3.out.2.2.2.2.2, by simp, by simp, by simp, fun _ => rfl⟩ HD.out (by have := HM2.out.2.2.1; have := HM3.out.2.2.1; omega) (fun e => by have := HM2.out.2.2.2.1 e; have := HM3.out.2.2.1; omega) (fun e => HM3.out.2.2.2.2.1 (HM2.out.2.2.2.2 e))
        rw [HM.out] at P
        exact ⟨_, _, _, rfl, P⟩
    · cases closed
      · go_wp2_with fail
        refine (names_calls w2).mono ?_
        rintro e w3 ⟨rfl, hw3⟩
        have hb3 : w3.heap[w2.heap.size]? = some (.cells ⟨nms.map .string⟩ 9 (0, 0)) := by rw [hw3]; show (w2.heap.push _)[w2.heap.size]? = _; simp
        have hF3 : Fr (fun _ => False) w2 w3 := by rw [hw3]; exact (Fr.refl _ _).alloc _
        have HB3 := Lib.hid (And.intro hb3 (And.intro hF3 (HM2.out.1.stay hF3 (fun _ e => e.elim) (fun e => e))))
        clear hw3 hb3 hF3
        go_wp2_with fail
        refine (names_calls w3).mono ?_
        rintro e w4 ⟨rfl, hw4⟩
        have hF4 : Fr (fun _ => False) w3 w4 := by rw [hw4]; exact (Fr.refl _ _).alloc _
        have HB4 := Lib.hid (And.intro hF4 (HB3.out.2.2.stay hF4 (fun _ e => e.elim) (fun e => e)))
        clear hw4 hF4
        go_wp2_with fail
        refine (HB4.out.2.next 5 (by omega) (by omega)).mono ?_
        rintro e w5 ⟨r, k3, rfl, r0, r5, a0, a1, a2, hM5, hF5⟩
        obtain ⟨i, rfl⟩ : ∃ i : Nat, r = (i : Int) := ⟨r.toNat, by omega⟩
        have hsz3 : w2.heap.size < w3.heap.size := (Array.getElem?_eq_some_iff.1 HB3.out.1).1
        have hc : w5.cell? ⟨w2.heap.size, i, none⟩ = some (.string (nms.getD i ByteArray.empty)) :=
          str_cell (((hF5.block _ (by have := HB4.out.1.size; omega) (fun e => by have := HM2.out.1.tape.lt; omega)).trans (HB4.out.1.block _ hsz3 (fun e => e))).trans HB3.out.1) (show i < 5 by omega)
        have hs := getD_mem_str (l := nms) (i := i) (show i < 5 by omega)
        have HM3 := Lib.hid (And.intro hM5 (And.intro (((HM2.out.2.1.trans HB3.out.2.1 (fun _ _ e => e.elim)).trans HB4.out.1 (fun _ _ e => e.elim)).trans hF5 (fun _ _ e => e)) (And.intro a0 (And.intro a1 (And.intro a2 hs)))))
        generalize nms.getD i ByteArray.empty = s at hc HM3
        clear hM5 hF5 a0 a1 a2 hs hsz3
        go_wp2_with (at_builtin; refine app_node rfl _ _ rfl W0.heap.size (by have := HM3.out.1.below.size; simp; omega) _ L (by rw [HM.out]; rfl) (HN.out.taped HM3.out.2.1 HP.out _) _ ⟨2, 0, 0, 0, s⟩ rfl (heap_alloc_new _ _) (by have := HL.out; omega) ?_; intro g cap w9 hn9 hf9 hg9; have H9 := Lib.hid (And.intro hn9 (And.intro hf9 hg9)); rw [HM.out]; clear hn9 hf9 hg9)
        go_ret
        have P := partW_one (d := d + 1) HM3.out.1 HN.out HM3.out.2.1 ((Fr.refl _ _).alloc _) H9.out.1 H9.out.2.1 H9.out.2.2 HP.out ⟨by simp, by simp, by simp, fun _ => HM3.out.2.2.2.2.2, by simp, by simp, fun _ => rfl⟩ HD.out (by have := HM2.out.2.2.1; have := HM3.out.2.2.1; omega) (fun e => by have := HM2.out.2.2.2.1 e; have := HM3.out.2.2.1; omega) (fun e => HM3.out.2.2.2.2.1 (HM2.out.2.2.2.2 e))
        rw [HM.out] at P
        exact ⟨_, _, _, rfl, P⟩
      · go_wp2_with fail
        refine HM2.out.1.number.mono ?_
        rintro e w3 ⟨s, k3, rfl, hs, a0, a1, a2, hM3, hF3⟩
        have HM3 := Lib.hid (And.intro hM3 (And.intro (HM2.out.2.1.trans hF3 (fun _ _ e => e)) (And.intro a0 (And.intro a1 (And.intro a2 hs)))))
        clear hM3 hF3 a0 a1 a2 hs
        go_wp2_with (at_builtin; refine app_node rfl _ _ rfl W0.heap.size (by have := HM3.out.1.below.size; simp; omega) _ L (by rw [HM.out]; rfl) (HN.out.taped HM3.out.2.1 HP.out _) _ ⟨1, 0, 0, 0, s⟩ rfl (heap_alloc_new _ _) (by have := HL.out; omega) ?_; intro g cap w9 hn9 hf9 hg9; have H9 := Lib.hid (And.intro hn9 (And.intro hf9 hg9)); rw [HM.out]; clear hn9 hf9 hg9)
        go_ret
        have P := partW_one (d := d + 1) HM3.out.1 HN.out HM3.out.2.1 ((Fr.refl _ _).alloc _) H9.out.1 H9.out.2.1 H9.out.2.2 HP.out ⟨by simp, by simp, fun _ => HM3.out.2.2.2.2.2, by simp, by simp, by simp, fun _ => rfl⟩ HD.out (by have := HM2.out.2.2.1; have := HM3.out.2.2.1; omega) (fun e => by have := HM2.out.2.2.2.1 e; have := HM3.out.2.2.1; omega) (fun e => HM3.out.2.2.2.2.1 (HM2.out.2.2.2.2 e))
        rw [HM.out] at P
        exact ⟨_, _, _, rfl, P⟩
    · go_wp2_with fail
      refine HM2.out.1.number.mono ?_
      rintro e w3 ⟨s, k3, rfl, hs, a0, a1, a2, hM3, hF3⟩
      have HM3 := Lib.hid (And.intro hM3 (And.intro (HM2.out.2.1.trans hF3 (fun _ _ e => e)) (And.intro a0 (And.intro a1 (And.intro a2 hs)))))
      clear hM3 hF3 a0 a1 a2 hs
      go_wp2_with (at_builtin; refine app_node rfl _ _ rfl W0.heap.size (by have := HM3.out.1.below.size; simp; omega) _ L (by rw [HM.out]; rfl) (HN.out.taped HM3.out.2.1 HP.out _) _ ⟨1, 0, 0, 0, s⟩ rfl (heap_alloc_new _ _) (by have := HL.out; omega) ?_; intro g cap w9 hn9 hf9 hg9; have H9 := Lib.hid (And.intro hn9 (And.intro hf9 hg9)); rw [HM.out]; clear hn9 hf9 hg9)
      go_ret
      have P := partW_one (d := d + 1) HM3.out.1 HN.out HM3.out.2.1 ((Fr.refl _ _).alloc _) H9.out.1 H9.out.2.1 H9.out.2.2 HP.out ⟨by simp, by simp, fun _ => HM3.out.2.2.2.2.2, by simp, by simp, by simp, fun _ => rfl⟩ HD.out (by have := HM2.out.2.2.1; have := HM3.out.2.2.1; omega) (fun e => by have := HM2.out.2.2.2.1 e; have := HM3.out.2.2.1; omega) (fun e => HM3.out.2.2.2.2.1 (HM2.out.2.2.2.2 e))
      rw [HM.out] at P
      exact ⟨_, _, _, rfl, P⟩
    · go_wp2_with fail
      refine HM2.out.1.number.mono ?_
      rintro e w3 ⟨s, k3, rfl, hs, a0, a1, a2, hM3, hF3⟩
      have HM3 := Lib.hid (And.intro hM3 (And.intro (HM2.out.2.1.trans hF3 (fun _ _ e => e)) (And.intro a0 (And.intro a1 (And.intro a2 hs)))))
      clear hM3 hF3 a0 a1 a2 hs
      go_wp2_with (at_builtin; refine app_node rfl _ _ rfl W0.heap.size (by have := HM3.out.1.below.size; simp; omega) _ L (by rw [HM.out]; rfl) (HN.out.taped HM3.out.2.1 HP.out _) _ ⟨1, 0, 0, 0, s⟩ rfl (heap_alloc_new _ _) (by have := HL.out; omega) ?_; intro g cap w9 hn9 hf9 hg9; have H9 := Lib.hid (And.intro hn9 (And.intro hf9 hg9)); rw [HM.out]; clear hn9 hf9 hg9)
      go_ret
      have P := partW_one (d := d + 1) HM3.out.1 HN.out HM3.out.2.1 ((Fr.refl _ _).alloc _) H9.out.1 H9.out.2.1 H9.out.2.2 HP.out ⟨by simp, by simp, fun _ => HM3.out.2.2.2.2.2, by simp, by simp, by simp, fun _ => rfl⟩ HD.out (by have := HM2.out.2.2.1; have := HM3.out.2.2.1; omega) (fun e => by have := HM2.out.2.2.2.1 e; have := HM3.out.2.2.1; omega) (fun e => HM3.out.2.2.2.2.1 (HM2.out.2.2.2.2 e))
      rw [HM.out] at P
      exact ⟨_, _, _, rfl, P⟩
theorem part_all : PartOk 1 1 ∧ PartOk 2 2 ∧ PartOk 3 3 ∧ PartOk 4 4 := by
  have h1 : PartOk 1 1 := part_leaf (by omega) (by omega)
  have h2 : PartOk 2 2 := part_step (d := 1) (by omega) (by omega) (by omega) (by omega) (by rw [show (2 : Int) - 1 = 1 by omega]; exact h1) h1
  have h3 : PartOk 3 3 := part_step (d := 2) (by omega) (by omega) (by omega) (by omega) (by rw [show (3 : Int) - 1 = 2 by omega]; exact h2) h1
  exact ⟨h1, h2, h3, part_step (d := 3) (by omega) (by omega) (by omega) (by omega) (by rw [show (4 : Int) - 1 = 3 by omega]; exact h3) h1⟩
end Go.Proofs.YtfdaghhplijpeaaGreatDoor
