/-
  Walk of the mill's part: an expression of at most this depth is appended.
-/
import Derived.Test.YtfdaghhplijpeaaGreatDoorLmOsOt
namespace Go.Proofs.YtfdaghhplijpeaaGreatDoor
open Go Go.RowKit

theorem NdsR.taped {w w' : World} {B p : Nat} {v : Value} {L : List Nd} (h : NdsR w B v L) (hf : Fr (· = p) w w') (hp : v.ownBlock ≠ some p) (o : Obj) : NdsR (w'.alloc o) B v L :=
  h.frame (hf.alloc o) (fun k hk e => hp (by rw [hk, e]))
/-- What is said of part at depth D. -/
def PartOk (D : Int) (d : Nat) : Prop :=
  ∀ {W0 w : World} {p n k : Nat} {vt v : Value} {L : List Nd} (closed : Bool), Mill W0 w p vt n k → NdsR w W0.heap.size v L → L.length ≤ 1000 →
    Calls Tryz.prog 41 #[ptr p, v, .int .i64 D, .bool closed] w (PartP W0 w p vt n k v L d)
set_option maxRecDepth 100000 in
set_option maxHeartbeats 8000000 in
theorem part_leaf {D : Int} {d : Nat} (hD : D ≤ 1) (hd : 1 ≤ d) : PartOk D d := by
  intro W0 w p n k vt v L closed hM hN hL
  obtain ⟨a, c, rfl⟩ := hN.slice
  have HP := Lib.hid (tape_row hM.tape hN)
  obtain ⟨m, hm⟩ : ∃ m, L.length = m := ⟨_, rfl⟩
  have HM1 := Lib.hid (And.intro hM (Fr.refl (· = p) w))
  have HN := Lib.hid hN
  have HL := Lib.hid hL
  have HM := Lib.hid hm
  have HD := Lib.hid hd
  rw [hm] at hL ⊢
  clear hM hN hd hm
  unfold ptr
  go_enter Tryz.func41, Tryz.ntmps41
  go_wp2_with fail
  refine (HM1.out.1.next 5 (by omega) (by omega)).mono ?_
  rintro e w2 ⟨r, k2, rfl, r0, r5, a0, a1, a2, hM2, hF2⟩
  have HM2 := Lib.hid (And.intro hM2 (And.intro (HM1.out.2.trans hF2 (fun _ _ e => e)) (And.intro a0 (And.intro a1 a2))))
  have hr : r = 0 ∨ r = 1 ∨ r = 2 ∨ r = 3 ∨ r = 4 := by omega
  clear hM2 hF2 r0 r5 a0 a1 a2
  rcases hr with rfl | rfl | rfl | rfl | rfl
  · go_wp2_with fail
    refine (HM2.out.1.next 2 (by omega) (by omega)).mono ?_
    rintro e w3 ⟨r, k3, rfl, r0, r5, a0, a1, a2, hM3, hF3⟩
    have HM3 := Lib.hid (And.intro hM3 (And.intro (HM2.out.2.1.trans hF3 (fun _ _ e => e)) (And.intro a0 (And.intro a1 a2))))
    have hr : r = 0 ∨ r = 1 := by omega
    clear hM3 hF3 r0 r5 a0 a1 a2
    rcases hr with rfl | rfl
    · go_wp2_with (at_builtin; refine app_node rfl _ _ rfl W0.heap.size (by have := HM3.out.1.below.size; simp; omega) _ L (by rw [HM.out]; rfl) (HN.out.taped HM3.out.2.1 HP.out _) _ ⟨3, 0, 0, 0, ByteArray.empty⟩ rfl (heap_alloc_new _ _) (by have := HL.out; omega) ?_; intro g cap w9 hn9 hf9 hg9; have H9 := Lib.hid (And.intro hn9 (And.intro hf9 hg9)); rw [HM.out]; clear hn9 hf9 hg9)
      go_ret
      have P := partW_one (d := d) HM3.out.1 HN.out HM3.out.2.1 ((Fr.refl _ _).alloc _) H9.out.1 H9.out.2.1 H9.out.2.2 HP.out ⟨by simp, by simp, by simp, by simp, fun _ _ => rfl, by simp, fun _ => rfl⟩ HD.out (by have := HM2.out.2.2.1; have := HM3.out.2.2.1; omega) (fun e => by have := HM2.out.2.2.2.1 e; have := HM3.out.2.2.1; omega) (fun e => HM3.out.2.2.2.2 (HM2.out.2.2.2.2 e))
      rw [HM.out] at P
      exact ⟨_, _, _, rfl, P⟩
    · go_wp2_with (at_builtin; refine app_node rfl _ _ rfl W0.heap.size (by have := HM3.out.1.below.size; simp; omega) _ L (by rw [HM.out]; rfl) (HN.out.taped HM3.out.2.1 HP.out _) _ ⟨4, 0, 0, 0, ByteArray.empty⟩ rfl (heap_alloc_new _ _) (by have := HL.out; omega) ?_; intro g cap w9 hn9 hf9 hg9; have H9 := Lib.hid (And.intro hn9 (And.intro hf9 hg9)); rw [HM.out]; clear hn9 hf9 hg9)
      go_ret
      have P := partW_one (d := d) HM3.out.1 HN.out HM3.out.2.1 ((Fr.refl _ _).alloc _) H9.out.1 H9.out.2.1 H9.out.2.2 HP.out ⟨by simp, by simp, by simp, by simp, fun _ _ => rfl, by simp, fun _ => rfl⟩ HD.out (by have := HM2.out.2.2.1; have := HM3.out.2.2.1; omega) (fun e => by have := HM2.out.2.2.2.1 e; have := HM3.out.2.2.1; omega) (fun e => HM3.out.2.2.2.2 (HM2.out.2.2.2.2 e))
      rw [HM.out] at P
      exact ⟨_, _, _, rfl, P⟩
  · cases closed
    · go_wp2_with fail
      refine (names_calls w2).mono ?_
      rintro e w3 ⟨rfl, hw3⟩
      have hb3 : w3.heap[w2.heap.size]? = some (.cells ⟨nms.map .string⟩ 9 (0, 0)) := by rw [hw3]; show (w2.heap.push _)[w2.heap.size]? = _; simp
      have hF3 : Fr (fun _ => False) w2 w3 := by rw [hw3]; exact (Fr.refl _ _).alloc _
      have HB3 := Lib.hid (And.intro hb3 (And.intro hF3 (HM2.out.1.stay hF3 (fun _ e => e.elim) (fun e => e))))
      clear hw3 hb3 hF3
      go_wp2_with fail
      refine (names_calls w3).mono ?_
      rintro e w4 ⟨rfl, hw4⟩
      have hF4 : Fr (fun _ => False) w3 w4 := by rw [hw4]; exact (Fr.refl _ _).alloc _
      have HB4 := Lib.hid (And.intro hF4 (HB3.out.2.2.stay hF4 (fun _ e => e.elim) (fun e => e)))
      clear hw4 hF4
      go_wp2_with fail
      refine (HB4.out.2.next 5 (by omega) (by omega)).mono ?_
      rintro e w5 ⟨r, k3, rfl, r0, r5, a0, a1, a2, hM5, hF5⟩
      obtain ⟨i, rfl⟩ : ∃ i : Nat, r = (i : Int) := ⟨r.toNat, by omega⟩
      have hsz3 : w2.heap.size < w3.heap.size := (Array.getElem?_eq_some_iff.1 HB3.out.1).1
      have hc : w5.cell? ⟨w2.heap.size, i, none⟩ = some (.string (nms.getD i ByteArray.empty)) :=
        str_cell (((hF5.block _ (by have := HB4.out.1.size; omega) (fun e => by have := HM2.out.1.tape.lt; omega)).trans (HB4.out.1.block _ hsz3 (fun e => e))).trans HB3.out.1) (show i < 5 by omega)
      have hs := getD_mem_str (l := nms) (i := i) (show i < 5 by omega)
      have HM3 := Lib.hid (And.intro hM5 (And.intro (((HM2.out.2.1.trans HB3.out.2.1 (fun _ _ e => e.elim)).trans HB4.out.1 (fun _ _ e => e.elim)).trans hF5 (fun _ _ e => e)) (And.intro a0 (And.intro a1 (And.intro a2 hs)))))
      generalize nms.getD i ByteArray.empty = s at hc HM3
      clear hM5 hF5 a0 a1 a2 hs hsz3
      go_wp2_with (at_builtin; refine app_node rfl _ _ rfl W0.heap.size (by have := HM3.out.1.below.size; simp; omega) _ L (by rw [HM.out]; rfl) (HN.out.taped HM3.out.2.1 HP.out _) _ ⟨2, 0, 0, 0, s⟩ rfl (heap_alloc_new _ _) (by have := HL.out; omega) ?_; intro g cap w9 hn9 hf9 hg9; have H9 := Lib.hid (And.intro hn9 (And.intro hf9 hg9)); rw [HM.out]; clear hn9 hf9 hg9)
      go_ret
      have P := partW_one (d := d) HM3.out.1 HN.out HM3.out.2.1 ((Fr.refl _ _).alloc _) H9.out.1 H9.out.2.1 H9.out.2.2 HP.out ⟨by simp, by simp, by simp, fun _ => HM3.out.2.2.2.2.2, by simp, by simp, fun _ => rfl⟩ HD.out (by have := HM2.out.2.2.1; have := HM3.out.2.2.1; omega) (fun e => by have := HM2.out.2.2.2.1 e; have := HM3.out.2.2.1; omega) (fun e => HM3.out.2.2.2.2.1 (HM2.out.2.2.2.2 e))
      rw [HM.out] at P
      exact ⟨_, _, _, rfl, P⟩
    · go_wp2_with fail
      refine HM2.out.1.number.mono ?_
      rintro e w3 ⟨s, k3, rfl, hs, a0, a1, a2, hM3, hF3⟩
      have HM3 := Lib.hid (And.intro hM3 (And.intro (HM2.out.2.1.trans hF3 (fun _ _ e => e)) (And.intro a0 (And.intro a1 (And.intro a2 hs)))))
      clear hM3 hF3 a0 a1 a2 hs
      go_wp2_with (at_builtin; refine app_node rfl _ _ rfl W0.heap.size (by have := HM3.out.1.below.size; simp; omega) _ L (by rw [HM.out]; rfl) (HN.out.taped HM3.out.2.1 HP.out _) _ ⟨1, 0, 0, 0, s⟩ rfl (heap_alloc_new _ _) (by have := HL.out; omega) ?_; intro g cap w9 hn9 hf9 hg9; have H9 := Lib.hid (And.intro hn9 (And.intro hf9 hg9)); rw [HM.out]; clear hn9 hf9 hg9)
      go_ret
      have P := partW_one (d := d) HM3.out.1 HN.out HM3.out.2.1 ((Fr.refl _ _).alloc _) H9.out.1 H9.out.2.1 H9.out.2.2 HP.out ⟨by simp, by simp, fun _ => HM3.out.2.2.2.2.2, by simp, by simp, by simp, fun _ => rfl⟩ HD.out (by have := HM2.out.2.2.1; have := HM3.out.2.2.1; omega) (fun e => by have := HM2.out.2.2.2.1 e; have := HM3.out.2.2.1; omega) (fun e => HM3.out.2.2.2.2.1 (HM2.out.2.2.2.2 e))
      rw [HM.out] at P
      exact ⟨_, _, _, rfl, P⟩
  · cases closed
    · go_wp2_with fail
      refine (names_calls w2).mono ?_
      rintro e w3 ⟨rfl, hw3⟩
      have hb3 : w3.heap[w2.heap.size]? = some (.cells ⟨nms.map .string⟩ 9 (0, 0)) := by rw [hw3]; show (w2.heap.push _)[w2.heap.size]? = _; simp
      have hF3 : Fr (fun _ => False) w2 w3 := by rw [hw3]; exact (Fr.refl _ _).alloc _
      have HB3 := Lib.hid (And.intro hb3 (And.intro hF3 (HM2.out.1.stay hF3 (fun _ e => e.elim) (fun e => e))))
      clear hw3 hb3 hF3
      go_wp2_with fail
      refine (names_calls w3).mono ?_
      rintro e w4 ⟨rfl, hw4⟩
      have hF4 : Fr (fun _ => False) w3 w4 := by rw [hw4]; exact (Fr.refl _ _).alloc _
      have HB4 := Lib.hid (And.intro hF4 (HB3.out.2.2.stay hF4 (fun _ e => e.elim) (fun e => e)))
      clear hw4 hF4
      go_wp2_with fail
      refine (HB4.out.2.next 5 (by omega) (by omega)).mono ?_
      rintro e w5 ⟨r, k3, rfl, r0, r5, a0, a1, a2, hM5, hF5⟩
      obtain ⟨i, rfl⟩ : ∃ i : Nat, r = (i : Int) := ⟨r.toNat, by omega⟩
      have hsz3 : w2.heap.size < w3.heap.size := (Array.getElem?_eq_some_iff.1 HB3.out.1).1
      have hc : w5.cell? ⟨w2.heap.size, i, none⟩ = some (.string (nms.getD i ByteArray.empty)) :=
        str_cell (((hF5.block _ (by have := HB4.out.1.size; omega) (fun e => by have := HM2.out.1.tape.lt; omega)).trans (HB4.out.1.block _ hsz3 (fun e => e))).trans HB3.out.1) (show i < 5 by omega)
      have hs := getD_mem_str (l := nms) (i := i) (show i < 5 by omega)
      have HM3 := Lib.hid (And.intro hM5 (And.intro (((HM2.out.2.1.trans HB3.out.2.1 (fun _ _ e => e.elim)).trans HB4.out.1 (fun _ _ e => e.elim)).trans hF5 (fun _ _ e => e)) (And.intro a0 (And.intro a1 (And.intro a2 hs)))))
      generalize nms.getD i ByteArray.empty = s at hc HM3
      clear hM5 hF5 a0 a1 a2 hs hsz3
      go_wp2_with (at_builtin; refine app_node rfl _ _ rfl W0.heap.size (by have := HM3.out.1.below.size; simp; omega) _ L (by rw [HM.out]; rfl) (HN.out.taped HM3.out.2.1 HP.out _) _ ⟨2, 0, 0, 0, s⟩ rfl (heap_alloc_new _ _) (by have := HL.out; omega) ?_; intro g cap w9 hn9 hf9 hg9; have H9 := Lib.hid (And.intro hn9 (And.intro hf9 hg9)); rw [HM.out]; clear hn9 hf9 hg9)
      go_ret
      have P := partW_one (d := d) HM3.out.1 HN.out HM3.out.2.1 ((Fr.refl _ _).alloc _) H9.out.1 H9.out.2.1 H9.out.2.2 HP.out ⟨by simp, by simp, by simp, fun _ => HM3.out.2.2.2.2.2, by simp, by simp, fun _ => rfl⟩ HD.out (by have := HM2.out.2.2.1; have := HM3.out.2.2.1; omega) (fun e => by have := HM2.out.2.2.2.1 e; have := HM3.out.2.2.1; omega) (fun e => HM3.out.2.2.2.2.1 (HM2.out.2.2.2.2 e))
      rw [HM.out] at P
      exact ⟨_, _, _, rfl, P⟩
    · go_wp2_with fail
      refine HM2.out.1.number.mono ?_
      rintro e w3 ⟨s, k3, rfl, hs, a0, a1, a2, hM3, hF3⟩
      have HM3 := Lib.hid (And.intro hM3 (And.intro (HM2.out.2.1.trans hF3 (fun _ _ e => e)) (And.intro a0 (And.intro a1 (And.intro a2 hs)))))
      clear hM3 hF3 a0 a1 a2 hs
      go_wp2_with (at_builtin; refine app_node rfl _ _ rfl W0.heap.size (by have := HM3.out.1.below.size; simp; omega) _ L (by rw [HM.out]; rfl) (HN.out.taped HM3.out.2.1 HP.out _) _ ⟨1, 0, 0, 0, s⟩ rfl (heap_alloc_new _ _) (by have := HL.out; omega) ?_; intro g cap w9 hn9 hf9 hg9; have H9 := Lib.hid (And.intro hn9 (And.intro hf9 hg9)); rw [HM.out]; clear hn9 hf9 hg9)
      go_ret
      have P := partW_one (d := d) HM3.out.1 HN.out HM3.out.2.1 ((Fr.refl _ _).alloc _) H9.out.1 H9.out.2.1 H9.out.2.2 HP.out ⟨by simp, by simp, fun _ => HM3.out.2.2.2.2.2, by simp, by simp, by simp, fun _ => rfl⟩ HD.out (by have := HM2.out.2.2.1; have := HM3.out.2.2.1; omega) (fun e => by have := HM2.out.2.2.2.1 e; have := HM3.out.2.2.1; omega) (fun e => HM3.out.2.2.2.2.1 (HM2.out.2.2.2.2 e))
      rw [HM.out] at P
      exact ⟨_, _, _, rfl, P⟩
  · go_wp2_with fail
    refine HM2.out.1.number.mono ?_
    rintro e w3 ⟨s, k3, rfl, hs, a0, a1, a2, hM3, hF3⟩
    have HM3 := Lib.hid (And.intro hM3 (And.intro (HM2.out.2.1.trans hF3 (fun _ _ e => e)) (And.intro a0 (And.intro a1 (And.intro a2 hs)))))
    clear hM3 hF3 a0 a1 a2 hs
    go_wp2_with (at_builtin; refine app_node rfl _ _ rfl W0.heap.size (by have := HM3.out.1.below.size; simp; omega) _ L (by rw [HM.out]; rfl) (HN.out.taped HM3.out.2.1 HP.out _) _ ⟨1, 0, 0, 0, s⟩ rfl (heap_alloc_new _ _) (by have := HL.out; omega) ?_; intro g cap w9 hn9 hf9 hg9; have H9 := Lib.hid (And.intro hn9 (And.intro hf9 hg9)); rw [HM.out]; clear hn9 hf9 hg9)
    go_ret
    have P := partW_one (d := d) HM3.out.1 HN.out HM3.out.2.1 ((Fr.refl _ _).alloc _) H9.out.1 H9.out.2.1 H9.out.2.2 HP.out ⟨by simp, by simp, fun _ => HM3.out.2.2.2.2.2, by simp, by simp, by simp, fun _ => rfl⟩ HD.out (by have := HM2.out.2.2.1; have := HM3.out.2.2.1; omega) (fun e => by have := HM2.out.2.2.2.1 e; have := HM3.out.2.2.1; omega) (fun e => HM3.out.2.2.2.2.1 (HM2.out.2.2.2.2 e))
    rw [HM.out] at P
    exact ⟨_, _, _, rfl, P⟩
  · go_wp2_with fail
    refine HM2.out.1.number.mono ?_
    rintro e w3 ⟨s, k3, rfl, hs, a0, a1, a2, hM3, hF3⟩
    have HM3 := Lib.hid (And.intro hM3 (And.intro (HM2.out.2.1.trans hF3 (fun _ _ e => e)) (And.intro a0 (And.intro a1 (And.intro a2 hs)))))
    clear hM3 hF3 a0 a1 a2 hs
    go_wp2_with (at_builtin; refine app_node rfl _ _ rfl W0.heap.size (by have := HM3.out.1.below.size; simp; omega) _ L (by rw [HM.out]; rfl) (HN.out.taped HM3.out.2.1 HP.out _) _ ⟨1, 0, 0, 0, s⟩ rfl (heap_alloc_new _ _) (by have := HL.out; omega) ?_; intro g cap w9 hn9 hf9 hg9; have H9 := Lib.hid (And.intro hn9 (And.intro hf9 hg9)); rw [HM.out]; clear hn9 hf9 hg9)
    go_ret
    have P := partW_one (d := d) HM3.out.1 HN.out HM3.out.2.1 ((Fr.refl _ _).alloc _) H9.out.1 H9.out.2.1 H9.out.2.2 HP.out ⟨by simp, by simp, fun _ => HM3.out.2.2.2.2.2, by simp, by simp, by simp, fun _ => rfl⟩ HD.out (by have := HM2.out.2.2.1; have := HM3.out.2.2.1; omega) (fun e => by have := HM2.out.2.2.2.1 e; have := HM3.out.2.2.1; omega) (fun e => HM3.out.2.2.2.2.1 (HM2.out.2.2.2.2 e))
    rw [HM.out] at P
    exact ⟨_, _, _, rfl, P⟩
end Go.Proofs.YtfdaghhplijpeaaGreatDoor
