/-
  Walks of New (both), History, Copy.
-/
import Derived.Test.YtalmfmijjbpnpaaLoK
namespace Go.Proofs.Ytalmfmijjbpnpaa
open Go.RowKit

def mainN : ByteArray := ⟨#[109, 97, 105, 110]⟩
def newH (root : Int) : Hist := ⟨[⟨-1, root⟩], [⟨mainN, 0, []⟩], [], mainN⟩

/-- The call returns a new timeline that holds H; nothing that was there has changed. -/
def Made (T : TypeId) (H : Hist) (w : World) (e : Ending) (w' : World) : Prop :=
  ∃ t m, e = .returned (.pointer (some ⟨t, 0, none⟩)) ∧ Rep w' T t H m ∧ (∀ k, m.owns t k → w.heap.size ≤ k) ∧ Below w.heap.size w w'

theorem heap_old {w : World} {o : Obj} {k : Nat} {x : Obj} (h : w.heap[k]? = some x) : (w.alloc o).heap[k]? = some x := by
  rw [Below.heap_alloc _ _ _ (Array.getElem?_eq_some_iff.1 h).1]; exact h

theorem made_new (w : World) (root : Int) (T : TypeId) (hT : T = 67 ∨ T = 56) :
    Made T (newH root) w (.returned (.pointer (some ⟨w.heap.size + 1 + 1, 0, none⟩)))
      (((w.alloc (.cells #[.int .i64 (-1), .int .i64 root] 40)).alloc (.cells #[.string ⟨#[109, 97, 105, 110]⟩, .int .i64 0, .slice none 0 0] 65)).alloc
        (.cells #[.slice (some ⟨w.heap.size, 0, none⟩) 1 1, .slice (some ⟨w.heap.size + 1, 0, none⟩) 1 1, .slice none 0 0, .string ⟨#[109, 97, 105, 110]⟩] T)) := by
  have k0 := heap_alloc_new w (.cells #[.int .i64 (-1), .int .i64 root] 40)
  have k1 := heap_alloc_new (w.alloc (.cells #[.int .i64 (-1), .int .i64 root] 40)) (.cells #[.string ⟨#[109, 97, 105, 110]⟩, .int .i64 0, .slice none 0 0] 65)
  have k2 := heap_alloc_new ((w.alloc (.cells #[.int .i64 (-1), .int .i64 root] 40)).alloc (.cells #[.string ⟨#[109, 97, 105, 110]⟩, .int .i64 0, .slice none 0 0] 65))
    (.cells #[.slice (some ⟨w.heap.size, 0, none⟩) 1 1, .slice (some ⟨w.heap.size + 1, 0, none⟩) 1 1, .slice none 0 0, .string ⟨#[109, 97, 105, 110]⟩] T)
  have s1 : (w.alloc (.cells #[.int .i64 (-1), .int .i64 root] 40)).heap.size = w.heap.size + 1 := by simp
  have s2 : ((w.alloc (.cells #[.int .i64 (-1), .int .i64 root] 40)).alloc (.cells #[.string ⟨#[109, 97, 105, 110]⟩, .int .i64 0, .slice none 0 0] 65)).heap.size = w.heap.size + 1 + 1 := by simp
  rw [s1] at k1
  rw [s2] at k2
  refine ⟨w.heap.size + 1 + 1, ⟨.slice (some ⟨w.heap.size, 0, none⟩) 1 1, .slice (some ⟨w.heap.size + 1, 0, none⟩) 1 1, .slice none 0 0, [(⟨mainN, 0, []⟩, .slice none 0 0)]⟩, rfl, ?_, ?_, ?_⟩
  · refine ⟨hT, k2, ?_, ?_, World.ownsRow_nil _ _ _ _, ?_, rfl, by simp⟩
    · exact ⟨rfl, .inr ⟨w.heap.size, 1, _, rfl, Nat.zero_le _, heap_old (heap_old k0), Nat.le_refl _, by unfold maxLen; omega, rfl, rfl⟩⟩
    · exact ⟨rfl, .inr ⟨w.heap.size + 1, 1, _, rfl, Nat.zero_le _, heap_old k1, Nat.le_refl _, by unfold maxLen; omega, rfl, rfl⟩⟩
    · intro x hx
      simp only [List.mem_singleton] at hx
      subst hx
      exact World.ownsRow_nil _ _ _ _
  · rintro k (rfl | hk | hk | hk | ⟨x, hx, hk⟩)
    · omega
    · simp [Value.ownBlock] at hk; omega
    · simp [Value.ownBlock] at hk; omega
    · simp [Value.ownBlock] at hk
    · simp only [List.mem_singleton] at hx
      subst hx
      simp [Value.ownBlock] at hk
  · exact ((((Below.refl _ _).alloc (Nat.le_refl _) _).alloc (by simp) _).alloc (by simp; omega) _)

section
variable {w : World} {T t : Nat} {H : Hist} {m : View}

set_option maxHeartbeats 1000000 in
theorem new10 (root : Int) : Calls Try.prog 10 #[.int .i64 root] w (Made 67 (newH root) w) := by
  go_enter Try.func10, Try.ntmps10
  go_wp2_with fail
  go_ret
  exact made_new w root 67 (.inl rfl)

set_option maxHeartbeats 1000000 in
theorem new23 (root : Int) : Calls Try.prog 23 #[.int .i64 root] w (Made 56 (newH root) w) := by
  go_enter Try.func23, Try.ntmps23
  go_wp2_with fail
  go_ret
  exact made_new w root 56 (.inr rfl)

theorem Rep.hAt (h : Rep w T t H m) : HAt w m.vv m.bv m.sv H m.ml :=
  ⟨own_slAt h.vs, own_slAt h.bs, own_slAt h.ss, fun x hx => own_slAt (h.rd x hx), h.ml⟩

theorem HAt.below {w w' : World} {vv bv sv : Value} {ml : List (Ln × Value)} (h : HAt w vv bv sv H ml) (hb : Below w.heap.size w w') : HAt w' vv bv sv H ml :=
  ⟨h.vs.below hb, h.bs.below hb, h.ss.below hb, fun x hx => (h.rd x hx).below hb, h.ml⟩

theorem RepV.frame {w w' : World} {base : Nat} {S : Nat → Prop} (h : RepV w base H m) (hf : Fr S w w') (hS : ∀ k, base ≤ k → ¬ S k) : RepV w' base H m where
  vs := own_frame h.vs hf fun _ hk => hS _ (own_ge h.vs hk)
  bs := own_frame h.bs hf fun _ hk => hS _ (own_ge h.bs hk)
  ss := own_frame h.ss hf fun _ hk => hS _ (own_ge h.ss hk)
  rd := fun x hx => own_frame (h.rd x hx) hf fun _ hk => hS _ (own_ge (h.rd x hx) hk)
  ml := h.ml
  dis := h.dis
theorem RepV.base {w : World} {base base' : Nat} (h : RepV w base H m) (hb : base' ≤ base) : RepV w base' H m where
  vs := ownsRow_mono h.vs hb
  bs := ownsRow_mono h.bs hb
  ss := ownsRow_mono h.ss hb
  rd := fun x hx => ownsRow_mono (h.rd x hx) hb
  ml := h.ml
  dis := h.dis
theorem RepV.below {w w' : World} {base : Nat} (h : RepV w base H m) (hb : Below w.heap.size w w') : RepV w' base H m := h.frame (S := fun _ => False) (Fr.of_below hb) (fun _ _ e => e)

/-- A history's rows and a block that names them: a timeline. -/
theorem RepV.rep {w : World} {base : Nat} {T : TypeId} {t : Nat} (h : RepV w base H m) (hT : T = 67 ∨ T = 56) (hb : w.heap[t]? = some (.cells #[m.vv, m.bv, m.sv, .string H.cur] T (0, 0))) : Rep w T t H m :=
  ⟨hT, hb, ownsRow_mono h.vs (Nat.zero_le _), ownsRow_mono h.bs (Nat.zero_le _), ownsRow_mono h.ss (Nat.zero_le _), fun x hx => ownsRow_mono (h.rd x hx) (Nat.zero_le _), h.ml, h.dis⟩
theorem RepV.owns_ge {w : World} {base : Nat} (h : RepV w base H m) {t k : Nat} (ht : base ≤ t) (hk : m.owns t k) : base ≤ k := by
  rcases hk with rfl | hk | hk | hk | ⟨x, hx, hk⟩
  · exact ht
  · exact own_ge h.vs hk
  · exact own_ge h.bs hk
  · exact own_ge h.ss hk
  · exact own_ge (h.rd x hx) hk

/-- The slice values of a history are written out. -/
theorem RepV.forms {w : World} {base : Nat} (h : RepV w base H m) : ∃ a1 c1 a2 c2 a3 c3, m.vv = .slice a1 H.vs.length c1 ∧ m.bv = .slice a2 m.ml.length c2 ∧ m.sv = .slice a3 H.ss.length c3 := by
  obtain ⟨a1, _, c1, e1, _⟩ := own_addr h.vs
  obtain ⟨a2, _, c2, e2, _⟩ := own_addr h.bs
  obtain ⟨a3, _, c3, e3, _⟩ := own_addr h.ss
  exact ⟨a1, c1, a2, c2, a3, c3, e1, e2, e3⟩

theorem rd_lens (h : Rep w T t H m) (hw : WF H) : m.ml.length ≤ 1000 ∧ ∀ x ∈ m.ml, x.1.rd.length ≤ 100000 := by
  have hml := h.ml
  have hb := hw.b2
  refine ⟨by rw [hml, List.length_map] at hb; omega, fun x hx => ?_⟩
  have := rd_len hw (b := x.1) (by rw [hml]; exact List.mem_map_of_mem hx)
  omega

set_option maxHeartbeats 1000000 in
theorem history17 (h : Rep w 67 t H m) (hw : WF H) : Calls Try.prog 17 #[.pointer (some ⟨t, 0, none⟩)] w (Cop w H) := by
  obtain ⟨hl1, hl2⟩ := rd_lens h hw
  have hv2 := hw.v2
  have hs2 := hw.s2
  obtain ⟨c0, c1, c2, c3⟩ := h.cellT
  obtain ⟨vv, bv, sv, ml⟩ := m
  have ht : t < w.heap.size := h.lt (.inl rfl)
  have HH := Lib.hid h.hAt
  clear h
  go_enter Try.func17, Try.ntmps17
  go_wp2_with fail
  refine (copied37 vv bv sv (HH.out.below ((Below.refl _ _).alloc (Nat.le_refl _) _)) (by omega) hl1 (by omega) hl2).mono ?_
  rintro e w1 ⟨m1, rfl, hr, hb⟩
  obtain ⟨a1, k1, a2, k2, a3, k3, e1, e2, e3⟩ := hr.forms
  obtain ⟨v1, v2, v3, ml1⟩ := m1
  dsimp only at e1 e2 e3 ⊢
  subst e1 e2 e3
  have hbb : w1.heap[w.heap.size]? = some (.cells #[.slice none 0 0, .slice none 0 0, .slice none 0 0, .string { data := #[] }] 37 (0, 0)) := (hb.block _ (by simp)).trans (heap_alloc_new w _)
  have d0 : w1.cell? ⟨w.heap.size, 0, none⟩ = some (.slice none 0 0) := by rw [cell_of_blk hbb]; rfl
  have d1 : w1.cell? ⟨w.heap.size, 1, none⟩ = some (.slice none 0 0) := by rw [cell_of_blk hbb]; rfl
  have d2 : w1.cell? ⟨w.heap.size, 2, none⟩ = some (.slice none 0 0) := by rw [cell_of_blk hbb]; rfl
  have d3 : w1.cell? ⟨w.heap.size, 3, none⟩ = some (.string { data := #[] }) := by rw [cell_of_blk hbb]; rfl
  have f0 := frozen_of_blk hbb 0
  have f1 := frozen_of_blk hbb 1
  have f2 := frozen_of_blk hbb 2
  have f3 := frozen_of_blk hbb 3
  have HRV := Lib.hid hr
  have HB := Lib.hid (((Below.refl w.heap.size w).alloc (Nat.le_refl _) _).trans (hb.mono (by simp)))
  have HBB := Lib.hid hbb
  clear hr hb hbb
  go_wp2_with fail
  refine bodyPost_ret (v := .agg #[.slice a1 H.vs.length k1, .slice a2 ml1.length k2, .slice a3 H.ss.length k3, .string H.cur]) (by simp [results, Try.results17, go_sem, d0, d1, d2, d3]) rfl ?_
  refine ⟨⟨.slice a1 H.vs.length k1, .slice a2 ml1.length k2, .slice a3 H.ss.length k3, ml1⟩, rfl, ?_, (((HB.out.setCell (Nat.le_refl _) _).setCell (Nat.le_refl _) _).setCell (Nat.le_refl _) _).setCell (Nat.le_refl _) _⟩
  have r0 := HRV.out.base (base' := w.heap.size) (by simp)
  have r1 := r0.setCell (by decide) HBB.out 0 (.slice a1 H.vs.length k1)
  have b1 := blk_setCell HBB.out 0 (.slice a1 H.vs.length k1)
  have r2 := r1.setCell (by decide) b1 1 (.slice a2 ml1.length k2)
  have b2 := blk_setCell b1 1 (.slice a2 ml1.length k2)
  have r3 := r2.setCell (by decide) b2 2 (.slice a3 H.ss.length k3)
  have b3 := blk_setCell b2 2 (.slice a3 H.ss.length k3)
  exact r3.setCell (by decide) b3 3 (.string H.cur)

set_option maxHeartbeats 1000000 in
theorem copy55 (h : Rep w 67 t H m) (hw : WF H) : Calls Try.prog 55 #[.pointer (some ⟨t, 0, none⟩)] w (Made 67 H w) := by
  obtain ⟨hl1, hl2⟩ := rd_lens h hw
  have hv2 := hw.v2
  have hs2 := hw.s2
  obtain ⟨c0, c1, c2, c3⟩ := h.cellT
  obtain ⟨vv, bv, sv, ml⟩ := m
  have ht : t < w.heap.size := h.lt (.inl rfl)
  have HH := Lib.hid h.hAt
  clear h
  go_enter Try.func55, Try.ntmps55
  go_wp2_with fail
  refine (copied37 vv bv sv HH.out (by omega) hl1 (by omega) hl2).mono ?_
  rintro e w1 ⟨m1, rfl, hr, hb⟩
  have HRV := Lib.hid hr
  have HB := Lib.hid hb
  clear hr hb
  go_wp2_with fail
  go_ret
  refine ⟨w1.heap.size, m1, rfl, ?_, fun k hk => ?_, HB.out.alloc HB.out.size _⟩
  · exact (HRV.out.below ((Below.refl _ _).alloc (Nat.le_refl _) _)).rep (.inl rfl) (heap_alloc_new w1 _)
  · exact (HRV.out.below ((Below.refl _ _).alloc (Nat.le_refl _) (.cells #[m1.vv, m1.bv, m1.sv, .string H.cur] 67))).owns_ge HB.out.size hk

end

end Go.Proofs.Ytalmfmijjbpnpaa
