/-
  Walk of the graph's Put at a new node.
-/
import Derived.Test.YtfdaghhplijpeaaGreatDoorLmPj
import Derived.Deep.RegionHeld3
namespace Go.Proofs.YtfdaghhplijpeaaGreatDoor
open Go Go.RowKit Go.Maps

theorem GraphR.frame {w w' : World} {B p : Nat} {v m : Value} {L : List Nd} {S : Nat → Prop} (h : GraphR w B p v m L) (hf : Fr S w w') (h1 : ¬ S p) (h2 : ∀ k, v.ownBlock = some k → ¬ S k) : GraphR w' B p v m L :=
  ⟨(hf.block p (Array.getElem?_eq_some_iff.1 h.blk).1 h1).trans h.blk, h.nds.frame hf h2⟩
theorem graph_ne {w : World} {B p : Nat} {v m : Value} {L : List Nd} (h : GraphR w B p v m L) : v.ownBlock ≠ some p := fun e => by
  obtain ⟨cur, hc⟩ := own_block h.nds.own e
  rw [h.blk] at hc
  cases hc
theorem graph_idx {w : World} {B p b : Nat} {v m : Value} {L L' : List Nd} (h : GraphR w B p v m L) (hi : IdxR w b L') : p ≠ b ∧ v.ownBlock ≠ some b := by
  obtain ⟨es, clock, hb⟩ := hi.blk
  refine ⟨fun e => ?_, fun e => ?_⟩
  · have := h.blk
    rw [e, hb] at this
    cases this
  · obtain ⟨cur, hc⟩ := own_block h.nds.own e
    rw [hb] at hc
    cases hc
/-- append of one node to the graph's list, a step of a region that draws its order. -/
theorem app_listR {ops : Array Oper} {o : Oper} {a : Act} {w : World} {K : Act → World → Prop} {Q : Exit → Act → World → Prop} {E : Prop} (hgd : o.guard = none) (s x : Operand) (ho : o.op = .call { callee := .builtin .append, args := #[s, x], argTypes := #[92, 92] })
    (base : Nat) (hbase : base ≤ w.heap.size) (v : Value) (L : List Nd) (hs : a.eval s = v) (hown : NdsR w base v L) (B : Nat) (y : Nd) (hx : a.eval x = .slice (some ⟨B, 0, none⟩) 1 1)
    (hB : w.heap[B]? = some (.cells ⟨ndCells y⟩ 63 (0, 0))) (hn : L.length ≤ 100000)
    (h : ∀ g cap w', NdsR w' base (.slice (some ⟨g, 0, none⟩) (L.length + 1) cap) (L ++ [y]) → Fr (fun k => v.ownBlock = some k) w w' → (v.ownBlock = some g ∨ w.heap.size ≤ g) →
      K (a.put o.dst (.slice (some ⟨g, 0, none⟩) (L.length + 1) cap)) w') :
    if Region.wanted o (yielded ops a.tmps) = true then Oper.wp Tryz.prog o a w K Q else E := by
  obtain ⟨i0, hi0, hz0, hz1, hz2⟩ := info_parts Tryz.infoNode
  refine step_append_lies w hgd s x 92 ho base 63 i0 _ 5 48 Tryz.underlying92 hi0 hz0 hz1 hz2 rfl (by omega) v L.length (ndsCells L) hs hown.own ⟨B, 0, none⟩ 1 1 (ndCells y) hx rfl (World.news_of_block (cs := ⟨ndCells y⟩) hB)
    (by intro u hu; simp [ndCells] at hu; rcases hu with rfl | rfl | rfl | rfl | rfl <;> rfl) (by omega) (by unfold maxLen; omega) (by omega) hbase w.heap.size rfl ?_
  intro g cap w' h2 h3 h4 _
  refine h g cap w' ⟨?_⟩ (fr_of_grown h3) (h4.imp id (fun e => by omega))
  rw [ndsCells_snoc, List.length_append]
  exact h2
theorem gput_end {w w2 : World} {B p n gg cap : Nat} {v m : Value} {L : List Nd} {x : Nd} {o : Obj} (H : GraphR w B p v m L) (hown : NdsR w2 B (.slice (some ⟨gg, 0, none⟩) (n + 1) cap) (L ++ [x])) (hgrow : Fr (fun k => v.ownBlock = some k) (w.alloc o).drew w2)
    (hat : v.ownBlock = some gg ∨ (w.alloc o).drew.heap.size ≤ gg) :
    GraphR (w2.setCell ⟨p, 0, none⟩ (.slice (some ⟨gg, 0, none⟩) (n + 1) cap)) B p (.slice (some ⟨gg, 0, none⟩) (n + 1) cap) m (L ++ [x]) ∧
      Fr (fun k => k = p ∨ v.ownBlock = some k) w (w2.setCell ⟨p, 0, none⟩ (.slice (some ⟨gg, 0, none⟩) (n + 1) cap)) := by
  have hq : p < w.heap.size := (Array.getElem?_eq_some_iff.1 H.blk).1
  have hsz : (w.alloc o).drew.heap.size = w.heap.size + 1 := by simp
  have hne : gg ≠ p := fun e => by
    rcases hat with h | h
    · exact graph_ne H (by rw [h, e])
    · omega
  have hb : w2.heap[p]? = some (.cells #[v, m] 95 (0, 0)) := by
    rw [hgrow.block p (by omega) (graph_ne H)]
    exact (((Below.refl w.heap.size w).alloc (Nat.le_refl _) o).drew.block p hq).trans H.blk
  refine ⟨⟨?_, ⟨?_⟩⟩, ?_⟩
  · unfold World.setCell
    simp only [Array.getElem?_modify, hb]
    simp
  · exact ownsRow_setCell_other (a := ⟨p, 0, none⟩) hown.own (by simp [Value.ownBlock]; exact hne) _
  · exact (((Fr.refl (fun k => k = p ∨ v.ownBlock = some k) w).alloc o).drew.trans hgrow (fun k _ e => .inr e)).setCell _ (fun _ => .inl rfl)
set_option maxRecDepth 100000 in
set_option maxHeartbeats 8000000 in
theorem put_calls {w : World} {B p b : Nat} {v : Value} {L : List Nd} {x : Nd} (h : GraphR w B p v (.map (some b)) L) (hi : IdxR w b L) (hB : B ≤ w.heap.size) (hx : MNd x) (hf : FitsN L.length x) (hno : x ∉ L) (hl : L.length ≤ 4000) (hT : Tabd w) :
    Calls Tryz.prog 44 #[ptr p, ndVal x] w fun e w' => ∃ v', e = .returned (.tuple #[.int .i64 L.length, .int .i64 0]) ∧ GraphR w' B p v' (.map (some b)) (L ++ [x]) ∧ IdxR w' b (L ++ [x]) ∧ Fr (fun j => j = p ∨ j = b ∨ v.ownBlock = some j) w w' := by
  have HX := Lib.hid (And.intro h (And.intro hi (And.intro hB (And.intro hx (And.intro hf (And.intro hno (And.intro hl hT)))))))
  have hp : p < w.heap.size := (Array.getElem?_eq_some_iff.1 h.blk).1
  obtain ⟨a, c, rfl⟩ := h.nds.slice
  obtain ⟨n, hn⟩ : ∃ n, L.length = n := ⟨_, rfl⟩
  have HN := Lib.hid hn
  have HR := Lib.hid (by rw [← hn]; exact h : GraphR w B p (.slice a n c) (.map (some b)) L)
  have HPB := Lib.hid (graph_idx h hi)
  rw [hn] at hl ⊢
  clear h hi hB hx hf hno hT hn
  obtain ⟨k, xa, xb, m, t⟩ := x
  have HA := Lib.hid ((Below.refl w.heap.size w).alloc (Nat.le_refl _) (.cells ⟨ndCells ⟨k, xa, xb, m, t⟩⟩ 63))
  have HQ := Lib.hid hp
  clear hp
  unfold ptr
  rw [show ndVal ⟨k, xa, xb, m, t⟩ = .agg #[.int .i64 k, .int .i64 xa, .int .i64 xb, .int .i64 m, .string t] from rfl]
  go_enter Tryz.func44, Tryz.ntmps44
  go_wp2_with fail
  refine (fits_calls (x := ⟨k, xa, xb, m, t⟩) (HR.out.below HA.out) (by have := HN.out; omega) HX.out.2.2.2.1 HX.out.2.2.2.2.1 (HX.out.2.2.2.2.2.2.2.below HA.out)).mono ?_
  rintro e w1 ⟨rfl, hb⟩
  have HB1 := Lib.hid (by rw [← alloc_size w]; exact hb : Below (w.heap.size + 1) (w.alloc (.cells ⟨ndCells ⟨k, xa, xb, m, t⟩⟩ 63)) w1)
  clear hb
  obtain ⟨d0, d1, d2, d3, d4⟩ := nd_cells (nd_block HB1.out)
  simp only at d0 d1 d2 d3 d4
  have hs : w.heap.size < w1.heap.size := World.block_lt_of_cell? w1 _ d0
  have HR1 := Lib.hid (HR.out.below (nd_below HB1.out))
  have HI1 := Lib.hid (HX.out.2.1.frame (Fr.of_below (S := fun _ => False) (nd_below HB1.out)) (fun e => e))
  have HF1 := Lib.hid (Fr.of_below (S := fun _ => False) (nd_below HB1.out))
  have b0 := cell_of_blk HR1.out.blk 0
  have b1 := cell_of_blk HR1.out.blk 1
  simp only [List.getElem?_toArray, List.getElem?_cons_zero, List.getElem?_cons_succ] at b0 b1
  have f0 := frozen_of_blk HR1.out.blk 0
  have hp1 : p < w1.heap.size := World.block_lt_of_cell? w1 _ b0
  obtain ⟨cl, hlook⟩ := (HI1.out.frame (Fr.refl (fun _ => False) w1).drew (fun e => e)).look (x := ⟨k, xa, xb, m, t⟩) HX.out.2.2.2.1 HX.out.2.2.2.2.1 (by have := HN.out; omega) HX.out.2.2.2.2.2.1
  rw [show ndVal ⟨k, xa, xb, m, t⟩ = .agg #[.int .i64 k, .int .i64 xa, .int .i64 xb, .int .i64 m, .string t] from rfl] at hlook
  go_wp2_with fail
  go_region
  have hB2 : Below (w.heap.size + 1) (w.alloc (.cells ⟨ndCells ⟨k, xa, xb, m, t⟩⟩ 63)) w1.drew := HB1.out.drew
  clear d0 d1 d2 d3 d4 hs b0 b1 f0 hp1 hlook
  generalize w1.drew = w2 at hB2 ⊢
  have HB2 := Lib.hid hB2
  clear hB2
  obtain ⟨d0, d1, d2, d3, d4⟩ := nd_cells (nd_block HB2.out)
  simp only at d0 d1 d2 d3 d4
  have hs : w.heap.size < w2.heap.size := World.block_lt_of_cell? w2 _ d0
  have HR2 := Lib.hid (HR.out.below (nd_below HB2.out))
  have HI2 := Lib.hid (HX.out.2.1.frame (Fr.of_below (S := fun _ => False) (nd_below HB2.out)) (fun e => e))
  have HF2 := Lib.hid (Fr.of_below (S := fun j => j = p ∨ (Value.slice a n c).ownBlock = some j) (nd_below HB2.out))
  have b0 := cell_of_blk HR2.out.blk 0
  have b1 := cell_of_blk HR2.out.blk 1
  simp only [List.getElem?_toArray, List.getElem?_cons_zero, List.getElem?_cons_succ] at b0 b1
  have f0 := frozen_of_blk HR2.out.blk 0
  have hq2 : p < w2.heap.size := World.block_lt_of_cell? w2 _ b0
  have HNE := Lib.hid (graph_ne HR2.out)
  have HS2 := Lib.hid hs
  have HPB2 := Lib.hid (graph_idx HR2.out HI2.out).2
  have HBq := Lib.hid (show B ≤ w2.heap.size by have := HX.out.2.2.1; omega)
  have hal : ∀ o, Below w2.heap.size w2 (w2.alloc o).drew := fun o => ((Below.refl _ w2).alloc (Nat.le_refl _) o).drew
  have HAL := Lib.hid hal
  have HHQ := Lib.hid hq2
  have c0' : (w2.alloc (.cells ⟨ndCells ⟨k, xa, xb, m, t⟩⟩ 63)).cell? ⟨p, 0, none⟩ = some (.slice a n c) := (((Below.refl _ w2).alloc (Nat.le_refl _) _).cell (p := ⟨p, 0, none⟩) hq2).trans b0
  clear hal
  go_wp2_with fail
  go_region_law (refine app_listR (by rfl) _ _ (by rfl) B (le_alloc _ HBq.out) (.slice a n c) L (by rfl) (NdsR.mk ((HR2.out.nds.own.alloc _).drew)) w2.heap.size ⟨k, xa, xb, m, t⟩ (by rfl) (heap_alloc_new w2 _) (by have := HN.out; omega) ?_; intro gg capn w5 hown5 hgrow5 hat5; rw [HN.out] at hown5; rw [HN.out]; have s1 : w5.cell? ⟨p, 0, none⟩ = some (.slice a n c) := hgrow5.cell (((HAL.out _).cell (p := ⟨p, 0, none⟩) HHQ.out).trans b0) HNE.out; have s2 : w5.frozen? ⟨p, 0, none⟩ = false := (hgrow5.frozen (a := ⟨p, 0, none⟩) (by have := HHQ.out; simp; omega) HNE.out).trans (((HAL.out _).frozen (p := ⟨p, 0, none⟩) HHQ.out).trans f0))
  all_goals
    have hE := gput_end HR2.out hown5 hgrow5 hat5
    have HE := Lib.hid hE
    clear hE hown5 hgrow5 hat5 s1 s2 d0 d1 d2 d3 d4 b0 b1 f0 c0'
    generalize w5.setCell ⟨p, 0, none⟩ (.slice (some ⟨gg, 0, none⟩) (n + 1) capn) = w6 at HE ⊢
    have hX6 := (HE.out.2.block w.heap.size HS2.out (fun e => e.elim (fun e => by have := HQ.out; omega) (fun e => by have := own_lt HR.out.nds.own e; omega))).trans (nd_block HB2.out)
    obtain ⟨d0, d1, d2, d3, d4⟩ := nd_cells hX6
    simp only at d0 d1 d2 d3 d4
    have b1 := cell_of_blk HE.out.1.blk 1
    simp only [List.getElem?_toArray, List.getElem?_cons_zero, List.getElem?_cons_succ] at b1
    have hs6 : w.heap.size < w6.heap.size := World.block_lt_of_cell? w6 _ d0
    have hp6 : p < w6.heap.size := World.block_lt_of_cell? w6 _ b1
    have hI6 := HI2.out.frame HE.out.2 (fun e => e.elim (fun e => HPB.out.1 e.symm) (fun e => HPB2.out e))
    have HI6 := Lib.hid hI6
    obtain ⟨w7, hrun, hI7, hF7⟩ := (HI6.out.frame (Fr.refl (fun _ => False) w6).drew (fun e => e)).store (x := ⟨k, xa, xb, m, t⟩) HX.out.2.2.2.1 HX.out.2.2.2.2.1 (by have := HN.out; omega) (by have := HN.out; omega)
    rw [show ndVal ⟨k, xa, xb, m, t⟩ = .agg #[.int .i64 k, .int .i64 xa, .int .i64 xb, .int .i64 m, .string t] from rfl, HN.out] at hrun
    have H7 := Lib.hid (And.intro hI7 ((Fr.refl (fun j => j = b) w6).drew.trans hF7 (fun _ _ e => e)))
    clear hX6 hI6 hI7 hF7
    go_wp2_with fail
    go_region
    go_wp2_with fail
    go_ret2
    refine ⟨_, rfl, HE.out.1.frame H7.out.2 (fun e => HPB.out.1 e) (fun j e e' => (graph_idx HE.out.1 HI6.out).2 (by rw [e, e'])), H7.out.1, ((HF2.out.trans HE.out.2 (fun _ _ e => e)).mono (fun j _ e => e.imp id .inr)).trans H7.out.2 (fun j _ e => .inr (.inl e))⟩
end Go.Proofs.YtfdaghhplijpeaaGreatDoor
/-
  Walks of graph.New and graph.Load: the graph with the same nodes.
-/
namespace Go.Proofs.YtfdaghhplijpeaaGreatDoor
open Go Go.RowKit Go.Maps

theorem gnew_calls {w : World} : Calls Tryz.prog 43 #[] w fun e w' => ∃ p b, e = .returned (ptr p) ∧ GraphR w' w.heap.size p (.slice none 0 0) (.map (some b)) [] ∧ IdxR w' b [] ∧ w.heap.size ≤ p ∧ w.heap.size ≤ b ∧ Below w.heap.size w w' := by
  have hmm := @run_makeMap Tryz.prog
  go_enter Tryz.func43, Tryz.ntmps43
  go_wp2_with fail

  go_ret
  have hs : (w.alloc (.map #[] 0)).heap.size = w.heap.size + 1 := by simp
  have h0 : Below w.heap.size w (w.alloc (.map #[] 0)) := (Below.refl _ w).alloc (Nat.le_refl _) _
  refine ⟨(w.alloc (.map #[] 0)).heap.size, w.heap.size, by simp [ptr], ⟨?_, ⟨World.ownsRow_nil _ _ _ _⟩⟩, (idx_start w).frame (S := fun _ => False) ((Fr.refl _ _).alloc _) (fun e => e), by omega, Nat.le_refl _, h0.alloc (by omega) _⟩
  exact heap_alloc_new (w.alloc (.map #[] 0)) _
/-- The loading at work: the first i nodes lie in the graph. -/
structure LdW (W wr : World) (p b : Nat) (L : List Nd) (i : Nat) (v : Value) : Prop where
  gr : GraphR wr W.heap.size p v (.map (some b)) (L.take i)
  ix : IdxR wr b (L.take i)
  p0 : W.heap.size ≤ p
  b0 : W.heap.size ≤ b
  below : Below W.heap.size W wr
theorem take_snoc {L : List Nd} {i : Nat} (hi : i < L.length) : L.take (i + 1) = L.take i ++ [L.getD i nd0] := by
  rw [List.take_add_one, List.getD_eq_getElem?_getD, List.getElem?_eq_getElem hi]
  rfl
theorem LdW.later {W wr w' : World} {p b i : Nat} {L : List Nd} {v : Value} (h : LdW W wr p b L i v) (hb : Below wr.heap.size wr w') : LdW W w' p b L i v :=
  ⟨h.gr.below hb, h.ix.frame (Fr.of_below (S := fun _ => False) hb) (fun e => e), h.p0, h.b0, h.below.trans (hb.mono h.below.size)⟩
theorem LdW.next {W wr w' : World} {p b i : Nat} {L : List Nd} {v v' : Value} (h : LdW W wr p b L i v) (hi : i < L.length) (h1 : GraphR w' W.heap.size p v' (.map (some b)) (L.take i ++ [L.getD i nd0])) (h2 : IdxR w' b (L.take i ++ [L.getD i nd0])) (hf : Fr (fun j => j = p ∨ j = b ∨ v.ownBlock = some j) wr w') : LdW W w' p b L (i + 1) v' := by
  rw [← take_snoc hi] at h1 h2
  refine ⟨h1, h2, h.p0, h.b0, h.below.trans (hf.below_of (fun j hj e => ?_) h.below.size)⟩
  rcases e with e | e | e
  · have := h.p0; omega
  · have := h.b0; omega
  · have := (h.gr.nds.own.lt j e).1; omega
theorem nodup_take {L : List Nd} (h : L.Nodup) {i : Nat} (hi : i < L.length) : L.getD i nd0 ∉ L.take i := by
  intro hm
  have e : (L.take (i + 1)).Nodup := h.sublist (List.take_sublist _ _)
  rw [take_snoc hi, List.nodup_append] at e
  exact e.2.2 _ hm _ (by simp) rfl
set_option maxRecDepth 100000 in
set_option maxHeartbeats 8000000 in
theorem load_calls {W : World} {B : Nat} {lv : Value} {L : List Nd} (hL : NdsR W B lv L) (hg : GI L) (hl : L.length ≤ 1000) (hT : Tabd W) :
    Calls Tryz.prog 22 #[lv] W fun e w' => ∃ p v mv, e = .returned (.tuple #[ptr p, .int .i64 L.length, .int .i64 0]) ∧ GraphR w' W.heap.size p v mv L ∧ Below W.heap.size W w' := by
  have HX := Lib.hid (And.intro hL (And.intro hg (And.intro hl hT)))
  obtain ⟨a, c, rfl⟩ := hL.slice
  obtain ⟨n, hn⟩ : ∃ n, L.length = n := ⟨_, rfl⟩
  have HN := Lib.hid hn
  rw [hn] at hl ⊢
  clear hL hg hT hn
  go_enter Tryz.func22, Tryz.ntmps22
  go_wp2_with fail
  refine gnew_calls.mono ?_
  rintro e w1 ⟨p, b, rfl, h1, h2, h3, h4, h5⟩
  have HL1 := Lib.hid (show LdW W w1 p b L 0 (.slice none 0 0) from ⟨h1, h2, h3, h4, h5⟩)
  clear h1 h2 h3 h4 h5
  unfold ptr
  go_wp2_with fail
  go_loopw [13] (fun iv wr => ∃ (i : Nat) (v : Value), i ≤ n ∧ iv = .int .i64 (i : Int) ∧ LdW W wr p b L i v) (fun iv _ => n - (intOf iv).toNat)
  case atStart => exact ⟨0, _, by omega, rfl, HL1.out⟩
  case round =>
    obtain ⟨i, v, hi, rfl, hD⟩ := hrel
    have HD := Lib.hid hD
    clear hD
    by_cases hin : i < n
    · obtain ⟨x, hx⟩ : ∃ x, L.getD i nd0 = x := ⟨_, rfl⟩
      obtain ⟨g4, c4, e4, c0, c1, c2, c3, c5⟩ := (HX.out.1.frame (Fr.of_below (S := fun _ => False) HD.out.below) (fun _ _ e => e)).form (by rw [HN.out]; exact hin) hx
      cases e4
      have HIN := Lib.hid (And.intro hin hx)
      obtain ⟨k, xa, xb, m, t⟩ := x
      simp only at c0 c1 c2 c3 c5
      have hg4 : g4 < wr.heap.size := World.block_lt_of_cell? wr _ c0
      have hi0 : (0 : Int) ≤ (i : Int) := by omega
      have hi1 : (i : Int) < (n : Int) := by omega
      clear hx
      go_wp2_with fail
      have HA := Lib.hid (HD.out.later ((Below.refl wr.heap.size wr).alloc (Nat.le_refl _) (.cells ⟨ndCells ⟨k, xa, xb, m, t⟩⟩ 63)))
      refine (put_calls (x := ⟨k, xa, xb, m, t⟩) HA.out.gr HA.out.ix HA.out.below.size (by have := HX.out.2.1.nd i (by rw [HN.out]; exact HIN.out.1); rw [HIN.out.2] at this; exact this)
        (by have := HX.out.2.1.fit i (by rw [HN.out]; exact HIN.out.1); rw [HIN.out.2] at this; rw [List.length_take, Nat.min_eq_left (by rw [HN.out]; have := HIN.out.1; omega)]; exact this)
        (by have := nodup_take HX.out.2.1.nodup (i := i) (by rw [HN.out]; exact HIN.out.1); rw [HIN.out.2] at this; exact this)
        (by rw [List.length_take]; omega) (HX.out.2.2.2.below HA.out.below)).mono ?_
      rintro e w5 ⟨v5, rfl, h1, h2, h3⟩
      have HL5 := Lib.hid (HA.out.next (by rw [HN.out]; exact HIN.out.1) (by rw [HIN.out.2]; exact h1) (by rw [HIN.out.2]; exact h2) h3)
      rw [show (L.take i).length = i by rw [List.length_take, Nat.min_eq_left (by rw [HN.out]; have := HIN.out.1; omega)]]
      clear h1 h2 h3 c0 c1 c2 c3 c5
      go_wp2_with fail
      go_roundw
      case rel => exact ⟨i + 1, v5, by have := HIN.out.1; omega, by go_num, HL5.out⟩
      case measure => simp [intOf]; omega
    · have hie : i = n := by omega
      subst hie
      clear hi hin
      go_wp2_with fail
      refine bodyPost_ret (by simp [results, Tryz.results22, go_sem]; try rfl) rfl ?_
      have e : L.take i = L := by rw [← HN.out]; exact List.take_length
      exact ⟨p, v, _, rfl, e ▸ HD.out.gr, HD.out.below⟩
theorem lawLoad_calls {W : World} {B q : Nat} {v : Value} {L : List Nd} (h : RefR W B q v L) (hg : GI L) (hl : L.length ≤ 1000) (hT : Tabd W) :
    Calls Tryz.prog 7 #[ptr q] W fun e w' => ∃ p v mv, e = .returned (ptr p) ∧ GraphR w' W.heap.size p v mv L ∧ Below W.heap.size W w' := by
  have HX := Lib.hid (And.intro h (And.intro hg (And.intro hl hT)))
  have b0 := cell_of_blk h.blk 0
  simp only [List.getElem?_toArray, List.getElem?_cons_zero] at b0
  have hq : q < W.heap.size := World.block_lt_of_cell? W _ b0
  obtain ⟨a, c, rfl⟩ := h.nds.slice
  clear h hg hT
  unfold ptr
  go_enter Tryz.func7, Tryz.ntmps7
  go_wp2_with fail
  refine (load_calls HX.out.1.nds HX.out.2.1 HX.out.2.2.1 HX.out.2.2.2).mono ?_
  rintro e w1 ⟨p, v1, mv, rfl, h1, h2⟩
  have HG := Lib.hid (And.intro h1 h2)
  clear h1 h2
  unfold ptr
  go_wp2_with fail
  go_ret
  exact ⟨p, v1, mv, rfl, HG.out⟩
end Go.Proofs.YtfdaghhplijpeaaGreatDoor
