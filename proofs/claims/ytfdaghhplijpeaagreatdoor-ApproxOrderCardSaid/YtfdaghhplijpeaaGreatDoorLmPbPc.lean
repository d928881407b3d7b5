/-
  Walk of the reference's Valid.
-/
import Derived.Test.YtfdaghhplijpeaaGreatDoorLmPa
namespace Go.Proofs.YtfdaghhplijpeaaGreatDoor
open Go Go.RowKit

/-- If the call returns true, every node fits the ones ahead of it. -/
def ValidP (w : World) (l : List Nd) (e : Ending) (w' : World) : Prop := ∃ r : Bool, e = .returned (.bool r) ∧ Below w.heap.size w w' ∧ (r = true → 0 < l.length ∧ ∀ i, i < l.length → FitsN i (l.getD i nd0))
set_option maxRecDepth 100000 in
set_option maxHeartbeats 4000000 in
theorem valid_calls {w : World} {B : Nat} {v : Value} {l : List Nd} (h : NdsR w B v l) (hl : l.length ≤ 1000) (hm : ∀ i, i < l.length → MNd (l.getD i nd0)) (hT : Tabd w) :
    Calls Tryz.prog 50 #[v] w (ValidP w l) := by
  have HX := Lib.hid (And.intro h (And.intro hl (And.intro hm hT)))
  obtain ⟨va, vc, rfl⟩ := h.slice
  obtain ⟨n, hn⟩ : ∃ n, l.length = n := ⟨_, rfl⟩
  have HN := Lib.hid hn
  have HS := Lib.hid (by have R := fun (w : World) => @sizes_calls w B (.slice va l.length vc) l; rw [hn] at R; exact R)
  rw [hn] at hl
  rw [hn]
  have HX2 := Lib.hid (by rw [← hn]; exact HX.out.1 : NdsR w B (.slice va n vc) l)
  clear h hm hT hn
  by_cases h0 : n < 1
  · go_enter Tryz.func50, Tryz.ntmps50
    go_wp2_with fail
    go_ret
    exact ⟨false, rfl, Below.refl _ _, fun e => by cases e⟩
  · by_cases h2 : 200 < n
    · go_enter Tryz.func50, Tryz.ntmps50
      go_wp2_with fail
      go_ret
      exact ⟨false, rfl, Below.refl _ _, fun e => by cases e⟩
    · go_enter Tryz.func50, Tryz.ntmps50
      go_wp2_with fail
      refine (HS.out w HX2.out hl (by rw [← HN.out]; exact HX.out.2.2.1) HX.out.2.2.2).mono ?_
      rintro e w1 ⟨hb, rfl | ⟨sv, dv, S, D, rfl, hW, hp⟩⟩
      · have HB := Lib.hid hb
        clear hb
        go_wp2_with fail
        go_ret
        exact ⟨false, rfl, HB.out, fun e => by cases e⟩
      · have HW := Lib.hid hW
        have HB := Lib.hid hb
        obtain ⟨j, hij⟩ : ∃ j : Nat, (n : Int) - 1 = (j : Int) := ⟨n - 1, by omega⟩
        have hls := hW.inv.ls
        have hld := hW.inv.ld
        obtain ⟨ag, ac, rfl, hS1, hS2⟩ := sz_cell hW.srow (j := j) (by omega)
        obtain ⟨dg, dc, rfl, hD1, hD2⟩ := sz_cell hW.drow (j := j) (by omega)
        rw [hls, hld]
        have hj1 : (j : Int) < (n : Int) := by omega
        have hj0 : (0 : Int) ≤ (j : Int) := by omega
        have hn0 : (0 : Int) < (n : Int) := by omega
        generalize D.getD j 0 = z at hD1
        clear hW hb hp hls hld hS1
        go_wp2_with fail
        go_ret
        exact ⟨_, rfl, HB.out, fun _ => ⟨by have := HN.out; omega, fun i hi => HW.out.inv.fit i (by have := HN.out; omega)⟩⟩
end Go.Proofs.YtfdaghhplijpeaaGreatDoor
/-
  Walk of the reference's Put.
-/
namespace Go.Proofs.YtfdaghhplijpeaaGreatDoor
open Go Go.RowKit

/-- A graph's list: nodes of the mill that fit the ones ahead of them, no two alike. -/
structure GI (L : List Nd) : Prop where
  nd : ∀ i, i < L.length → MNd (L.getD i nd0)
  fit : ∀ i, i < L.length → FitsN i (L.getD i nd0)
  nodup : L.Nodup
theorem gi_nil : GI [] := ⟨fun i h => by simp at h, fun i h => by simp at h, List.nodup_nil⟩
theorem getD_snocN {L : List Nd} {x : Nd} {j : Nat} (hj : j < L.length + 1) : (L ++ [x]).getD j nd0 = if j < L.length then L.getD j nd0 else x := by
  rw [List.getD_eq_getElem?_getD, List.getElem?_append]
  by_cases h : j < L.length
  · rw [if_pos (by omega), if_pos h, List.getD_eq_getElem?_getD]
  · rw [if_neg (by omega), if_neg h, show j - L.length = 0 by omega]; rfl
theorem GI.snoc {L : List Nd} {x : Nd} (h : GI L) (hx : MNd x) (hf : FitsN L.length x) (hn : x ∉ L) : GI (L ++ [x]) where
  nd := fun i hi => by
    rw [getD_snocN (by simpa using hi)]
    split
    · exact h.nd i (by assumption)
    · exact hx
  fit := fun i hi => by
    have hi' : i < L.length + 1 := by simpa using hi
    rw [getD_snocN hi']
    split
    · exact h.fit i (by assumption)
    · have : i = L.length := by omega
      rw [this]; exact hf
  nodup := by
    rw [List.nodup_append]
    exact ⟨h.nodup, by simp, fun a ha b hb e => by simp at hb; subst hb; subst e; exact hn ha⟩
/-- What the reference's Put has done: the number of the node is returned; the list is as it was, or longer by the node. -/
structure PutW (w w' : World) (B q : Nat) (v : Value) (L : List Nd) (x : Nd) (id : Nat) (v' : Value) (L' : List Nd) : Prop where
  ref : RefR w' B q v' L'
  gi : GI L'
  lst : L' = L ∨ L' = L ++ [x]
  id_ : id < L'.length
  fr : Fr (fun j => j = q ∨ v.ownBlock = some j) w w'
  own : ∀ j, v'.ownBlock = some j → v.ownBlock = some j ∨ w.heap.size ≤ j
/-- append of one node, a step of a region that draws its order. -/
theorem app_nodeR {ops : Array Oper} {o : Oper} {a : Act} {w : World} {K : Act → World → Prop} {Q : Exit → Act → World → Prop} {E : Prop} (hgd : o.guard = none) (s x : Operand) (ho : o.op = .call { callee := .builtin .append, args := #[s, x], argTypes := #[29, 29] })
    (base : Nat) (hbase : base ≤ w.heap.size) (v : Value) (L : List Nd) (hs : a.eval s = v) (hown : NdsR w base v L) (B : Nat) (y : Nd) (hx : a.eval x = .slice (some ⟨B, 0, none⟩) 1 1)
    (hB : w.heap[B]? = some (.cells ⟨ndCells y⟩ 63 (0, 0))) (hn : L.length ≤ 100000)
    (h : ∀ g cap w', NdsR w' base (.slice (some ⟨g, 0, none⟩) (L.length + 1) cap) (L ++ [y]) → Fr (fun k => v.ownBlock = some k) w w' → (v.ownBlock = some g ∨ w.heap.size ≤ g) →
      K (a.put o.dst (.slice (some ⟨g, 0, none⟩) (L.length + 1) cap)) w') :
    if Region.wanted o (yielded ops a.tmps) = true then Oper.wp Tryz.prog o a w K Q else E := by
  obtain ⟨i0, hi0, hz0, hz1, hz2⟩ := info_parts Tryz.infoNode
  refine step_append_lies w hgd s x 29 ho base 63 i0 _ 5 48 Tryz.underlying29 hi0 hz0 hz1 hz2 rfl (by omega) v L.length (ndsCells L) hs hown.own ⟨B, 0, none⟩ 1 1 (ndCells y) hx rfl (World.news_of_block (cs := ⟨ndCells y⟩) hB)
    (by intro u hu; simp [ndCells] at hu; rcases hu with rfl | rfl | rfl | rfl | rfl <;> rfl) (by omega) (by unfold maxLen; omega) (by omega) hbase w.heap.size rfl ?_
  intro g cap w' h2 h3 h4 _
  refine h g cap w' ⟨?_⟩ (fr_of_grown h3) (h4.imp id (fun e => by omega))
  rw [ndsCells_snoc, List.length_append]
  exact h2
theorem ref_ne {w : World} {B q : Nat} {v : Value} {L : List Nd} (h : RefR w B q v L) : v.ownBlock ≠ some q := fun e => by
  obtain ⟨cur, hc⟩ := own_block h.nds.own e
  rw [h.blk] at hc
  cases hc
theorem put_end {w w2 : World} {B q n gg cap : Nat} {v : Value} {L : List Nd} {x : Nd} {o : Obj} (H : RefR w B q v L) (hown : NdsR w2 B (.slice (some ⟨gg, 0, none⟩) (n + 1) cap) (L ++ [x])) (hgrow : Fr (fun k => v.ownBlock = some k) (w.alloc o).drew w2)
    (hat : v.ownBlock = some gg ∨ (w.alloc o).drew.heap.size ≤ gg) :
    RefR (w2.setCell ⟨q, 0, none⟩ (.slice (some ⟨gg, 0, none⟩) (n + 1) cap)) B q (.slice (some ⟨gg, 0, none⟩) (n + 1) cap) (L ++ [x]) ∧ (∀ k, (Value.slice (some ⟨gg, 0, none⟩) (n + 1) cap).ownBlock = some k → v.ownBlock = some k ∨ w.heap.size ≤ k) ∧
      Fr (fun k => k = q ∨ v.ownBlock = some k) w (w2.setCell ⟨q, 0, none⟩ (.slice (some ⟨gg, 0, none⟩) (n + 1) cap)) := by
  have hq : q < w.heap.size := (Array.getElem?_eq_some_iff.1 H.blk).1
  have hsz : (w.alloc o).drew.heap.size = w.heap.size + 1 := by simp
  have hne : gg ≠ q := fun e => by
    rcases hat with h | h
    · exact ref_ne H (by rw [h, e])
    · omega
  have hb : w2.heap[q]? = some (.cells #[v] 31 (0, 0)) := by
    rw [hgrow.block q (by omega) (ref_ne H)]
    exact (((Below.refl w.heap.size w).alloc (Nat.le_refl _) o).drew.block q hq).trans H.blk
  refine ⟨⟨?_, ⟨?_⟩⟩, fun k hk => ?_, ?_⟩
  · unfold World.setCell
    simp only [Array.getElem?_modify, hb]
    simp
  · exact ownsRow_setCell_other (a := ⟨q, 0, none⟩) hown.own (by simp [Value.ownBlock]; exact hne) _
  · have : gg = k := by simpa [Value.ownBlock] using hk
    subst this
    exact hat.imp id (fun h => by omega)
  · exact (((Fr.refl (fun k => k = q ∨ v.ownBlock = some k) w).alloc o).drew.trans hgrow (fun k _ e => .inr e)).setCell _ (fun _ => .inl rfl)
set_option maxRecDepth 100000 in
set_option maxHeartbeats 8000000 in
theorem refPut_calls {w : World} {B q : Nat} {v : Value} {L : List Nd} {x : Nd} (h : RefR w B q v L) (hB : B ≤ w.heap.size) (hg : GI L) (hx : MNd x) (hf : FitsN L.length x) (hl : L.length ≤ 4000) (hT : Tabd w) :
    Calls Tryz.prog 64 #[ptr q, ndVal x] w fun e w' => ∃ (id : Nat) (v' : Value) (L' : List Nd), e = .returned (.tuple #[.int .i64 id, .int .i64 0]) ∧ PutW w w' B q v L x id v' L' := by
  have HX := Lib.hid (And.intro h (And.intro hB (And.intro hg (And.intro hx (And.intro hf (And.intro hl hT))))))
  have hq : q < w.heap.size := (Array.getElem?_eq_some_iff.1 h.blk).1
  obtain ⟨a, c, rfl⟩ := h.nds.slice
  obtain ⟨n, hn⟩ : ∃ n, L.length = n := ⟨_, rfl⟩
  have HN := Lib.hid hn
  have HR := Lib.hid (by rw [← hn]; exact h : RefR w B q (.slice a n c) L)
  rw [hn] at hl ⊢
  clear h hB hg hx hf hT hn
  obtain ⟨k, xa, xb, m, t⟩ := x
  have HA := Lib.hid ((Below.refl w.heap.size w).alloc (Nat.le_refl _) (.cells ⟨ndCells ⟨k, xa, xb, m, t⟩⟩ 63))
  have HQ := Lib.hid hq
  clear hq
  unfold ptr
  rw [show ndVal ⟨k, xa, xb, m, t⟩ = .agg #[.int .i64 k, .int .i64 xa, .int .i64 xb, .int .i64 m, .string t] from rfl]
  go_enter Tryz.func64, Tryz.ntmps64
  go_wp2_with fail
  refine (refFits_calls (x := ⟨k, xa, xb, m, t⟩) (HR.out.below HA.out) (by have := HN.out; omega) HX.out.2.2.2.1 HX.out.2.2.2.2.1 (HX.out.2.2.2.2.2.2.below HA.out)).mono ?_
  rintro e w1 ⟨rfl, hb⟩
  have HB1 := Lib.hid (by rw [← alloc_size w]; exact hb : Below (w.heap.size + 1) (w.alloc (.cells ⟨ndCells ⟨k, xa, xb, m, t⟩⟩ 63)) w1)
  clear hb
  obtain ⟨d0, d1, d2, d3, d4⟩ := nd_cells (nd_block HB1.out)
  simp only at d0 d1 d2 d3 d4
  have hs : w.heap.size < w1.heap.size := World.block_lt_of_cell? w1 _ d0
  go_wp2_with fail
  refine (find_calls (HR.out.below (nd_below HB1.out)) (by have := HN.out; omega) ⟨k, xa, xb, m, t⟩).mono ?_
  rintro e w2 ⟨⟨r, rfl, hr⟩, hb2⟩
  have HB2 := Lib.hid (HB1.out.trans (hb2.mono (by omega)))
  have hs2 := hb2.size
  clear d0 d1 d2 d3 d4 hb2
  obtain ⟨d0, d1, d2, d3, d4⟩ := nd_cells (nd_block HB2.out)
  simp only at d0 d1 d2 d3 d4
  have hs' : w.heap.size < w2.heap.size := by omega
  clear hs hs2
  have HR2 := Lib.hid (HR.out.below (nd_below HB2.out))
  have hF2 : Fr (fun j => j = q ∨ (Value.slice a n c).ownBlock = some j) w w2 := Fr.of_below (nd_below HB2.out)
  have HF2 := Lib.hid hF2
  clear hF2
  rcases hr with ⟨rfl, hno⟩ | ⟨i, rfl, hi, hli⟩
  · have HNO := Lib.hid hno
    clear hno
    have b0 := cell_of_blk HR2.out.blk 0
    simp only [List.getElem?_toArray, List.getElem?_cons_zero] at b0
    have f0 := frozen_of_blk HR2.out.blk 0
    have hq2 : q < w2.heap.size := World.block_lt_of_cell? w2 _ b0
    have HNE := Lib.hid (ref_ne HR2.out)
    have HBq := Lib.hid (show B ≤ w2.heap.size by have := HX.out.2.1; omega)
    have hal : ∀ o, Below w2.heap.size w2 (w2.alloc o).drew := fun o => ((Below.refl _ w2).alloc (Nat.le_refl _) o).drew
    have HAL := Lib.hid hal
    have HHQ := Lib.hid hq2
    have c0' : (w2.alloc (.cells ⟨ndCells ⟨k, xa, xb, m, t⟩⟩ 63)).cell? ⟨q, 0, none⟩ = some (.slice a n c) := (((Below.refl _ w2).alloc (Nat.le_refl _) _).cell (p := ⟨q, 0, none⟩) hq2).trans b0
    clear hal
    go_wp2_with fail
    go_region_law (refine app_nodeR (by rfl) _ _ (by rfl) B (le_alloc _ HBq.out) (.slice a n c) L (by rfl) (NdsR.mk ((HR2.out.nds.own.alloc _).drew)) w2.heap.size ⟨k, xa, xb, m, t⟩ (by rfl) (heap_alloc_new w2 _) (by have := HN.out; omega) ?_; intro gg capn w5 hown5 hgrow5 hat5; rw [HN.out] at hown5; rw [HN.out]; have s1 : w5.cell? ⟨q, 0, none⟩ = some (.slice a n c) := hgrow5.cell (((HAL.out _).cell (p := ⟨q, 0, none⟩) HHQ.out).trans b0) HNE.out; have s2 : w5.frozen? ⟨q, 0, none⟩ = false := (hgrow5.frozen (a := ⟨q, 0, none⟩) (by have := HHQ.out; simp; omega) HNE.out).trans (((HAL.out _).frozen (p := ⟨q, 0, none⟩) HHQ.out).trans f0))
    all_goals
      have hE := put_end HR2.out hown5 hgrow5 hat5
      have HE := Lib.hid hE
      have hq5 : q < w5.heap.size := World.block_lt_of_cell? w5 _ s1
      clear hE hown5 hgrow5 hat5
      go_wp2_with fail
      go_ret2
      exact ⟨n, _, L ++ [⟨k, xa, xb, m, t⟩], rfl, HE.out.1, HX.out.2.2.1.snoc HX.out.2.2.2.1 HX.out.2.2.2.2.1 HNO.out, .inr rfl, by rw [List.length_append, HN.out]; simp, HF2.out.trans HE.out.2.2 (fun _ _ e => e), fun j e => (HE.out.2.1 j e).imp id (fun h => by omega)⟩
  · have HI := Lib.hid (And.intro hi hli)
    clear hi hli
    have hi0 : (0 : Int) ≤ (i : Int) := by omega
    go_wp2_with fail
    go_ret2
    exact ⟨i, _, L, rfl, HR2.out, HX.out.2.2.1, .inl rfl, HI.out.1, HF2.out, fun j e => .inl e⟩
end Go.Proofs.YtfdaghhplijpeaaGreatDoor
