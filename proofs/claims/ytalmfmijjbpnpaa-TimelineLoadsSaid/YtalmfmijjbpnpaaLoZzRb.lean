/-
  What the steps of spoilt make of a history. No walk stands here.
-/
import Derived.Test.YtalmfmijjbpnpaaLoZy
namespace Go.Proofs.Ytalmfmijjbpnpaa
open Go.RowKit

/-- The two boxes of spoilt. -/
structure SpB (w : World) (c u1 u2 u3 : Value) (wx : World) : Prop where
  bh : wx.heap[w.heap.size]? = some (.cells #[u1, u2, u3, c] 37 (0, 0))
  rh : wx.heap[w.heap.size + 1]? = some (.cells #[.slice none 0 0, .slice none 0 0, .slice none 0 0, .string { data := #[] }] 37 (0, 0))
  bel : Below w.heap.size w wx

section
variable {w wx w5 : World} {c u1 u2 u3 : Value}

theorem SpB.cells (h : SpB w c u1 u2 u3 wx) : wx.cell? ⟨w.heap.size, 0, none⟩ = some u1 ∧ wx.cell? ⟨w.heap.size, 1, none⟩ = some u2 ∧ wx.cell? ⟨w.heap.size, 2, none⟩ = some u3 ∧ wx.cell? ⟨w.heap.size, 3, none⟩ = some c :=
  ⟨(cell_of_blk h.bh 0).trans rfl, (cell_of_blk h.bh 1).trans rfl, (cell_of_blk h.bh 2).trans rfl, (cell_of_blk h.bh 3).trans rfl⟩
theorem SpB.fr (h : SpB w c u1 u2 u3 wx) (i : Nat) : wx.frozen? ⟨w.heap.size, i, none⟩ = false := frozen_of_blk h.bh i
theorem SpB.cellsR (h : SpB w c u1 u2 u3 wx) : wx.cell? ⟨w.heap.size + 1, 0, none⟩ = some (.slice none 0 0) ∧ wx.cell? ⟨w.heap.size + 1, 1, none⟩ = some (.slice none 0 0) ∧ wx.cell? ⟨w.heap.size + 1, 2, none⟩ = some (.slice none 0 0) ∧ wx.cell? ⟨w.heap.size + 1, 3, none⟩ = some (.string { data := #[] }) :=
  ⟨(cell_of_blk h.rh 0).trans rfl, (cell_of_blk h.rh 1).trans rfl, (cell_of_blk h.rh 2).trans rfl, (cell_of_blk h.rh 3).trans rfl⟩
theorem SpB.frR (h : SpB w c u1 u2 u3 wx) (i : Nat) : wx.frozen? ⟨w.heap.size + 1, i, none⟩ = false := frozen_of_blk h.rh i
theorem SpB.lt (h : SpB w c u1 u2 u3 wx) : w.heap.size + 1 < wx.heap.size := (Array.getElem?_eq_some_iff.1 h.rh).1

theorem SpB.lt0 (h : SpB w c u1 u2 u3 wx) : w.heap.size < wx.heap.size := Nat.lt_trans (Nat.lt_succ_self _) h.lt

theorem SpB.fr_to (h : SpB w c u1 u2 u3 wx) {S : Nat → Prop} (hf : Fr S wx w5) (hS : ∀ k, S k → w.heap.size + 2 ≤ k) : SpB w c u1 u2 u3 w5 := by
  have hl := h.lt
  refine ⟨(hf.block _ (by omega) (fun hs => by have := hS _ hs; omega)).trans h.bh, (hf.block _ (by omega) (fun hs => by have := hS _ hs; omega)).trans h.rh, ?_⟩
  exact h.bel.trans (hf.below_of (fun k hk hs => by have := hS _ hs; omega) h.bel.size)
theorem SpB.below (h : SpB w c u1 u2 u3 wx) (hb : Below wx.heap.size wx w5) : SpB w c u1 u2 u3 w5 := h.fr_to (S := fun _ => False) (Fr.of_below hb) (fun _ e => e.elim)
theorem SpB.put0 (h : SpB w c u1 u2 u3 wx) (v : Value) : SpB w c v u2 u3 (wx.setCell ⟨w.heap.size, 0, none⟩ v) :=
  ⟨blk_setCell h.bh 0 v, blk_setCell_ne h.rh _ _ (by show w.heap.size + 1 ≠ w.heap.size; omega), h.bel.setCell (Nat.le_refl _) _⟩
theorem SpB.put1 (h : SpB w c u1 u2 u3 wx) (v : Value) : SpB w c u1 v u3 (wx.setCell ⟨w.heap.size, 1, none⟩ v) :=
  ⟨blk_setCell h.bh 1 v, blk_setCell_ne h.rh _ _ (by show w.heap.size + 1 ≠ w.heap.size; omega), h.bel.setCell (Nat.le_refl _) _⟩
theorem SpB.put2 (h : SpB w c u1 u2 u3 wx) (v : Value) : SpB w c u1 u2 v (wx.setCell ⟨w.heap.size, 2, none⟩ v) :=
  ⟨blk_setCell h.bh 2 v, blk_setCell_ne h.rh _ _ (by show w.heap.size + 1 ≠ w.heap.size; omega), h.bel.setCell (Nat.le_refl _) _⟩
theorem SpB.put3 (h : SpB w c u1 u2 u3 wx) (v : Value) : SpB w v u1 u2 u3 (wx.setCell ⟨w.heap.size, 3, none⟩ v) :=
  ⟨blk_setCell h.bh 3 v, blk_setCell_ne h.rh _ _ (by show w.heap.size + 1 ≠ w.heap.size; omega), h.bel.setCell (Nat.le_refl _) _⟩
theorem SpB.own (h : SpB w c u1 u2 u3 wx) {e : TypeId} {sz n i base : Nat} {u v : Value} {xs : List Value} (he : e ≠ 37) (ho : wx.ownsRow base e sz v n xs) : (wx.setCell ⟨w.heap.size, i, none⟩ u).ownsRow base e sz v n xs :=
  own_setCell ho _ _ (own_ne_blk ho h.bh he)
theorem SpB.set (h : SpB w c u1 u2 u3 wx) {a : Addr} (u : Value) (ha : w.heap.size + 2 ≤ a.block) : SpB w c u1 u2 u3 (wx.setCell a u) :=
  ⟨blk_setCell_ne h.bh _ _ (by omega), blk_setCell_ne h.rh _ _ (by omega), h.bel.setCell (by omega) _⟩
theorem own_of_below {base : Nat} {e : TypeId} {sz n : Nat} {v : Value} {xs : List Value} (h : wx.ownsRow base e sz v n xs) (hb : Below wx.heap.size wx w5) : w5.ownsRow base e sz v n xs :=
  own_frame h (Fr.of_below (S := fun _ => False) hb) (fun _ _ e => e)
end

/-- A history in the first box of spoilt, whose rows are spoilt's own. -/
structure SpE (w : World) (H : Hist) (ml : List (Ln × Value)) (v1 v2 v3 : Value) (wx : World) : Prop where
  b : SpB w (.string H.cur) v1 v2 v3 wx
  o1 : wx.ownsRow (w.heap.size + 2) 40 2 v1 H.vs.length (verCells H.vs)
  o2 : wx.ownsRow (w.heap.size + 2) 65 3 v2 ml.length (lnCells ml)
  o3 : wx.ownsRow (w.heap.size + 2) 78 2 v3 H.ss.length (lbCells H.ss)
  rd : ∀ x ∈ ml, SlAt w x.2 x.1.rd.length 1 (intCells x.1.rd) ∨ wx.ownsRow (w.heap.size + 2) 3 1 x.2 x.1.rd.length (intCells x.1.rd)
  n1 : H.vs.length ≤ 1000
  n2 : ml.length ≤ 17
  n3 : H.ss.length ≤ 17
  n4 : ∀ x ∈ ml, x.1.rd.length ≤ 1001
  nm : NmOk H
  ml : H.bs = ml.map (·.1)

/-- Some history, of which no more is known. -/
def SpoP (w : World) (e : Ending) (w' : World) : Prop := ∃ (H : Hist) (ml : List (Ln × Value)) (v1 v2 v3 : Value), e = .returned (.agg #[v1, v2, v3, .string H.cur]) ∧ HAt w' v1 v2 v3 H ml ∧
  (H.vs.length ≤ 100000 ∧ ml.length ≤ 100000 ∧ H.ss.length ≤ 100000 ∧ ∀ x ∈ ml, x.1.rd.length ≤ 100000) ∧ NmOk H ∧ Below w.heap.size w w'

section
variable {w wx w5 : World} {H : Hist} {ml : List (Ln × Value)} {v1 v2 v3 : Value}

theorem SpE.done (h : SpE w H ml v1 v2 v3 wx) (a b c d : Value) :
    SpoP w (.returned (.agg #[v1, v2, v3, .string H.cur])) ((((wx.setCell ⟨w.heap.size + 1, 0, none⟩ a).setCell ⟨w.heap.size + 1, 1, none⟩ b).setCell ⟨w.heap.size + 1, 2, none⟩ c).setCell ⟨w.heap.size + 1, 3, none⟩ d) := by
  have b0 := h.b.rh
  have b1 := blk_setCell b0 0 a
  have b2 := blk_setCell b1 1 b
  have b3 := blk_setCell b2 2 c
  have push : ∀ {e : TypeId} {sz n : Nat} {v : Value} {xs : List Value}, e ≠ 37 → wx.ownsRow (w.heap.size + 2) e sz v n xs →
      ((((wx.setCell ⟨w.heap.size + 1, 0, none⟩ a).setCell ⟨w.heap.size + 1, 1, none⟩ b).setCell ⟨w.heap.size + 1, 2, none⟩ c).setCell ⟨w.heap.size + 1, 3, none⟩ d).ownsRow (w.heap.size + 2) e sz v n xs := by
    intro e sz n v xs he hh
    have a1 := own_setCell hh ⟨w.heap.size + 1, 0, none⟩ a (own_ne_blk hh b0 he)
    have a2 := own_setCell a1 ⟨w.heap.size + 1, 1, none⟩ b (own_ne_blk a1 b1 he)
    have a3 := own_setCell a2 ⟨w.heap.size + 1, 2, none⟩ c (own_ne_blk a2 b2 he)
    exact own_setCell a3 ⟨w.heap.size + 1, 3, none⟩ d (own_ne_blk a3 b3 he)
  have hbel : Below w.heap.size w ((((wx.setCell ⟨w.heap.size + 1, 0, none⟩ a).setCell ⟨w.heap.size + 1, 1, none⟩ b).setCell ⟨w.heap.size + 1, 2, none⟩ c).setCell ⟨w.heap.size + 1, 3, none⟩ d) :=
    (((h.b.bel.setCell (by show w.heap.size ≤ w.heap.size + 1; omega) _).setCell (by show w.heap.size ≤ w.heap.size + 1; omega) _).setCell (by show w.heap.size ≤ w.heap.size + 1; omega) _).setCell (by show w.heap.size ≤ w.heap.size + 1; omega) _
  have n1 := h.n1
  have n2 := h.n2
  have n3 := h.n3
  refine ⟨H, ml, v1, v2, v3, rfl, ⟨own_slAt (push (by decide) h.o1), own_slAt (push (by decide) h.o2), own_slAt (push (by decide) h.o3), fun x hx => ?_, h.ml⟩, ⟨by omega, by omega, by omega, fun x hx => by have := h.n4 x hx; omega⟩, h.nm, hbel⟩
  rcases h.rd x hx with h1 | h1
  · exact h1.below hbel
  · exact own_slAt (push (by decide) h1)

/-- The start: rows of one's own. -/
theorem SpE.start {vv bv sv : Value} (hw : WF H) (h : HAt w vv bv sv H ml) (hs : NmOk H) (hb : SpB w (.string H.cur) v1 v2 v3 wx) (o1 : wx.ownsRow (w.heap.size + 2) 40 2 v1 H.vs.length (verCells H.vs))
    (o2 : wx.ownsRow (w.heap.size + 2) 65 3 v2 ml.length (lnCells ml)) (o3 : wx.ownsRow (w.heap.size + 2) 78 2 v3 H.ss.length (lbCells H.ss)) : SpE w H ml v1 v2 v3 wx where
  b := hb
  o1 := o1
  o2 := o2
  o3 := o3
  rd := fun x hx => .inl (h.rd x hx)
  ml := h.ml
  n1 := hw.v2
  n2 := by have := hw.b2; rw [h.ml, List.length_map] at this; omega
  n3 := by have := hw.s2; omega
  n4 := fun x hx => by have := rd_len hw (b := x.1) (by rw [h.ml]; exact List.mem_map_of_mem hx); omega
  nm := hs

theorem SpE.below (h : SpE w H ml v1 v2 v3 wx) (hb : Below wx.heap.size wx w5) : SpE w H ml v1 v2 v3 w5 :=
  ⟨h.b.below hb, own_of_below h.o1 hb, own_of_below h.o2 hb, own_of_below h.o3 hb, fun x hx => (h.rd x hx).imp id (fun h => own_of_below h hb), h.n1, h.n2, h.n3, h.n4, h.nm, h.ml⟩

theorem verCells_par : ∀ (l : List Ver) (k : Nat) (x : Ver), l[k]? = some x → ∀ p : Int, (verCells l).set (k * 2) (.int .i64 p) = verCells (l.set k ⟨p, x.root⟩)
  | [], k, x, h, _ => by simp at h
  | y :: l, 0, x, h, p => by
    simp only [List.getElem?_cons_zero, Option.some.injEq] at h
    subst h
    rfl
  | y :: l, k + 1, x, h, p => by
    have ih := verCells_par l k x (by simpa using h) p
    have e : verCells (y :: l) = .int .i64 y.par :: .int .i64 y.root :: verCells l := rfl
    rw [e, show (k + 1) * 2 = k * 2 + 1 + 1 by omega, List.set_cons_succ, List.set_cons_succ, ih]
    rfl
theorem verCells_len (l : List Ver) : (verCells l).length = l.length * 2 := by
  induction l with
  | nil => rfl
  | cons y l ih =>
    show (.int .i64 y.par :: .int .i64 y.root :: verCells l : List Value).length = _
    simp only [List.length_cons, ih]; omega

/-- A parent is written. -/
theorem SpE.par {g n cap k : Nat} (h : SpE w H ml (.slice (some ⟨g, 0, none⟩) n cap) v2 v3 wx) (hk : k < H.vs.length) (p : Int) :
    ∃ H' : Hist, H'.cur = H.cur ∧ SpE w H' ml (.slice (some ⟨g, 0, none⟩) n cap) v2 v3 (wx.setCell ⟨g, k * 2, none⟩ (.int .i64 p)) := by
  have hx : H.vs[k]? = some (H.vs[k]'hk) := List.getElem?_eq_getElem hk
  have hn : n = H.vs.length := by
    rcases h.o1.2 with ⟨h1, _⟩ | ⟨_, _, _, h1, _⟩
    · simp at h1
    · simp only [Value.slice.injEq] at h1; exact h1.2.1
  subst hn
  obtain ⟨cur, hcur⟩ := own_block h.o1 (k := g) rfl
  have hg : w.heap.size + 2 ≤ g := own_ge h.o1 rfl
  have hl : (H.vs.set k ⟨p, (H.vs[k]'hk).root⟩).length = H.vs.length := List.length_set
  refine ⟨{ H with vs := H.vs.set k ⟨p, (H.vs[k]'hk).root⟩ }, rfl, ⟨h.b.set _ hg, ?_, own_setCell h.o2 _ _ (own_ne_blk h.o2 hcur (by decide)), own_setCell h.o3 _ _ (own_ne_blk h.o3 hcur (by decide)), fun x hx => (h.rd x hx).imp id (fun h => own_setCell h _ _ (own_ne_blk h hcur (by decide))), ?_, h.n2, h.n3, h.n4, h.nm, h.ml⟩⟩
  · have := (h.o1.stored (k * 2) (.int .i64 p)).1
    rw [verCells_par H.vs k _ hx p] at this
    show (wx.setCell _ _).ownsRow _ 40 2 _ (H.vs.set k ⟨p, (H.vs[k]'hk).root⟩).length (verCells (H.vs.set k ⟨p, (H.vs[k]'hk).root⟩))
    rw [hl]; exact this
  · show (H.vs.set k ⟨p, (H.vs[k]'hk).root⟩).length ≤ 1000
    rw [hl]; exact h.n1

theorem nm_bs {l : List Ln} (h : NmOk H) (hl : ∀ b ∈ l, b.nm.size ≤ maxLen) : NmOk { H with bs := l } := ⟨hl, h.2⟩

/-- A branch is written, all but its name. -/
theorem SpE.line {g n cap k i : Nat} {u : Value} (h : SpE w H ml v1 (.slice (some ⟨g, 0, none⟩) n cap) v3 wx) (x : Ln × Value) (hx : ml[k]? = some x) (y : Ln × Value) (hy : y.1.nm = x.1.nm) (hyl : y.1.rd.length ≤ 1001)
    (hset : (lnCells ml).set (k * 3 + i) u = lnCells (ml.set k y)) (hr : SlAt w y.2 y.1.rd.length 1 (intCells y.1.rd) ∨ wx.ownsRow (w.heap.size + 2) 3 1 y.2 y.1.rd.length (intCells y.1.rd)) :
    ∃ H' : Hist, H'.cur = H.cur ∧ SpE w H' (ml.set k y) v1 (.slice (some ⟨g, 0, none⟩) n cap) v3 (wx.setCell ⟨g, k * 3 + i, none⟩ u) := by
  have hn : n = ml.length := by
    rcases h.o2.2 with ⟨h1, _⟩ | ⟨_, _, _, h1, _⟩
    · simp at h1
    · simp only [Value.slice.injEq] at h1; exact h1.2.1
  subst hn
  obtain ⟨cur, hcur⟩ := own_block h.o2 (k := g) rfl
  have hg : w.heap.size + 2 ≤ g := own_ge h.o2 rfl
  have hl : (ml.set k y).length = ml.length := List.length_set
  have hmem : ∀ z ∈ ml.set k y, z ∈ ml ∨ z = y := fun z hz => List.mem_or_eq_of_mem_set hz
  refine ⟨{ H with bs := (ml.set k y).map (·.1) }, rfl, ⟨h.b.set _ hg, own_setCell h.o1 _ _ (own_ne_blk h.o1 hcur (by decide)), ?_, own_setCell h.o3 _ _ (own_ne_blk h.o3 hcur (by decide)), fun z hz => ?_, h.n1, ?_, h.n3, fun z hz => ?_, nm_bs h.nm fun z hz => ?_, rfl⟩⟩
  · have := (h.o2.stored (k * 3 + i) u).1
    rw [hset] at this
    rw [hl]; exact this
  · have hz' : SlAt w z.2 z.1.rd.length 1 (intCells z.1.rd) ∨ wx.ownsRow (w.heap.size + 2) 3 1 z.2 z.1.rd.length (intCells z.1.rd) := by
      rcases hmem z hz with hz | rfl
      · exact h.rd z hz
      · exact hr
    exact hz'.imp id (fun h => own_setCell h _ _ (own_ne_blk h hcur (by decide)))
  · rw [hl]; exact h.n2
  · rcases hmem z hz with hz | rfl
    · exact h.n4 z hz
    · exact hyl
  · obtain ⟨z', hz', rfl⟩ := List.mem_map.1 hz
    rcases hmem z' hz' with hz' | rfl
    · exact h.nm.1 _ (by rw [h.ml]; exact List.mem_map_of_mem hz')
    · rw [hy]
      exact h.nm.1 _ (by rw [h.ml]; exact List.mem_map_of_mem (List.mem_of_getElem? hx))

theorem SpE.hd {g n cap k : Nat} (h : SpE w H ml v1 (.slice (some ⟨g, 0, none⟩) n cap) v3 wx) (hk : k < ml.length) (p : Int) :
    ∃ (H' : Hist) (ml' : List (Ln × Value)), H'.cur = H.cur ∧ SpE w H' ml' v1 (.slice (some ⟨g, 0, none⟩) n cap) v3 (wx.setCell ⟨g, k * 3 + 1, none⟩ (.int .i64 p)) := by
  have hx : ml[k]? = some (ml[k]'hk) := List.getElem?_eq_getElem hk
  obtain ⟨H', h1, h2⟩ := h.line _ hx (⟨(ml[k]'hk).1.nm, p, (ml[k]'hk).1.rd⟩, (ml[k]'hk).2) rfl (h.n4 (ml[k]'hk) (List.getElem_mem hk)) (lnCells_set ml k _ hx p (ml[k]'hk).1.rd (.int .i64 0)).1 (h.rd (ml[k]'hk) (List.getElem_mem hk))
  exact ⟨H', _, h1, h2⟩
theorem SpE.redo {g n cap k : Nat} (h : SpE w H ml v1 (.slice (some ⟨g, 0, none⟩) n cap) v3 wx) (hk : k < ml.length) {u : Value} {l : List Int} {m base : Nat} (hl : l.length ≤ 1001) (hb : w.heap.size + 2 ≤ base) (hm : l.length = m)
    (ho : wx.ownsRow base 3 1 u m (intCells l)) :
    ∃ (H' : Hist) (ml' : List (Ln × Value)), H'.cur = H.cur ∧ SpE w H' ml' v1 (.slice (some ⟨g, 0, none⟩) n cap) v3 (wx.setCell ⟨g, k * 3 + 2, none⟩ u) := by
  subst hm
  have hx : ml[k]? = some (ml[k]'hk) := List.getElem?_eq_getElem hk
  obtain ⟨H', h1, h2⟩ := h.line _ hx (⟨(ml[k]'hk).1.nm, (ml[k]'hk).1.hd, l⟩, u) rfl hl (lnCells_set ml k _ hx 0 l u).2 (.inr (ownsRow_mono ho hb))
  exact ⟨H', _, h1, h2⟩

/-- The current branch is named anew. -/
theorem SpE.cur (h : SpE w H ml v1 v2 v3 wx) (c : ByteArray) : SpE w { H with cur := c } ml v1 v2 v3 (wx.setCell ⟨w.heap.size, 3, none⟩ (.string c)) :=
  ⟨h.b.put3 _, h.b.own (by decide) h.o1, h.b.own (by decide) h.o2, h.b.own (by decide) h.o3, fun x hx => (h.rd x hx).imp id (fun h' => h.b.own (by decide) h'), h.n1, h.n2, h.n3, h.n4, h.nm, h.ml⟩

theorem lbCells_one (l : List Lb) (s : Lb) : lbCells (l ++ [s]) = lbCells l ++ [.string s.nm, .int .i64 s.ver] := by simp [lbCells]
theorem lnCells_one (l : List (Ln × Value)) (s : Ln × Value) : lnCells (l ++ [s]) = lnCells l ++ [.string s.1.nm, .int .i64 s.1.hd, s.2] := by simp [lnCells]

/-- A label more. -/
theorem SpE.snap (h : SpE w H ml v1 v2 v3 wx) (hn : H.ss.length ≤ 16) {s : Lb} (hs : s.nm.size ≤ maxLen) {u : Value} {n : Nat} (hn' : H.ss.length + 1 = n) (hf : Fr (fun k => v3.ownBlock = some k) wx w5)
    (ho : w5.ownsRow (w.heap.size + 2) 78 2 u n (lbCells (H.ss ++ [s]))) : SpE w { H with ss := H.ss ++ [s] } ml v1 v2 u (w5.setCell ⟨w.heap.size, 2, none⟩ u) := by
  subst hn'
  have hb := h.b.fr_to hf (fun k hk => own_ge h.o3 hk)
  have o1 := own_fr_ne h.o1 h.o3 (by decide) hf
  have o2 := own_fr_ne h.o2 h.o3 (by decide) hf
  refine ⟨hb.put2 _, hb.own (by decide) o1, hb.own (by decide) o2, ?_, fun x hx => (h.rd x hx).imp id (fun h' => hb.own (by decide) (own_fr_ne h' h.o3 (by decide) hf)), h.n1, h.n2, ?_, h.n4, ⟨h.nm.1, fun s' hs' => ?_⟩, h.ml⟩
  · show (w5.setCell _ _).ownsRow _ 78 2 u (H.ss ++ [s]).length _
    rw [List.length_append, List.length_singleton]
    exact hb.own (by decide) ho
  · show (H.ss ++ [s]).length ≤ 17
    rw [List.length_append, List.length_singleton]; omega
  · rcases List.mem_append.1 hs' with hs' | hs'
    · exact h.nm.2 _ hs'
    · rw [List.mem_singleton.1 hs']; exact hs

/-- A branch more. -/
theorem SpE.branch (h : SpE w H ml v1 v2 v3 wx) (hn : ml.length ≤ 16) {nm : ByteArray} {p : Int} (hs : nm.size ≤ maxLen) {u : Value} {n : Nat} (hn' : ml.length + 1 = n) (hf : Fr (fun k => v2.ownBlock = some k) wx w5)
    (ho : w5.ownsRow (w.heap.size + 2) 65 3 u n (lnCells (ml ++ [(⟨nm, p, []⟩, .slice none 0 0)]))) :
    SpE w { H with bs := H.bs ++ [⟨nm, p, []⟩] } (ml ++ [(⟨nm, p, []⟩, .slice none 0 0)]) v1 u v3 (w5.setCell ⟨w.heap.size, 1, none⟩ u) := by
  subst hn'
  have hb := h.b.fr_to hf (fun k hk => own_ge h.o2 hk)
  have o1 := own_fr_ne h.o1 h.o2 (by decide) hf
  have o3 := own_fr_ne h.o3 h.o2 (by decide) hf
  refine ⟨hb.put1 _, hb.own (by decide) o1, ?_, hb.own (by decide) o3, fun x hx => ?_, h.n1, ?_, h.n3, fun x hx => ?_, ⟨fun b hb' => ?_, h.nm.2⟩, ?_⟩
  · rw [List.length_append, List.length_singleton]
    exact hb.own (by decide) ho
  · rcases List.mem_append.1 hx with hx | hx
    · exact (h.rd x hx).imp id (fun h' => hb.own (by decide) (own_fr_ne h' h.o2 (by decide) hf))
    · rw [List.mem_singleton.1 hx]; exact .inl (sl_nil _ _)
  · rw [List.length_append, List.length_singleton]; omega
  · rcases List.mem_append.1 hx with hx | hx
    · exact h.n4 x hx
    · rw [List.mem_singleton.1 hx]; simp
  · rcases List.mem_append.1 hb' with hx | hx
    · exact h.nm.1 _ hx
    · rw [List.mem_singleton.1 hx]; exact hs
  · show H.bs ++ [_] = _
    rw [h.ml, List.map_append]; rfl
end

end Go.Proofs.Ytalmfmijjbpnpaa
/-
  Three and four timelines beside one another, from operation to operation. No walk stands here.
-/
namespace Go.Proofs.Ytalmfmijjbpnpaa
open Go.RowKit

theorem nm_of_wf {H : Hist} (h : WF H) : NmOk H := by
  have key : ∀ nm : ByteArray, wordB nm = true → nm.size ≤ maxLen := fun nm h => by
    by_cases h24 : 24 < nm.size
    · rw [wordB_false (.inl h24)] at h; cases h
    · unfold maxLen; omega
  exact ⟨fun b hb => key _ (h.bw b hb), fun s hs => key _ (h.sw s hs)⟩

/-- At t and x timelines of the program, at u one of the reference; all hold H. -/
def Tri (W0 : World) (D : Nat → Prop) (Wd : World) (t u x : Nat) (H : Hist) (w : World) : Prop :=
  WF H ∧ ∃ m m' q, Rep w 67 t H m ∧ Rep w 56 u H m' ∧ Rep w 67 x H q ∧ (∀ k, m.owns t k → W0.heap.size ≤ k ∧ ¬ D k ∧ ¬ m'.owns u k ∧ ¬ q.owns x k) ∧
    (∀ k, m'.owns u k → W0.heap.size ≤ k ∧ ¬ D k ∧ ¬ q.owns x k) ∧ (∀ k, q.owns x k → W0.heap.size ≤ k ∧ ¬ D k) ∧
    Below W0.heap.size W0 w ∧ (∀ k, D k → k < Wd.heap.size ∧ w.heap[k]? = Wd.heap[k]?) ∧ Wd.heap.size ≤ w.heap.size

/-- At t and x timelines of the program, at u and v ones of the reference; t and u hold H, x and v hold K. -/
def Qd (W0 : World) (D : Nat → Prop) (Wd : World) (t u x v : Nat) (H K : Hist) (w : World) : Prop :=
  WF H ∧ WF K ∧ ∃ m m' q q', Rep w 67 t H m ∧ Rep w 56 u H m' ∧ Rep w 67 x K q ∧ Rep w 56 v K q' ∧ (∀ k, m.owns t k → W0.heap.size ≤ k ∧ ¬ D k ∧ ¬ m'.owns u k ∧ ¬ q.owns x k ∧ ¬ q'.owns v k) ∧
    (∀ k, m'.owns u k → W0.heap.size ≤ k ∧ ¬ D k ∧ ¬ q.owns x k ∧ ¬ q'.owns v k) ∧ (∀ k, q.owns x k → W0.heap.size ≤ k ∧ ¬ D k ∧ ¬ q'.owns v k) ∧ (∀ k, q'.owns v k → W0.heap.size ≤ k ∧ ¬ D k) ∧
    Below W0.heap.size W0 w ∧ (∀ k, D k → k < Wd.heap.size ∧ w.heap[k]? = Wd.heap[k]?) ∧ Wd.heap.size ≤ w.heap.size

section
variable {W0 Wd w w' : World} {D : Nat → Prop} {t u x v : Nat} {H H' K K' : Hist} {f : Nat} {args : Array Value}

theorem Tri.below_of (h : Tri W0 D Wd t u x H w) : Below W0.heap.size W0 w := by obtain ⟨_, _, _, _, _, _, _, _, _, _, h, _⟩ := h; exact h
theorem Tri.kept (h : Tri W0 D Wd t u x H w) {k : Nat} (hk : D k) : w.heap[k]? = Wd.heap[k]? := by obtain ⟨_, _, _, _, _, _, _, _, _, _, _, h, _⟩ := h; exact (h k hk).2
theorem Tri.later (h : Tri W0 D Wd t u x H w) (hb : Below w.heap.size w w') : Tri W0 D Wd t u x H w' := by
  obtain ⟨hw, m, m', q, hr, hr', hx, ot, ou, ox, hB, hD, hs⟩ := h
  exact ⟨hw, m, m', q, hr.below hb, hr'.below hb, hx.below hb, ot, ou, ox, hB.trans (hb.mono hB.size), fun k hk => ⟨(hD k hk).1, (hb.block k (by have := (hD k hk).1; omega)).trans (hD k hk).2⟩, Nat.le_trans hs hb.size⟩
theorem Tri.watch (h : Tri W0 D Wd t u x H w) (hb : Below w.heap.size w w') (D' : Nat → Prop) (hD' : ∀ k, D' k → w.heap.size ≤ k ∧ k < w'.heap.size) : Tri W0 D' w' t u x H w' := by
  obtain ⟨hw, m, m', q, hr, hr', hx, ot, ou, ox, hB, hD, hs⟩ := h
  exact ⟨hw, m, m', q, hr.below hb, hr'.below hb, hx.below hb, fun k hk => ⟨(ot k hk).1, fun hd => by have := hr.lt hk; have := (hD' k hd).1; omega, (ot k hk).2.2⟩,
    fun k hk => ⟨(ou k hk).1, fun hd => by have := hr'.lt hk; have := (hD' k hd).1; omega, (ou k hk).2.2⟩, fun k hk => ⟨(ox k hk).1, fun hd => by have := hx.lt hk; have := (hD' k hd).1; omega⟩,
    hB.trans (hb.mono hB.size), fun k hk => ⟨(hD' k hk).2, rfl⟩, Nat.le_refl _⟩

/-- A timeline more, loaded from the same history. -/
theorem tri_mk (h : Tw W0 D Wd t u H H w) {q : View} (hx : Rep w' 67 x H q) (ho : ∀ k, q.owns x k → w.heap.size ≤ k) (hb : Below w.heap.size w w') : Tri W0 D Wd t u x H w' := by
  obtain ⟨hw, _, m, m', hr, hr', ot, ou, hB, hD, hs⟩ := h
  have hsz := hB.size
  exact ⟨hw, m, m', q, hr.below hb, hr'.below hb, hx, fun k hk => ⟨(ot k hk).1, (ot k hk).2.1, (ot k hk).2.2, fun hq => by have := hr.lt hk; have := ho k hq; omega⟩,
    fun k hk => ⟨(ou k hk).1, (ou k hk).2, fun hq => by have := hr'.lt hk; have := ho k hq; omega⟩, fun k hk => ⟨by have := ho k hk; omega, fun hd => by have := (hD k hd).1; have := ho k hk; omega⟩,
    hB.trans (hb.mono hB.size), fun k hk => ⟨(hD k hk).1, (hb.block k (by have := (hD k hk).1; omega)).trans (hD k hk).2⟩, Nat.le_trans hs hb.size⟩

/-- A timeline of the reference more, of a history's rows that are new. -/
theorem Tri.box (h : Tri W0 D Wd t u x H w) {m1 : View} {b : Nat} (hb : Below w.heap.size w w') (hv : RepV w' b H m1) (hbs : w.heap.size ≤ b) (hvb : b ≤ v)
    (hblk : w'.heap[v]? = some (.cells #[m1.vv, m1.bv, m1.sv, .string H.cur] 56 (0, 0))) : Qd W0 D Wd t u x v H H w' := by
  obtain ⟨hw, m, m', q, hr, hr', hx, ot, ou, ox, hB, hD, hs⟩ := h
  have hsz := hB.size
  have ho : ∀ k, m1.owns v k → w.heap.size ≤ k := fun k hk => by have := hv.owns_ge hvb hk; omega
  exact ⟨hw, hw, m, m', q, m1, hr.below hb, hr'.below hb, hx.below hb, hv.rep (.inr rfl) hblk, fun k hk => ⟨(ot k hk).1, (ot k hk).2.1, (ot k hk).2.2.1, (ot k hk).2.2.2, fun hq => by have := hr.lt hk; have := ho k hq; omega⟩,
    fun k hk => ⟨(ou k hk).1, (ou k hk).2.1, (ou k hk).2.2, fun hq => by have := hr'.lt hk; have := ho k hq; omega⟩, fun k hk => ⟨(ox k hk).1, (ox k hk).2, fun hq => by have := hx.lt hk; have := ho k hq; omega⟩,
    fun k hk => ⟨by have := ho k hk; omega, fun hd => by have := (hD k hd).1; have := ho k hk; omega⟩,
    hB.trans (hb.mono hB.size), fun k hk => ⟨(hD k hk).1, (hb.block k (by have := (hD k hk).1; omega)).trans (hD k hk).2⟩, Nat.le_trans hs hb.size⟩

theorem Qd.drop (h : Qd W0 D Wd t u x v H H w) : Tri W0 D Wd t u x H w := by
  obtain ⟨hw, _, m, m', q, q', hr, hr', hx, hv, ot, ou, ox, ov, hB, hD, hs⟩ := h
  exact ⟨hw, m, m', q, hr, hr', hx, fun k hk => ⟨(ot k hk).1, (ot k hk).2.1, (ot k hk).2.2.1, (ot k hk).2.2.2.1⟩, fun k hk => ⟨(ou k hk).1, (ou k hk).2.1, (ou k hk).2.2.1⟩, fun k hk => ⟨(ox k hk).1, (ox k hk).2.1⟩, hB, hD, hs⟩

theorem Qd.below_of (h : Qd W0 D Wd t u x v H K w) : Below W0.heap.size W0 w := by obtain ⟨_, _, _, _, _, _, _, _, _, _, _, _, _, _, h, _⟩ := h; exact h
theorem Qd.kept (h : Qd W0 D Wd t u x v H K w) {k : Nat} (hk : D k) : w.heap[k]? = Wd.heap[k]? := by obtain ⟨_, _, _, _, _, _, _, _, _, _, _, _, _, _, _, h, _⟩ := h; exact (h k hk).2
theorem Qd.later (h : Qd W0 D Wd t u x v H K w) (hb : Below w.heap.size w w') : Qd W0 D Wd t u x v H K w' := by
  obtain ⟨hw, hwK, m, m', q, q', hr, hr', hx, hv, ot, ou, ox, ov, hB, hD, hs⟩ := h
  exact ⟨hw, hwK, m, m', q, q', hr.below hb, hr'.below hb, hx.below hb, hv.below hb, ot, ou, ox, ov, hB.trans (hb.mono hB.size), fun k hk => ⟨(hD k hk).1, (hb.block k (by have := (hD k hk).1; omega)).trans (hD k hk).2⟩, Nat.le_trans hs hb.size⟩
theorem Qd.swap (h : Qd W0 D Wd t u x v H K w) : Qd W0 D Wd x v t u K H w := by
  obtain ⟨hw, hwK, m, m', q, q', hr, hr', hx, hv, ot, ou, ox, ov, hB, hD, hs⟩ := h
  exact ⟨hwK, hw, q, q', m, m', hx, hv, hr, hr', fun k hk => ⟨(ox k hk).1, (ox k hk).2.1, (ox k hk).2.2, fun h => (ot k h).2.2.2.1 hk, fun h => (ou k h).2.2.1 hk⟩,
    fun k hk => ⟨(ov k hk).1, (ov k hk).2, fun h => (ot k h).2.2.2.2 hk, fun h => (ou k h).2.2.2 hk⟩, fun k hk => ⟨(ot k hk).1, (ot k hk).2.1, (ot k hk).2.2.1⟩, fun k hk => ⟨(ou k hk).1, (ou k hk).2.1⟩, hB, hD, hs⟩

/-- A call on the first two leaves the others as they are. -/
theorem qd_left {R : Nat → Ending → Prop} (h : Qd W0 D Wd t u x v H K w)
    (hc : ∀ D', Tw W0 D' w t u H H w → Calls Try.prog f args w fun e w' => ∃ t2, R t2 e ∧ Tw W0 D' w t2 u H' H' w') :
    Calls Try.prog f args w fun e w' => ∃ t2, R t2 e ∧ Qd W0 D Wd t2 u x v H' K w' := by
  obtain ⟨hw, hwK, m, m', q, q', hr, hr', hx, hv, ot, ou, ox, ov, hB, hD, hs⟩ := h
  have hT : Tw W0 (fun k => D k ∨ q.owns x k ∨ q'.owns v k) w t u H H w :=
    ⟨hw, hw, m, m', hr, hr', fun k hk => ⟨(ot k hk).1, (fun h => h.elim (ot k hk).2.1 fun h => h.elim (ot k hk).2.2.2.1 (ot k hk).2.2.2.2), (ot k hk).2.2.1⟩,
      fun k hk => ⟨(ou k hk).1, fun h => h.elim (ou k hk).2.1 fun h => h.elim (ou k hk).2.2.1 (ou k hk).2.2.2⟩, hB,
      fun k hk => ⟨hk.elim (fun h => Nat.lt_of_lt_of_le (hD k h).1 hs) fun h => h.elim hx.lt hv.lt, rfl⟩, Nat.le_refl _⟩
  refine (hc _ hT).mono ?_
  rintro e w' ⟨t2, hR, hw1, _, m1, m1', hr1, hr1', ot1, ou1, hB1, hD1, hs1⟩
  have hF : Fr (fun k => ¬ (D k ∨ q.owns x k ∨ q'.owns v k)) w w' :=
    ⟨hB1.os.trans hB.os.symm, hB1.tape.trans hB.tape.symm, hB1.output.trans hB.output.symm, hs1, fun k _ hn => (hD1 k (Classical.not_not.1 hn)).2⟩
  exact ⟨t2, hR, hw1, hwK, m1, m1', q, q', hr1, hr1', hx.frame hF (fun k hk hn => hn (.inr (.inl hk))), hv.frame hF (fun k hk hn => hn (.inr (.inr hk))),
    fun k hk => ⟨(ot1 k hk).1, fun h => (ot1 k hk).2.1 (.inl h), (ot1 k hk).2.2, fun h => (ot1 k hk).2.1 (.inr (.inl h)), fun h => (ot1 k hk).2.1 (.inr (.inr h))⟩,
    fun k hk => ⟨(ou1 k hk).1, fun h => (ou1 k hk).2 (.inl h), fun h => (ou1 k hk).2 (.inr (.inl h)), fun h => (ou1 k hk).2 (.inr (.inr h))⟩, ox, ov, hB1,
    fun k hk => ⟨(hD k hk).1, (hD1 k (.inl hk)).2.trans (hD k hk).2⟩, Nat.le_trans hs hs1⟩
theorem qd_right {R : Nat → Ending → Prop} (h : Qd W0 D Wd t u x v H K w)
    (hc : ∀ D', Tw W0 D' w x v K K w → Calls Try.prog f args w fun e w' => ∃ x2, R x2 e ∧ Tw W0 D' w x2 v K' K' w') :
    Calls Try.prog f args w fun e w' => ∃ x2, R x2 e ∧ Qd W0 D Wd t u x2 v H K' w' :=
  (qd_left h.swap hc).mono fun _ _ ⟨x2, hR, hq⟩ => ⟨x2, hR, hq.swap⟩

/-- do on the first two; on the others; same on both. -/
theorem qd_do1 (h : Qd W0 D Wd t u x v H K w) {kind n : Int} {name : ByteArray} (hk1 : -9223372036854775808 ≤ kind) (hk2 : kind ≤ 9223372036854775807) (hn : name.size ≤ maxLen) :
    Calls Try.prog 25 #[.pointer (some ⟨t, 0, none⟩), .pointer (some ⟨u, 0, none⟩), .agg #[.int .i64 kind, .int .i64 n, .string name]] w
      fun e w' => ∃ t2, e = .returned (.tuple #[.pointer (some ⟨t2, 0, none⟩), .bool true]) ∧ Qd W0 D Wd t2 u x v (actM H kind n name) K w' :=
  qd_left (R := fun t2 e => e = .returned (.tuple #[.pointer (some ⟨t2, 0, none⟩), .bool true])) h fun _ hT => (do25 hT hk1 hk2 hn).mono fun _ _ ⟨t2, he, h⟩ => ⟨t2, he, h⟩
theorem qd_do2 (h : Qd W0 D Wd t u x v H K w) {kind n : Int} {name : ByteArray} (hk1 : -9223372036854775808 ≤ kind) (hk2 : kind ≤ 9223372036854775807) (hn : name.size ≤ maxLen) :
    Calls Try.prog 25 #[.pointer (some ⟨x, 0, none⟩), .pointer (some ⟨v, 0, none⟩), .agg #[.int .i64 kind, .int .i64 n, .string name]] w
      fun e w' => ∃ x2, e = .returned (.tuple #[.pointer (some ⟨x2, 0, none⟩), .bool true]) ∧ Qd W0 D Wd t u x2 v H (actM K kind n name) w' :=
  qd_right (R := fun t2 e => e = .returned (.tuple #[.pointer (some ⟨t2, 0, none⟩), .bool true])) h fun _ hT => (do25 hT hk1 hk2 hn).mono fun _ _ ⟨t2, he, h⟩ => ⟨t2, he, h⟩
theorem qd_same1 (h : Qd W0 D Wd t u x v H K w) :
    Calls Try.prog 26 #[.pointer (some ⟨t, 0, none⟩), .pointer (some ⟨u, 0, none⟩)] w fun e w' => e = .returned (.bool true) ∧ Qd W0 D Wd t u x v H K w' :=
  (qd_left (R := fun t2 e => e = .returned (.bool true) ∧ t2 = t) h fun _ hT => (same26 hT).mono fun _ _ ⟨he, h⟩ => ⟨t, ⟨he, rfl⟩, h⟩).mono fun _ _ ⟨_, ⟨he, ht⟩, h⟩ => ⟨he, ht ▸ h⟩
theorem qd_same2 (h : Qd W0 D Wd t u x v H K w) :
    Calls Try.prog 26 #[.pointer (some ⟨x, 0, none⟩), .pointer (some ⟨v, 0, none⟩)] w fun e w' => e = .returned (.bool true) ∧ Qd W0 D Wd t u x v H K w' :=
  (qd_right (R := fun t2 e => e = .returned (.bool true) ∧ t2 = x) h fun _ hT => (same26 hT).mono fun _ _ ⟨he, h⟩ => ⟨x, ⟨he, rfl⟩, h⟩).mono fun _ _ ⟨_, ⟨he, ht⟩, h⟩ => ⟨he, ht ▸ h⟩

/-- The histories of both timelines of the program. -/
theorem tri_hist (h : Tri W0 D Wd t u x H w) : (∀ w', Below w.heap.size w w' → Calls Try.prog 17 #[.pointer (some ⟨t, 0, none⟩)] w' (Cop w' H)) ∧ (∀ w', Below w.heap.size w w' → Calls Try.prog 17 #[.pointer (some ⟨x, 0, none⟩)] w' (Cop w' H)) := by
  obtain ⟨hw, m, m', q, hr, hr', hx, _⟩ := h
  exact ⟨fun w' hb => history17 (hr.below hb) hw, fun w' hb => history17 (hx.below hb) hw⟩
theorem same_rv {b b' : Nat} {q q' : View} (hw : WF H) (h : RepV w b H q) (h' : RepV w b' H q') :
    Calls Try.prog 22 #[.agg #[q.vv, q.bv, q.sv, .string H.cur], .agg #[q'.vv, q'.bv, q'.sv, .string H.cur]] w (Quiet (.bool true) w) := by
  obtain ⟨l1, l2, l3, l4⟩ := lens_of hw h.ml
  exact same22 h.hAt h'.hAt l1 l2 l3 l4
theorem valid_rv {b : Nat} {q : View} (hw : WF H) (h : RepV w b H q) : Calls Try.prog 29 #[.agg #[q.vv, q.bv, q.sv, .string H.cur]] w (Quiet (.bool true) w) := by
  obtain ⟨l1, l2, l3, l4⟩ := lens_of hw h.ml
  refine (valid29 h.hAt l1 l2 l3 l4 (nm_of_wf hw)).mono ?_
  rintro e w' ⟨b, rfl, hb, hbel⟩
  exact ⟨by rw [hb.2 hw], hbel⟩
theorem load_rv {b : Nat} {q : View} (hw : WF H) (h : RepV w b H q) : Calls Try.prog 28 #[.agg #[q.vv, q.bv, q.sv, .string H.cur]] w (LoadY H w) := load28_yes h.hAt hw (nm_of_wf hw)

/-- The cells of the reference's timeline. -/
theorem tri_ref (h : Tri W0 D Wd t u x H w) : ∃ (a1 : Option Addr) (c1 : Nat) (a2 : Option Addr) (n2 c2 : Nat) (a3 : Option Addr) (c3 : Nat) (ml : List (Ln × Value)),
    (w.cell? ⟨u, 0, none⟩ = some (.slice a1 H.vs.length c1) ∧ w.cell? ⟨u, 1, none⟩ = some (.slice a2 n2 c2) ∧ w.cell? ⟨u, 2, none⟩ = some (.slice a3 H.ss.length c3) ∧ w.cell? ⟨u, 3, none⟩ = some (.string H.cur)) ∧
    HAt w (.slice a1 H.vs.length c1) (.slice a2 n2 c2) (.slice a3 H.ss.length c3) H ml := by
  obtain ⟨hw, m, m', q, hr, hr', _⟩ := h
  obtain ⟨a1, _, k1, e1, _⟩ := own_addr hr'.vs
  obtain ⟨a2, _, k2, e2, _⟩ := own_addr hr'.bs
  obtain ⟨a3, _, k3, e3, _⟩ := own_addr hr'.ss
  obtain ⟨c0, c1, c2, c3⟩ := hr'.cellT
  have hA := hr'.hAt
  rw [e1] at c0
  rw [e2] at c1
  rw [e3] at c2
  rw [e1, e2, e3] at hA
  exact ⟨a1, k1, a2, m'.ml.length, k2, a3, k3, m'.ml, ⟨c0, c1, c2, c3⟩, hA⟩

/-- A row of acts that was made behind the timelines is watched from now on. -/
theorem tri_row (h : Tri W0 D Wd t u x H w) (hb : Below w.heap.size w w') {a : Option Addr} {r c : Nat} {l : List Ac} (ho : w'.ownsRow w.heap.size 50 3 (.slice a r c) r (actCells l)) :
    ∃ D', Tri W0 D' w' t u x H w' ∧ ∃ g, (0 < r → a = some ⟨g, 0, none⟩) ∧ r ≤ c ∧ c ≤ maxLen ∧ ∀ t1 u1 x1 H1 w2, Tri W0 D' w' t1 u1 x1 H1 w2 → ∀ k y, l[k]? = some y →
      w2.cell? ⟨g, k * 3, none⟩ = some (.int .i64 y.kind) ∧ w2.cell? ⟨g, k * 3 + 1, none⟩ = some (.int .i64 y.n) ∧ w2.cell? ⟨g, k * 3 + 2, none⟩ = some (.string y.name) := by
  obtain ⟨a', g, c', e, ha, hg, h1, h2, hc⟩ := own_addr ho
  cases e
  refine ⟨_, h.watch hb (fun k => w.heap.size ≤ k ∧ k < w'.heap.size) (fun k hk => hk), g, ha, h1, h2, fun t1 u1 x1 H1 w2 hw2 k y hy => ?_⟩
  have hlt : k < l.length := (List.getElem?_eq_some_iff.1 hy).1
  have hll := ho.1
  rw [actCells_len] at hll
  have hr : 0 < r := by omega
  have hgl := hg hr
  have hge : w.heap.size ≤ g := own_ge ho (by rw [ha hr]; rfl)
  have hk := hw2.kept (k := g) ⟨hge, hgl⟩
  obtain ⟨q1, q2, q3⟩ := actCells_get l k y hy
  exact ⟨(World.cell?_of_block (a := ⟨g, _, none⟩) hk).trans (hc _ _ q1), (World.cell?_of_block (a := ⟨g, _, none⟩) hk).trans (hc _ _ q2), (World.cell?_of_block (a := ⟨g, _, none⟩) hk).trans (hc _ _ q3)⟩

/-- Blocks that are new are watched besides. -/
theorem Tri.more (h : Tri W0 D Wd t u x H w) (hb : Below w.heap.size w w') : Tri W0 (fun k => D k ∨ (w.heap.size ≤ k ∧ k < w'.heap.size)) w' t u x H w' := by
  obtain ⟨hw, m, m', q, hr, hr', hx, ot, ou, ox, hB, hD, hs⟩ := h
  refine ⟨hw, m, m', q, hr.below hb, hr'.below hb, hx.below hb, fun k hk => ⟨(ot k hk).1, ?_, (ot k hk).2.2⟩, fun k hk => ⟨(ou k hk).1, ?_, (ou k hk).2.2⟩, fun k hk => ⟨(ox k hk).1, ?_⟩, hB.trans (hb.mono hB.size), fun k hk => ⟨?_, rfl⟩, Nat.le_refl _⟩
  · rintro (hd | hd)
    · exact (ot k hk).2.1 hd
    · have := hr.lt hk; omega
  · rintro (hd | hd)
    · exact (ou k hk).2.1 hd
    · have := hr'.lt hk; omega
  · rintro (hd | hd)
    · exact (ox k hk).2 hd
    · have := hx.lt hk; omega
  · rcases hk with hd | hd
    · have := (hD k hd).1; have := hb.size; omega
    · exact hd.2
theorem Tri.less (h0 : Tri W0 D Wd t u x H w) {w2 : World} (hb : Below w.heap.size w w') {t1 u1 x1 : Nat} {H1 : Hist} (h : Tri W0 (fun k => D k ∨ (w.heap.size ≤ k ∧ k < w'.heap.size)) w' t1 u1 x1 H1 w2) : Tri W0 D Wd t1 u1 x1 H1 w2 := by
  obtain ⟨_, _, _, _, _, _, _, _, _, _, _, hD0, hs0⟩ := h0
  obtain ⟨hw, m, m', q, hr, hr', hx, ot, ou, ox, hB, hD, hs⟩ := h
  refine ⟨hw, m, m', q, hr, hr', hx, fun k hk => ⟨(ot k hk).1, fun hd => (ot k hk).2.1 (.inl hd), (ot k hk).2.2⟩, fun k hk => ⟨(ou k hk).1, fun hd => (ou k hk).2.1 (.inl hd), (ou k hk).2.2⟩, fun k hk => ⟨(ox k hk).1, fun hd => (ox k hk).2 (.inl hd)⟩, hB, fun k hk => ?_, ?_⟩
  · have h1 := hD0 k hk
    exact ⟨h1.1, ((hD k (.inl hk)).2.trans (hb.block k (by omega))).trans h1.2⟩
  · have := hb.size; omega
theorem tw_hist (h : Tw W0 D Wd t u H K w) : Calls Try.prog 17 #[.pointer (some ⟨t, 0, none⟩)] w (Cop w H) := by
  obtain ⟨hw, _, m, m', hr, _⟩ := h
  exact history17 hr hw
end

end Go.Proofs.Ytalmfmijjbpnpaa
