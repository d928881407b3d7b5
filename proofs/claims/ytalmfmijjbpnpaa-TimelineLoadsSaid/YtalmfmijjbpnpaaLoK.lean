/-
  The walk of copied.
-/
import Derived.Test.YtalmfmijjbpnpaaLoHIJ
import Derived.Deep.DeepCutAuto
namespace Go.Proofs.Ytalmfmijjbpnpaa
open Go.RowKit

/-- A history that can be read off four values. -/
structure HAt (w : World) (vv bv sv : Value) (H : Hist) (ml : List (Ln × Value)) : Prop where
  vs : SlAt w vv H.vs.length 2 (verCells H.vs)
  bs : SlAt w bv ml.length 3 (lnCells ml)
  ss : SlAt w sv H.ss.length 2 (lbCells H.ss)
  rd : ∀ x ∈ ml, SlAt w x.2 x.1.rd.length 1 (intCells x.1.rd)
  ml : H.bs = ml.map (·.1)

theorem SlAt.below {w w' : World} {v : Value} {n sz : Nat} {xs : List Value} (h : SlAt w v n sz xs) (hb : Below w.heap.size w w') : SlAt w' v n sz xs := by
  refine ⟨h.1, ?_⟩
  rcases h.2 with h | ⟨a, cap, h1, h2, h3, h4⟩
  · exact .inl h
  · exact .inr ⟨a, cap, h1, h2, h3, fun j u hu => (hb.cell (World.block_lt_of_cell? w _ (h4 j u hu))).trans (h4 j u hu)⟩

theorem own_slAt {w : World} {base : Nat} {e : TypeId} {sz : Nat} {v : Value} {n : Nat} {xs : List Value} (h : w.ownsRow base e sz v n xs) : SlAt w v n sz xs := by
  refine ⟨h.1, ?_⟩
  rcases h.2 with h0 | ⟨g, cap, cur, rfl, h1, h2, h3, h4, h5, h6⟩
  · exact .inl h0
  · refine .inr ⟨_, cap, rfl, h3, h4, fun j u hu => ?_⟩
    have : (⟨g, 0, none⟩ : Addr).add j = ⟨g, j, none⟩ := by unfold Addr.add; split <;> simp_all
    rw [this]
    exact own_cell h hu

theorem one_slice {a : Option Addr} {n c : Nat} : (Value.slice a n c).oneCell' = true := rfl
theorem SlAt.one {w : World} {v : Value} {n sz : Nat} {xs : List Value} (h : SlAt w v n sz xs) : v.oneCell' = true := by
  rcases h.2 with ⟨rfl, _⟩ | ⟨a, cap, rfl, _⟩ <;> rfl

theorem one_ver (l : List Ver) : ∀ u ∈ verCells l, u.oneCell' = true := by
  intro u hu
  simp only [verCells, List.mem_flatMap] at hu
  obtain ⟨x, _, hx⟩ := hu
  simp at hx
  rcases hx with rfl | rfl <;> rfl
theorem one_lb (l : List Lb) : ∀ u ∈ lbCells l, u.oneCell' = true := by
  intro u hu
  simp only [lbCells, List.mem_flatMap] at hu
  obtain ⟨x, _, hx⟩ := hu
  simp at hx
  rcases hx with rfl | rfl <;> rfl
theorem one_int (l : List Int) : ∀ u ∈ intCells l, u.oneCell' = true := by
  intro u hu
  simp only [intCells, List.mem_map] at hu
  obtain ⟨x, _, rfl⟩ := hu
  rfl
theorem one_ln (l : List (Ln × Value)) (h : ∀ x ∈ l, x.2.oneCell' = true) : ∀ u ∈ lnCells l, u.oneCell' = true := by
  intro u hu
  simp only [lnCells, List.mem_flatMap] at hu
  obtain ⟨x, hx', hx⟩ := hu
  simp at hx
  rcases hx with rfl | rfl | rfl
  · rfl
  · rfl
  · exact h x hx'

/-- What the first statement of copied leaves. -/
def Cop1 (w : World) (H : Hist) (ml : List (Ln × Value)) (wx : World) : Prop :=
  ∃ vv' bv' sv', wx.heap[w.heap.size]? = some (.cells #[vv', bv', sv', .string H.cur] 37 (0, 0)) ∧
    wx.heap[w.heap.size + 1]? = some (.cells #[.slice none 0 0, .slice none 0 0, .slice none 0 0, .string { data := #[] }] 37 (0, 0)) ∧
    wx.ownsRow (w.heap.size + 2) 40 2 vv' H.vs.length (verCells H.vs) ∧ wx.ownsRow (w.heap.size + 2) 65 3 bv' ml.length (lnCells ml) ∧
    wx.ownsRow (w.heap.size + 2) 78 2 sv' H.ss.length (lbCells H.ss) ∧ Below w.heap.size w wx

/-- A history's rows, each of which lies from block 'base' on. -/
structure RepV (w : World) (base : Nat) (H : Hist) (m : View) : Prop where
  vs : w.ownsRow base 40 2 m.vv H.vs.length (verCells H.vs)
  bs : w.ownsRow base 65 3 m.bv m.ml.length (lnCells m.ml)
  ss : w.ownsRow base 78 2 m.sv H.ss.length (lbCells H.ss)
  rd : ∀ x ∈ m.ml, w.ownsRow base 3 1 x.2 x.1.rd.length (intCells x.1.rd)
  ml : H.bs = m.ml.map (·.1)
  dis : (m.ml.map (·.2.ownBlock)).Pairwise fun a b => a = none ∨ a ≠ b

/-- After k rounds of copied's loop. -/
structure CopI (w : World) (H : Hist) (ml : List (Ln × Value)) (vv' bv' sv' : Value) (k : Nat) (wr : World) (mlk : List (Ln × Value)) : Prop where
  len : mlk.length = ml.length
  fst : mlk.map (·.1) = ml.map (·.1)
  old : ∀ j, k ≤ j → mlk[j]? = ml[j]?
  new : ∀ x ∈ mlk.take k, wr.ownsRow (w.heap.size + 2) 3 1 x.2 x.1.rd.length (intCells x.1.rd)
  dis : ((mlk.take k).map (·.2.ownBlock)).Pairwise fun a b => a = none ∨ a ≠ b
  bs : wr.ownsRow (w.heap.size + 2) 65 3 bv' ml.length (lnCells mlk)
  vs : wr.ownsRow (w.heap.size + 2) 40 2 vv' H.vs.length (verCells H.vs)
  ss : wr.ownsRow (w.heap.size + 2) 78 2 sv' H.ss.length (lbCells H.ss)
  bh : wr.heap[w.heap.size]? = some (.cells #[vv', bv', sv', .string H.cur] 37 (0, 0))
  rh : wr.heap[w.heap.size + 1]? = some (.cells #[.slice none 0 0, .slice none 0 0, .slice none 0 0, .string { data := #[] }] 37 (0, 0))
  below : Below w.heap.size w wr

theorem ownsRow_base {w : World} {base base' : Nat} {e : TypeId} {size : Nat} {v : Value} {n : Nat} {xs : List Value} (h : w.ownsRow base e size v n xs) (hb : ∀ g, v.ownBlock = some g → base' ≤ g) : w.ownsRow base' e size v n xs := by
  refine ⟨h.1, ?_⟩
  rcases h.2 with h0 | ⟨g, cap, cur, rfl, h1, r⟩
  · exact .inl h0
  · exact .inr ⟨g, cap, cur, rfl, hb g rfl, r⟩

theorem own_ge {w : World} {base : Nat} {e : TypeId} {size : Nat} {v : Value} {n : Nat} {xs : List Value} (h : w.ownsRow base e size v n xs) {g : Nat} (hg : v.ownBlock = some g) : base ≤ g := by
  rcases h.2 with ⟨rfl, _⟩ | ⟨g', cap, cur, rfl, h1, r⟩
  · cases hg
  · cases hg; exact h1

theorem below_size {B : Nat} {w w' : World} (h : Below B w w') : w.heap.size ≤ w'.heap.size := h.size

theorem CopI.step {w wr w2 : World} {H : Hist} {ml mlk : List (Ln × Value)} {vv' sv' v : Value} {g n cap k : Nat} {x : Ln × Value} (h : CopI w H ml vv' (.slice (some ⟨g, 0, none⟩) n cap) sv' k wr mlk)
    (hx : ml[k]? = some x) (hb : Below wr.heap.size wr w2) (hv : w2.ownsRow wr.heap.size 3 1 v x.1.rd.length (intCells x.1.rd)) :
    CopI w H ml vv' (.slice (some ⟨g, 0, none⟩) n cap) sv' (k + 1) (w2.setCell ⟨g, k * 3 + 2, none⟩ v) (mlk.set k (x.1, v)) := by
  have hk := (List.getElem?_eq_some_iff.1 hx).1
  have hmk : mlk[k]? = some x := by rw [h.old k (Nat.le_refl _)]; exact hx
  have hbs2 : w2.ownsRow (w.heap.size + 2) 65 3 (.slice (some ⟨g, 0, none⟩) n cap) ml.length (lnCells mlk) := own_frame h.bs (Fr.of_below (S := fun _ => False) hb) (fun _ _ e => e)
  have hn : n = ml.length := by
    rcases h.bs.2 with ⟨h1, _⟩ | ⟨_, _, _, h1, _⟩
    · simp at h1
    · simp only [Value.slice.injEq] at h1; exact h1.2.1
  subst hn
  obtain ⟨cur, hcur⟩ := own_block hbs2 (k := g) rfl
  have hgl : g < wr.heap.size := own_lt h.bs rfl
  have hgb : w.heap.size + 2 ≤ g := own_ge h.bs rfl
  have hws : w.heap.size ≤ wr.heap.size := h.below.size
  have hbhl := (Array.getElem?_eq_some_iff.1 h.bh).1
  have hrhl := (Array.getElem?_eq_some_iff.1 h.rh).1
  have htake : (mlk.set k (x.1, v)).take (k + 1) = mlk.take k ++ [(x.1, v)] := by
    have hl : k < (mlk.set k (x.1, v)).length := by rw [List.length_set, h.len]; exact hk
    rw [List.take_succ_eq_append_getElem hl, List.take_set, List.set_eq_of_length_le (by rw [List.length_take]; omega)]
    simp
  refine ⟨by rw [List.length_set, h.len], ?_, ?_, ?_, ?_, ?_, ?_, ?_, ?_, ?_, ?_⟩
  · rw [List.map_set, h.fst]
    apply List.ext_getElem?
    intro j
    rw [List.getElem?_set]
    split
    · rename_i e
      subst e
      split
      · rw [List.getElem?_map, hx]; rfl
      · rename_i hl
        rw [List.getElem?_eq_none (by omega)]
    · rfl
  · intro j hj
    rw [List.getElem?_set_ne (by omega)]
    exact h.old j (by omega)
  · intro y hy
    rw [htake] at hy
    rcases List.mem_append.1 hy with hy | hy
    · have h1 := own_frame (h.new y hy) (Fr.of_below (S := fun _ => False) hb) (fun _ _ e => e)
      exact own_setCell h1 _ _ (own_ne_blk h1 hcur (by decide))
    · simp only [List.mem_singleton] at hy
      subst hy
      have h1 : w2.ownsRow (w.heap.size + 2) 3 1 v x.1.rd.length (intCells x.1.rd) := ownsRow_base hv (fun q hq => by have := own_ge hv hq; omega)
      exact own_setCell h1 _ _ (own_ne_blk h1 hcur (by decide))
  · rw [htake, List.map_append]
    refine List.pairwise_append.2 ⟨h.dis, by simp, ?_⟩
    intro a ha b hb'
    simp only [List.map_cons, List.map_nil, List.mem_singleton] at hb'
    subst hb'
    obtain ⟨y, hy, rfl⟩ := List.mem_map.1 ha
    cases hq : y.2.ownBlock with
    | none => exact .inl rfl
    | some q =>
      right
      intro e
      have h1 := own_ge hv (g := q) e.symm
      have h2 := own_lt (h.new y hy) hq
      omega
  · have := (hbs2.stored (k * 3 + 2) v).1
    rw [(lnCells_set mlk k x hmk x.1.hd x.1.rd v).2] at this
    exact this
  · have h1 := own_frame h.vs (Fr.of_below (S := fun _ => False) hb) (fun _ _ e => e)
    exact own_setCell h1 _ _ (own_ne_blk h1 hcur (by decide))
  · have h1 := own_frame h.ss (Fr.of_below (S := fun _ => False) hb) (fun _ _ e => e)
    exact own_setCell h1 _ _ (own_ne_blk h1 hcur (by decide))
  · exact blk_setCell_ne ((hb.block _ hbhl).trans h.bh) _ _ (by show w.heap.size ≠ g; omega)
  · exact blk_setCell_ne ((hb.block _ hrhl).trans h.rh) _ _ (by show w.heap.size + 1 ≠ g; omega)
  · exact (h.below.trans (hb.mono hws)).setCell (by show w.heap.size ≤ g; omega) _

/-- What copied answers. -/
def Cop (w : World) (H : Hist) (e : Ending) (w' : World) : Prop :=
  ∃ m : View, e = .returned (.agg #[m.vv, m.bv, m.sv, .string H.cur]) ∧ RepV w' w.heap.size H m ∧ Below w.heap.size w w'

theorem ownsRow_mono {w : World} {base base' : Nat} {e : TypeId} {size : Nat} {v : Value} {n : Nat} {xs : List Value} (h : w.ownsRow base e size v n xs) (hb : base' ≤ base) : w.ownsRow base' e size v n xs :=
  ownsRow_base h fun g hg => by have := own_ge h hg; omega

theorem RepV.setCell {w : World} {base : Nat} {H : Hist} {m : View} (h : RepV w base H m) {t : Nat} {c : Array Value} {fz : Nat × Nat} {T : TypeId} (hT : T ≠ 40 ∧ T ≠ 65 ∧ T ≠ 78 ∧ T ≠ 3) (hb : w.heap[t]? = some (.cells c T fz)) (i : Nat) (u : Value) :
    RepV (w.setCell ⟨t, i, none⟩ u) base H m where
  vs := own_setCell h.vs _ _ (own_ne_blk h.vs hb (Ne.symm hT.1))
  bs := own_setCell h.bs _ _ (own_ne_blk h.bs hb (Ne.symm hT.2.1))
  ss := own_setCell h.ss _ _ (own_ne_blk h.ss hb (Ne.symm hT.2.2.1))
  rd := fun x hx => own_setCell (h.rd x hx) _ _ (own_ne_blk (h.rd x hx) hb (Ne.symm hT.2.2.2))
  ml := h.ml
  dis := h.dis

theorem CopI.done {w wr : World} {H : Hist} {ml mlk : List (Ln × Value)} {vv' bv' sv' : Value} (h : CopI w H ml vv' bv' sv' ml.length wr mlk) (hml : H.bs = ml.map (·.1)) (a b c d : Value) :
    Cop w H (.returned (.agg #[vv', bv', sv', .string H.cur])) ((((wr.setCell ⟨w.heap.size + 1, 0, none⟩ a).setCell ⟨w.heap.size + 1, 1, none⟩ b).setCell ⟨w.heap.size + 1, 2, none⟩ c).setCell ⟨w.heap.size + 1, 3, none⟩ d) := by
  have ht : mlk.take ml.length = mlk := List.take_of_length_le (by rw [h.len]; exact Nat.le_refl _)
  have hnew := h.new
  have hdis := h.dis
  rw [ht] at hnew hdis
  have r0 : RepV wr w.heap.size H ⟨vv', bv', sv', mlk⟩ :=
    ⟨ownsRow_mono h.vs (by omega), by show wr.ownsRow _ 65 3 bv' mlk.length _; rw [h.len]; exact ownsRow_mono h.bs (by omega), ownsRow_mono h.ss (by omega), fun x hx => ownsRow_mono (hnew x hx) (by omega), by rw [hml, ← h.fst], hdis⟩
  have r1 := r0.setCell (by decide) h.rh 0 a
  have b1 := blk_setCell h.rh 0 a
  have r2 := r1.setCell (by decide) b1 1 b
  have b2 := blk_setCell b1 1 b
  have r3 := r2.setCell (by decide) b2 2 c
  have b3 := blk_setCell b2 2 c
  have r4 := r3.setCell (by decide) b3 3 d
  refine ⟨_, rfl, r4, ?_⟩
  have := h.below
  exact (((this.setCell (by show w.heap.size ≤ w.heap.size + 1; omega) _).setCell (by show w.heap.size ≤ w.heap.size + 1; omega) _).setCell (by show w.heap.size ≤ w.heap.size + 1; omega) _).setCell (by show w.heap.size ≤ w.heap.size + 1; omega) _

theorem cop1_mk {w W0 w1 w2 w3 : World} {H : Hist} {ml : List (Ln × Value)} {v1 v2 v3 o1 o2 o3 : Value} (hs0 : W0.heap.size = w.heap.size + 2) (hb0 : Below w.heap.size w W0)
    (hbh : W0.heap[w.heap.size]? = some (.cells #[o1, o2, o3, .string H.cur] 37 (0, 0)))
    (hrh : W0.heap[w.heap.size + 1]? = some (.cells #[.slice none 0 0, .slice none 0 0, .slice none 0 0, .string { data := #[] }] 37 (0, 0)))
    (b1 : Below W0.drew.heap.size W0.drew w1) (b2 : Below w1.heap.size w1 w2) (b3 : Below w2.heap.size w2 w3)
    (h1 : w1.ownsRow W0.drew.heap.size 40 2 v1 H.vs.length (verCells H.vs)) (h2 : w2.ownsRow w1.heap.size 65 3 v2 ml.length (lnCells ml)) (h3 : w3.ownsRow w2.heap.size 78 2 v3 H.ss.length (lbCells H.ss)) :
    Cop1 w H ml (((w3.setCell ⟨w.heap.size, 0, none⟩ v1).setCell ⟨w.heap.size, 1, none⟩ v2).setCell ⟨w.heap.size, 2, none⟩ v3) := by
  have s1 : w.heap.size + 2 ≤ w1.heap.size := by have := b1.size; simp at this; omega
  have s2 := b2.size
  have s3 := b3.size
  have b13 : Below W0.heap.size W0.drew w3 := (b1.trans (b2.mono b1.size)).trans (b3.mono (Nat.le_trans b1.size b2.size))
  have k0 : w3.heap[w.heap.size]? = some (.cells #[o1, o2, o3, .string H.cur] 37 (0, 0)) := (b13.block _ (by omega)).trans hbh
  have k1 : w3.heap[w.heap.size + 1]? = some (.cells #[.slice none 0 0, .slice none 0 0, .slice none 0 0, .string { data := #[] }] 37 (0, 0)) := (b13.block _ (by omega)).trans hrh
  have m0 := blk_setCell k0 0 v1
  have m1 := blk_setCell m0 1 v2
  have m2 := blk_setCell m1 2 v3
  have e1 : w3.ownsRow (w.heap.size + 2) 40 2 v1 H.vs.length (verCells H.vs) :=
    ownsRow_mono (own_frame h1 (Fr.of_below (S := fun _ => False) (b2.trans (b3.mono s2))) (fun _ _ e => e)) (by show w.heap.size + 2 ≤ W0.heap.size; omega)
  have e2 : w3.ownsRow (w.heap.size + 2) 65 3 v2 ml.length (lnCells ml) := ownsRow_mono (own_frame h2 (Fr.of_below (S := fun _ => False) b3) (fun _ _ e => e)) s1
  have e3 : w3.ownsRow (w.heap.size + 2) 78 2 v3 H.ss.length (lbCells H.ss) := ownsRow_mono h3 (by omega)
  have push : ∀ {e : TypeId} {sz : Nat} {v : Value} {n : Nat} {xs : List Value}, e ≠ 37 → w3.ownsRow (w.heap.size + 2) e sz v n xs →
      (((w3.setCell ⟨w.heap.size, 0, none⟩ v1).setCell ⟨w.heap.size, 1, none⟩ v2).setCell ⟨w.heap.size, 2, none⟩ v3).ownsRow (w.heap.size + 2) e sz v n xs := by
    intro e sz v n xs he hh
    have a1 := own_setCell hh ⟨w.heap.size, 0, none⟩ v1 (own_ne_blk hh k0 he)
    have a2 := own_setCell a1 ⟨w.heap.size, 1, none⟩ v2 (own_ne_blk a1 m0 he)
    exact own_setCell a2 ⟨w.heap.size, 2, none⟩ v3 (own_ne_blk a2 m1 he)
  refine ⟨v1, v2, v3, by rw [m2]; rfl, ?_, push (by decide) e1, push (by decide) e2, push (by decide) e3, ?_⟩
  · refine blk_setCell_ne (blk_setCell_ne (blk_setCell_ne k1 _ _ ?_) _ _ ?_) _ _ ?_ <;> (show w.heap.size + 1 ≠ w.heap.size; omega)
  · have hb : Below w.heap.size w w3 := hb0.drew.trans (b13.mono (by omega))
    exact ((hb.setCell (Nat.le_refl _) _).setCell (Nat.le_refl _) _).setCell (Nat.le_refl _) _

section
variable {w : World} {H : Hist} {ml : List (Ln × Value)}

set_option maxRecDepth 100000 in
set_option maxHeartbeats 2000000 in
theorem copied37 (vv bv sv : Value) (h : HAt w vv bv sv H ml) (hn1 : H.vs.length ≤ 1000) (hn2 : ml.length ≤ 1000) (hn3 : H.ss.length ≤ 1000) (hn4 : ∀ x ∈ ml, x.1.rd.length ≤ 100000) :
    Calls Try.prog 37 #[.agg #[vv, bv, sv, .string H.cur]] w (Cop w H) := by
  have HH := Lib.hid h
  have hvv : vv.oneCell' = true := h.vs.one
  clear h
  go_enter Try.func37, Try.ntmps37
  go_upto_region 1 with fail
  go_cut [] (fun wx => Cop1 w H ml wx)
  case first =>
    obtain ⟨W0, hW0⟩ : ∃ W0, W0 = (w.alloc (Obj.cells #[vv, bv, sv, Value.string H.cur] 37)).alloc (Obj.cells #[Value.slice none 0 0, Value.slice none 0 0, Value.slice none 0 0, Value.string { data := #[] }] 37) := ⟨_, rfl⟩
    rw [← hW0]
    have hs0 : W0.heap.size = w.heap.size + 2 := by rw [hW0]; simp
    have hb0 : Below w.heap.size w W0 := by rw [hW0]; exact ((Below.refl _ _).alloc (Nat.le_refl _) _).alloc (by simp) _
    have hbh : W0.heap[w.heap.size]? = some (.cells #[vv, bv, sv, .string H.cur] 37 (0, 0)) := by rw [hW0, Below.heap_alloc _ _ _ (by simp)]; exact heap_alloc_new w _
    have hrh : W0.heap[w.heap.size + 1]? = some (.cells #[.slice none 0 0, .slice none 0 0, .slice none 0 0, .string { data := #[] }] 37 (0, 0)) := by rw [hW0]; have := heap_alloc_new (w.alloc (Obj.cells #[vv, bv, sv, Value.string H.cur] 37)) (Obj.cells #[Value.slice none 0 0, Value.slice none 0 0, Value.slice none 0 0, Value.string { data := #[] }] 37); simpa using this
    clear hW0
    have c0 : W0.cell? ⟨w.heap.size, 0, none⟩ = some vv := by rw [cell_of_blk hbh]; rfl
    have c1 : W0.cell? ⟨w.heap.size, 1, none⟩ = some bv := by rw [cell_of_blk hbh]; rfl
    have c2 : W0.cell? ⟨w.heap.size, 2, none⟩ = some sv := by rw [cell_of_blk hbh]; rfl
    have f0 : W0.frozen? ⟨w.heap.size, 0, none⟩ = false := frozen_of_blk hbh 0
    have f1 : W0.frozen? ⟨w.heap.size, 1, none⟩ = false := frozen_of_blk hbh 1
    have f2 : W0.frozen? ⟨w.heap.size, 2, none⟩ = false := frozen_of_blk hbh 2
    have hlt0 : w.heap.size < W0.heap.size := by omega
    have HS0 := Lib.hid hs0
    have HB0 := Lib.hid hb0
    have HBH := Lib.hid hbh
    have HRH := Lib.hid hrh
    clear hs0 hb0 hbh hrh
    go_region_with (first | (go_at_call 69; refine (clone69 _ _ _ (HH.out.vs.below (HB0.out.drew)) (one_ver _) (by omega)).mono ?_; rintro e w69 ⟨v69, rfl, ho69, hb69⟩; obtain ⟨a69, g69, c69, rfl, _⟩ := own_addr ho69; have e1 : w69.cell? ⟨w.heap.size, 1, none⟩ = some bv := (hb69.cell (p := ⟨w.heap.size, 1, none⟩) hlt0).trans c1; have e2 : w69.cell? ⟨w.heap.size, 2, none⟩ = some sv := (hb69.cell (p := ⟨w.heap.size, 2, none⟩) hlt0).trans c2; have l69 : w.heap.size < w69.heap.size := Nat.lt_of_lt_of_le hlt0 hb69.size; have HB69 := Lib.hid (HB0.out.drew.trans (hb69.mono HB0.out.size)); have HO69 := Lib.hid ho69; clear ho69) | (go_at_call 70; refine (clone70 _ _ _ (HH.out.bs.below HB69.out) (one_ln _ (fun x hx => (HH.out.rd x hx).one)) (by omega)).mono ?_; rintro e w70 ⟨v70, rfl, ho70, hb70⟩; obtain ⟨a70, g70, c70, rfl, _⟩ := own_addr ho70; have e3 : w70.cell? ⟨w.heap.size, 2, none⟩ = some sv := (hb70.cell (p := ⟨w.heap.size, 2, none⟩) l69).trans e2; have l70 : w.heap.size < w70.heap.size := Nat.lt_of_lt_of_le l69 hb70.size; have HB70 := Lib.hid (HB69.out.trans (hb70.mono HB69.out.size)); have HO70 := Lib.hid ho70; clear ho70) | (go_at_call 71; refine (clone71 _ _ _ (HH.out.ss.below HB70.out) (one_lb _) (by omega)).mono ?_; rintro e w71 ⟨v71, rfl, ho71, hb71⟩; obtain ⟨a71, g71, c71, rfl, _⟩ := own_addr ho71; have hall : w71.heap[w.heap.size]? = W0.heap[w.heap.size]? := ((hb71.block _ l70).trans (hb70.block _ l69)).trans (hb69.block _ hlt0); have q0 : w71.cell? ⟨w.heap.size, 0, none⟩ = some vv := (World.cell?_of_block (a := ⟨w.heap.size, 0, none⟩) hall).trans c0; have q1 : w71.cell? ⟨w.heap.size, 1, none⟩ = some bv := (World.cell?_of_block (a := ⟨w.heap.size, 1, none⟩) hall).trans c1; have q2 : w71.cell? ⟨w.heap.size, 2, none⟩ = some sv := (World.cell?_of_block (a := ⟨w.heap.size, 2, none⟩) hall).trans c2; have r0 : w71.frozen? ⟨w.heap.size, 0, none⟩ = false := (World.frozen?_of_block (a := ⟨w.heap.size, 0, none⟩) hall).trans f0; have r1 : w71.frozen? ⟨w.heap.size, 1, none⟩ = false := (World.frozen?_of_block (a := ⟨w.heap.size, 1, none⟩) hall).trans f1; have r2 : w71.frozen? ⟨w.heap.size, 2, none⟩ = false := (World.frozen?_of_block (a := ⟨w.heap.size, 2, none⟩) hall).trans f2; clear hall; have l71 : w.heap.size < w71.heap.size := Nat.lt_of_lt_of_le l70 hb71.size; have HB71 := Lib.hid (HB70.out.trans (hb71.mono HB70.out.size)); have HO71 := Lib.hid ho71; clear ho71))
    all_goals
      go_wp2_with fail
      go_meet
      exact cop1_mk HS0.out HB0.out HBH.out HRH.out hb69 hb70 hb71 HO69.out HO70.out HO71.out
  case rest =>
    obtain ⟨vv', bv', sv', hbh, hrh, hv, hb, hs, hbel⟩ := hcut
    obtain ⟨ab, gb, cb, rfl, hab, hgb, hcb, hcm, hcellb⟩ := own_addr hb
    obtain ⟨av, gv, cv, rfl, _⟩ := own_addr hv
    obtain ⟨a3, g3, c3, rfl, _⟩ := own_addr hs
    have c1 : wc.cell? ⟨w.heap.size, 1, none⟩ = some (.slice ab ml.length cb) := by rw [cell_of_blk hbh]; rfl
    have h0 : CopI w H ml (.slice av H.vs.length cv) (.slice ab ml.length cb) (.slice a3 H.ss.length c3) 0 wc ml := ⟨rfl, rfl, fun _ _ => rfl, fun x hx => by simp at hx, by simp, hb, hv, hs, hbh, hrh, hbel⟩
    have HI0 := Lib.hid h0
    have HAB := Lib.hid hab
    have HN4 := Lib.hid hn4
    clear h0 hab hcellb hbh hrh hv hb hs hbel hgb hn4
    go_wp2_with fail
    go_loopw [19] (fun i wr => ∃ (k : Nat) (mlk : List (Ln × Value)), k ≤ ml.length ∧ i = .int .i64 k ∧ CopI w H ml (.slice av H.vs.length cv) (.slice ab ml.length cb) (.slice a3 H.ss.length c3) k wr mlk) (fun i _ => ml.length - (intOf i).toNat)
    case atStart => exact ⟨0, ml, Nat.zero_le _, rfl, HI0.out⟩
    case round =>
      obtain ⟨k, mlk, hk, rfl, hI⟩ := hrel
      have HI := Lib.hid hI
      clear hI
      by_cases hlt : k < ml.length
      · obtain rfl := HAB.out (by omega)
        have hx : ml[k]? = some ml[k] := List.getElem?_eq_getElem hlt
        obtain ⟨x, hxe⟩ : ∃ x, x = ml[k] := ⟨_, rfl⟩
        rw [← hxe] at hx
        have hlx := HN4.out x (List.mem_of_getElem? hx)
        have hrx := HH.out.rd x (List.mem_of_getElem? hx)
        have HX := Lib.hid hx
        have hbs := HI.out.bs
        have hmk : mlk[k]? = some x := by rw [HI.out.old k (Nat.le_refl _)]; exact hx
        have d1 : wr.cell? ⟨w.heap.size, 1, none⟩ = some (.slice (some ⟨gb, 0, none⟩) ml.length cb) := by rw [cell_of_blk HI.out.bh]; rfl
        have d2 : wr.cell? ⟨gb, k * 3 + 2, none⟩ = some x.2 := own_cell hbs (lnCells_get _ _ _ hmk).2.2
        have d3 : wr.frozen? ⟨gb, k * 3 + 2, none⟩ = false := hbs.frozenAt _
        have l1 : w.heap.size < wr.heap.size := (Array.getElem?_eq_some_iff.1 HI.out.bh).1
        have l2 : gb < wr.heap.size := own_lt hbs rfl
        have hi1 : (k : Int) < ml.length := by omega
        have hi0 : (0 : Int) ≤ k := by omega
        have hbw := HI.out.below
        have HC := Lib.hid (fun w' (hw' : Below wr.heap.size wr w') => clone72 (w := w') x.2 _ _ ((hrx.below hbw).below hw') (one_int _) hlx)
        clear hx hxe hbs hmk hrx hbw
        go_wp2_with fail
        go_region_with ((go_at_call 72; refine (HC.out _ ((Below.refl _ _).drew)).mono ?_; rintro e w72 ⟨v72, rfl, ho72, hb72⟩; obtain ⟨a72, g72, c72, rfl, _⟩ := own_addr ho72; have e1 : w72.cell? ⟨w.heap.size, 1, none⟩ = some (.slice (some ⟨gb, 0, none⟩) ml.length cb) := (hb72.cell (p := ⟨w.heap.size, 1, none⟩) l1).trans d1; have e2 : w72.cell? ⟨gb, k * 3 + 2, none⟩ = some x.2 := (hb72.cell (p := ⟨gb, _, none⟩) l2).trans d2; have e3 : w72.frozen? ⟨gb, k * 3 + 2, none⟩ = false := (hb72.frozen (p := ⟨gb, _, none⟩) l2).trans d3; have HB72 := Lib.hid (((Below.refl wr.heap.size wr).drew).trans hb72); have HO72 := Lib.hid ho72; clear ho72 hb72))
        all_goals
          go_wp2_with fail
          go_roundw
          case rel => exact ⟨k + 1, _, by omega, by go_num, HI.out.step HX.out HB72.out HO72.out⟩
          case measure => simp [intOf]; omega
      · obtain rfl : k = ml.length := by omega
        have d0 : wr.cell? ⟨w.heap.size, 0, none⟩ = some (.slice av H.vs.length cv) := by rw [cell_of_blk HI.out.bh]; rfl
        have d1 : wr.cell? ⟨w.heap.size, 1, none⟩ = some (.slice ab ml.length cb) := by rw [cell_of_blk HI.out.bh]; rfl
        have d2 : wr.cell? ⟨w.heap.size, 2, none⟩ = some (.slice a3 H.ss.length c3) := by rw [cell_of_blk HI.out.bh]; rfl
        have d3 : wr.cell? ⟨w.heap.size, 3, none⟩ = some (.string H.cur) := by rw [cell_of_blk HI.out.bh]; rfl
        have e0 : wr.cell? ⟨w.heap.size + 1, 0, none⟩ = some (.slice none 0 0) := by rw [cell_of_blk HI.out.rh]; rfl
        have e1 : wr.cell? ⟨w.heap.size + 1, 1, none⟩ = some (.slice none 0 0) := by rw [cell_of_blk HI.out.rh]; rfl
        have e2 : wr.cell? ⟨w.heap.size + 1, 2, none⟩ = some (.slice none 0 0) := by rw [cell_of_blk HI.out.rh]; rfl
        have e3 : wr.cell? ⟨w.heap.size + 1, 3, none⟩ = some (.string { data := #[] }) := by rw [cell_of_blk HI.out.rh]; rfl
        have f0 := frozen_of_blk HI.out.rh 0
        have f1 := frozen_of_blk HI.out.rh 1
        have f2 := frozen_of_blk HI.out.rh 2
        have f3 := frozen_of_blk HI.out.rh 3
        go_wp2_with fail
        refine bodyPost_ret (v := .agg #[.slice av H.vs.length cv, .slice ab ml.length cb, .slice a3 H.ss.length c3, .string H.cur]) (by simp [results, Try.results37, go_sem, e0, e1, e2, e3]) rfl ?_
        exact HI.out.done HH.out.ml _ _ _ _

end

end Go.Proofs.Ytalmfmijjbpnpaa
