/-
  What a store does to a history in memory: plain facts on worlds. No walk stands here.
-/
import Derived.Test.YtalmfmijjbpnpaaLoDEF
namespace Go.Proofs.Ytalmfmijjbpnpaa
open Go.RowKit

section
variable {w w' w1 : World} {base : Nat} {e : TypeId} {size : Nat} {v : Value} {n : Nat} {xs : List Value}
theorem fr_setCell (w : World) (a : Addr) (u : Value) : Fr (fun k => k = a.block) w (w.setCell a u) := (Fr.refl _ w).setCell u (fun _ => rfl)
theorem own_setCell (h : w.ownsRow base e size v n xs) (a : Addr) (u : Value) (hne : ∀ k, v.ownBlock = some k → k ≠ a.block) : (w.setCell a u).ownsRow base e size v n xs :=
  own_frame h (fr_setCell w a u) hne
theorem own_ne_blk (h : w.ownsRow base e size v n xs) {t : Nat} {c : Array Value} {T : Nat} {fz : Nat × Nat} (hb : w.heap[t]? = some (.cells c T fz)) (hne : e ≠ T) : ∀ k, v.ownBlock = some k → k ≠ t := by
  rintro k hk rfl
  obtain ⟨cur, hc⟩ := own_block h hk
  rw [hb] at hc
  cases hc
  exact hne rfl
theorem own_ne' {e' : TypeId} {size' : Nat} {v' : Value} {n' base' : Nat} {xs' : List Value} (h : w.ownsRow base e size v n xs) (h' : w.ownsRow base' e' size' v' n' xs') (hne : e ≠ e') :
    ∀ k, v.ownBlock = some k → ¬ v'.ownBlock = some k := fun _ hk hk' => own_ne h h' hne hk hk' rfl
theorem blk_setCell {t : Nat} {c : Array Value} {T : Nat} {fz : Nat × Nat} (h : w.heap[t]? = some (.cells c T fz)) (i : Nat) (u : Value) :
    (w.setCell ⟨t, i, none⟩ u).heap[t]? = some (.cells (c.setIfInBounds i u) T fz) := by
  simp [World.setCell, Array.getElem?_modify, h]
theorem blk_setCell_ne {t : Nat} {o : Obj} (h : w.heap[t]? = some o) (a : Addr) (u : Value) (hne : t ≠ a.block) : (w.setCell a u).heap[t]? = some o := by
  rw [Below.heap_setCell _ _ _ _ hne]; exact h
theorem own_fr_ne (h : w.ownsRow base e size v n xs) {e' : TypeId} {size' : Nat} {v' : Value} {n' base' : Nat} {xs' : List Value} (h' : w.ownsRow base' e' size' v' n' xs') (hne : e ≠ e')
    (hf : Fr (fun k => v'.ownBlock = some k) w w1) : w1.ownsRow base e size v n xs := own_frame h hf (own_ne' h h' hne)
end

theorem tn {T : TypeId} (h : T = 67 ∨ T = 56) {e : TypeId} (he : e = 40 ∨ e = 65 ∨ e = 78 ∨ e = 3) : e ≠ T := by
  rcases h with rfl | rfl <;> rcases he with rfl | rfl | rfl | rfl <;> decide

section
variable {w w1 : World} {T t : Nat} {H : Hist} {m : View}

theorem Rep.change_cur (h : Rep w T t H m) (c : ByteArray) : Rep (w.setCell ⟨t, 3, none⟩ (.string c)) T t { H with cur := c } m where
  tt := h.tt
  blk := by rw [blk_setCell h.blk]; rfl
  vs := own_setCell h.vs _ _ (own_ne_blk h.vs h.blk (tn h.tt (by decide)))
  bs := own_setCell h.bs _ _ (own_ne_blk h.bs h.blk (tn h.tt (by decide)))
  ss := own_setCell h.ss _ _ (own_ne_blk h.ss h.blk (tn h.tt (by decide)))
  rd := fun x hx => own_setCell (h.rd x hx) _ _ (own_ne_blk (h.rd x hx) h.blk (tn h.tt (by decide)))
  ml := h.ml
  dis := h.dis

theorem Rep.change_vv (h : Rep w T t H m) (hf : Fr (fun k => m.vv.ownBlock = some k) w w1) {v' : Value} {vs' : List Ver} (hv : w1.ownsRow 0 40 2 v' vs'.length (verCells vs')) :
    Rep (w1.setCell ⟨t, 0, none⟩ v') T t { H with vs := vs' } { m with vv := v' } := by
  have htt := h.tt
  have hb1 : w1.heap[t]? = some (.cells #[m.vv, m.bv, m.sv, .string H.cur] T (0, 0)) := by
    rw [hf.block t (h.lt (.inl rfl)) (fun e => own_ne_blk h.vs h.blk (tn htt (by decide)) t e rfl)]; exact h.blk
  refine ⟨htt, ?_, ?_, ?_, ?_, ?_, h.ml, h.dis⟩
  · rw [blk_setCell hb1]; rfl
  · exact own_setCell hv _ _ (own_ne_blk hv hb1 (tn htt (by decide)))
  · have hx := own_fr_ne h.bs h.vs (by decide) hf
    exact own_setCell hx _ _ (own_ne_blk hx hb1 (tn htt (by decide)))
  · have hx := own_fr_ne h.ss h.vs (by decide) hf
    exact own_setCell hx _ _ (own_ne_blk hx hb1 (tn htt (by decide)))
  · intro x hx
    have hx := own_fr_ne (h.rd x hx) h.vs (by decide) hf
    exact own_setCell hx _ _ (own_ne_blk hx hb1 (tn htt (by decide)))

theorem Rep.change_sv (h : Rep w T t H m) (hf : Fr (fun k => m.sv.ownBlock = some k) w w1) {v' : Value} {ss' : List Lb} (hv : w1.ownsRow 0 78 2 v' ss'.length (lbCells ss')) :
    Rep (w1.setCell ⟨t, 2, none⟩ v') T t { H with ss := ss' } { m with sv := v' } := by
  have htt := h.tt
  have hb1 : w1.heap[t]? = some (.cells #[m.vv, m.bv, m.sv, .string H.cur] T (0, 0)) := by
    rw [hf.block t (h.lt (.inl rfl)) (fun e => own_ne_blk h.ss h.blk (tn htt (by decide)) t e rfl)]; exact h.blk
  refine ⟨htt, ?_, ?_, ?_, ?_, ?_, h.ml, h.dis⟩
  · rw [blk_setCell hb1]; rfl
  · have hx := own_fr_ne h.vs h.ss (by decide) hf
    exact own_setCell hx _ _ (own_ne_blk hx hb1 (tn htt (by decide)))
  · have hx := own_fr_ne h.bs h.ss (by decide) hf
    exact own_setCell hx _ _ (own_ne_blk hx hb1 (tn htt (by decide)))
  · exact own_setCell hv _ _ (own_ne_blk hv hb1 (tn htt (by decide)))
  · intro x hx
    have hx := own_fr_ne (h.rd x hx) h.ss (by decide) hf
    exact own_setCell hx _ _ (own_ne_blk hx hb1 (tn htt (by decide)))

/-- Another row of branches; each of its versions to redo is one of the old ones, or lies alone. -/
theorem Rep.change_bv (h : Rep w T t H m) (hf : Fr (fun k => m.bv.ownBlock = some k) w w1) {v' : Value} {ml' : List (Ln × Value)} (hv : w1.ownsRow 0 65 3 v' ml'.length (lnCells ml'))
    (hrd : ∀ x ∈ ml', w1.ownsRow 0 3 1 x.2 x.1.rd.length (intCells x.1.rd)) (hdis : (ml'.map (·.2.ownBlock)).Pairwise fun a b => a = none ∨ a ≠ b) :
    Rep (w1.setCell ⟨t, 1, none⟩ v') T t { H with bs := ml'.map (·.1) } { m with bv := v', ml := ml' } := by
  have htt := h.tt
  have hb1 : w1.heap[t]? = some (.cells #[m.vv, m.bv, m.sv, .string H.cur] T (0, 0)) := by
    rw [hf.block t (h.lt (.inl rfl)) (fun e => own_ne_blk h.bs h.blk (tn htt (by decide)) t e rfl)]; exact h.blk
  refine ⟨htt, ?_, ?_, ?_, ?_, ?_, rfl, hdis⟩
  · rw [blk_setCell hb1]; rfl
  · have hx := own_fr_ne h.vs h.bs (by decide) hf
    exact own_setCell hx _ _ (own_ne_blk hx hb1 (tn htt (by decide)))
  · exact own_setCell hv _ _ (own_ne_blk hv hb1 (tn htt (by decide)))
  · have hx := own_fr_ne h.ss h.bs (by decide) hf
    exact own_setCell hx _ _ (own_ne_blk hx hb1 (tn htt (by decide)))
  · intro x hx
    have hx := hrd x hx
    exact own_setCell hx _ _ (own_ne_blk hx hb1 (tn htt (by decide)))

theorem lnCells_set : ∀ (ml : List (Ln × Value)) (k : Nat) (x : Ln × Value), ml[k]? = some x → ∀ (hd : Int) (rd : List Int) (rv : Value),
    (lnCells ml).set (k * 3 + 1) (.int .i64 hd) = lnCells (ml.set k (⟨x.1.nm, hd, rd⟩, x.2)) ∧ (lnCells ml).set (k * 3 + 2) rv = lnCells (ml.set k (⟨x.1.nm, x.1.hd, rd⟩, rv))
  | [], k, x, h, _, _, _ => by simp at h
  | y :: ml, 0, x, h, hd, rd, rv => by
    simp only [List.getElem?_cons_zero, Option.some.injEq] at h
    subst h
    exact ⟨rfl, rfl⟩
  | y :: ml, k + 1, x, h, hd, rd, rv => by
    obtain ⟨ih1, ih2⟩ := lnCells_set ml k x (by simpa using h) hd rd rv
    have e : ∀ l, lnCells (y :: l) = .string y.1.nm :: .int .i64 y.1.hd :: y.2 :: lnCells l := fun _ => rfl
    rw [List.set_cons_succ, List.set_cons_succ, e, e, e, ← ih1, ← ih2, show (k + 1) * 3 + 1 = (k * 3 + 1) + 1 + 1 + 1 by omega, show (k + 1) * 3 + 2 = (k * 3 + 2) + 1 + 1 + 1 by omega]
    exact ⟨rfl, rfl⟩

theorem map_set_fst (ml : List (Ln × Value)) (k : Nat) (x : Ln × Value) : (ml.set k x).map (·.1) = (ml.map (·.1)).set k x.1 := by rw [List.map_set]
theorem map_set_own (ml : List (Ln × Value)) (k : Nat) (x : Ln × Value) : (ml.set k x).map (·.2.ownBlock) = (ml.map (·.2.ownBlock)).set k x.2.ownBlock := by rw [List.map_set]

theorem mem_set_cases {α : Type} {l : List α} {k : Nat} {x y : α} (h : y ∈ l.set k x) : y = x ∨ ∃ j, j ≠ k ∧ l[j]? = some y := by
  obtain ⟨j, hj, e⟩ := List.getElem_of_mem h
  have e2 : (l.set k x)[j]? = some y := by rw [List.getElem?_eq_getElem hj, e]
  rw [List.getElem?_set] at e2
  by_cases hjk : k = j
  · subst hjk
    rw [if_pos rfl] at e2
    split at e2
    · left; simpa using e2.symm
    · cases e2
  · rw [if_neg hjk] at e2
    exact .inr ⟨j, fun e => hjk e.symm, e2⟩

/-- The head of a branch is set. -/
theorem Rep.change_hd (h : Rep w T t H m) {g n cap k : Nat} {x : Ln × Value} (hbv : m.bv = .slice (some ⟨g, 0, none⟩) n cap) (hk : m.ml[k]? = some x) (hd : Int) :
    Rep (w.setCell ⟨g, k * 3 + 1, none⟩ (.int .i64 hd)) T t { H with bs := H.bs.set k ⟨x.1.nm, hd, x.1.rd⟩ } { m with ml := m.ml.set k (⟨x.1.nm, hd, x.1.rd⟩, x.2) } := by
  have htt := h.tt
  have hown := h.bs
  rw [hbv] at hown
  obtain ⟨cur, hcur⟩ := own_block hown (k := g) rfl
  have hn : n = m.ml.length := by
    rcases hown.2 with ⟨h1, _⟩ | ⟨_, _, _, h1, _⟩
    · simp at h1
    · simp only [Value.slice.injEq] at h1; exact h1.2.1
  subst hn
  have hg : g ≠ t := fun e => own_ne_blk hown h.blk (tn htt (by decide)) g rfl e
  refine ⟨htt, ?_, ?_, ?_, ?_, ?_, ?_, ?_⟩
  · exact blk_setCell_ne h.blk _ _ (fun e => hg e.symm)
  · exact own_setCell h.vs _ _ (own_ne_blk h.vs hcur (by decide))
  · have := (hown.stored (k * 3 + 1) (.int .i64 hd)).1
    rw [(lnCells_set m.ml k x hk hd x.1.rd x.2).1] at this
    show (w.setCell _ _).ownsRow 0 65 3 m.bv (m.ml.set k _).length _
    rw [hbv, List.length_set]
    exact this
  · exact own_setCell h.ss _ _ (own_ne_blk h.ss hcur (by decide))
  · intro y hy
    rcases mem_set_cases hy with rfl | ⟨j, _, hj⟩
    · have := h.rd x (List.mem_of_getElem? hk)
      exact own_setCell this _ _ (own_ne_blk this hcur (by decide))
    · have := h.rd y (List.mem_of_getElem? hj)
      exact own_setCell this _ _ (own_ne_blk this hcur (by decide))
  · show H.bs.set _ _ = (m.ml.set _ _).map _
    rw [map_set_fst, h.ml]
  · show ((m.ml.set _ _).map _).Pairwise _
    rw [map_set_own]
    have : (m.ml.map (·.2.ownBlock)).set k x.2.ownBlock = m.ml.map (·.2.ownBlock) := by
      apply List.ext_getElem?
      intro j
      rw [List.getElem?_set]
      split
      · rename_i e
        subst e
        split
        · rw [List.getElem?_map, hk]; rfl
        · rename_i hl
          rw [List.getElem?_eq_none (by omega)]
      · rfl
    rw [this]; exact h.dis

/-- The versions to redo of a branch are set: to a row that no other branch has. -/
theorem Rep.change_rd (h : Rep w T t H m) {g n cap k : Nat} {x : Ln × Value} (hbv : m.bv = .slice (some ⟨g, 0, none⟩) n cap) (hk : m.ml[k]? = some x) {rv : Value} {rd : List Int} (hrv : w1.ownsRow 0 3 1 rv rd.length (intCells rd))
    (hf : Fr (fun k => x.2.ownBlock = some k) w w1) (hown' : rv.ownBlock = none ∨ rv.ownBlock = x.2.ownBlock ∨ ∃ k, rv.ownBlock = some k ∧ w.heap.size ≤ k) :
    Rep (w1.setCell ⟨g, k * 3 + 2, none⟩ rv) T t { H with bs := H.bs.set k ⟨x.1.nm, x.1.hd, rd⟩ } { m with ml := m.ml.set k (⟨x.1.nm, x.1.hd, rd⟩, rv) } := by
  have htt := h.tt
  have hown := h.bs
  rw [hbv] at hown
  have hxm := List.mem_of_getElem? hk
  have hx := h.rd x hxm
  obtain ⟨cur, hcur⟩ := own_block hown (k := g) rfl
  have hn : n = m.ml.length := by
    rcases hown.2 with ⟨h1, _⟩ | ⟨_, _, _, h1, _⟩
    · simp at h1
    · simp only [Value.slice.injEq] at h1; exact h1.2.1
  subst hn
  have hgl : g < w.heap.size := own_lt hown rfl
  have hcur1 : w1.heap[g]? = some (.cells cur 65 (0, 0)) := by
    rw [hf.block g hgl (fun e => own_ne_blk hx hcur (by decide) g e rfl)]; exact hcur
  have hb1 : w1.heap[t]? = some (.cells #[m.vv, m.bv, m.sv, .string H.cur] T (0, 0)) := by
    rw [hf.block t (h.lt (.inl rfl)) (fun e => own_ne_blk hx h.blk (tn htt (by decide)) t e rfl)]; exact h.blk
  have hg : g ≠ t := fun e => own_ne_blk hown h.blk (tn htt (by decide)) g rfl e
  have hown1 := own_fr_ne hown hx (by decide) hf
  -- another branch's row is another one
  have hother : ∀ j y, j ≠ k → m.ml[j]? = some y → ∀ q, y.2.ownBlock = some q → ¬ x.2.ownBlock = some q := by
    intro j y hjk hy q hq hxq
    have hp := List.pairwise_iff_getElem.1 h.dis
    have hjl := (List.getElem?_eq_some_iff.1 hy).1
    have hkl := (List.getElem?_eq_some_iff.1 hk).1
    have hye := (List.getElem?_eq_some_iff.1 hy).2
    have hke := (List.getElem?_eq_some_iff.1 hk).2
    rcases Nat.lt_or_gt_of_ne hjk with hlt | hlt
    · have := hp j k (by simpa using hjl) (by simpa using hkl) hlt
      simp only [List.getElem_map, hye, hke, hq, hxq] at this
      simp at this
    · have := hp k j (by simpa using hkl) (by simpa using hjl) hlt
      simp only [List.getElem_map, hye, hke, hq, hxq] at this
      simp at this
  refine ⟨htt, ?_, ?_, ?_, ?_, ?_, ?_, ?_⟩
  · exact blk_setCell_ne hb1 _ _ (fun e => hg e.symm)
  · have hv := own_fr_ne h.vs hx (by decide) hf
    exact own_setCell hv _ _ (own_ne_blk hv hcur1 (by decide))
  · have := (hown1.stored (k * 3 + 2) rv).1
    rw [(lnCells_set m.ml k x hk x.1.hd rd rv).2] at this
    show (w1.setCell _ _).ownsRow 0 65 3 m.bv (m.ml.set k _).length _
    rw [hbv, List.length_set]
    exact this
  · have hv := own_fr_ne h.ss hx (by decide) hf
    exact own_setCell hv _ _ (own_ne_blk hv hcur1 (by decide))
  · intro y hy
    rcases mem_set_cases hy with rfl | ⟨j, hjk, hj⟩
    · exact own_setCell hrv _ _ (own_ne_blk hrv hcur1 (by decide))
    · have := own_frame (h.rd y (List.mem_of_getElem? hj)) hf (hother j y hjk hj)
      exact own_setCell this _ _ (own_ne_blk this hcur1 (by decide))
  · show H.bs.set _ _ = (m.ml.set _ _).map _
    rw [map_set_fst, h.ml]
  · show ((m.ml.set _ _).map _).Pairwise _
    rw [map_set_own, List.pairwise_iff_getElem]
    have hp := List.pairwise_iff_getElem.1 h.dis
    have key : ∀ j y, j ≠ k → m.ml[j]? = some y → rv.ownBlock = none ∨ (rv.ownBlock ≠ y.2.ownBlock) := by
      intro j y hjk hy
      rcases hown' with h0 | h0 | ⟨q, h0, hq⟩
      · exact .inl h0
      · cases hq : y.2.ownBlock with
        | none =>
          by_cases hz : rv.ownBlock = none
          · exact .inl hz
          · exact .inr hz
        | some q =>
          right
          rw [h0]
          exact hother j y hjk hy q hq
      · right
        intro e
        have := own_lt (h.rd y (List.mem_of_getElem? hy)) (k := q) (by rw [← e]; exact h0)
        omega
    intro i j hi hj hij
    rw [List.length_set] at hi hj
    have hi' : i < m.ml.length := by simpa using hi
    have hj' : j < m.ml.length := by simpa using hj
    rw [List.getElem_set, List.getElem_set]
    by_cases e1 : k = i
    · subst e1
      rw [if_pos rfl, if_neg (by omega)]
      rcases key j _ (by omega) (List.getElem?_eq_getElem hj') with h0 | h0
      · exact .inl h0
      · right; simpa using h0
    · rw [if_neg e1]
      by_cases e2 : k = j
      · subst e2
        rw [if_pos rfl]
        rcases key i _ (by omega) (List.getElem?_eq_getElem hi') with h0 | h0
        · by_cases hz : (m.ml.map (·.2.ownBlock))[i] = none
          · exact .inl hz
          · exact .inr (fun e => hz (e.trans h0))
        · right
          simp only [List.getElem_map]
          exact fun e => h0 e.symm
      · rw [if_neg e2]
        exact hp i j hi hj hij

end

/-- The call returns v, the timeline at t holds H' then, and of the old blocks only its own may have changed. -/
def Mut (v : Value) (H' : Hist) (T t : Nat) (m : View) (w : World) (e : Ending) (w' : World) : Prop :=
  e = .returned v ∧ ∃ m', Rep w' T t H' m' ∧ Fr (m.owns t) w w' ∧ ∀ k, m'.owns t k → m.owns t k ∨ w.heap.size ≤ k

section
variable {w w1 : World} {T t : Nat} {H : Hist} {m : View}

/-- Head and versions to redo of a branch are set, one after the other; the row of the latter is none, or the branch's own. -/
theorem Rep.line (h : Rep w T t H m) {g n cap k : Nat} {x : Ln × Value} (hbv : m.bv = .slice (some ⟨g, 0, none⟩) n cap) (hk : m.ml[k]? = some x) (hd : Int) {rv : Value} {rd : List Int}
    (hrv : w.ownsRow 0 3 1 rv rd.length (intCells rd)) (hown' : rv.ownBlock = none ∨ rv.ownBlock = x.2.ownBlock) :
    Rep ((w.setCell ⟨g, k * 3 + 1, none⟩ (.int .i64 hd)).setCell ⟨g, k * 3 + 2, none⟩ rv) T t { H with bs := H.bs.set k ⟨x.1.nm, hd, rd⟩ } { m with ml := m.ml.set k (⟨x.1.nm, hd, rd⟩, rv) } := by
  have hown := h.bs
  rw [hbv] at hown
  obtain ⟨cur, hcur⟩ := own_block hown (k := g) rfl
  have hkl := (List.getElem?_eq_some_iff.1 hk).1
  have r1 := h.change_hd hbv hk hd
  have r2 := r1.change_rd (k := k) (x := (⟨x.1.nm, hd, x.1.rd⟩, x.2)) (rv := rv) (rd := rd) hbv (by simp [hkl]) (own_setCell hrv _ _ (own_ne_blk hrv hcur (by decide)))
    (Fr.refl _ _) (by rcases hown' with h | h; exact .inl h; exact .inr (.inl h))
  simpa using r2

theorem Mut.line {v : Value} {H2 : Hist} {m2 : View} {w3 : World} (h : Rep w3 T t H2 m2) (hF : Fr (m.owns t) w w3) (how : ∀ k, m2.owns t k → m.owns t k ∨ w.heap.size ≤ k)
    {g n cap k : Nat} {x : Ln × Value} (hbv : m2.bv = .slice (some ⟨g, 0, none⟩) n cap) (hk : m2.ml[k]? = some x) (hd : Int) {rv : Value} {rd : List Int}
    (hrv : w3.ownsRow 0 3 1 rv rd.length (intCells rd)) (hown' : rv.ownBlock = none ∨ rv.ownBlock = x.2.ownBlock) :
    Mut v { H2 with bs := H2.bs.set k ⟨x.1.nm, hd, rd⟩ } T t m w (.returned v) ((w3.setCell ⟨g, k * 3 + 1, none⟩ (.int .i64 hd)).setCell ⟨g, k * 3 + 2, none⟩ rv) := by
  have hgo : m2.owns t g := .inr (.inr (.inl (by rw [hbv]; rfl)))
  have hg : g < w.heap.size → m.owns t g := fun hl => (how g hgo).resolve_right (by omega)
  refine ⟨rfl, _, h.line hbv hk hd hrv hown', (hF.setCell _ hg).setCell _ hg, ?_⟩
  rintro q (rfl | hq | hq | hq | ⟨y, hy, hq⟩)
  · exact .inl (.inl rfl)
  · exact how q (.inr (.inl hq))
  · exact how q (.inr (.inr (.inl hq)))
  · exact how q (.inr (.inr (.inr (.inl hq))))
  · rcases mem_set_cases hy with rfl | ⟨j, _, hj⟩
    · have hq' : rv.ownBlock = some q := hq
      rcases hown' with h0 | h0
      · rw [h0] at hq'; cases hq'
      · exact how q (.inr (.inr (.inr (.inr ⟨x, List.mem_of_getElem? hk, by rw [← h0]; exact hq'⟩))))
    · exact how q (.inr (.inr (.inr (.inr ⟨y, List.mem_of_getElem? hj, hq⟩))))

/-- The head alone is set. -/
theorem Mut.head {v : Value} {H2 : Hist} {m2 : View} {w3 : World} (h : Rep w3 T t H2 m2) (hF : Fr (m.owns t) w w3) (how : ∀ k, m2.owns t k → m.owns t k ∨ w.heap.size ≤ k)
    {g n cap k : Nat} {x : Ln × Value} (hbv : m2.bv = .slice (some ⟨g, 0, none⟩) n cap) (hk : m2.ml[k]? = some x) (hd : Int) :
    Mut v { H2 with bs := H2.bs.set k ⟨x.1.nm, hd, x.1.rd⟩ } T t m w (.returned v) (w3.setCell ⟨g, k * 3 + 1, none⟩ (.int .i64 hd)) := by
  have hgo : m2.owns t g := .inr (.inr (.inl (by rw [hbv]; rfl)))
  have hg : g < w.heap.size → m.owns t g := fun hl => (how g hgo).resolve_right (by omega)
  refine ⟨rfl, _, h.change_hd hbv hk hd, hF.setCell _ hg, ?_⟩
  rintro q (rfl | hq | hq | hq | ⟨y, hy, hq⟩)
  · exact .inl (.inl rfl)
  · exact how q (.inr (.inl hq))
  · exact how q (.inr (.inr (.inl hq)))
  · exact how q (.inr (.inr (.inr (.inl hq))))
  · rcases mem_set_cases hy with rfl | ⟨j, _, hj⟩
    · exact how q (.inr (.inr (.inr (.inr ⟨x, List.mem_of_getElem? hk, hq⟩))))
    · exact how q (.inr (.inr (.inr (.inr ⟨y, List.mem_of_getElem? hj, hq⟩))))

/-- Footprint behind a change of one branch's versions to redo. -/
theorem owns_rd {m : View} {k : Nat} {x l : Ln × Value} (hk : m.ml[k]? = some x) {N : Nat} (hl : ∀ q, l.2.ownBlock = some q → x.2.ownBlock = some q ∨ N ≤ q) :
    ∀ q, View.owns { m with ml := m.ml.set k l } t q → m.owns t q ∨ N ≤ q := by
  rintro q (rfl | hq | hq | hq | ⟨y, hy, hq⟩)
  · exact .inl (.inl rfl)
  · exact .inl (.inr (.inl hq))
  · exact .inl (.inr (.inr (.inl hq)))
  · exact .inl (.inr (.inr (.inr (.inl hq))))
  · rcases mem_set_cases hy with rfl | ⟨j, _, hj⟩
    · rcases hl q hq with h | h
      · exact .inl (.inr (.inr (.inr (.inr ⟨x, List.mem_of_getElem? hk, h⟩))))
      · exact .inr h
    · exact .inl (.inr (.inr (.inr (.inr ⟨y, List.mem_of_getElem? hj, hq⟩))))

theorem Rep.cellT (h : Rep w T t H m) : w.cell? ⟨t, 0, none⟩ = some m.vv ∧ w.cell? ⟨t, 1, none⟩ = some m.bv ∧ w.cell? ⟨t, 2, none⟩ = some m.sv ∧ w.cell? ⟨t, 3, none⟩ = some (.string H.cur) := by
  refine ⟨?_, ?_, ?_, ?_⟩ <;> rw [cell_of_blk h.blk] <;> rfl
theorem Rep.frT (h : Rep w T t H m) (i : Nat) : w.frozen? ⟨t, i, none⟩ = false := frozen_of_blk h.blk i
theorem Rep.cellB (h : Rep w T t H m) {g n cap k : Nat} {x : Ln × Value} (hbv : m.bv = .slice (some ⟨g, 0, none⟩) n cap) (hk : m.ml[k]? = some x) :
    w.cell? ⟨g, k * 3, none⟩ = some (.string x.1.nm) ∧ w.cell? ⟨g, k * 3 + 1, none⟩ = some (.int .i64 x.1.hd) ∧ w.cell? ⟨g, k * 3 + 2, none⟩ = some x.2 := by
  have hown := h.bs
  rw [hbv] at hown
  have hn : n = m.ml.length := by
    rcases hown.2 with ⟨h1, _⟩ | ⟨_, _, _, h1, _⟩
    · simp at h1
    · simp only [Value.slice.injEq] at h1; exact h1.2.1
  subst hn
  obtain ⟨a, b, c⟩ := lnCells_get _ _ _ hk
  exact ⟨own_cell hown a, own_cell hown b, own_cell hown c⟩
theorem Rep.frB (h : Rep w T t H m) {g n cap : Nat} (hbv : m.bv = .slice (some ⟨g, 0, none⟩) n cap) (i : Nat) : w.frozen? ⟨g, i, none⟩ = false := by
  have hown := h.bs
  rw [hbv] at hown
  obtain ⟨cur, hc⟩ := own_block hown (k := g) rfl
  exact frozen_of_blk hc i
theorem Rep.cellV (h : Rep w T t H m) {g n cap k : Nat} (hvv : m.vv = .slice (some ⟨g, 0, none⟩) n cap) (hk : k < H.vs.length) :
    w.cell? ⟨g, k * 2, none⟩ = some (.int .i64 (H.vs.getD k default).par) ∧ w.cell? ⟨g, k * 2 + 1, none⟩ = some (.int .i64 (H.vs.getD k default).root) := by
  have hown := h.vs
  rw [hvv] at hown
  have hn : n = H.vs.length := by
    rcases hown.2 with ⟨h1, _⟩ | ⟨_, _, _, h1, _⟩
    · simp at h1
    · simp only [Value.slice.injEq] at h1; exact h1.2.1
  subst hn
  have hcells := verCells_get H.vs k _ (List.getElem?_eq_getElem hk)
  rw [List.getD_eq_getElem?_getD, List.getElem?_eq_getElem hk]
  exact ⟨own_cell hown hcells.1, own_cell hown hcells.2⟩
theorem Mut.drew {v : Value} {H' : Hist} {e : Ending} {w' : World} (h : Mut v H' T t m w e w') : Mut v H' T t m w e w'.drew := by
  obtain ⟨he, m', hr, hf, ho⟩ := h
  exact ⟨he, m', hr.below ((Below.refl _ _).drew), hf.drew, ho⟩
end

end Go.Proofs.Ytalmfmijjbpnpaa
