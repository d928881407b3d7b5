/- The evaluator of closed calls, part Fc: what the program computes on given inputs, read by the kernel; sound in every world (part Gh). -/
import Derived.Test.YtendmajekgmkhaaGreatDoorFb
set_option linter.unusedVariables false
set_option linter.unusedSimpArgs false
set_option linter.unnecessarySimpa false
namespace Go.Ev

def dom (h : Heap) (n : Pos) : Prop := (h.at n).obj ≠ .free
def entG (m : Mp) (e : MEnt) : MapEntry := { key := γ m e.key, val := γ m e.val, born := e.born }
def BlkObj (m : Mp) (n : Pos) : AObj → Obj → Prop
  | .free, _ => True
  | .cells l e s, o => ∃ rest fz, o = .cells ⟨γs m l ++ rest⟩ e fz ∧ (γs m l ++ rest).length = m.c n * s ∧ ∀ j, j < (γs m l ++ rest).length → ¬ (fz.1 ≤ j ∧ j < fz.2)
  | .map es cl, o => o = .map ⟨es.map (entG m)⟩ cl
  | .sit s p, o => o = .stringIter ⟨⟨s⟩⟩ p
  | .mit none, o => o = .mapIter none 0 #[] 0
  | .mit (some k), o => ∃ c1 c2, o = .mapIter (some (m.b k)) c1 #[] c2
  | .loopR, o => ∃ lp : Loop, o = .loop lp ∧ lp.state = .ready ∧ lp.pending = none
  | .defN, o => o = .deferred (some [])
  | .other, _ => True
def InObj (D : Pos → Prop) : AObj → Prop
  | .cells l _ _ => InL D l
  | .map es _ => ∀ e ∈ es, In D e.key ∧ In D e.val
  | .mit (some k) => D k
  | _ => True
theorem InObj_mono {D D' : Pos → Prop} (h : ∀ n, D n → D' n) {ob : AObj} (hi : InObj D ob) : InObj D' ob := by
  cases ob with
  | cells l _ _ => exact InL_mono h l hi
  | map es _ => exact fun e he => ⟨In_mono h _ (hi e he).1, In_mono h _ (hi e he).2⟩
  | mit o => cases o with
    | none => trivial
    | some k => exact h k hi
  | _ => trivial
theorem BlkObj_congr {D : Pos → Prop} {m m' : Mp} {n : Pos} {ob : AObj} {o : Obj} (h : ∀ n, D n → m'.b n = m.b n ∧ m'.c n = m.c n) (hi : InObj D ob) (hc : m'.c n = m.c n)
    (hb : BlkObj m n ob o) : BlkObj m' n ob o := by
  cases ob with
  | cells l e s =>
    obtain ⟨rest, fz, h1, h2, h3⟩ := hb
    exact ⟨rest, fz, by rw [γs_congr h l hi]; exact h1, by rw [γs_congr h l hi, hc]; exact h2, by rw [γs_congr h l hi]; exact h3⟩
  | map es cl =>
    show o = _
    rw [show es.map (entG m') = es.map (entG m) from List.map_congr_left fun e he => by simp only [entG]; rw [γ_congr h _ (hi e he).1, γ_congr h _ (hi e he).2]]
    exact hb
  | mit k => cases k with
    | none => exact hb
    | some k => obtain ⟨c1, c2, h1⟩ := hb; exact ⟨c1, c2, by rw [(h k hi).1]; exact h1⟩
  | _ => exact hb
theorem BlkObj_take {m : Mp} {n : Pos} {l : List AVal} {e s : Nat} {o : Obj} (k : Nat) (hb : BlkObj m n (.cells l e s) o) : BlkObj m n (.cells (l.take k) e s) o := by
  obtain ⟨rest, fz, h1, h2, h3⟩ := hb
  have : γs m (l.take k) ++ (γs m (l.drop k) ++ rest) = γs m l ++ rest := by rw [← List.append_assoc, ← γs_append, List.take_append_drop]
  exact ⟨γs m (l.drop k) ++ rest, fz, by rw [this]; exact h1, by rw [this]; exact h2, by rw [this]; exact h3⟩

def AObj.isC : AObj → Bool
  | .cells .. => true
  | _ => false
structure Rep (G : Tabs) (m : Mp) (h : Heap) (w : World) : Prop where
  blk : ∀ n, dom h n → ∃ o, w.heap[m.b n]? = some o ∧ BlkObj m n (h.at n).obj o
  fresh : ∀ n, dom h n → n.n < h.nx.n
  apart : ∀ n k, dom h n → dom h k → (h.at n).rt ≠ (h.at k).rt → m.b n ≠ m.b k
  mem : ∀ n k, dom h n → dom h k → (h.at n).rt = (h.at k).rt → n ≠ k → n ∈ h.al.get [] (h.at n).rt ∧ (h.at n).obj.isC = true
  rts : ∀ n, dom h n → (h.at n).rt.n < h.nx.n ∧ dom h (h.at n).rt
  ins : ∀ n, InObj (dom h) (h.at n).obj
  glob : ∀ g l, G g = some l → (∃ rest e fz, w.heap[g]? = some (.cells ⟨l ++ rest⟩ e fz)) ∧ ∀ n, dom h n → m.b n ≠ g

theorem glob_kept {G : Tabs} {m m' : Mp} {h h' : Heap} {w w' : World} (gl : ∀ g l, G g = some l → (∃ rest e fz, w.heap[g]? = some (.cells ⟨l ++ rest⟩ e fz)) ∧ ∀ n, dom h n → m.b n ≠ g)
    (hkeep : ∀ b, b < w.heap.size → (∀ n, dom h n → m.b n ≠ b) → w'.heap[b]? = w.heap[b]?) (hb : ∀ n, dom h' n → (∃ k, dom h k ∧ m'.b n = m.b k) ∨ w.heap.size ≤ m'.b n) :
    ∀ g l, G g = some l → (∃ rest e fz, w'.heap[g]? = some (.cells ⟨l ++ rest⟩ e fz)) ∧ ∀ n, dom h' n → m'.b n ≠ g := fun g l hg => by
  obtain ⟨⟨rest, e, fz, h1⟩, h2⟩ := gl g l hg
  have hlt : g < w.heap.size := (Array.getElem?_eq_some_iff.1 h1).1
  refine ⟨⟨rest, e, fz, by rw [hkeep g hlt h2]; exact h1⟩, fun n hn => ?_⟩
  rcases hb n hn with ⟨k, hk, h3⟩ | h3
  · rw [h3]; exact h2 k hk
  · omega
structure Goes (m : Mp) (h : Heap) (w : World) (m' : Mp) (h' : Heap) (w' : World) : Prop where
  tape : w'.tape = w.tape
  os : w'.os = w.os
  output : w'.output = w.output
  size : w.heap.size ≤ w'.heap.size
  keep : ∀ b, b < w.heap.size → (∀ n, dom h n → m.b n ≠ b) → w'.heap[b]? = w.heap[b]?
  agree : ∀ n, n.n < h.nx.n → m'.b n = m.b n ∧ m'.c n = m.c n
  nx : h.nx.n ≤ h'.nx.n
  newd : ∀ n, dom h' n → dom h n ∨ h.nx.n ≤ n.n
  newb : ∀ n, dom h' n → ¬ dom h n → w.heap.size ≤ m'.b n ∨ ∃ k, dom h k ∧ m.b k = m'.b n
  old : ∀ n, dom h n → dom h' n
theorem Goes.refl (m : Mp) (h : Heap) (w : World) : Goes m h w m h w :=
  ⟨rfl, rfl, rfl, Nat.le_refl _, fun _ _ _ => rfl, fun _ _ => ⟨rfl, rfl⟩, Nat.le_refl _, fun _ h => .inl h, fun _ h h' => absurd h h', fun _ h => h⟩
theorem Goes.trans {G : Tabs} {m m1 m2 : Mp} {h g h2 : Heap} {w w1 w2 : World} (r : Rep G m h w) (r1 : Rep G m1 g w1) (a : Goes m h w m1 g w1) (b : Goes m1 g w1 m2 h2 w2) : Goes m h w m2 h2 w2 where
  tape := b.tape.trans a.tape
  os := b.os.trans a.os
  output := b.output.trans a.output
  size := Nat.le_trans a.size b.size
  keep := fun x hx hn => by
    rw [b.keep x (Nat.lt_of_lt_of_le hx a.size) (fun n hd => ?_), a.keep x hx hn]
    by_cases hd0 : dom h n
    · rw [(a.agree n (r.fresh n hd0)).1]; exact hn n hd0
    · rcases a.newb n hd hd0 with h3 | ⟨k, hk, he⟩
      · omega
      · rw [← he]; exact hn k hk
  agree := fun n hn => by
    have e1 := a.agree n hn
    have e2 := b.agree n (Nat.lt_of_lt_of_le hn a.nx)
    exact ⟨e2.1.trans e1.1, e2.2.trans e1.2⟩
  nx := Nat.le_trans a.nx b.nx
  newd := fun n hd => by
    rcases b.newd n hd with e1 | e1
    · exact a.newd n e1
    · exact .inr (Nat.le_trans a.nx e1)
  newb := fun n hd hn => by
    by_cases e1 : dom g n
    · rw [(b.agree n (r1.fresh n e1)).1]; exact a.newb n e1 hn
    · rcases b.newb n hd e1 with h3 | ⟨k, hk, he⟩
      · exact .inl (Nat.le_trans a.size h3)
      · by_cases hk0 : dom h k
        · exact .inr ⟨k, hk0, by rw [← he, (a.agree k (r.fresh k hk0)).1]⟩
        · rcases a.newb k hk hk0 with h4 | ⟨j, hj, hj2⟩
          · exact .inl (by rw [← he]; exact h4)
          · exact .inr ⟨j, hj, by rw [hj2, he]⟩
  old := fun n hd => b.old n (a.old n hd)

/-! ### Reading -/
theorem cellsOf_some {R : Type} {o : AObj} {k : List AVal → TypeId → Nat → Option R} {r : R} (h : cellsOf o none k = some r) : ∃ l e s, o = .cells l e s ∧ k l e s = some r := by
  cases o <;> first | cases h | exact ⟨_, _, _, rfl, h⟩
section
variable {G : Tabs} {m : Mp} {h : Heap} {w : World}
theorem Rep.cells (r : Rep G m h w) {n : Pos} {l : List AVal} {e s : Nat} (ho : (h.at n).obj = .cells l e s) :
    dom h n ∧ InL (dom h) l ∧ ∃ rest fz, w.heap[m.b n]? = some (.cells ⟨γs m l ++ rest⟩ e fz) ∧ (γs m l ++ rest).length = m.c n * s ∧ ∀ j, j < (γs m l ++ rest).length → ¬ (fz.1 ≤ j ∧ j < fz.2) := by
  have hd : dom h n := by unfold dom; rw [ho]; simp
  obtain ⟨o, h1, h2⟩ := r.blk n hd
  have hi := r.ins n
  rw [ho] at h2 hi
  obtain ⟨rest, fz, rfl, h4, h5⟩ := h2
  exact ⟨hd, hi, rest, fz, h1, h4, h5⟩
theorem Rep.cell (r : Rep G m h w) {n : Pos} {l : List AVal} {e s : Nat} (ho : (h.at n).obj = .cells l e s) {j : Nat} {v : AVal} (hj : l[j]? = some v) :
    w.cell? ⟨m.b n, j, none⟩ = some (γ m v) := by
  obtain ⟨_, _, rest, fz, h1, _, _⟩ := r.cells ho
  obtain ⟨hlt, rfl⟩ := List.getElem?_eq_some_iff.1 hj
  simp only [World.cell?, h1]
  simp [γs_map, List.getElem?_append, hlt]
theorem InL_mem {D : Pos → Prop} {l : List AVal} (h : InL D l) {j : Nat} {v : AVal} (hj : l[j]? = some v) : In D v := (InL_iff l).1 h v (List.mem_of_getElem? hj)
theorem Rep.load1 (r : Rep G m h w) {n : Pos} {off : Nat} {v : AVal} (hl : h.load1 n off = some v) : w.cell? ⟨m.b n, off, none⟩ = some (γ m v) ∧ In (dom h) v := by
  obtain ⟨l, e, s, ho, hk⟩ := cellsOf_some hl
  rw [nth_spec] at hk
  exact ⟨r.cell ho hk, InL_mem (r.cells ho).2.1 hk⟩
theorem add_at (b o j : Nat) : (⟨b, o, none⟩ : Addr).add j = ⟨b, o + j, none⟩ := by unfold Addr.add; split <;> simp_all
theorem Rep.loadN (r : Rep G m h w) {n : Pos} {off k : Nat} {l : List AVal} (hl : h.loadN n off k = some l) :
    l.length = k ∧ InL (dom h) l ∧ ∀ j v, (γs m l)[j]? = some v → w.cell? ((⟨m.b n, off, none⟩ : Addr).add j) = some v := by
  obtain ⟨x, e, s, ho, hk⟩ := cellsOf_some hl
  rw [dropA_spec] at hk
  obtain ⟨h1, rfl⟩ := takeA_spec _ _ _ hk
  have hi := (r.cells ho).2.1
  refine ⟨by simp at h1 ⊢; omega, (InL_iff _).2 fun v hv => (InL_iff _).1 hi v (List.mem_of_mem_drop (List.mem_of_mem_take hv)), fun j v hj => ?_⟩
  rw [add_at]
  rw [γs_map, List.getElem?_map] at hj
  cases hx : ((x.drop off).take k)[j]? with
  | none => simp [hx] at hj
  | some u =>
    simp [hx] at hj
    subst hj
    have hx' : x[off + j]? = some u := by
      have := hx
      rw [List.getElem?_take] at this
      split at this
      · simpa using this
      · cases this
    exact r.cell ho hx'
theorem Rep.run_loadN (r : Rep G m h w) {P : Program} {n : Pos} {off k : Nat} {l : List AVal} (hl : h.loadN n off k = some l) :
    (loadCells ⟨m.b n, off, none⟩ k).run P w = .ok ⟨γs m l⟩ w := by
  obtain ⟨h1, _, h3⟩ := r.loadN hl
  have := run_loadCells_list (P := P) w ⟨m.b n, off, none⟩ (γs m l) h3
  rw [γs_length, h1] at this
  rw [this]
end

/-! ### Writing -/
theorem flats_spec : ∀ (m : Mp) (l : List AVal), flats l = true → ∀ v ∈ γs m l, v.oneCell' = true := by
  intro m l
  induction l with
  | nil => intro _ v hv; cases hv
  | cons x l ih =>
    intro h v hv
    have h' : cond (flat1 x) (flats l) false = true := h
    cases hf : flat1 x with
    | false => rw [hf] at h'; cases h'
    | true =>
      rw [hf] at h'
      simp only [γs, List.mem_cons] at hv
      rcases hv with rfl | hv
      · cases x <;> first | (simp [flat1] at hf; done) | rfl | skip
        rename_i c
        cases c <;> rfl
      · exact ih h' v hv
theorem run_storeCells_nf (P : Program) (g o : Nat) (t : TypeId) (fz : Nat × Nat) : ∀ (vs : List Value) (i : Nat) (cur : Array Value) (w : World), w.heap[g]? = some (.cells cur t fz) → (∀ j, j < cur.size → ¬ (fz.1 ≤ j ∧ j < fz.2)) → o + i + vs.length ≤ cur.size → (∀ v ∈ vs, v.oneCell' = true) →
    (storeCells ⟨g, o, none⟩ vs i).run P w = .ok () (w.setRow g (cur.toList.take (o + i) ++ vs ++ cur.toList.drop (o + i + vs.length)).toArray)
  | [], i, cur, w, hg, _, _, _ => by
    simp only [storeCells, List.append_nil, List.length_nil, Nat.add_zero, List.take_append_drop, Array.toArray_toList]
    rw [setRow_self w g cur t fz hg]
    rfl
  | v :: rest, i, cur, w, hg, hfz, hl, h1 => by
    have hi : o + i < cur.size := by simp at hl; omega
    have hcell : w.cell? ⟨g, o + i, none⟩ = some cur[o + i] := by simp [World.cell?, hg, hi]
    have hfro : w.frozen? ⟨g, o + i, none⟩ = false := by
      have := hfz (o + i) hi
      simp only [World.frozen?, hg, Bool.and_eq_false_iff, decide_eq_false_iff_not]
      omega
    have hst : (store ((⟨g, o, none⟩ : Addr).add i) v).run P w = .ok () (w.setRow g (cur.setIfInBounds (o + i) v)) := by
      rw [add_at, run_store P w _ v _ (h1 v (by simp)), hcell]
      simp [hfro, setCell_eq_setRow w g (o + i) cur t fz v hg]
    have ih := run_storeCells_nf P g o t fz rest (i + 1) (cur.setIfInBounds (o + i) v) (w.setRow g (cur.setIfInBounds (o + i) v)) (setRow_heap w g cur _ t _ hg) (by simpa using hfz) (by simp at hl ⊢; omega) (fun x hx => h1 x (by simp [hx]))
    simp only [storeCells, Sem.run_bind, hst, Result.andThen_ok, ih, setRow_setRow]
    congr 3
    have e := list_seg_step cur.toList (o + i) v rest (by simp at hl ⊢; omega)
    simpa [Array.toList_setIfInBounds, Nat.add_assoc] using e

/-- What 'forget' does at a name. -/
theorem forget_at (off : Nat) (but : Pos) : ∀ (l : List Pos) (t : DTree Cell) (k : Pos),
    ((forget off but l t).get noCell k).rt = (t.get noCell k).rt ∧
    (((forget off but l t).get noCell k).obj = (t.get noCell k).obj ∨ ∃ x e s, (t.get noCell k).obj = .cells x e s ∧ ((forget off but l t).get noCell k).obj = .cells (x.take off) e s) ∧
    (k ∈ l → k ≠ but → ∀ x e s, (t.get noCell k).obj = .cells x e s → ((forget off but l t).get noCell k).obj = .cells (x.take off) e s) ∧
    (k = but → ((forget off but l t).get noCell k).obj = (t.get noCell k).obj)
  | [], t, k => ⟨rfl, .inl rfl, fun h => (by cases h), fun _ => rfl⟩
  | q :: l, t, k => by
    simp only [forget]
    cases hb : q.eqb but with
    | true =>
      have hq := (Pos.eqb_spec _ _).1 hb
      obtain ⟨h1, h2, h3, h4⟩ := forget_at off but l t k
      refine ⟨h1, h2, fun hk hne => ?_, h4⟩
      rcases List.mem_cons.1 hk with rfl | hk
      · exact absurd hq hne
      · exact h3 hk hne
    | false =>
      have hq : q ≠ but := fun e => by rw [(Pos.eqb_spec _ _).2 e] at hb; cases hb
      simp only [cond_false]
      cases ho : (t.get noCell q).obj with
      | cells x e s =>
        obtain ⟨h1, h2, h3, h4⟩ := forget_at off but l (t.set noCell ⟨.cells (x.take off) e s, (t.get noCell q).rt⟩ q) k
        simp only [cellsOf]
        rw [DTree.get_set] at h1 h2 h3 h4
        by_cases hqk : q = k
        · subst hqk
          rw [if_pos rfl] at h1 h2 h3 h4
          have key : ((forget off but l (t.set noCell ⟨.cells (x.take off) e s, (t.get noCell q).rt⟩ q)).get noCell q).obj = .cells (x.take off) e s := by
            rcases h2 with h2 | ⟨x', e', s', h5, h6⟩
            · exact h2
            · simp only [AObj.cells.injEq] at h5
              obtain ⟨rfl, rfl, rfl⟩ := h5
              rw [h6, List.take_take, Nat.min_self]
          refine ⟨h1, .inr ⟨x, e, s, ho, key⟩, fun _ _ x' e' s' h5 => ?_, fun e => absurd e hq⟩
          rw [ho] at h5; cases h5; exact key
        · rw [if_neg hqk] at h1 h2 h3 h4
          refine ⟨h1, h2, fun hk hne => ?_, h4⟩
          rcases List.mem_cons.1 hk with rfl | hk
          · exact absurd rfl hqk
          · exact h3 hk hne
      | _ =>
        obtain ⟨h1, h2, h3, h4⟩ := forget_at off but l t k
        simp only [cellsOf]
        refine ⟨h1, h2, fun hk hne => ?_, h4⟩
        rcases List.mem_cons.1 hk with rfl | hk
        · intro x e s hx; rw [ho] at hx; cases hx
        · exact h3 hk hne
end Go.Ev
