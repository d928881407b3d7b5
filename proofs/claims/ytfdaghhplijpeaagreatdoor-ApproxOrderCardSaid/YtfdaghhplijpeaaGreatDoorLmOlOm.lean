/-
  The parts of a node, in plain terms: what the heap's loop finds is what can be reached, in order.
-/
import Derived.Test.YtfdaghhplijpeaaGreatDoorLmOjOk
namespace Go.Proofs.YtfdaghhplijpeaaGreatDoor
open Go Go.RowKit

def ndAt (L : List Nd) (i : Int) : Nd := L.getD i.toNat nd0
/-- The operands of each node stand ahead of it. -/
def Ahead (L : List Nd) : Prop := ∀ i : Nat, i < L.length → ∀ a ∈ args (L.getD i nd0), 0 ≤ a ∧ a < (i : Int)
inductive Reach (L : List Nd) (id : Int) : Int → Prop
  | self : Reach L id id
  | step {x a : Int} : Reach L id x → a ∈ args (ndAt L x) → Reach L id a
theorem Reach.bound {L : List Nd} {id : Int} (hL : Ahead L) (h0 : 0 ≤ id) (h1 : id < L.length) {x : Int} (h : Reach L id x) : 0 ≤ x ∧ x ≤ id := by
  induction h with
  | self => exact ⟨h0, Int.le_refl _⟩
  | step h ha ih =>
    rename_i x a
    have hx : x.toNat < L.length := by omega
    have := hL x.toNat hx a ha
    omega
open Classical in
noncomputable def partsOf (L : List Nd) (id : Int) : List Int := ((List.range L.length).filter (fun i : Nat => decide (Reach L id ((i : Nat) : Int)))).map (fun i : Nat => (i : Int))
/-- Two ascending lists with the same members are one. -/
theorem asc_ext : ∀ {a b : List Int}, a.Pairwise (· < ·) → b.Pairwise (· < ·) → (∀ x, x ∈ a ↔ x ∈ b) → a = b
  | [], [], _, _, _ => rfl
  | [], y :: b, _, _, h => by have := (h y).2 (List.mem_cons_self ..); cases this
  | x :: a, [], _, _, h => by have := (h x).1 (List.mem_cons_self ..); cases this
  | x :: a, y :: b, ha, hb, h => by
    obtain ⟨a1, a2⟩ := List.pairwise_cons.1 ha
    obtain ⟨b1, b2⟩ := List.pairwise_cons.1 hb
    have e : x = y := by
      rcases List.mem_cons.1 ((h x).1 (List.mem_cons_self ..)) with e | e
      · exact e
      · rcases List.mem_cons.1 ((h y).2 (List.mem_cons_self ..)) with e' | e'
        · exact e'.symm
        · have := b1 x e; have := a1 y e'; omega
    subst e
    rw [asc_ext a2 b2 fun z => ?_]
    have hz := h z
    simp only [List.mem_cons] at hz
    constructor
    · intro hm
      rcases hz.1 (.inr hm) with e | e
      · subst e; have := a1 z hm; omega
      · exact e
    · intro hm
      rcases hz.2 (.inr hm) with e | e
      · subst e; have := b1 z hm; omega
      · exact e
theorem range_asc : ∀ n : Nat, (List.range n).Pairwise (· < ·) := fun _ => List.pairwise_lt_range
theorem partsOf_asc (L : List Nd) (id : Int) : (partsOf L id).Pairwise (· < ·) := by
  unfold partsOf
  rw [List.pairwise_map]
  exact ((range_asc L.length).filter _).imp fun h => by omega
theorem mem_partsOf {L : List Nd} {id : Int} (hL : Ahead L) (h0 : 0 ≤ id) (h1 : id < L.length) {x : Int} : x ∈ partsOf L id ↔ Reach L id x := by
  unfold partsOf
  simp only [List.mem_map, List.mem_filter, List.mem_range, decide_eq_true_eq]
  constructor
  · rintro ⟨i, ⟨_, h⟩, rfl⟩; exact h
  · intro h
    have := h.bound hL h0 h1
    exact ⟨x.toNat, ⟨by omega, by rw [Int.toNat_of_nonneg this.1]; exact h⟩, Int.toNat_of_nonneg this.1⟩
/-- How far the heap's loop has come: H lies in the heap, D has been taken out. -/
structure OrdI (L : List Nd) (id : Int) (H D : List Int) : Prop where
  rh : ∀ x ∈ H, Reach L id x
  rd : ∀ d ∈ D, Reach L id d
  desc : D.Pairwise fun a b => b < a
  le : ∀ x ∈ H, ∀ d ∈ D, x ≤ d
  id_ : id ∈ H ∨ id ∈ D
  cl : ∀ d ∈ D, ∀ a ∈ args (ndAt L d), a ∈ H ∨ a ∈ D
theorem ordI_start (L : List Nd) (id : Int) : OrdI L id [id] [] where
  rh := fun x hx => by simp at hx; subst hx; exact .self
  rd := fun d hd => by cases hd
  desc := .nil
  le := fun _ _ d hd => by cases hd
  id_ := .inl (by simp)
  cl := fun d hd => by cases hd
theorem ordI_dup {L : List Nd} {id m : Int} {H H' D : List Int} (h : OrdI L id H D) (hm : m ∈ D) (h1 : ∀ y ∈ H', y ∈ H) (h2 : ∀ y ∈ H, y ∈ H' ∨ y = m) : OrdI L id H' D where
  rh := fun x hx => h.rh x (h1 x hx)
  rd := h.rd
  desc := h.desc
  le := fun x hx d hd => h.le x (h1 x hx) d hd
  id_ := by
    rcases h.id_ with e | e
    · rcases h2 _ e with e | e
      · exact .inl e
      · exact .inr (by rw [e]; exact hm)
    · exact .inr e
  cl := fun d hd a ha => by
    rcases h.cl d hd a ha with e | e
    · rcases h2 _ e with e | e
      · exact .inl e
      · exact .inr (by rw [e]; exact hm)
    · exact .inr e
theorem ordI_lt {L : List Nd} {id m : Int} {H D : List Int} (h : OrdI L id H D) (hm : m ∈ H) (hl : ∀ z, D.getLast? = some z → z ≠ m) : ∀ d ∈ D, m < d := fun d hd => by
  have h1 := h.le m hm d hd
  rcases Int.lt_or_eq_of_le h1 with e | e
  · exact e
  · subst e
    exfalso
    cases hz : D.getLast? with
    | none => rw [List.getLast?_eq_none_iff] at hz; subst hz; cases hd
    | some z =>
      have hz' : z ∈ D := List.mem_of_getLast? hz
      have h2 := h.le m hm z hz'
      obtain ⟨D0, rfl⟩ : ∃ D0, D = D0 ++ [z] := by
        have := List.getLast?_eq_some_iff.1 hz
        exact this
      rcases List.mem_append.1 hd with e | e
      · have := (List.pairwise_append.1 h.desc).2.2 m e z (by simp)
        omega
      · simp at e
        exact hl z hz e.symm
theorem ordI_new {L : List Nd} {id m : Int} {H H' D : List Int} (hL : Ahead L) (h0 : 0 ≤ id) (h1 : id < L.length) (h : OrdI L id H D) (hm : m ∈ H) (hmax : ∀ y ∈ H, y ≤ m) (hl : ∀ z, D.getLast? = some z → z ≠ m)
    (hH : ∀ y, y ∈ H' → y ∈ H ∨ y ∈ args (ndAt L m)) (h2 : ∀ y ∈ H, y ∈ H' ∨ y = m) (h3 : ∀ y ∈ args (ndAt L m), y ∈ H') : OrdI L id H' (D ++ [m]) := by
  have hlt := ordI_lt h hm hl
  have hr := h.rh m hm
  have hb := hr.bound hL h0 h1
  have hargs : ∀ y ∈ args (ndAt L m), y < m := fun y hy => by
    have := hL m.toNat (by omega) y hy
    omega
  refine ⟨fun x hx => ?_, fun d hd => ?_, ?_, fun x hx d hd => ?_, ?_, fun d hd a ha => ?_⟩
  · rcases hH x hx with e | e
    · exact h.rh x e
    · exact .step hr e
  · rcases List.mem_append.1 hd with e | e
    · exact h.rd d e
    · simp at e; subst e; exact hr
  · refine List.pairwise_append.2 ⟨h.desc, by simp, fun a ha b hb' => ?_⟩
    simp at hb'; subst hb'; exact hlt a ha
  · have hxm : x ≤ m := by
      rcases hH x hx with e | e
      · exact hmax x e
      · have := hargs x e; omega
    rcases List.mem_append.1 hd with e | e
    · have := hlt d e; omega
    · simp at e; omega
  · rcases h.id_ with e | e
    · rcases h2 _ e with e | e
      · exact .inl e
      · exact .inr (by rw [e]; simp)
    · exact .inr (by simp [e])
  · rcases List.mem_append.1 hd with e | e
    · rcases h.cl d e a ha with e | e
      · rcases h2 _ e with e | e
        · exact .inl e
        · exact .inr (by rw [e]; simp)
      · exact .inr (by simp [e])
    · simp at e; subst e; exact .inl (h3 a ha)
theorem ordI_end {L : List Nd} {id : Int} {D : List Int} (hL : Ahead L) (h0 : 0 ≤ id) (h1 : id < L.length) (h : OrdI L id [] D) : D.reverse = partsOf L id := by
  refine asc_ext (List.pairwise_reverse.2 h.desc) (partsOf_asc L id) fun x => ?_
  rw [mem_partsOf hL h0 h1, List.mem_reverse]
  refine ⟨h.rd x, fun hr => ?_⟩
  induction hr with
  | self => rcases h.id_ with e | e; cases e; exact e
  | step _ ha ih => rcases h.cl _ ih _ ha with e | e; cases e; exact e
/-- The list of what has been taken out is no longer than the graph. -/
theorem ordI_len {L : List Nd} {id : Int} {H D : List Int} (hL : Ahead L) (h0 : 0 ≤ id) (h1 : id < L.length) (h : OrdI L id H D) : D.length ≤ L.length := by
  have key : ∀ (l : List Int) (b : Nat), l.Pairwise (fun a b => b < a) → (∀ d ∈ l, 0 ≤ d ∧ d < (b : Int)) → l.length ≤ b := by
    intro l
    induction l with
    | nil => intro b _ _; simp
    | cons x l ih =>
      intro b hp hb
      obtain ⟨p1, p2⟩ := List.pairwise_cons.1 hp
      have hx := hb x (List.mem_cons_self ..)
      have := ih x.toNat p2 fun d hd => ⟨(hb d (List.mem_cons_of_mem _ hd)).1, by have := p1 d hd; omega⟩
      simp only [List.length_cons]
      omega
  exact key D L.length h.desc fun d hd => by have := (h.rd d hd).bound hL h0 h1; omega
end Go.Proofs.YtfdaghhplijpeaaGreatDoor
/-
  Walk of approx.Order: the parts of a node, ascending.
-/
namespace Go.Proofs.YtfdaghhplijpeaaGreatDoor
open Go Go.RowKit

/-- How far the loop has come: the heap H lies in block q, what has been taken out is D, in the row dv. -/
structure OrdW (W wr : World) (q : Nat) (L : List Nd) (id : Int) (hv dv : Value) (H D : List Int) : Prop where
  heap : HeapR wr W.heap.size q hv H
  ho : HO H
  down : wr.ownsRow W.heap.size 3 1 dv D.length (ints D)
  q0 : W.heap.size ≤ q
  apart : ∀ k, hv.ownBlock = some k → dv.ownBlock ≠ some k
  qd : dv.ownBlock ≠ some q
  inv : OrdI L id H D
  below : Below W.heap.size W wr
  len : H.length ≤ 2 * D.length + 1
theorem run_int (x : Int) : ∀ w : World, Sem.run Tryz.prog (Instr.typeAssert (.iface 3 (.int .i64 x)) 20 3 false) w = .ok (.int .i64 x) w := fun w => run_num x w
theorem GraphR.below {w w' : World} {B p : Nat} {v m : Value} {L : List Nd} (h : GraphR w B p v m L) (hb : Below w.heap.size w w') : GraphR w' B p v m L :=
  ⟨(hb.block p (Array.getElem?_eq_some_iff.1 h.blk).1).trans h.blk, h.nds.frame (Fr.of_below (S := fun _ => False) hb) (fun _ _ e => e)⟩
def sliceLen : Value → Nat
  | .slice _ n _ => n
  | _ => 0
def ordM (q : Nat) (dv : Value) (wr : World) : Nat := 3 * (5000 - sliceLen dv) + sliceLen ((wr.cell? ⟨q, 0, none⟩).getD undef)
theorem row_slice {w : World} {B n : Nat} {v : Value} {xs : List Value} (h : w.ownsRow B 3 1 v n xs) : ∃ a c, v = .slice a n c := by
  rcases h.2 with ⟨rfl, e⟩ | ⟨g, c, _, rfl, _⟩
  · rw [e]; exact ⟨_, _, rfl⟩
  · exact ⟨_, _, rfl⟩
theorem OrdW.measure {W wr : World} {q : Nat} {L : List Nd} {id : Int} {hv dv : Value} {H D : List Int} (h : OrdW W wr q L id hv dv H D) : ordM q dv wr = 3 * (5000 - D.length) + H.length := by
  obtain ⟨a, c, rfl⟩ := row_slice h.down
  have := h.heap.cell
  obtain ⟨a', c', rfl⟩ := h.heap.slice
  unfold ordM
  rw [this]
  rfl
theorem ordW_start {W w1 : World} {L : List Nd} {i : Nat} {o : Obj} (hb : Below W.heap.size W w1) :
    OrdW W (((w1.alloc o).alloc (.cells #[.int .i64 i] 3)).alloc (.cells #[.slice (some ⟨w1.heap.size + 1, 0, none⟩) 1 1] 67)) (w1.heap.size + 1 + 1) L i (.slice (some ⟨w1.heap.size + 1, 0, none⟩) 1 1) (.slice none 0 0) [(i : Int)] [] where
  heap := by
    have hs := hb.size
    refine ⟨?_, ?_, ?_⟩
    · show ((((w1.heap.push o).push _).push _))[w1.heap.size + 1 + 1]? = _
      rw [Array.getElem?_push, if_pos (by simp)]
    · have := World.ownsRow_lit (base := W.heap.size) (e := 3) (size := 1) (w1.alloc o) #[.int .i64 i] 1 (by simp; omega) (by unfold maxLen; omega) rfl
      simpa [ints] using this.alloc _
    · simp [Value.ownBlock]
  ho := fun i h0 h1 => by simp at h1; omega
  down := World.ownsRow_nil _ _ _ _
  q0 := by have := hb.size; omega
  apart := fun k _ => by simp [Value.ownBlock]
  qd := by simp [Value.ownBlock]
  inv := ordI_start L i
  below := by
    have hs := hb.size
    exact ((hb.alloc hs _).alloc (by simp; omega) _).alloc (by simp; omega) _
  len := by simp
/-- Behind a Pop. -/
structure PopW (W wr w' : World) (q : Nat) (L : List Nd) (id : Int) (hv dv v' : Value) (H D l' : List Int) (n : Nat) : Prop where
  old : OrdW W wr q L id hv dv H D
  heap : HeapR w' W.heap.size q v' l'
  ho : HO l'
  len : l'.length = n
  mem : ∀ y, y ∈ l' → y ∈ H
  mem' : ∀ y, y ∈ H → y ∈ l' ∨ y = H.getD 0 0
  own : v'.ownBlock = hv.ownBlock
  down : w'.ownsRow W.heap.size 3 1 dv D.length (ints D)
  below : Below W.heap.size W w'
  hn : H.length = n + 1
theorem popW_of {W wr w' : World} {q n : Nat} {L : List Nd} {id : Int} {hv dv v' : Value} {H D l' : List Int} (h : OrdW W wr q L id hv dv H D) (hn : H.length = n + 1)
    (p : HeapR w' W.heap.size q v' l' ∧ HO l' ∧ l'.length = n ∧ (∀ y, y ∈ l' → y ∈ H) ∧ (∀ y, y ∈ H → y ∈ l' ∨ y = H.getD 0 0) ∧ v'.ownBlock = hv.ownBlock ∧ Fr (fun k => k = q ∨ hv.ownBlock = some k) wr w') : PopW W wr w' q L id hv dv v' H D l' n where
  old := h
  heap := p.1
  ho := p.2.1
  len := p.2.2.1
  mem := p.2.2.2.1
  mem' := p.2.2.2.2.1
  own := p.2.2.2.2.2.1
  down := own_frame h.down p.2.2.2.2.2.2 fun k hk e => by
    rcases e with rfl | e
    · exact h.qd hk
    · exact h.apart k e hk
  below := h.below.trans (p.2.2.2.2.2.2.below_of (fun k hk e => by
    rcases e with rfl | e
    · have := h.q0; omega
    · have := (h.heap.own.lt k e).1; omega) h.below.size)
  hn := hn
theorem PopW.memm {W wr w' : World} {q n : Nat} {L : List Nd} {id : Int} {hv dv v' : Value} {H D l' : List Int} (h : PopW W wr w' q L id hv dv v' H D l' n) : H.getD 0 0 ∈ H :=
  mem_getD.2 ⟨0, by have := h.hn; omega, rfl⟩
theorem PopW.dup {W wr w' : World} {q n : Nat} {L : List Nd} {id : Int} {hv dv v' : Value} {H D l' : List Int} (h : PopW W wr w' q L id hv dv v' H D l' n) (hm : H.getD 0 0 ∈ D) : OrdW W w' q L id v' dv l' D where
  heap := h.heap
  ho := h.ho
  down := h.down
  q0 := h.old.q0
  apart := fun k hk => h.old.apart k (by rw [← h.own]; exact hk)
  qd := h.old.qd
  inv := ordI_dup h.old.inv hm h.mem h.mem'
  below := h.below
  len := by have := h.old.len; have := h.len; have := h.hn; omega
/-- append of one number, a step of a list in the text's order. -/
theorem app_down {ops : Array Oper} {rest : List Oper} {o : Oper} {a : Act} {w : World} {Q : Exit → Act → World → Prop} (hgd : o.guard = none) (s x : Operand) (ho : o.op = .call { callee := .builtin .append, args := #[s, x], argTypes := #[22, 22] })
    (base : Nat) (hbase : base ≤ w.heap.size) (v : Value) (n : Nat) (xs : List Value) (hs : a.eval s = v) (hown : w.ownsRow base 3 1 v n xs) (B : Nat) (p : Value) (hx : a.eval x = .slice (some ⟨B, 0, none⟩) 1 1)
    (hB : w.heap[B]? = some (.cells #[p] 3 (0, 0))) (h1 : p.oneCell' = true) (hn : n ≤ 100000)
    (h : ∀ g cap w', w'.ownsRow base 3 1 (.slice (some ⟨g, 0, none⟩) (n + 1) cap) (n + 1) (xs ++ [p]) → Fr (fun k => v.ownBlock = some k) w w' → (v.ownBlock = some g ∨ w.heap.size ≤ g) →
      wpList Tryz.prog ops Q rest (a.put o.dst (.slice (some ⟨g, 0, none⟩) (n + 1) cap)) w') : wpList Tryz.prog ops Q (o :: rest) a w := by
  obtain ⟨i0, hi0, hz0, hz1, hz2⟩ := info_parts Tryz.info3
  refine wpList_append_lies w hgd s x 22 ho base 3 i0 _ 1 8 Tryz.underlying22 hi0 hz0 hz1 hz2 rfl (by omega) v n xs hs hown ⟨B, 0, none⟩ 1 1 [p] hx rfl (World.news_of_block (cs := #[p]) hB)
    (by intro u hu; simp at hu; rw [hu]; exact h1) (by omega) (by unfold maxLen; omega) (by omega) hbase w.heap.size rfl ?_
  intro g cap w' h2 h3 h4 _
  exact h g cap w' h2 (fr_of_grown h3) (h4.imp id (fun e => by omega))
/-- Behind the append of a number that is new. -/
structure NewW (W wr w5 : World) (q : Nat) (L : List Nd) (id : Int) (hv dv v' dv' : Value) (H D l' : List Int) (n : Nat) : Prop where
  pop : ∃ w4, PopW W wr w4 q L id hv dv v' H D l' n
  heap : HeapR w5 W.heap.size q v' l'
  ho : HO l'
  down : w5.ownsRow W.heap.size 3 1 dv' (D.length + 1) (ints (D ++ [H.getD 0 0]))
  apart : ∀ k, v'.ownBlock = some k → dv'.ownBlock ≠ some k
  qd : dv'.ownBlock ≠ some q
  below : Below W.heap.size W w5
theorem newW_of {W wr w4 w5 : World} {q n g cap dn : Nat} {L : List Nd} {id t : Int} {hv dv v' : Value} {H D l' : List Int} {o : Obj} (h : PopW W wr w4 q L id hv dv v' H D l' n) (ht : H.getD 0 0 = t) (hdn : D.length = dn)
    (h1 : w5.ownsRow W.heap.size 3 1 (.slice (some ⟨g, 0, none⟩) (dn + 1) cap) (dn + 1) (ints D ++ [.int .i64 t])) (h2 : Fr (fun k => dv.ownBlock = some k) (w4.alloc o) w5) (h3 : dv.ownBlock = some g ∨ (w4.alloc o).heap.size ≤ g) :
    NewW W wr w5 q L id hv dv v' (.slice (some ⟨g, 0, none⟩) (dn + 1) cap) H D l' n := by
  subst hdn
  have hsz : (w4.alloc o).heap.size = w4.heap.size + 1 := by simp
  have hlt := h.heap.lt
  have hF : Fr (fun k => dv.ownBlock = some k) w4 w5 := ((Fr.refl (fun k => dv.ownBlock = some k) w4).alloc o).trans h2 (fun _ _ e => e)
  refine ⟨⟨_, h⟩, h.heap.frame hF h.old.qd (fun k hk e => ?_), h.ho, ?_, fun k hk e => ?_, fun e => ?_, h.below.trans (hF.below_of (fun k hk e => by have := (h.down.lt k e).1; omega) h.below.size)⟩
  · exact h.old.apart k (by rw [← h.own]; exact hk) e
  · rw [ht]
    have : ints (D ++ [t]) = ints D ++ [.int .i64 t] := by simp [ints]
    rw [this]; exact h1
  · have e' : g = k := by simpa [Value.ownBlock] using e
    subst e'
    rcases h3 with h3 | h3
    · exact h.old.apart g (by rw [← h.own]; exact hk) h3
    · have := (h.heap.own.lt g hk).2; omega
  · have e' : g = q := by simpa [Value.ownBlock] using e
    subst e'
    rcases h3 with h3 | h3
    · exact h.old.qd h3
    · omega
theorem NewW.quiet {W wr w5 w6 : World} {q n : Nat} {L : List Nd} {id : Int} {hv dv v' dv' : Value} {H D l' : List Int} (h : NewW W wr w5 q L id hv dv v' dv' H D l' n) (hf : Fr (fun _ => False) w5 w6) : NewW W wr w6 q L id hv dv v' dv' H D l' n where
  pop := h.pop
  heap := h.heap.quiet hf
  ho := h.ho
  down := own_frame h.down hf (fun _ _ e => e)
  apart := h.apart
  qd := h.qd
  below := h.below.trans (hf.below.mono h.below.size)
/-- While the operands zs (in the row av) are pushed: k of them lie in the heap. -/
structure PushW (W wr : World) (q : Nat) (dv' av hv2 : Value) (l' H2 zs D' : List Int) (k : Nat) : Prop where
  heap : HeapR wr W.heap.size q hv2 H2
  ho : HO H2
  len : H2.length = l'.length + k
  mem : ∀ y, y ∈ H2 ↔ y ∈ l' ∨ y ∈ zs.take k
  down : wr.ownsRow W.heap.size 3 1 dv' D'.length (ints D')
  row : ∃ B, wr.ownsRow B 3 1 av zs.length (ints zs)
  apart : ∀ k, hv2.ownBlock = some k → dv'.ownBlock ≠ some k ∧ av.ownBlock ≠ some k
  qd : dv'.ownBlock ≠ some q
  qa : av.ownBlock ≠ some q
  below : Below W.heap.size W wr
theorem pushW_start {W wr w6 w8 : World} {q n : Nat} {L : List Nd} {id : Int} {hv dv v' dv' av : Value} {H D l' : List Int} {y : Nd} (h : NewW W wr w6 q L id hv dv v' dv' H D l' n) (ha : ArgsP w6 y av w8) : PushW W w8 q dv' av v' l' l' (args y) (D ++ [H.getD 0 0]) 0 where
  heap := h.heap.frame (S := fun _ => False) (Fr.of_below ha.1) (fun e => e) (fun _ _ e => e)
  ho := h.ho
  len := rfl
  mem := fun y => by simp
  down := by
    have := own_frame (S := fun _ => False) h.down (Fr.of_below ha.1) (fun _ _ e => e)
    simpa using this
  row := ⟨_, ha.2⟩
  apart := fun k hk => ⟨h.apart k hk, fun e => by have := (ha.2.lt k e).1; have := (h.heap.own.lt k hk).2; omega⟩
  qd := h.qd
  qa := fun e => by have := (ha.2.lt q e).1; have := h.heap.lt; omega
  below := h.below.trans (ha.1.mono h.below.size)
theorem pushW_next {W wr w' : World} {q k : Nat} {dv' av hv2 hv3 : Value} {l' H2 H3 zs D' : List Int} (h : PushW W wr q dv' av hv2 l' H2 zs D' k) (hk : k < zs.length)
    (p : HeapR w' W.heap.size q hv3 H3 ∧ HO H3 ∧ H3.length = H2.length + 1 ∧ (∀ y, y ∈ H3 ↔ y = zs.getD k 0 ∨ y ∈ H2) ∧ (∀ k, hv3.ownBlock = some k → hv2.ownBlock = some k ∨ wr.heap.size ≤ k) ∧ Fr (fun k => k = q ∨ hv2.ownBlock = some k) wr w')
    (hq : W.heap.size ≤ q) : PushW W w' q dv' av hv3 l' H3 zs D' (k + 1) := by
  obtain ⟨p1, p2, p3, p4, p5, p6⟩ := p
  obtain ⟨B, hrow⟩ := h.row
  refine ⟨p1, p2, by have := h.len; omega, fun y => ?_, own_frame h.down p6 fun j hj e => ?_, ⟨B, own_frame hrow p6 fun j hj e => ?_⟩, fun j hj => ?_, h.qd, h.qa, h.below.trans (p6.below_of (fun j hj e => ?_) h.below.size)⟩
  · rw [p4 y, h.mem y, List.take_add_one, List.mem_append]
    have e : zs[k]? = some (zs.getD k 0) := by rw [List.getD_eq_getElem?_getD, List.getElem?_eq_getElem hk]; rfl
    rw [e]
    simp only [Option.toList_some, List.mem_singleton]
    constructor
    · rintro (e | e | e)
      · exact .inr (.inr e)
      · exact .inl e
      · exact .inr (.inl e)
    · rintro (e | e | e)
      · exact .inr (.inl e)
      · exact .inr (.inr e)
      · exact .inl e
  · rcases e with rfl | e
    · exact h.qd hj
    · exact (h.apart j e).1 hj
  · rcases e with rfl | e
    · exact h.qa hj
    · exact (h.apart j e).2 hj
  · rcases p5 j hj with e | e
    · exact h.apart j e
    · exact ⟨fun e' => by have := (h.down.lt j e').2; omega, fun e' => by have := (hrow.lt j e').2; omega⟩
  · rcases e with rfl | e
    · omega
    · have := (h.heap.own.lt j e).1; omega
theorem ordM_lt {W wr wr' : World} {q : Nat} {L : List Nd} {id : Int} {hv hv' dv dv' : Value} {H H' D D' : List Int} (h : OrdW W wr q L id hv dv H D) (h' : OrdW W wr' q L id hv' dv' H' D') (c : 3 * (5000 - D'.length) + H'.length < 3 * (5000 - D.length) + H.length) : ordM q dv' wr' < ordM q dv wr := by
  rw [h.measure, h'.measure]; exact c
theorem args_len (x : Nd) : (args x).length ≤ 2 := by unfold args; split; simp; split <;> simp
theorem newW_end {W wr w5 w' : World} {q n : Nat} {L : List Nd} {id : Int} {hv dv v' dv' av hv2 : Value} {H D l' H2 : List Int} {y : Nd} (hL : Ahead L) (h0 : 0 ≤ id) (h1 : id < L.length)
    (h : NewW W wr w5 q L id hv dv v' dv' H D l' n) (hl : ∀ z, D.getLast? = some z → z ≠ H.getD 0 0) (hy : ndAt L (H.getD 0 0) = y) (hp : PushW W w' q dv' av hv2 l' H2 (args y) (D ++ [H.getD 0 0]) (args y).length) :
    OrdW W w' q L id hv2 dv' H2 (D ++ [H.getD 0 0]) := by
  obtain ⟨w4, hw4⟩ := h.pop
  have hm := hp.mem
  rw [List.take_length] at hm
  exact {
    heap := hp.heap
    ho := hp.ho
    down := hp.down
    q0 := hw4.old.q0
    apart := fun k hk => (hp.apart k hk).1
    qd := hp.qd
    inv := ordI_new hL h0 h1 hw4.old.inv hw4.memm (fun y hy => heap_max_mem hw4.old.ho hy) hl
      (fun z hz => ((hm z).1 hz).imp (hw4.mem z) (fun e => by rw [hy]; exact e))
      (fun z hz => (hw4.mem' z hz).imp (fun e => (hm z).2 (.inl e)) (fun e => e))
      (fun z hz => (hm z).2 (.inr (by rw [← hy]; exact hz)))
    below := hp.below
    len := by
      have a1 := hp.len
      have a2 := hw4.len
      have a3 := hw4.hn
      have a4 := hw4.old.len
      have a5 := args_len y
      simp only [List.length_append, List.length_cons, List.length_nil]
      omega }
/-- While the list is turned round: k of its numbers stand in the new row g. -/
structure TurnW (W wr : World) (g : Nat) (dv : Value) (D E : List Int) (k : Nat) : Prop where
  row : wr.ownsRow W.heap.size 3 1 (.slice (some ⟨g, 0, none⟩) D.length D.length) D.length (ints E)
  len : E.length = D.length
  done : ∀ j, j < k → E.getD (D.length - 1 - j) 0 = D.getD j 0
  down : wr.ownsRow W.heap.size 3 1 dv D.length (ints D)
  ne : dv.ownBlock ≠ some g
  g0 : W.heap.size ≤ g
  below : Below W.heap.size W wr
theorem getD_set' {l : List Int} {i : Nat} (hi : i < l.length) (x : Int) (j : Nat) : (l.set i x).getD j 0 = if i = j then x else l.getD j 0 := by
  rw [List.getD_eq_getElem?_getD, List.getElem?_set]
  by_cases e : i = j
  · subst e; simp [hi]
  · rw [if_neg e, if_neg e, List.getD_eq_getElem?_getD]
theorem turnW_next {W wr : World} {g k : Nat} {dv : Value} {D E : List Int} (h : TurnW W wr g dv D E k) (hk : k < D.length) : TurnW W (wr.setCell ⟨g, D.length - 1 - k, none⟩ (.int .i64 (D.getD k 0))) g dv D (E.set (D.length - 1 - k) (D.getD k 0)) (k + 1) where
  row := by rw [ints_set]; exact (h.row.stored _ _).1
  len := by rw [List.length_set]; exact h.len
  done := fun j hj => by
    rw [getD_set' (by have := h.len; omega)]
    by_cases e : j = k
    · subst e; rw [if_pos rfl]
    · rw [if_neg (by omega)]; exact h.done j (by omega)
  down := own_frame (S := fun k => k = g) h.down ((Fr.refl _ wr).setCell _ (fun _ => rfl)) (fun k hk e => h.ne (by rw [hk, e]))
  ne := h.ne
  g0 := h.g0
  below := h.below.setCell (by exact h.g0) _
theorem turnW_end {W wr : World} {g : Nat} {dv : Value} {D E : List Int} (h : TurnW W wr g dv D E D.length) : E = D.reverse := by
  apply List.ext_getElem?
  intro i
  by_cases hi : i < D.length
  · have h1 := h.done (D.length - 1 - i) (by omega)
    rw [show D.length - 1 - (D.length - 1 - i) = i by omega] at h1
    rw [List.getElem?_eq_getElem (by have := h.len; omega), List.getElem?_reverse hi, List.getElem?_eq_getElem (by omega)]
    rw [List.getD_eq_getElem?_getD, List.getElem?_eq_getElem (by have := h.len; omega), List.getD_eq_getElem?_getD, List.getElem?_eq_getElem (by omega)] at h1
    simpa using h1
  · rw [List.getElem?_eq_none (by have := h.len; omega), List.getElem?_eq_none (by simp; omega)]
theorem turnW_start {W w3 w5 : World} {q dn : Nat} {L : List Nd} {id : Int} {hv dv : Value} {H D : List Int} (h : OrdW W w3 q L id hv dv H D) (hdn : D.length = dn)
    (h1 : w5.ownsRow W.heap.size 3 1 (.slice (some ⟨w3.heap.size, 0, none⟩) dn dn) dn (madeCells (Value.int .i64 0).cells (dn * 1)).toList) (h2 : w3.grownBy w5 none) : TurnW W w5 w3.heap.size dv D (List.replicate D.length 0) 0 where
  row := by
    subst hdn
    have e : (madeCells (Value.int .i64 0).cells (D.length * 1)).toList = ints (List.replicate D.length 0) := by
      show (madeCells #[.int .i64 0] (D.length * 1)).toList = _
      rw [toList_madeCells_one, Nat.mul_one]
      simp [ints]
    rw [← e]; exact h1
  len := by simp
  done := fun j hj => by omega
  down := own_frame h.down (fr_of_grown h2) (fun k _ e => by cases e)
  ne := fun e => by have := (h.down.lt _ e).2; omega
  g0 := h.below.size
  below := h.below.trans ((fr_of_grown h2).below_of (fun k _ e => by cases e) h.below.size)
set_option maxRecDepth 100000 in
set_option maxHeartbeats 8000000 in
theorem order_calls {W : World} {B p : Nat} {v m : Value} {L : List Nd} (hg : GraphR W B p v m L) (hL : Ahead L) (hk : ∀ i, i < L.length → 1 ≤ (L.getD i nd0).k ∧ (L.getD i nd0).k ≤ 16) (hl : L.length ≤ 4096) {i : Nat} (hi : i < L.length) :
    Calls Tryz.prog 9 #[ptr p, .int .i64 i] W fun e w' => ∃ ov, e = .returned ov ∧ w'.ownsRow W.heap.size 3 1 ov (partsOf L i).length (ints (partsOf L i)) ∧ Below W.heap.size W w' := by
  have G := Lib.hid (And.intro hg (And.intro hL (And.intro hk (And.intro hl hi))))
  have hp : p < W.heap.size := (Array.getElem?_eq_some_iff.1 hg.blk).1
  clear hg hL hk hl hi
  unfold ptr
  go_enter Tryz.func9, Tryz.ntmps9
  go_wp2_with fail
  refine (node_calls G.out.1 G.out.2.2.2.2 (by have := G.out.2.2.2.1; omega) rfl).mono ?_
  rintro e w1 ⟨rfl, hf1⟩
  unfold ndVal
  generalize L.getD i nd0 = x
  have HF1 := Lib.hid hf1.below
  clear hf1
  go_wp2_with fail
  have hO := ordW_start (L := L) (i := i) (o := .cells #[.int .i64 x.k, .int .i64 x.a, .int .i64 x.b, .int .i64 x.n, .string x.t] 63) HF1.out
  obtain ⟨q, hq⟩ : ∃ q, w1.heap.size + 1 + 1 = q := ⟨_, rfl⟩
  rw [hq] at hO ⊢
  generalize ((w1.alloc (.cells #[.int .i64 x.k, .int .i64 x.a, .int .i64 x.b, .int .i64 x.n, .string x.t] 63)).alloc (.cells #[.int .i64 i] 3)).alloc (.cells #[.slice (some ⟨w1.heap.size + 1, 0, none⟩) 1 1] 67) = w2 at hO ⊢
  have HO2 := Lib.hid hO
  clear hO hq
  go_loopw [8] (fun dv wr => ∃ hv H D, OrdW W wr q L i hv dv H D) (fun dv wr => ordM q dv wr)
  case atStart => exact ⟨_, _, _, HO2.out⟩
  case round =>
    obtain ⟨hv, H, D, hO⟩ := hrel
    obtain ⟨da, dc, rfl⟩ := row_slice hO.down
    have HO := Lib.hid hO
    clear hO HO2 HF1
    go_wp2_with fail
    refine (len_calls HO.out.heap).mono ?_
    rintro e w3 ⟨rfl, rfl⟩
    by_cases h0 : H.length = 0
    · rw [h0]
      obtain ⟨i0, hi0, hz0, hz1, hz2⟩ := info_parts Tryz.info3
      obtain ⟨dn, hdn⟩ : ∃ dn, D.length = dn := ⟨_, rfl⟩
      have hdl : dn ≤ 4096 := by
        have h1 := ordI_len G.out.2.1 (id := (i : Int)) (by omega) (by have := G.out.2.2.2.2; omega) HO.out.inv
        have := G.out.2.2.2.1
        omega
      have HDN := Lib.hid (And.intro hdn h0)
      rw [hdn]
      clear hdn h0
      go_wp2_with (refine wpList_make_full w3 rfl (.tmp 72) (.tmp 72) 22 rfl W.heap.size 3 i0 _ 1 Tryz.underlying22 hi0 hz0 hz1 _ _ _ _ dn rfl rfl rfl rfl (by rw [hz2]; omega) (by unfold maxLen; omega) HO.out.below.size ?_; intro w5 ho5 hg5; have HTU := Lib.hid (turnW_start HO.out HDN.out.1 ho5 hg5); clear ho5 hg5)
      obtain ⟨g, hgq⟩ : ∃ g, w3.heap.size = g := ⟨_, rfl⟩
      rw [hgq] at HTU ⊢
      clear hgq hi0 hz0 hz1 hz2
      go_loopw [76] (fun kv wr => ∃ (k : Nat) (E : List Int), kv = .int .i64 (k : Int) ∧ k ≤ dn ∧ TurnW W wr g (.slice da D.length dc) D E k) (fun kv _ => dn - (intOf kv).toNat)
      case atStart => exact ⟨0, _, rfl, by omega, HTU.out⟩
      case round =>
        obtain ⟨k, E, rfl, hk, htw⟩ := hrel
        have HTW := Lib.hid htw
        by_cases hka : k < dn
        · obtain ⟨a4, c4, e4, hcell4⟩ := row_cells htw.down
          obtain ⟨g4, e5, hc4⟩ := hcell4 k (by rw [HDN.out.1]; exact hka)
          cases e4
          subst e5
          obtain ⟨z, hz⟩ : ∃ z, D.getD k 0 = z := ⟨_, rfl⟩
          rw [hz] at hc4
          obtain ⟨b, hb⟩ : ∃ b, dn - 1 - k = b := ⟨_, rfl⟩
          have hbl : b < E.length := by have := htw.len; have := HDN.out.1; omega
          have hcb : wr.cell? ⟨g, b, none⟩ = some (.int .i64 (E.getD b 0)) := by
            have h1 := htw.row
            rw [← htw.len] at h1
            have h2 := h1.cellAt b (by omega)
            rw [h2, ints_get hbl]
          have hfb := htw.row.frozenAt b
          obtain ⟨u, hu⟩ : ∃ u, E.getD b 0 = u := ⟨_, rfl⟩
          rw [hu] at hcb
          obtain ⟨m2, hm2⟩ : ∃ m2 : Int, (dn : Int) - 1 = m2 := ⟨_, rfl⟩
          have hw1 : IntKind.i64.wrap ((dn : Int) - 1) = m2 := by rw [← hm2]; exact IntWalk.i64_in _ ⟨by omega, by omega⟩
          have hw2 : IntKind.i64.wrap (m2 - (k : Int)) = (b : Int) := by rw [← hm2, IntWalk.i64_in _ ⟨by omega, by omega⟩]; omega
          have hk0 : (0 : Int) ≤ (k : Int) := by omega
          have hk1 : (k : Int) < (dn : Int) := by omega
          have hb0 : (0 : Int) ≤ (b : Int) := by omega
          have hb1 : (b : Int) < (dn : Int) := by omega
          have HNX := Lib.hid (by have h1 := turnW_next htw (by rw [HDN.out.1]; exact hka); rw [show D.length - 1 - k = b by rw [HDN.out.1]; exact hb, hz] at h1; exact h1 : TurnW W (wr.setCell ⟨g, b, none⟩ (.int .i64 z)) g (.slice (some ⟨g4, 0, none⟩) D.length dc) D (E.set b z) (k + 1))
          have HKA := Lib.hid hka
          clear htw HTW hcell4 hz hb hbl hu hm2 hka hk HTU HO
          go_wp2_with fail
          go_roundw
          case rel => exact ⟨k + 1, _, by go_num, by have := HKA.out; omega, HNX.out⟩
          case measure => have := HKA.out; simp [intOf]; omega
        · have hke : k = dn := by omega
          have hend : D.reverse = partsOf L i := by
            have h1 := HO.out.inv
            rw [List.eq_nil_of_length_eq_zero HDN.out.2] at h1
            exact ordI_end G.out.2.1 (by omega) (by have := G.out.2.2.2.2; omega) h1
          have hfin : wr.ownsRow W.heap.size 3 1 (.slice (some ⟨g, 0, none⟩) dn dn) (partsOf L i).length (ints (partsOf L i)) ∧ Below W.heap.size W wr := by
            rw [hke, ← HDN.out.1] at htw
            have h1 := turnW_end htw
            have h2 := htw.row
            rw [h1] at h2
            rw [← HDN.out.1]
            refine ⟨?_, htw.below⟩
            rw [← hend, List.length_reverse]
            exact h2
          have HFIN := Lib.hid hfin
          subst hke
          clear htw HTW hend hfin hk HTU HO
          go_wp2_with fail
          go_ret
          exact ⟨_, rfl, HFIN.out⟩
    · obtain ⟨n, hn⟩ : ∃ n, H.length = n + 1 := ⟨H.length - 1, by omega⟩
      rw [hn]
      have HN := Lib.hid hn
      have hpos : (0 : Int) < ((n + 1 : Nat) : Int) := by omega
      have hlen : n ≤ 9000 := by
        have h1 := ordI_len G.out.2.1 (id := (i : Int)) (by omega) (by have := G.out.2.2.2.2; omega) HO.out.inv
        have := G.out.2.2.2.1
        have := HO.out.len
        omega
      have HLE := Lib.hid hlen
      clear h0 hn hlen
      go_wp2_with fail
      refine (heapPop_calls HO.out.heap n HN.out HLE.out HO.out.ho).mono ?_
      rintro e w4 ⟨rfl, v', l', hp'⟩
      have HP := Lib.hid (popW_of HO.out HN.out hp')
      clear hp'
      have hrb := (HP.out.old.inv.rh _ HP.out.memm).bound G.out.2.1 (by omega) (by have := G.out.2.2.2.2; omega)
      obtain ⟨t, ht⟩ : ∃ t : Nat, H.getD 0 0 = (t : Int) := ⟨(H.getD 0 0).toNat, by omega⟩
      rw [ht]
      have htl : t < L.length := by have := G.out.2.2.2.2; omega
      have HT := Lib.hid ht
      have HTL := Lib.hid htl
      clear ht hpos hrb htl
      have ta := run_int (t : Int)
      have hdl := HP.out.down
      rcases List.eq_nil_or_concat D with rfl | ⟨D0, z, hD⟩
      · have HD := Lib.hid hdl
        clear hdl
        go_wp2_with (at_builtin; refine app_down rfl _ _ rfl W.heap.size (by have := HP.out.below.size; simp; omega) _ _ _ rfl (HD.out.alloc _) w4.heap.size _ rfl (heap_alloc_new w4 _) (by simp [Value.oneCell']) (by simp) ?_; intro gg capn w5 hown5 hgrow5 hat5; have HNW := Lib.hid (newW_of HP.out HT.out rfl hown5 hgrow5 hat5); clear hown5 hgrow5 hat5)
        refine (node_calls (G.out.1.below HNW.out.below) HTL.out (by have := G.out.2.2.2.1; omega) rfl).mono ?_
        rintro e w6 ⟨rfl, hf6⟩
        obtain ⟨y, hy⟩ : ∃ y, L.getD t nd0 = y := ⟨_, rfl⟩
        rw [hy]
        have HY := Lib.hid hy
        have HNW6 := Lib.hid (HNW.out.quiet hf6)
        clear hf6 hy
        unfold ndVal
        go_wp2_with fail
        refine (appOps_calls (x := y) (by rw [← HY.out]; exact (G.out.2.2.1 t HTL.out).1) (by rw [← HY.out]; exact (G.out.2.2.1 t HTL.out).2) _).mono ?_
        rintro e w8 ⟨av, rfl, ha⟩
        have PS := pushW_start (HNW6.out.quiet ((Fr.refl (fun _ => False) w6).alloc _)) ha
        obtain ⟨aa, ac, rfl⟩ := row_slice ha.2
        obtain ⟨an, han⟩ : ∃ an, (args y).length = an := ⟨_, rfl⟩
        have HAN := Lib.hid han
        have HPS := Lib.hid PS
        clear PS ha
        rw [han]
        clear han
        go_wp2_with fail
        go_loopw [61] (fun kv wr2 => ∃ (k : Nat) (hv2 : Value) (H2 : List Int), kv = .int .i64 (k : Int) ∧ k ≤ an ∧ PushW W wr2 q (.slice (some ⟨gg, 0, none⟩) (([] : List Int).length + 1) capn) (.slice aa (args y).length ac) hv2 l' H2 (args y) (([] : List Int) ++ [H.getD 0 0]) k) (fun kv _ => an - (intOf kv).toNat)
        case atStart => exact ⟨0, _, _, rfl, by omega, HPS.out⟩
        case round =>
          obtain ⟨k, hv2, H2, rfl, hk, hpw⟩ := hrel
          have HPW := Lib.hid hpw
          have hk0 : (0 : Int) ≤ (k : Int) := by omega
          clear hpw
          by_cases hka : k < an
          · have hka' : (k : Int) < (an : Int) := by omega
            have hab : an ≤ 2 := by rw [← HAN.out]; exact args_len y
            have hk3 : k < 2 := by omega
            obtain ⟨B2, hrow⟩ := HPW.out.row
            obtain ⟨a3, c3, e3, hcell⟩ := row_cells hrow
            obtain ⟨g3, e4, hc3⟩ := hcell k (by rw [HAN.out]; exact hka)
            cases e3
            subst e4
            obtain ⟨z3, hz3⟩ : ∃ z3, (args y).getD k 0 = z3 := ⟨_, rfl⟩
            rw [hz3] at hc3
            have HZ3 := Lib.hid hz3
            have HKA := Lib.hid (And.intro hka hk)
            clear hrow hcell hz3 hka hk
            go_wp2_with fail
            refine (heapPush_calls HPW.out.heap HPW.out.below.size (by have h1 := HPW.out.len; have h2 := HP.out.len; have h3 := HLE.out; have h4 := args_len y; have h5 := HKA.out; have h6 := HAN.out; omega) HPW.out.ho z3).mono ?_
            rintro e w9 ⟨rfl, hv3, H3, hp3⟩
            have HP3 := Lib.hid (pushW_next HPW.out (by rw [HAN.out]; exact HKA.out.1) (by rw [HZ3.out]; exact hp3) HP.out.old.q0)
            clear hp3
            go_wp2_with fail
            go_roundw
            case rel => exact ⟨k + 1, _, _, by go_num, by have := HKA.out.1; omega, HP3.out⟩
            case measure => have := HKA.out.1; simp [intOf]; omega
          · have hke : k = an := by omega
            subst hke
            have hend := newW_end (y := y) G.out.2.1 (by omega) (by have := G.out.2.2.2.2; omega) HNW6.out (fun z hz => by simp at hz) (by unfold ndAt; rw [HT.out]; exact HY.out) (by rw [HAN.out]; exact HPW.out)
            have hms := ordM_lt HO.out hend (by
              have h1 := HPW.out.len
              have h2 := HP.out.len
              have h3 := HN.out
              have h4 := args_len y
              have h6 := HAN.out
              have h7 := ordI_len G.out.2.1 (by omega) (by have := G.out.2.2.2.2; omega) HO.out.inv
              have h8 := G.out.2.2.2.1
              simp only [List.length_append, List.length_cons, List.length_nil] at *
              omega)
            have HEND := Lib.hid hend
            have HMS := Lib.hid hms
            clear hend hms
            go_wp2_with fail
            go_roundw
            case rel => exact ⟨_, _, _, HEND.out⟩
            case measure => exact HMS.out
      · rw [List.concat_eq_append] at hD
        obtain ⟨m0, hm0⟩ : ∃ m0, D.length = m0 + 1 := ⟨D0.length, by rw [hD]; simp⟩
        have hz0 : D.getD m0 0 = z := by
          have : m0 = D0.length := by rw [hD] at hm0; simp at hm0; omega
          rw [hD, this]; simp
        have hlast : D.getLast? = some z := by rw [hD]; simp
        have hml : m0 ≤ 5000 := by
          have h1 := ordI_len G.out.2.1 (id := (i : Int)) (by omega) (by have := G.out.2.2.2.2; omega) HO.out.inv
          have := G.out.2.2.2.1
          omega
        obtain ⟨a4, c4, e4, hcell4⟩ := row_cells hdl
        obtain ⟨g4, e5, hc4⟩ := hcell4 m0 (by omega)
        rw [hz0] at hc4
        cases e4
        subst e5
        have hzD : z ∈ D := by rw [hD]; simp
        have HLAST := Lib.hid (And.intro hlast hm0)
        have HML := Lib.hid hml
        have HZD := Lib.hid hzD
        have HD := Lib.hid (by rw [hm0] at hdl; exact hdl : w4.ownsRow W.heap.size 3 1 (.slice (some ⟨g4, 0, none⟩) (m0 + 1) dc) (m0 + 1) (ints D))
        rw [hm0]
        have hwm : IntKind.i64.wrap (m0 : Int) = (m0 : Int) := IntWalk.i64_in _ ⟨by omega, by omega⟩
        have m00 : (0 : Int) ≤ (m0 : Int) := by omega
        clear hD hm0 hz0 hlast hcell4 hzD hdl
        by_cases hzt : z = (t : Int)
        · have hdup := HP.out.dup (by rw [HT.out, ← hzt]; exact HZD.out)
          have hms := ordM_lt HO.out hdup (by have := HP.out.len; have := HN.out; omega)
          rw [HLAST.out.2] at hdup hms
          have HEND := Lib.hid hdup
          have HMS := Lib.hid hms
          clear hdup hms
          subst hzt
          go_wp2_with fail
          go_roundw
          case rel => exact ⟨_, _, _, HEND.out⟩
          case measure =>
            show ordM q _ w4 < ordM q (.slice (some ⟨g4, 0, none⟩) D.length dc) w3
            rw [HLAST.out.2]
            exact HMS.out
        · have hzb : (z == (t : Int)) = false := by simpa using hzt
          have HZT := Lib.hid hzt
          clear hzt
          go_wp2_with (at_builtin; refine app_down rfl _ _ rfl W.heap.size (by have := HP.out.below.size; simp; omega) _ _ _ rfl (HD.out.alloc _) w4.heap.size _ rfl (heap_alloc_new w4 _) (by simp [Value.oneCell']) (by have := HML.out; omega) ?_; intro gg capn w5 hown5 hgrow5 hat5; have HNW := Lib.hid (newW_of HP.out HT.out HLAST.out.2 hown5 hgrow5 hat5); clear hown5 hgrow5 hat5)
          refine (node_calls (G.out.1.below HNW.out.below) HTL.out (by have := G.out.2.2.2.1; omega) rfl).mono ?_
          rintro e w6 ⟨rfl, hf6⟩
          obtain ⟨y, hy⟩ : ∃ y, L.getD t nd0 = y := ⟨_, rfl⟩
          rw [hy]
          have HY := Lib.hid hy
          have HNW6 := Lib.hid (HNW.out.quiet hf6)
          clear hf6 hy
          unfold ndVal
          go_wp2_with fail
          refine (appOps_calls (x := y) (by rw [← HY.out]; exact (G.out.2.2.1 t HTL.out).1) (by rw [← HY.out]; exact (G.out.2.2.1 t HTL.out).2) _).mono ?_
          rintro e w8 ⟨av, rfl, ha⟩
          have PS := pushW_start (HNW6.out.quiet ((Fr.refl (fun _ => False) w6).alloc _)) ha
          obtain ⟨aa, ac, rfl⟩ := row_slice ha.2
          obtain ⟨an, han⟩ : ∃ an, (args y).length = an := ⟨_, rfl⟩
          have HAN := Lib.hid han
          have HPS := Lib.hid PS
          clear PS ha
          rw [han]
          clear han
          go_wp2_with fail
          go_loopw [61] (fun kv wr2 => ∃ (k : Nat) (hv2 : Value) (H2 : List Int), kv = .int .i64 (k : Int) ∧ k ≤ an ∧ PushW W wr2 q (.slice (some ⟨gg, 0, none⟩) (m0 + 1 + 1) capn) (.slice aa (args y).length ac) hv2 l' H2 (args y) (D ++ [H.getD 0 0]) k) (fun kv _ => an - (intOf kv).toNat)
          case atStart => exact ⟨0, _, _, rfl, by omega, HPS.out⟩
          case round =>
            obtain ⟨k, hv2, H2, rfl, hk, hpw⟩ := hrel
            have HPW := Lib.hid hpw
            have hk0 : (0 : Int) ≤ (k : Int) := by omega
            clear hpw
            by_cases hka : k < an
            · have hka' : (k : Int) < (an : Int) := by omega
              have hab : an ≤ 2 := by rw [← HAN.out]; exact args_len y
              have hk3 : k < 2 := by omega
              obtain ⟨B2, hrow⟩ := HPW.out.row
              obtain ⟨a3, c3, e3, hcell⟩ := row_cells hrow
              obtain ⟨g3, e4, hc3⟩ := hcell k (by rw [HAN.out]; exact hka)
              cases e3
              subst e4
              obtain ⟨z3, hz3⟩ : ∃ z3, (args y).getD k 0 = z3 := ⟨_, rfl⟩
              rw [hz3] at hc3
              have HZ3 := Lib.hid hz3
              have HKA := Lib.hid (And.intro hka hk)
              clear hrow hcell hz3 hka hk
              go_wp2_with fail
              refine (heapPush_calls HPW.out.heap HPW.out.below.size (by have h1 := HPW.out.len; have h2 := HP.out.len; have h3 := HLE.out; have h4 := args_len y; have h5 := HKA.out; have h6 := HAN.out; omega) HPW.out.ho z3).mono ?_
              rintro e w9 ⟨rfl, hv3, H3, hp3⟩
              have HP3 := Lib.hid (pushW_next HPW.out (by rw [HAN.out]; exact HKA.out.1) (by rw [HZ3.out]; exact hp3) HP.out.old.q0)
              clear hp3
              go_wp2_with fail
              go_roundw
              case rel => exact ⟨k + 1, _, _, by go_num, by have := HKA.out.1; omega, HP3.out⟩
              case measure => have := HKA.out.1; simp [intOf]; omega
            · have hke : k = an := by omega
              subst hke
              have hend := newW_end (y := y) G.out.2.1 (by omega) (by have := G.out.2.2.2.2; omega) HNW6.out (fun z' hz' => by rw [HLAST.out.1] at hz'; cases hz'; rw [HT.out]; exact HZT.out) (by unfold ndAt; rw [HT.out]; exact HY.out) (by rw [HAN.out]; exact HPW.out)
              have hms := ordM_lt HO.out hend (by
                have h1 := HPW.out.len
                have h2 := HP.out.len
                have h3 := HN.out
                have h4 := args_len y
                have h6 := HAN.out
                have h7 := ordI_len G.out.2.1 (by omega) (by have := G.out.2.2.2.2; omega) HO.out.inv
                have h8 := G.out.2.2.2.1
                simp only [List.length_append, List.length_cons, List.length_nil] at *
                omega)
              rw [HLAST.out.2] at hms
              have HEND := Lib.hid hend
              have HMS := Lib.hid hms
              clear hend hms
              go_wp2_with fail
              go_roundw
              case rel => exact ⟨_, _, _, HEND.out⟩
              case measure =>
                show ordM q _ wr < ordM q (.slice (some ⟨g4, 0, none⟩) D.length dc) w3
                rw [HLAST.out.2]
                exact HMS.out
end Go.Proofs.YtfdaghhplijpeaaGreatDoor
