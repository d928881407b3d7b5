/- The evaluator of closed calls, part Gc: what the program computes on given inputs, read by the kernel; sound in every world (part Gh). -/
import Derived.Test.YtendmajekgmkhaaGreatDoorGb
set_option linter.unusedVariables false
set_option linter.unusedSimpArgs false
set_option linter.unnecessarySimpa false
namespace Go.Ev

theorem num_n : ∀ p : Pos, p.num = p.n
  | .one => rfl
  | .o p => by show Nat.mul 2 p.num = _; rw [num_n p]; rfl
  | .i p => by show Nat.succ (Nat.mul 2 p.num) = _; rw [num_n p]; rfl
theorem layK_eq {R : Type} (pre : Nat) (k : Heap → R) : ∀ (l : List Pend) (h : Heap), layK pre k l h = k (layFrees pre l h)
  | [], h => rfl
  | p :: l, h => by
    simp only [layK, layFrees]
    cases Nat.testBit pre p.ix <;> simp only [cond_true, cond_false] <;> exact layK_eq pre k l _
theorem lay_free {h : Heap} {p : Pend} (hf : (h.at p.n).obj = .free) (n : Pos) : (h.lay p).at n = if p.n = n then ⟨p.ob, p.n⟩ else h.at n := by
  unfold Heap.lay
  rw [hf]
  exact DTree.get_set _ _ _ _
theorem lay_not {h : Heap} {p : Pend} (hf : (h.at p.n).obj ≠ .free) : h.lay p = h := by
  unfold Heap.lay
  cases ho : (h.at p.n).obj <;> first | exact absurd ho hf | rfl
theorem lay_fields (h : Heap) (p : Pend) : (h.lay p).nx = h.nx ∧ (h.lay p).al = h.al ∧ (h.lay p).df = h.df := by
  unfold Heap.lay
  split <;> exact ⟨rfl, rfl, rfl⟩
theorem layFrees_fields (pre : Nat) : ∀ (l : List Pend) (h : Heap), (layFrees pre l h).nx = h.nx ∧ (layFrees pre l h).al = h.al ∧ (layFrees pre l h).df = h.df
  | [], h => ⟨rfl, rfl, rfl⟩
  | p :: l, h => by
    simp only [layFrees]
    cases Nat.testBit pre p.ix <;> simp only [cond_true, cond_false]
    · exact layFrees_fields pre l h
    · obtain ⟨a, b, c⟩ := layFrees_fields pre l (h.lay p)
      obtain ⟨a', b', c'⟩ := lay_fields h p
      exact ⟨a.trans a', b.trans b', c.trans c'⟩
theorem layFrees_at (pre : Nat) : ∀ (l : List Pend) (h : Heap), (∀ p ∈ l, Nat.testBit pre p.ix = true → p.ob ≠ .free) → ∀ n,
    (layFrees pre l h).at n = h.at n ∨ ((h.at n).obj = .free ∧ ∃ p ∈ l, Nat.testBit pre p.ix = true ∧ p.n = n ∧ (layFrees pre l h).at n = ⟨p.ob, n⟩)
  | [], h, _, n => .inl rfl
  | p :: l, h, hob, n => by
    simp only [layFrees]
    have hl := fun q hq => hob q (List.mem_cons_of_mem _ hq)
    cases ht : Nat.testBit pre p.ix with
    | false =>
      simp only [cond_false]
      rcases layFrees_at pre l h hl n with e | ⟨a, q, hq, b⟩
      · exact .inl e
      · exact .inr ⟨a, q, List.mem_cons_of_mem _ hq, b⟩
    | true =>
      simp only [cond_true]
      by_cases hf : (h.at p.n).obj = .free
      · have hat := lay_free hf n
        rcases layFrees_at pre l (h.lay p) hl n with e | ⟨a, q, hq, b⟩
        · rw [hat] at e
          by_cases hn : p.n = n
          · rw [if_pos hn] at e
            subst hn
            exact .inr ⟨hf, p, by simp, ht, rfl, e⟩
          · rw [if_neg hn] at e; exact .inl e
        · rw [hat] at a
          by_cases hn : p.n = n
          · rw [if_pos hn] at a; exact absurd a (hob p (by simp) ht)
          · rw [if_neg hn] at a; exact .inr ⟨a, q, List.mem_cons_of_mem _ hq, b⟩
      · rw [lay_not hf]
        rcases layFrees_at pre l h hl n with e | ⟨a, q, hq, b⟩
        · exact .inl e
        · exact .inr ⟨a, q, List.mem_cons_of_mem _ hq, b⟩
theorem layFrees_old {pre : Nat} {l : List Pend} {h : Heap} (hob : ∀ p ∈ l, Nat.testBit pre p.ix = true → p.ob ≠ .free) {n : Pos} (hd : dom h n) : (layFrees pre l h).at n = h.at n := by
  rcases layFrees_at pre l h hob n with e | ⟨a, _⟩
  · exact e
  · exact absurd a hd
theorem layFrees_dom {pre : Nat} {l : List Pend} {h : Heap} (hob : ∀ p ∈ l, Nat.testBit pre p.ix = true → p.ob ≠ .free) {n : Pos} (hd : dom h n) : dom (layFrees pre l h) n := by
  unfold dom; rw [layFrees_old hob hd]; exact hd
theorem layFrees_laid {pre : Nat} : ∀ (l : List Pend) (h : Heap), (∀ p ∈ l, Nat.testBit pre p.ix = true → p.ob ≠ .free) → ∀ p ∈ l, Nat.testBit pre p.ix = true → dom (layFrees pre l h) p.n
  | q :: l, h, hob, p, hp, ht => by
    have hl := fun q hq => hob q (List.mem_cons_of_mem _ hq)
    simp only [layFrees]
    rcases List.mem_cons.1 hp with rfl | hp
    · rw [ht]
      simp only [cond_true]
      apply layFrees_dom hl
      by_cases hf : (h.at p.n).obj = .free
      · unfold dom; rw [lay_free hf, if_pos rfl]; exact hob p (by simp) ht
      · rw [lay_not hf]; exact hf
    · cases Nat.testBit pre q.ix <;> simp only [cond_true, cond_false] <;> exact layFrees_laid l _ hl p hp ht
theorem layFrees_doms {pre : Nat} {l : List Pend} {h : Heap} (hob : ∀ p ∈ l, Nat.testBit pre p.ix = true → p.ob ≠ .free) (n : Pos) : dom (layFrees pre l h) n ↔ (dom h n ∨ ∃ p ∈ l, Nat.testBit pre p.ix = true ∧ p.n = n) := by
  constructor
  · intro hd
    rcases layFrees_at pre l h hob n with e | ⟨_, p, hp, a, b, _⟩
    · unfold dom at hd ⊢; rw [e] at hd; exact .inl hd
    · exact .inr ⟨p, hp, a, b⟩
  · rintro (hd | ⟨p, hp, a, rfl⟩)
    · exact layFrees_dom hob hd
    · exact layFrees_laid l h hob p hp a

section
variable {G : Tabs} {m m' : Mp} {h h' : Heap} {w w' : World}
theorem dom_ext (ht : h'.t = h.t) (n : Pos) : dom h' n ↔ dom h n := by unfold dom Heap.at; rw [ht]
theorem Rep.ext (r : Rep G m h w) (ht : h'.t = h.t) (ha : h'.al = h.al) (hn : ∀ n, dom h n → n.n < h'.nx.n) : Rep G m h' w := by
  obtain ⟨t', nx', al', df'⟩ := h'
  simp only at ht ha
  subst ht; subst ha
  exact ⟨r.blk, fun n hd => hn n hd, r.apart, r.mem, fun n hd => ⟨hn _ (r.rts n hd).2, (r.rts n hd).2⟩, r.ins, r.glob⟩
theorem Rep.lt (r : Rep G m h w) {n : Pos} (hd : dom h n) : m.b n < w.heap.size := by
  obtain ⟨o, h1, _⟩ := r.blk n hd; exact (Array.getElem?_eq_some_iff.1 h1).1
theorem Rep.congr (r : Rep G m h w) (hm : ∀ n, dom h n → m'.b n = m.b n ∧ m'.c n = m.c n) (hw : ∀ b, b < w.heap.size → w'.heap[b]? = w.heap[b]?) : Rep G m' h w' where
  blk := fun n hd => by
    obtain ⟨o, h1, h2⟩ := r.blk n hd
    exact ⟨o, by rw [(hm n hd).1, hw _ (r.lt hd)]; exact h1, BlkObj_congr hm (r.ins n) (hm n hd).2 h2⟩
  fresh := r.fresh
  apart := fun n k a b c => by rw [(hm n a).1, (hm k b).1]; exact r.apart n k a b c
  mem := r.mem
  rts := r.rts
  ins := r.ins
  glob := fun g l hg => by
    obtain ⟨⟨rest, e, fz, h1⟩, h2⟩ := r.glob g l hg
    exact ⟨⟨rest, e, fz, by rw [hw _ (Array.getElem?_eq_some_iff.1 h1).1]; exact h1⟩, fun n hd => by rw [(hm n hd).1]; exact h2 n hd⟩
/-- New objects that lie in their blocks already. -/
theorem Rep.layAll (r : Rep G m h w) {pre : Nat} {l : List Pend} (hob : ∀ p ∈ l, Nat.testBit pre p.ix = true → p.ob ≠ .free)
    (hblk : ∀ p ∈ l, Nat.testBit pre p.ix = true → (h.at p.n).obj = .free → (∃ o, w.heap[m.b p.n]? = some o ∧ BlkObj m p.n p.ob o) ∧ p.n.n < h.nx.n ∧ (∀ k, dom h k → m.b k ≠ m.b p.n) ∧
      InObj (dom (layFrees pre l h)) p.ob ∧ ∀ g x, G g = some x → m.b p.n ≠ g)
    (hne : ∀ p ∈ l, ∀ q ∈ l, Nat.testBit pre p.ix = true → Nat.testBit pre q.ix = true → (h.at p.n).obj = .free → (h.at q.n).obj = .free → p.n ≠ q.n → m.b p.n ≠ m.b q.n) : Rep G m (layFrees pre l h) w := by
  obtain ⟨f1, f2, f3⟩ := layFrees_fields pre l h
  have hcase : ∀ n, dom (layFrees pre l h) n → (dom h n ∧ (layFrees pre l h).at n = h.at n) ∨ ((h.at n).obj = .free ∧ ∃ p ∈ l, Nat.testBit pre p.ix = true ∧ p.n = n ∧ (layFrees pre l h).at n = ⟨p.ob, n⟩) := fun n hd => by
    rcases layFrees_at pre l h hob n with e | e
    · unfold dom at hd; rw [e] at hd; exact .inl ⟨hd, e⟩
    · exact .inr e
  refine ⟨fun n hd => ?_, fun n hd => ?_, fun n k hn hk hr => ?_, fun n k hn hk hr hne' => ?_, fun n hd => ?_, fun n => ?_, fun g x hg => ⟨(r.glob g x hg).1, fun n hd => ?_⟩⟩
  · rcases hcase n hd with ⟨a, e⟩ | ⟨a, p, hp, ht, rfl, e⟩
    · rw [e]; exact r.blk n a
    · rw [e]; exact (hblk p hp ht a).1
  · rw [f1]
    rcases hcase n hd with ⟨a, e⟩ | ⟨a, p, hp, ht, rfl, e⟩
    · exact r.fresh n a
    · exact (hblk p hp ht a).2.1
  · rcases hcase n hn with ⟨a, e⟩ | ⟨a, p, hp, ht, rfl, e⟩ <;> rcases hcase k hk with ⟨a', e'⟩ | ⟨a', p', hp', ht', rfl, e'⟩
    · rw [e, e'] at hr; exact r.apart n k a a' hr
    · exact (hblk p' hp' ht' a').2.2.1 n a
    · exact Ne.symm ((hblk p hp ht a).2.2.1 k a')
    · rw [e, e'] at hr; exact hne p hp p' hp' ht ht' a a' hr
  · rcases hcase n hn with ⟨a, e⟩ | ⟨a, p, hp, ht, rfl, e⟩ <;> rcases hcase k hk with ⟨a', e'⟩ | ⟨a', p', hp', ht', rfl, e'⟩
    · rw [e, e'] at hr; rw [e, f2]; exact r.mem n k a a' hr hne'
    · rw [e, e'] at hr; have := (r.rts n a).2; rw [hr] at this; exact absurd a' this
    · rw [e, e'] at hr; have := (r.rts k a').2; rw [← hr] at this; exact absurd a this
    · rw [e, e'] at hr; exact absurd hr hne'
  · rw [f1]
    rcases hcase n hd with ⟨a, e⟩ | ⟨a, p, hp, ht, rfl, e⟩
    · rw [e]; exact ⟨(r.rts n a).1, layFrees_dom hob (r.rts n a).2⟩
    · rw [e]; exact ⟨(hblk p hp ht a).2.1, hd⟩
  · rcases layFrees_at pre l h hob n with e | ⟨a, p, hp, ht, rfl, e⟩
    · rw [e]; exact InObj_mono (fun k hk => layFrees_dom hob hk) (r.ins n)
    · rw [e]; exact (hblk p hp ht a).2.2.2.1
  · rcases hcase n hd with ⟨a, e⟩ | ⟨a, p, hp, ht, rfl, e⟩
    · exact (r.glob g x hg).2 n a
    · exact (hblk p hp ht a).2.2.2.2 g x hg
theorem Goes.ext {h2 : Heap} (g : Goes m h w m' h' w') (hd : ∀ n, dom h2 n ↔ dom h' n) (hn : h.nx.n ≤ h2.nx.n) : Goes m h w m' h2 w' :=
  ⟨g.tape, g.os, g.output, g.size, g.keep, g.agree, hn, fun n hd' => g.newd n ((hd n).1 hd'), fun n hd' => g.newb n ((hd n).1 hd'), fun n h0 => (hd n).2 (g.old n h0)⟩
theorem Goes.from {h2 : Heap} (g : Goes m h w m' h' w') (hd : ∀ n, dom h2 n ↔ dom h n) (hn : h2.nx.n ≤ h.nx.n) : Goes m h2 w m' h' w' :=
  ⟨g.tape, g.os, g.output, g.size, fun b hb hk => g.keep b hb (fun n h0 => hk n ((hd n).2 h0)), fun n h0 => g.agree n (Nat.lt_of_lt_of_le h0 hn), Nat.le_trans hn g.nx,
    fun n h0 => by rcases g.newd n h0 with a | a; exact .inl ((hd n).2 a); exact .inr (Nat.le_trans hn a),
    fun n h0 h1 => by rcases g.newb n h0 (fun a => h1 ((hd n).2 a)) with a | ⟨k, hk, a⟩; exact .inl a; exact .inr ⟨k, (hd k).2 hk, a⟩, fun n h0 => g.old n ((hd n).1 h0)⟩
/-- The names that are not there may go on meaning what they meant. -/
theorem Goes.remap {m2 : Mp} (g : Goes m h w m' h' w') (h1 : ∀ n, dom h' n → m2.b n = m'.b n ∧ m2.c n = m'.c n) (h2 : ∀ n, n.n < h.nx.n → m2.b n = m.b n ∧ m2.c n = m.c n) : Goes m h w m2 h' w' :=
  ⟨g.tape, g.os, g.output, g.size, g.keep, h2, g.nx, g.newd, fun n a b => by rw [(h1 n a).1]; exact g.newb n a b, g.old⟩
/-- What goes on, and names that are new. -/
theorem Goes.lay {h2 : Heap} (g : Goes m h w m' h' w') (hn : h'.nx.n ≤ h2.nx.n) (hold : ∀ n, dom h' n → dom h2 n)
    (hnew : ∀ n, dom h2 n → dom h' n ∨ (h.nx.n ≤ n.n ∧ w.heap.size ≤ m'.b n)) : Goes m h w m' h2 w' :=
  ⟨g.tape, g.os, g.output, g.size, g.keep, g.agree, Nat.le_trans g.nx hn,
    fun n h0 => by rcases hnew n h0 with a | a; exact g.newd n a; exact .inr a.1,
    fun n h0 h1 => by rcases hnew n h0 with a | a; exact g.newb n a h1; exact .inl a.2, fun n h0 => hold n (g.old n h0)⟩
end

/-! ### Some temporaries alone -/
noncomputable def only (tm : Tm) : List Nat → Tm
  | [] => .leaf
  | t :: l => (only tm l).set undefA (tget t tm) (pos t)
theorem tget_only (tm : Tm) : ∀ (l : List Nat) (t : Nat), tget t (only tm l) = if t ∈ l then tget t tm else undefA
  | [], t => by simp [only, tget_leaf]
  | x :: l, t => by
    simp only [only]
    rw [tget_set, tget_only tm l]
    by_cases e : x = t
    · subst e; simp
    · have : (t ∈ x :: l) ↔ t ∈ l := by simp [Ne.symm e]
      simp only [if_neg e, this]
end Go.Ev
