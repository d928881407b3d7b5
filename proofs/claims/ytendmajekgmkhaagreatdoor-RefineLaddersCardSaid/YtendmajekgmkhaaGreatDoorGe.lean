/- The evaluator of closed calls, part Ge: what the program computes on given inputs, read by the kernel; sound in every world (part Gh). -/
import Derived.Test.YtendmajekgmkhaaGreatDoorGd
set_option linter.unusedVariables false
set_option linter.unusedSimpArgs false
set_option linter.unnecessarySimpa false
namespace Go.Ev

structure Cx where
  P : Program
  E : Env
  nt : Nat
  all : List Oper
  cf : CF
  tm0 : Tm
  m0 : Mp
  h0 : Heap
  w0 : World
  sN : DS
  st : Nat → DS
  K : Nat → Kd
  v : Nat → AVal
namespace Cx
variable (c : Cx)
def n : Nat := c.all.length
def pr (i j : Nat) : Prop := Nat.testBit (preOf c.all i) j = true
def nm (p : Nat) : Pos := (c.st p).h.nx
def dst (i : Nat) : Option Tmp := (c.all[i]?).bind (·.dst)
/-- The names that the value of an operation may hold. -/
def DV (q j : Nat) (n : Pos) : Prop := dom (c.st q).h n ∨ ∃ p ob mk, (p = j ∨ c.pr j p) ∧ p < c.n ∧ c.K p = .nw ob mk ∧ n = c.nm p
def DP (q i : Nat) (n : Pos) : Prop := dom (c.st q).h n ∨ ∃ p ob mk, c.pr i p ∧ p < c.n ∧ c.K p = .nw ob mk ∧ n = c.nm p
noncomputable def cur (L : Nat → Bool) : Nat → Nat → AVal
  | 0, t => tget t c.tm0
  | k + 1, t => if L k = true ∧ c.dst k = some t then c.v k else cur L k t
/-- An object that lies in its block, and is not in the picture of memory yet. -/
structure FlOk (L : Nat → Bool) (m : Mp) (q : Nat) (w : World) (p : Nat) (ob : AObj) : Prop where
  blk : ∃ o, w.heap[m.b (c.nm p)]? = some o ∧ BlkObj m (c.nm p) ob o
  new : c.w0.heap.size ≤ m.b (c.nm p)
  apart : ∀ k, dom (c.st q).h k → m.b k ≠ m.b (c.nm p)
  each : ∀ p' ob' mk', p' < c.n → c.K p' = .nw ob' mk' → L p' = true → p' ≠ p → m.b (c.nm p') ≠ m.b (c.nm p)
structure Inv (L : Nat → Bool) (a : Act) (w : World) (m : Mp) (q : Nat) : Prop where
  qn : q ≤ c.n
  qc : ∀ i, i < c.n → c.K i = .wr → (L i = true ↔ i < q)
  qm : q = 0 ∨ ∃ k, q = k + 1 ∧ c.K k = .wr
  rep : Rep c.E.gl m (c.st q).h w
  goes : Goes c.m0 c.h0 c.w0 m (c.st q).h w
  df : (c.st q).h.df = c.h0.df
  flo : ∀ p ob mk, p < c.n → c.K p = .nw ob mk → L p = true → dom (c.st q).h (c.nm p) ∨ c.FlOk L m q w p ob
  fin : ∀ p ob mk, p < c.n → c.K p = .nw ob mk → L p = true → InObj (c.DV q p) ob ∧ ob ≠ .free
  nofl : ∀ p ob mk, p < c.n → c.K p = .nw ob mk → L p ≠ true → ¬ dom (c.st q).h (c.nm p)
  tv : ∀ t, a.tmps.getD t undef = γ m (c.cur L c.n t)
  vin : ∀ j, j < c.n → L j = true → In (c.DV q j) (c.v j)
  sz : c.nt ≤ a.tmps.size
  adf : a.defers = c.h0.df.map (collected c.m0)
  closed : ∀ i j, L i = true → c.pr i j → L j = true
structure Ok : Prop where
  env : EnvOk c.P c.E
  cfok : CFOk c.P c.E c.cf
  ord : Ordered c.all
  run : Run c.E c.nt c.all c.cf ⟨c.tm0, c.h0, [], 0, [], []⟩ c.sN c.st c.K c.v
  rep : Rep c.E.gl c.m0 c.h0 c.w0
  tin : ∀ t, In (dom c.h0) (tget t c.tm0)
  ddom : ∀ d ∈ c.h0.df, dom c.h0 d
end Cx
variable {c : Cx}
namespace Cx.Ok
theorem name_lt (k : c.Ok) {p j : Nat} {ob : AObj} {mk : Mk} (hp : c.K p = .nw ob mk) (hpj : p < j) (hj : j ≤ c.n) : (c.nm p).n < (c.st j).h.nx.n := by
  have hpn : p < c.all.length := Nat.lt_of_lt_of_le hpj hj
  obtain ⟨o, _, _, _, _, hs⟩ := k.run.get hpn
  rw [hp] at hs
  simp only [StepF] at hs
  have h1 : (c.st (p + 1)).h.nx.n = (c.nm p).n + 1 := by rw [hs.2.2.2.1]; exact Pos.n_succ _
  have h2 := k.run.mono (i := p + 1) (j := j) (by omega) hj
  omega
theorem name_inj (k : c.Ok) {p p' : Nat} {ob ob' : AObj} {mk mk' : Mk} (hp : c.K p = .nw ob mk) (hp' : c.K p' = .nw ob' mk') (h : p < c.n) (h' : p' < c.n) (e : c.nm p = c.nm p') : p = p' := by
  rcases Nat.lt_trichotomy p p' with h1 | h1 | h1
  · have : (c.nm p).n < (c.nm p').n := k.name_lt hp h1 (Nat.le_of_lt h')
    rw [e] at this; exact absurd this (Nat.lt_irrefl _)
  · exact h1
  · have : (c.nm p').n < (c.nm p).n := k.name_lt hp' h1 (Nat.le_of_lt h)
    rw [e] at this; exact absurd this (Nat.lt_irrefl _)
theorem pr_lt (k : c.Ok) {i j : Nat} (h : c.pr i j) : j < i := k.ord.lt i j h
theorem pr_trans (k : c.Ok) {i j l : Nat} (h : c.pr i j) (h' : c.pr j l) : c.pr i l := k.ord.trans h h'
theorem fls (k : c.Ok) (x : Pend) {i : Nat} (hi : i ≤ c.n) : x ∈ (c.st i).fls ↔ ∃ mk, x.ix < i ∧ c.K x.ix = .nw x.ob mk ∧ x.n = c.nm x.ix := k.run.fls rfl x hi
section
variable {L : Nat → Bool} {a : Act} {w : World} {m : Mp} {q i : Nat}
/-- The names of the memory that an operation is shown. -/
theorem doms (k : c.Ok) (I : c.Inv L a w m q) (hi : i < c.n) (hpre : ∀ j, c.pr i j → L j = true) {H : Heap} (ht : H.t = (c.st q).h.t) (x : Pos) :
    dom (layFrees (preOf c.all i) (c.st i).fls H) x ↔ c.DP q i x := by
  rw [layFrees_doms]
  · constructor
    · rintro (h | ⟨p, hp, a, rfl⟩)
      · exact .inl ((dom_ext ht x).1 h)
      · obtain ⟨mk, h1, h2, h3⟩ := (k.fls p (Nat.le_of_lt hi)).1 hp
        exact .inr ⟨p.ix, p.ob, mk, a, by omega, h2, h3⟩
    · rintro (h | ⟨p, ob, mk, h1, h2, h3, rfl⟩)
      · exact .inl ((dom_ext ht x).2 h)
      · exact .inr ⟨⟨p, c.nm p, ob⟩, (k.fls _ (Nat.le_of_lt hi)).2 ⟨mk, k.pr_lt h1, h3, rfl⟩, h1, rfl⟩
  · intro p hp ht'
    obtain ⟨mk, h1, h2, h3⟩ := (k.fls p (Nat.le_of_lt hi)).1 hp
    exact (I.fin p.ix p.ob mk (by omega) h2 (hpre _ ht')).2
theorem olds (k : c.Ok) (I : c.Inv L a w m q) (hi : i < c.n) (hpre : ∀ j, c.pr i j → L j = true) {H : Heap} (ht : H.t = (c.st q).h.t) {x : Pos} (hx : dom (c.st q).h x) :
    (layFrees (preOf c.all i) (c.st i).fls H).at x = (c.st q).h.at x := by
  rw [layFrees_old (fun p hp ht' => ?_) ((dom_ext ht x).2 hx)]
  · unfold Heap.at; rw [ht]
  · obtain ⟨mk, h1, h2, h3⟩ := (k.fls p (Nat.le_of_lt hi)).1 hp
    exact (I.fin p.ix p.ob mk (by omega) h2 (hpre _ ht')).2
theorem tab_lt (k : c.Ok) {g : Nat} {l : List Value} (hg : c.E.gl g = some l) : g < c.w0.heap.size := by
  obtain ⟨⟨rest, e, fz, h1⟩, _⟩ := k.rep.glob g l hg
  exact (Array.getElem?_eq_some_iff.1 h1).1
/-- The memory that an operation is shown is there. -/
theorem shown (k : c.Ok) (I : c.Inv L a w m q) (hi : i < c.n) (hpre : ∀ j, c.pr i j → L j = true) {H : Heap} (ht : H.t = (c.st q).h.t) (ha : H.al = (c.st q).h.al)
    (hn : ∀ x, dom (c.st q).h x → x.n < H.nx.n) (hfl : ∀ p ob mk, p < i → c.K p = .nw ob mk → (c.nm p).n < H.nx.n) : Rep c.E.gl m (layFrees (preOf c.all i) (c.st i).fls H) w := by
  have r1 : Rep c.E.gl m H w := I.rep.ext ht ha hn
  have hfr : ∀ p ob mk, p < c.n → c.K p = .nw ob mk → L p = true → (H.at (c.nm p)).obj = .free → c.FlOk L m q w p ob := fun p ob mk h1 h2 h3 h4 => by
    rcases I.flo p ob mk h1 h2 h3 with h5 | h5
    · exact absurd h4 ((dom_ext ht _).2 h5)
    · exact h5
  refine r1.layAll (fun p hp ht' => ?_) (fun p hp ht' hf => ?_) (fun p hp p' hp' hb hb' hf hf' hne => ?_)
  · obtain ⟨mk, h1, h2, h3⟩ := (k.fls p (Nat.le_of_lt hi)).1 hp
    exact (I.fin p.ix p.ob mk (by omega) h2 (hpre _ ht')).2
  · obtain ⟨mk, h1, h2, h3⟩ := (k.fls p (Nat.le_of_lt hi)).1 hp
    have hL := hpre _ ht'
    rw [h3] at hf ⊢
    have F := hfr p.ix p.ob mk (by omega) h2 hL hf
    refine ⟨F.blk, hfl p.ix p.ob mk h1 h2, fun x hx => F.apart x ((dom_ext ht x).1 hx), ?_, fun g l hg e => ?_⟩
    · refine InObj_mono (fun x hx => ?_) (I.fin p.ix p.ob mk (by omega) h2 hL).1
      refine (k.doms I hi hpre ht x).2 ?_
      rcases hx with hx | ⟨p', ob', mk', h4, h5, h6, h7⟩
      · exact .inl hx
      · refine .inr ⟨p', ob', mk', ?_, h5, h6, h7⟩
        rcases h4 with rfl | h4
        · exact ht'
        · exact k.pr_trans ht' h4
    · have := k.tab_lt hg
      have := F.new
      omega
  · obtain ⟨mk, h1, h2, h3⟩ := (k.fls p (Nat.le_of_lt hi)).1 hp
    obtain ⟨mk', h1', h2', h3'⟩ := (k.fls p' (Nat.le_of_lt hi)).1 hp'
    rw [h3] at hf hne ⊢
    rw [h3'] at hf' hne ⊢
    have F' := hfr p'.ix p'.ob mk' (by omega) h2' (hpre _ hb') hf'
    exact F'.each p.ix p.ob mk (by omega) h2 (hpre _ hb) (fun e => hne (by rw [e]))

/-! ### Temporaries -/
theorem tm_step (k : c.Ok) (hi : i < c.n) (t : Nat) : tget t (c.st (i + 1)).tm = if c.dst i = some t then c.v i else tget t (c.st i).tm := by
  obtain ⟨o, p, ho, hp, htm, _⟩ := k.run.get hi
  rw [htm]
  have hd : c.dst i = o.dst := by unfold Cx.dst; rw [ho]; rfl
  rw [hd]
  unfold putK at hp
  cases ho' : o.dst with
  | none => rw [ho'] at hp; cases hp; simp
  | some d =>
    rw [ho'] at hp
    simp only at hp
    obtain ⟨h1, h2⟩ := cond_some' hp
    cases h2
    simp only
    rw [tget_set]
    by_cases e : d = t <;> simp [e]
theorem cur_text (k : c.Ok) (hi : i ≤ c.n) (t : Nat) (h : ∀ j, j < i → c.dst j = some t → L j = true) : c.cur L i t = tget t (c.st i).tm := by
  induction i with
  | zero => rw [k.run.first]; rfl
  | succ i ih =>
    rw [k.tm_step hi, Cx.cur, ih (by omega) fun j hj => h j (by omega)]
    by_cases e : c.dst i = some t
    · rw [if_pos ⟨h i (by omega) e, e⟩, if_pos e]
    · rw [if_neg fun x => e x.2, if_neg e]
theorem cur_stop (t : Nat) {j : Nat} (hij : i ≤ j) (h : ∀ l, i ≤ l → l < j → c.dst l = some t → L l ≠ true) : c.cur L j t = c.cur L i t := by
  induction j with
  | zero => rw [show i = 0 by omega]
  | succ j ih =>
    by_cases e : i = j + 1
    · rw [e]
    · rw [Cx.cur, if_neg fun x => h j (by omega) (by omega) x.2 x.1]
      exact ih (by omega) fun l h1 h2 => h l h1 (by omega)
theorem cur_from (t : Nat) : ∀ (j : Nat), c.cur L j t = tget t c.tm0 ∨ ∃ l, l < j ∧ L l = true ∧ c.dst l = some t ∧ c.cur L j t = c.v l
  | 0 => .inl rfl
  | j + 1 => by
    rw [Cx.cur]
    split
    · rename_i h; exact .inr ⟨j, by omega, h.1, h.2, rfl⟩
    · rcases cur_from t j with h | ⟨l, h1, h2⟩
      · exact .inl h
      · exact .inr ⟨l, by omega, h2⟩
theorem dst_of {o : Oper} (ho : c.all[i]? = some o) : c.dst i = o.dst := by unfold Cx.dst; rw [ho]; rfl
theorem dst_oper {t : Nat} (h : c.dst i = some t) : ∃ o, c.all[i]? = some o ∧ o.dst = some t := by
  unfold Cx.dst at h
  cases ho : c.all[i]? with
  | none => rw [ho] at h; cases h
  | some o => rw [ho] at h; exact ⟨o, rfl, h⟩
/-- What an operation reads. -/
theorem reads (k : c.Ok) (I : c.Inv L a w m q) (hi : i < c.n) (hni : L i ≠ true) (hpre : ∀ j, c.pr i j → L j = true) {o : Oper} (ho : c.all[i]? = some o) {t : Nat} (hl : Looks c.all o t) :
    a.tmps.getD t undef = γ m (tget t (c.st i).tm) ∧ In (c.DP q i) (tget t (c.st i).tm) := by
  have hb : ∀ j, j < i → c.dst j = some t → c.pr i j := fun j hj hd => by
    obtain ⟨x, hx, hxd⟩ := dst_oper hd
    exact k.ord.clash j i x o hj hx ho ⟨t, .inl ⟨hxd, .inl hl⟩⟩
  have hc : c.cur L c.n t = tget t (c.st i).tm := by
    rw [cur_stop t (Nat.le_of_lt hi) fun l h1 h2 hd hL => ?_]
    · exact k.cur_text (Nat.le_of_lt hi) t fun j hj hd => hpre j (hb j hj hd)
    · by_cases e : i = l
      · subst e; exact hni hL
      · obtain ⟨x, hx, hxd⟩ := dst_oper hd
        have := k.ord.clash i l o x (by omega) ho hx ⟨t, .inr ⟨hxd, hl⟩⟩
        exact hni (I.closed l i hL this)
  refine ⟨by rw [I.tv, hc], ?_⟩
  rw [← k.cur_text (L := L) (Nat.le_of_lt hi) t fun j hj hd => hpre j (hb j hj hd)]
  rcases cur_from (L := L) t i with e | ⟨l, h1, h2, h3, e⟩
  · rw [e]
    exact In_mono (fun x hx => .inl (I.goes.old x hx)) _ (k.tin t)
  · rw [e]
    refine In_mono (fun x hx => ?_) _ (I.vin l (by omega) h2)
    rcases hx with hx | ⟨p, ob, mk, h4, h5⟩
    · exact .inl hx
    · refine .inr ⟨p, ob, mk, ?_, h5⟩
      have hpl := hb l h1 h3
      rcases h4 with rfl | h4
      · exact hpl
      · exact k.pr_trans hpl h4
/-- A name in any value of the operations that were carried out. -/
def Live (c : Cx) (L : Nat → Bool) (q : Nat) (x : Pos) : Prop := dom (c.st q).h x ∨ ∃ p ob mk, p < c.n ∧ c.K p = .nw ob mk ∧ L p = true ∧ x = c.nm p
theorem live_dv (I : c.Inv L a w m q) {j : Nat} (hL : L j = true) {x : Pos} (h : c.DV q j x) : Live c L q x := by
  rcases h with h | ⟨p, ob, mk, h1, h2, h3, h4⟩
  · exact .inl h
  · refine .inr ⟨p, ob, mk, h2, h3, ?_, h4⟩
    rcases h1 with rfl | h1
    · exact hL
    · exact I.closed j p hL h1
theorem live_cur (k : c.Ok) (I : c.Inv L a w m q) (t : Nat) : In (Live c L q) (c.cur L c.n t) := by
  rcases cur_from (L := L) t c.n with e | ⟨l, h1, h2, h3, e⟩
  · rw [e]; exact In_mono (fun x hx => .inl (I.goes.old x hx)) _ (k.tin t)
  · rw [e]; exact In_mono (fun x hx => live_dv I h2 hx) _ (I.vin l h1 h2)
end
end Cx.Ok
end Go.Ev
