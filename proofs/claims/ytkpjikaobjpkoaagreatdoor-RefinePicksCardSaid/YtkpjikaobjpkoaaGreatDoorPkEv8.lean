/- The evaluator of closed calls, part 8: what the program computes on given inputs, read by the kernel; sound in every world (part 8). -/
import Derived.Test.YtkpjikaobjpkoaaGreatDoorPkEv7
import Derived.Below
namespace Go.Ev
variable [Rho] {S : Nat → Prop}

structure Cx where
  P : Program
  E : Env
  nt : Nat
  all : List Oper
  cf : (FuncId → List AVal → Heap → VR)
  tm0 : Tm
  m0 : Mp
  h0 : Heap
  w0 : World
  S0 : Nat → Prop
  sN : DS
  st : Nat → DS
  K : Nat → Kd
  v : Nat → AVal
namespace Cx
variable (c : Cx)
def n : Nat := c.all.length
def pr (i j : Nat) : Prop := Nat.testBit (preOf c.all i) j = true
def nm (p : Nat) : Pos := (c.st p).h.nx
def dst (i : Nat) : Option Tmp := (c.all[i]?).bind (·.dst)
/-- The names that the value of an operation may hold. -/
def DV (q j : Nat) (n : Pos) : Prop := dom (c.st q).h n ∨ ∃ p ob mk, (p = j ∨ c.pr j p) ∧ p < c.n ∧ c.K p = .nw ob mk ∧ n = c.nm p
def DP (q i : Nat) (n : Pos) : Prop := dom (c.st q).h n ∨ ∃ p ob mk, c.pr i p ∧ p < c.n ∧ c.K p = .nw ob mk ∧ n = c.nm p
noncomputable def cur (L : Nat → Bool) : Nat → Nat → AVal
  | 0, t => tget t c.tm0
  | k + 1, t => if L k = true ∧ c.dst k = some t then c.v k else cur L k t
/-- The blocks that what is known does not hang on: those of S0, and those of the objects that were made. -/
def SS (L : Nat → Bool) (m : Mp) (b : Nat) : Prop := c.S0 b ∨ ∃ p ob mk, p < c.n ∧ c.K p = .nw ob mk ∧ L p = true ∧ b = m.b (c.nm p)
/-- An object that lies in its block, and is not in the picture of memory yet. -/
structure FlOk (L : Nat → Bool) (m : Mp) (q : Nat) (w : World) (p : Nat) (ob : AObj) : Prop where
  blk : ∃ o, w.heap[m.b (c.nm p)]? = some o ∧ BlkObj m (c.nm p) ob o
  new : c.w0.heap.size ≤ m.b (c.nm p)
  apart : ∀ k, bk (c.st q).h k → m.b k ≠ m.b (c.nm p)
  each : ∀ p' ob' mk', p' < c.n → c.K p' = .nw ob' mk' → L p' = true → p' ≠ p → m.b (c.nm p') ≠ m.b (c.nm p)
structure Inv (L : Nat → Bool) (a : Act) (w : World) (m : Mp) (q : Nat) : Prop where
  qn : q ≤ c.n
  qc : ∀ i, i < c.n → c.K i = .wr → (L i = true ↔ i < q)
  qm : q = 0 ∨ ∃ k, q = k + 1 ∧ c.K k = .wr
  rep : Rep c.E.gl (c.SS L m) m (c.st q).h w
  goes : Goes c.m0 c.h0 c.w0 m (c.st q).h w
  df : (c.st q).h.df = c.h0.df
  flo : ∀ p ob mk, p < c.n → c.K p = .nw ob mk → L p = true → dom (c.st q).h (c.nm p) ∨ c.FlOk L m q w p ob
  fin : ∀ p ob mk, p < c.n → c.K p = .nw ob mk → L p = true → InObj (c.DV q p) ob ∧ ob.isB = true
  nofl : ∀ p ob mk, p < c.n → c.K p = .nw ob mk → L p ≠ true → ¬ dom (c.st q).h (c.nm p)
  nvat : ∀ p ob mk, p < c.n → c.K p = .nw ob mk → ∀ id, ((c.st q).h.at (c.nm p)).obj ≠ .vat id
  tv : ∀ t, a.tmps.getD t undef = γ m (c.cur L c.n t)
  vin : ∀ j, j < c.n → L j = true → In (c.DV q j) (c.v j)
  sz : c.nt ≤ a.tmps.size
  adf : a.defers = c.h0.df.map (collected c.m0)
  closed : ∀ i j, L i = true → c.pr i j → L j = true
structure Ok : Prop where
  env : EnvOk c.P c.E
  cfok : CFOk c.P c.E c.cf
  ord : Ordered c.all
  run : Run c.E c.nt c.all c.cf ⟨c.tm0, c.h0, [], 0, [], []⟩ c.sN c.st c.K c.v
  rep : Rep c.E.gl c.S0 c.m0 c.h0 c.w0
  tin : ∀ t, In (dom c.h0) (tget t c.tm0)
  ddom : ∀ d ∈ c.h0.df, dom c.h0 d
end Cx
variable {c : Cx}
namespace Cx.Ok
theorem name_lt (k : c.Ok) {p j : Nat} {ob : AObj} {mk : Mk} (hp : c.K p = .nw ob mk) (hpj : p < j) (hj : j ≤ c.n) : (c.nm p).n < (c.st j).h.nx.n := by
  have hpn : p < c.all.length := Nat.lt_of_lt_of_le hpj hj
  obtain ⟨o, _, _, _, _, hs⟩ := k.run.get hpn
  rw [hp] at hs
  simp only [StepF] at hs
  have h1 : (c.st (p + 1)).h.nx.n = (c.nm p).n + 1 := by rw [hs.2.2.2.1]; exact Pos.n_succ _
  have h2 := k.run.mono (i := p + 1) (j := j) (by omega) hj
  omega
theorem name_inj (k : c.Ok) {p p' : Nat} {ob ob' : AObj} {mk mk' : Mk} (hp : c.K p = .nw ob mk) (hp' : c.K p' = .nw ob' mk') (h : p < c.n) (h' : p' < c.n) (e : c.nm p = c.nm p') : p = p' := by
  rcases Nat.lt_trichotomy p p' with h1 | h1 | h1
  · have : (c.nm p).n < (c.nm p').n := k.name_lt hp h1 (Nat.le_of_lt h')
    rw [e] at this; exact absurd this (Nat.lt_irrefl _)
  · exact h1
  · have : (c.nm p').n < (c.nm p).n := k.name_lt hp' h1 (Nat.le_of_lt h)
    rw [e] at this; exact absurd this (Nat.lt_irrefl _)
theorem pr_lt (k : c.Ok) {i j : Nat} (h : c.pr i j) : j < i := k.ord.lt i j h
theorem pr_trans (k : c.Ok) {i j l : Nat} (h : c.pr i j) (h' : c.pr j l) : c.pr i l := k.ord.trans h h'
theorem fls (k : c.Ok) (x : Pend) {i : Nat} (hi : i ≤ c.n) : x ∈ (c.st i).fls ↔ ∃ mk, x.ix < i ∧ c.K x.ix = .nw x.ob mk ∧ x.n = c.nm x.ix := k.run.fls rfl x hi
section
variable {L : Nat → Bool} {a : Act} {w : World} {m : Mp} {q i : Nat}
/-- The names of the memory that an operation is shown. -/
theorem doms (k : c.Ok) (I : c.Inv L a w m q) (hi : i < c.n) (hpre : ∀ j, c.pr i j → L j = true) {H : Heap} (ht : H.t = (c.st q).h.t) (x : Pos) :
    dom (layFrees (preOf c.all i) (c.st i).fls H) x ↔ c.DP q i x := by
  rw [layFrees_doms]
  · constructor
    · rintro (h | ⟨p, hp, a, rfl⟩)
      · exact .inl ((dom_ext ht x).1 h)
      · obtain ⟨mk, h1, h2, h3⟩ := (k.fls p (Nat.le_of_lt hi)).1 hp
        exact .inr ⟨p.ix, p.ob, mk, a, by omega, h2, h3⟩
    · rintro (h | ⟨p, ob, mk, h1, h2, h3, rfl⟩)
      · exact .inl ((dom_ext ht x).2 h)
      · exact .inr ⟨⟨p, c.nm p, ob⟩, (k.fls _ (Nat.le_of_lt hi)).2 ⟨mk, k.pr_lt h1, h3, rfl⟩, h1, rfl⟩
  · intro p hp ht'
    obtain ⟨mk, h1, h2, h3⟩ := (k.fls p (Nat.le_of_lt hi)).1 hp
    exact (I.fin p.ix p.ob mk (by omega) h2 (hpre _ ht')).2
theorem olds (k : c.Ok) (I : c.Inv L a w m q) (hi : i < c.n) (hpre : ∀ j, c.pr i j → L j = true) {H : Heap} (ht : H.t = (c.st q).h.t) {x : Pos} (hx : dom (c.st q).h x) :
    (layFrees (preOf c.all i) (c.st i).fls H).at x = (c.st q).h.at x := by
  rw [layFrees_old (fun p hp ht' => ?_) ((dom_ext ht x).2 hx)]
  · unfold Heap.at; rw [ht]
  · obtain ⟨mk, h1, h2, h3⟩ := (k.fls p (Nat.le_of_lt hi)).1 hp
    exact (I.fin p.ix p.ob mk (by omega) h2 (hpre _ ht')).2
theorem tab_lt (k : c.Ok) {g : Nat} {l : List Value} (hg : c.E.gl.g g = some l) : g < c.w0.heap.size := by
  obtain ⟨⟨rest, e, fz, h1⟩, _⟩ := k.rep.glob g l hg
  exact (Array.getElem?_eq_some_iff.1 h1).1
/-- The memory that an operation is shown is there. -/
theorem shown (k : c.Ok) (I : c.Inv L a w m q) (hi : i < c.n) (hpre : ∀ j, c.pr i j → L j = true) {H : Heap} (ht : H.t = (c.st q).h.t) (ha : H.al = (c.st q).h.al)
    (hn : ∀ x, dom (c.st q).h x → x.n < H.nx.n) (hfl : ∀ p ob mk, p < i → c.K p = .nw ob mk → (c.nm p).n < H.nx.n) : Rep c.E.gl (c.SS L m) m (layFrees (preOf c.all i) (c.st i).fls H) w := by
  have r1 : Rep c.E.gl (c.SS L m) m H w := I.rep.ext ht ha hn
  have hfr : ∀ p ob mk, p < c.n → c.K p = .nw ob mk → L p = true → (H.at (c.nm p)).obj = .free → c.FlOk L m q w p ob := fun p ob mk h1 h2 h3 h4 => by
    rcases I.flo p ob mk h1 h2 h3 with h5 | h5
    · exact absurd h4 ((dom_ext ht _).2 h5)
    · exact h5
  refine r1.layAll (fun p hp ht' => ?_) (fun p hp ht' hf => ?_) (fun p hp p' hp' hb hb' hf hf' hne => ?_) (fun p hp ht' hf => ?_)
  · obtain ⟨mk, h1, h2, h3⟩ := (k.fls p (Nat.le_of_lt hi)).1 hp
    exact (I.fin p.ix p.ob mk (by omega) h2 (hpre _ ht')).2
  · obtain ⟨mk, h1, h2, h3⟩ := (k.fls p (Nat.le_of_lt hi)).1 hp
    have hL := hpre _ ht'
    rw [h3] at hf ⊢
    have F := hfr p.ix p.ob mk (by omega) h2 hL hf
    refine ⟨F.blk, hfl p.ix p.ob mk h1 h2, fun x hx => F.apart x ((bk_ext ht x).1 hx), ?_, fun g l hg e => ?_⟩
    · refine InObj_mono (fun x hx => ?_) (I.fin p.ix p.ob mk (by omega) h2 hL).1
      refine (k.doms I hi hpre ht x).2 ?_
      rcases hx with hx | ⟨p', ob', mk', h4, h5, h6, h7⟩
      · exact .inl hx
      · refine .inr ⟨p', ob', mk', ?_, h5, h6, h7⟩
        rcases h4 with rfl | h4
        · exact ht'
        · exact k.pr_trans ht' h4
    · have := k.tab_lt hg
      have := F.new
      omega
  · obtain ⟨mk, h1, h2, h3⟩ := (k.fls p (Nat.le_of_lt hi)).1 hp
    obtain ⟨mk', h1', h2', h3'⟩ := (k.fls p' (Nat.le_of_lt hi)).1 hp'
    rw [h3] at hf hne ⊢
    rw [h3'] at hf' hne ⊢
    have F' := hfr p'.ix p'.ob mk' (by omega) h2' (hpre _ hb') hf'
    exact F'.each p.ix p.ob mk (by omega) h2 (hpre _ hb) (fun e => hne (by rw [e]))
  · obtain ⟨mk, h1, h2, h3⟩ := (k.fls p (Nat.le_of_lt hi)).1 hp
    exact .inr ⟨p.ix, p.ob, mk, by omega, h2, hpre _ ht', by rw [h3]⟩
/-- An object in the picture of memory has a block. -/
theorem fl_bk (I : c.Inv L a w m q) {p : Nat} {ob : AObj} {mk : Mk} (hp : p < c.n) (hk : c.K p = .nw ob mk) (hd : dom (c.st q).h (c.nm p)) : bk (c.st q).h (c.nm p) := by
  rcases bk_or hd with h | ⟨id, h⟩
  · exact h
  · exact absurd h (I.nvat p ob mk hp hk id)

/-! ### Temporaries -/
theorem tm_step (k : c.Ok) (hi : i < c.n) (t : Nat) : tget t (c.st (i + 1)).tm = if c.dst i = some t then c.v i else tget t (c.st i).tm := by
  obtain ⟨o, p, ho, hp, htm, _⟩ := k.run.get hi
  rw [htm]
  have hd : c.dst i = o.dst := by unfold Cx.dst; rw [ho]; rfl
  rw [hd]
  unfold putK at hp
  cases ho' : o.dst with
  | none => rw [ho'] at hp; cases hp; simp
  | some d =>
    rw [ho'] at hp
    simp only at hp
    obtain ⟨h1, h2⟩ := cond_some' hp
    cases h2
    rw [tget_set]
    by_cases e : d = t <;> simp [e]
theorem cur_text (k : c.Ok) (hi : i ≤ c.n) (t : Nat) (h : ∀ j, j < i → c.dst j = some t → L j = true) : c.cur L i t = tget t (c.st i).tm := by
  induction i with
  | zero => rw [k.run.first]; rfl
  | succ i ih =>
    rw [k.tm_step hi, Cx.cur, ih (by omega) fun j hj => h j (by omega)]
    by_cases e : c.dst i = some t
    · rw [if_pos ⟨h i (by omega) e, e⟩, if_pos e]
    · rw [if_neg fun x => e x.2, if_neg e]
omit [Rho] in
theorem cur_stop (t : Nat) {j : Nat} (hij : i ≤ j) (h : ∀ l, i ≤ l → l < j → c.dst l = some t → L l ≠ true) : c.cur L j t = c.cur L i t := by
  induction j with
  | zero => rw [show i = 0 by omega]
  | succ j ih =>
    by_cases e : i = j + 1
    · rw [e]
    · rw [Cx.cur, if_neg fun x => h j (by omega) (by omega) x.2 x.1]
      exact ih (by omega) fun l h1 h2 => h l h1 (by omega)
omit [Rho] in
theorem cur_from (t : Nat) : ∀ (j : Nat), c.cur L j t = tget t c.tm0 ∨ ∃ l, l < j ∧ L l = true ∧ c.dst l = some t ∧ c.cur L j t = c.v l
  | 0 => .inl rfl
  | j + 1 => by
    rw [Cx.cur]
    split
    · rename_i h; exact .inr ⟨j, by omega, h.1, h.2, rfl⟩
    · rcases cur_from t j with h | ⟨l, h1, h2⟩
      · exact .inl h
      · exact .inr ⟨l, by omega, h2⟩
omit [Rho] in
theorem dst_of {o : Oper} (ho : c.all[i]? = some o) : c.dst i = o.dst := by unfold Cx.dst; rw [ho]; rfl
omit [Rho] in
theorem dst_oper {t : Nat} (h : c.dst i = some t) : ∃ o, c.all[i]? = some o ∧ o.dst = some t := by
  unfold Cx.dst at h
  cases ho : c.all[i]? with
  | none => rw [ho] at h; cases h
  | some o => rw [ho] at h; exact ⟨o, rfl, h⟩
/-- What an operation reads. -/
theorem reads (k : c.Ok) (I : c.Inv L a w m q) (hi : i < c.n) (hni : L i ≠ true) (hpre : ∀ j, c.pr i j → L j = true) {o : Oper} (ho : c.all[i]? = some o) {t : Nat} (hl : Looks c.all o t) :
    a.tmps.getD t undef = γ m (tget t (c.st i).tm) ∧ In (c.DP q i) (tget t (c.st i).tm) := by
  have hb : ∀ j, j < i → c.dst j = some t → c.pr i j := fun j hj hd => by
    obtain ⟨x, hx, hxd⟩ := dst_oper hd
    exact k.ord.clash j i x o hj hx ho ⟨t, .inl ⟨hxd, .inl hl⟩⟩
  have hc : c.cur L c.n t = tget t (c.st i).tm := by
    rw [cur_stop t (Nat.le_of_lt hi) fun l h1 h2 hd hL => ?_]
    · exact k.cur_text (Nat.le_of_lt hi) t fun j hj hd => hpre j (hb j hj hd)
    · by_cases e : i = l
      · subst e; exact hni hL
      · obtain ⟨x, hx, hxd⟩ := dst_oper hd
        have := k.ord.clash i l o x (by omega) ho hx ⟨t, .inr ⟨hxd, hl⟩⟩
        exact hni (I.closed l i hL this)
  refine ⟨by rw [I.tv, hc], ?_⟩
  rw [← k.cur_text (L := L) (Nat.le_of_lt hi) t fun j hj hd => hpre j (hb j hj hd)]
  rcases cur_from (L := L) t i with e | ⟨l, h1, h2, h3, e⟩
  · rw [e]
    exact In_mono (fun x hx => .inl (I.goes.old x hx)) _ (k.tin t)
  · rw [e]
    refine In_mono (fun x hx => ?_) _ (I.vin l (by omega) h2)
    rcases hx with hx | ⟨p, ob, mk, h4, h5⟩
    · exact .inl hx
    · refine .inr ⟨p, ob, mk, ?_, h5⟩
      have hpl := hb l h1 h3
      rcases h4 with rfl | h4
      · exact hpl
      · exact k.pr_trans hpl h4
/-- A name in any value of the operations that were carried out. -/
def Live (c : Cx) (L : Nat → Bool) (q : Nat) (x : Pos) : Prop := dom (c.st q).h x ∨ ∃ p ob mk, p < c.n ∧ c.K p = .nw ob mk ∧ L p = true ∧ x = c.nm p
theorem live_dv (I : c.Inv L a w m q) {j : Nat} (hL : L j = true) {x : Pos} (h : c.DV q j x) : Live c L q x := by
  rcases h with h | ⟨p, ob, mk, h1, h2, h3, h4⟩
  · exact .inl h
  · refine .inr ⟨p, ob, mk, h2, h3, ?_, h4⟩
    rcases h1 with rfl | h1
    · exact hL
    · exact I.closed j p hL h1
theorem live_cur (k : c.Ok) (I : c.Inv L a w m q) (t : Nat) : In (Live c L q) (c.cur L c.n t) := by
  rcases cur_from (L := L) t c.n with e | ⟨l, h1, h2, h3, e⟩
  · rw [e]; exact In_mono (fun x hx => .inl (I.goes.old x hx)) _ (k.tin t)
  · rw [e]; exact In_mono (fun x hx => live_dv I h2 hx) _ (I.vin l h1 h2)
end
end Cx.Ok
end Go.Ev

namespace Go.Ev
variable [Rho] {S : Nat → Prop}
variable {c : Cx}
omit [Rho] in
theorem least {p : Nat → Prop} (h : ∃ n, p n) : ∃ n, p n ∧ ∀ m, m < n → ¬ p m := by
  obtain ⟨n, hn⟩ := h
  induction n using Nat.strongRecOn with
  | _ n ih =>
    cases Classical.em (∃ m, m < n ∧ p m) with
    | inl h => obtain ⟨m, h1, h2⟩ := h; exact ih m h1 h2
    | inr h => exact ⟨n, hn, fun m h1 h2 => h ⟨m, h1, h2⟩⟩
omit [Rho] in
theorem mk_in {D : Pos → Prop} {n : Pos} (mk : Mk) (h : D n) : In D (mk.mk n) := by cases mk <;> exact h
namespace Cx.Ok
section
variable {L L' : Nat → Bool} {a : Act} {w : World} {m : Mp} {q i : Nat}

theorem cur_upd (k : c.Ok) (I : c.Inv L a w m q) (hi : i < c.n) (hni : L i ≠ true) (hL' : ∀ j, L' j = true ↔ (L j = true ∨ j = i)) (t : Nat) :
    c.cur L' c.n t = if c.dst i = some t then c.v i else c.cur L c.n t := by
  have lo : ∀ j, j ≤ i → c.cur L' j t = c.cur L j t := by
    intro j
    induction j with
    | zero => intro _; rfl
    | succ j ih =>
      intro hj
      rw [Cx.cur, Cx.cur, ih (by omega)]
      have : L' j = true ↔ L j = true := by rw [hL']; constructor; rintro (h | h); exact h; omega; exact .inl
      simp only [this]
  have hi' : ∀ j, i + 1 ≤ j → j ≤ c.n → c.cur L' j t = if c.dst i = some t then c.v i else c.cur L j t := by
    intro j
    induction j with
    | zero => intro h; omega
    | succ j ih =>
      intro hj hn
      by_cases e : i = j
      · subst e
        rw [Cx.cur, Cx.cur, lo i (Nat.le_refl _)]
        have h1 : L' i = true := (hL' i).2 (.inr rfl)
        by_cases hd : c.dst i = some t
        · rw [if_pos ⟨h1, hd⟩, if_pos hd]
        · rw [if_neg fun x => hd x.2, if_neg hd, if_neg fun x => hd x.2]
      · have hij : i < j := by omega
        have h1 : L' j = true ↔ L j = true := by rw [hL']; constructor; rintro (h | h); exact h; omega; exact .inl
        rw [Cx.cur, Cx.cur, ih (by omega) (by omega)]
        by_cases hd : c.dst i = some t
        · rw [if_pos hd, if_pos hd]
          refine if_neg fun x => ?_
          obtain ⟨oi, ho, hod⟩ := dst_oper hd
          obtain ⟨oj, hoj, hojd⟩ := dst_oper x.2
          have := k.ord.clash i j oi oj hij ho hoj ⟨t, .inl ⟨hod, .inr hojd⟩⟩
          exact hni (I.closed j i (h1.1 x.1) this)
        · rw [if_neg hd, if_neg hd]
          simp only [h1]
  exact hi' c.n (by omega) (Nat.le_refl _)
omit [Rho] in
theorem put_at (a : Act) (d : Option Tmp) (u : Value) (t : Nat) (hd : ∀ x, d = some x → x < a.tmps.size) : (a.put d u).tmps.getD t undef = if d = some t then u else a.tmps.getD t undef := by
  cases d with
  | none => simp [Act.put]
  | some x =>
    rw [put_getD a x u t (hd x rfl)]
    by_cases e : x = t <;> simp [e]
theorem mk_inv (k : c.Ok) (I : c.Inv L a w m q) (hi : i < c.n) (hni : L i ≠ true) (hpre : ∀ j, c.pr i j → L j = true) (hL' : ∀ j, L' j = true ↔ (L j = true ∨ j = i)) {o : Oper} (ho : c.all[i]? = some o)
    {m' : Mp} {q' : Nat} {w' : World} (qn : q' ≤ c.n) (qc : ∀ j, j < c.n → c.K j = .wr → (L' j = true ↔ j < q')) (qm : q' = 0 ∨ ∃ k, q' = k + 1 ∧ c.K k = .wr)
    (rep : Rep c.E.gl (c.SS L' m') m' (c.st q').h w') (goes : Goes c.m0 c.h0 c.w0 m' (c.st q').h w') (df : (c.st q').h.df = c.h0.df)
    (flo : ∀ p ob mk, p < c.n → c.K p = .nw ob mk → L' p = true → dom (c.st q').h (c.nm p) ∨ c.FlOk L' m' q' w' p ob)
    (fin : ∀ p ob mk, p < c.n → c.K p = .nw ob mk → L' p = true → InObj (c.DV q' p) ob ∧ ob.isB = true)
    (nofl : ∀ p ob mk, p < c.n → c.K p = .nw ob mk → L' p ≠ true → ¬ dom (c.st q').h (c.nm p))
    (nvat : ∀ p ob mk, p < c.n → c.K p = .nw ob mk → ∀ id, ((c.st q').h.at (c.nm p)).obj ≠ .vat id)
    (hag : ∀ x, Live c L q x → m'.b x = m.b x ∧ m'.cv x = m.cv x) (hdv : ∀ x, dom (c.st q).h x → dom (c.st q').h x) (hv : In (c.DV q' i) (c.v i)) :
    c.Inv L' (a.put o.dst (γ m' (c.v i))) w' m' q' where
  qn := qn
  qc := qc
  qm := qm
  rep := rep
  goes := goes
  df := df
  flo := flo
  fin := fin
  nofl := nofl
  nvat := nvat
  tv := fun t => by
    have hd : ∀ x, o.dst = some x → x < a.tmps.size := fun x hx => by
      obtain ⟨o', p, ho', hp, _⟩ := k.run.get hi
      rw [ho] at ho'; cases ho'
      unfold putK at hp
      rw [hx] at hp
      simp only at hp
      obtain ⟨h1, _⟩ := cond_some' hp
      exact Nat.lt_of_lt_of_le (blt_iff.1 h1) I.sz
    rw [put_at a o.dst _ t hd, k.cur_upd I hi hni hL' t, dst_of ho]
    by_cases e : o.dst = some t
    · rw [if_pos e, if_pos e]
    · rw [if_neg e, if_neg e, I.tv t]
      exact (γ_congr hag _ (k.live_cur I t)).symm
  vin := fun j hj hLj => by
    rcases (hL' j).1 hLj with h | rfl
    · refine In_mono (fun x hx => ?_) _ (I.vin j hj h)
      rcases hx with hx | hx
      · exact .inl (hdv x hx)
      · exact .inr hx
    · exact hv
  sz := by
    have : (a.put o.dst (γ m' (c.v i))).tmps.size = a.tmps.size := by cases o.dst <;> simp [Act.put]
    rw [this]; exact I.sz
  adf := by
    have : (a.put o.dst (γ m' (c.v i))).defers = a.defers := by cases o.dst <;> rfl
    rw [this]; exact I.adf
  closed := fun x y hx hxy => by
    rcases (hL' x).1 hx with h | rfl
    · exact (hL' y).2 (.inl (I.closed x y h hxy))
    · exact (hL' y).2 (.inl (hpre y hxy))
/-- Nothing in memory is changed. -/
theorem calm (k : c.Ok) (I : c.Inv L a w m q) (hi : i < c.n) (hni : L i ≠ true) (hpre : ∀ j, c.pr i j → L j = true) (hL' : ∀ j, L' j = true ↔ (L j = true ∨ j = i)) {o : Oper} (ho : c.all[i]? = some o)
    (h1 : ∀ ob mk, c.K i ≠ .nw ob mk) (h2 : c.K i ≠ .wr) (hv : In (c.DP q i) (c.v i)) : c.Inv L' (a.put o.dst (γ m (c.v i))) w m q := by
  have down : ∀ p, L' p = true → p ≠ i → L p = true := fun p hp hne => by rcases (hL' p).1 hp with h | h; exact h; exact absurd h hne
  have hni' : ∀ p ob mk, c.K p = .nw ob mk → p ≠ i := fun p ob mk hp e => by subst e; exact h1 _ _ hp
  refine k.mk_inv I hi hni hpre hL' ho I.qn (fun j hj hw => ?_) I.qm (I.rep.shrink fun b hb => by
      rcases hb with hb | ⟨p, ob, mk, h3, h4, h5, h6⟩
      · exact .inl hb
      · exact .inr ⟨p, ob, mk, h3, h4, down p h5 (hni' p ob mk h4), h6⟩) I.goes I.df (fun p ob mk hp hk hLp => ?_) (fun p ob mk hp hk hLp => I.fin p ob mk hp hk (down p hLp (hni' p ob mk hk))) (fun p ob mk hp hk hLp => I.nofl p ob mk hp hk (fun h => hLp ((hL' p).2 (.inl h)))) I.nvat (fun x _ => ⟨rfl, rfl⟩) (fun x hx => hx) ?_
  · rw [← I.qc j hj hw, hL']
    constructor
    · rintro (h | rfl)
      · exact h
      · exact absurd hw h2
    · exact .inl
  · rcases I.flo p ob mk hp hk (down p hLp (hni' p ob mk hk)) with h | F
    · exact .inl h
    · exact .inr ⟨F.blk, F.new, F.apart, fun p' ob' mk' h1 h2 h3 => F.each p' ob' mk' h1 h2 (down p' h3 (hni' p' ob' mk' h2))⟩
  · refine In_mono (fun x hx => ?_) _ hv
    rcases hx with hx | ⟨p, ob, mk, h1, h2⟩
    · exact .inl hx
    · exact .inr ⟨p, ob, mk, .inr h1, h2⟩
/-- The operands, as the operation is shown them. -/
theorem view (k : c.Ok) (I : c.Inv L a w m q) (hi : i < c.n) (hni : L i ≠ true) (hpre : ∀ j, c.pr i j → L j = true) {o : Oper} (ho : c.all[i]? = some o) :
    ∃ (tm : Tm) (ρ : Operand → Value), Src c.E.gl m (c.DP q i) tm ρ ∧ ((∀ cs b, o.op ≠ .select cs b) → execOp a.eval o = execOp ρ o) ∧ (opK c.E o.op).same (c.st i).tm tm := by
  let rl : List Nat := o.op.operands.toList.filterMap fun | .tmp t => some t | _ => none
  have hrl : ∀ t, t ∈ rl ↔ Operand.tmp t ∈ o.op.operands.toList := fun t => by
    simp only [rl, List.mem_filterMap]
    constructor
    · rintro ⟨x, hx, e⟩
      cases x <;> simp at e
      subst e; exact hx
    · exact fun h => ⟨_, h, rfl⟩
  let tm := only (c.st i).tm rl
  have htm : ∀ t, Operand.tmp t ∈ o.op.operands.toList → tget t tm = tget t (c.st i).tm := fun t ht => by
    show tget t (only _ _) = _
    rw [tget_only, if_pos ((hrl t).2 ht)]
  let ρ : Operand → Value := fun x => match x with
    | .tmp t => γ m (tget t tm)
    | .const v => v
    | .global g => .pointer (some ⟨g, 0, none⟩)
    | .func f => .func (.func f) #[] #[]
  refine ⟨tm, ρ, ⟨fun t => ⟨rfl, ?_⟩, fun _ => rfl, fun _ => rfl, fun _ => rfl⟩, fun hs => ?_, ?_⟩
  · by_cases ht : Operand.tmp t ∈ o.op.operands.toList
    · rw [htm t ht]; exact (k.reads I hi hni hpre ho (.inl ht)).2
    · show In _ (tget t (only _ _))
      rw [tget_only, if_neg fun h => ht ((hrl t).1 h)]
      exact trivial
  · refine execOp_congr o hs fun x hx => ?_
    cases x with
    | tmp t =>
      have ht : Operand.tmp t ∈ o.op.operands.toList := by simpa using hx
      show a.tmps.getD t undef = γ m (tget t tm)
      rw [htm t ht]
      exact (k.reads I hi hni hpre ho (.inl ht)).1
    | const v => rfl
    | global g => rfl
    | func f => rfl
  · refine opK_congr o.op fun x hx => ?_
    cases x with
    | tmp t =>
      have ht : Operand.tmp t ∈ o.op.operands.toList := by simpa using hx
      exact (htm t ht).symm
    | const v => rfl
    | global g => rfl
    | func f => rfl
/-- The value of a read is the same whenever it may come up. -/
theorem rd_value (k : c.Ok) (I : c.Inv L a w m q) (hi : i < c.n) (hni : L i ≠ true) (hpre : ∀ j, c.pr i j → L j = true) {o : Oper} (ho : c.all[i]? = some o) (hK : c.K i = .rd) :
    ∃ f H, opK c.E o.op = .rd f ∧ WantT c.all o (c.st i).tm ∧ H.t = (c.st q).h.t ∧ H.al = (c.st q).h.al ∧ (∀ x, dom (c.st q).h x → x.n < H.nx.n) ∧ (∀ p ob mk, p < i → c.K p = .nw ob mk → (c.nm p).n < H.nx.n) ∧
      f (c.st i).tm (layFrees (preOf c.all i) (c.st i).fls H) = some (c.v i) := by
  obtain ⟨o', p, ho', _, _, hs⟩ := k.run.get hi
  rw [ho] at ho'; cases ho'
  rw [hK] at hs
  simp only [StepF] at hs
  obtain ⟨hw, ⟨f, hf, hval, hback, hheld⟩, _⟩ := hs
  by_cases hq : q ≤ i
  · by_cases hex : ∃ d, q ≤ d ∧ d < i ∧ c.K d = .wr
    · obtain ⟨d, ⟨h1, h2, h3⟩, h4⟩ := least hex
      have hqd := k.run.quiet (i := q) (j := d) h1 (by have : d < c.all.length := Nat.lt_trans h2 hi; omega) fun x hx1 hx2 hx3 => h4 x hx2 ⟨hx1, by omega, hx3⟩
      have hnL : L d ≠ true := fun h => by have := (I.qc d (by omega) h3).1 h; omega
      have hnp : Nat.testBit (preOf c.all i) d = false := by
        cases hb : Nat.testBit (preOf c.all i) d with
        | false => rfl
        | true => exact absurd (hpre d hb) hnL
      have hv := k.run.back rfl rfl (pre := preOf c.all i) (fun x y h5 h6 => k.pr_trans h5 h6) (Nat.le_of_lt hi) hback d h2 h3 hnp
      refine ⟨f, ⟨(c.st d).h.t, (c.st i).h.nx, (c.st d).h.al, (c.st d).h.df⟩, hf, hw, hqd.1, hqd.2.1, fun x hx => ?_, fun p ob mk hp hk => k.name_lt hk hp (Nat.le_of_lt hi), hv⟩
      exact Nat.lt_of_lt_of_le (I.rep.fresh x hx) (k.run.mono hq (Nat.le_of_lt hi))
    · have hqi := k.run.quiet (i := q) (j := i) hq (Nat.le_of_lt hi) fun x hx1 hx2 hx3 => hex ⟨x, hx1, hx2, hx3⟩
      refine ⟨f, (c.st i).h, hf, hw, hqi.1, hqi.2.1, fun x hx => Nat.lt_of_lt_of_le (I.rep.fresh x hx) (k.run.mono hq (Nat.le_of_lt hi)), fun p ob mk hp hk => k.name_lt hk hp (Nat.le_of_lt hi), hval⟩
  · rcases I.qm with h0 | ⟨d, hd, hKd⟩
    · omega
    · have hdn : d < c.n := by have := I.qn; omega
      have hdi : i < d := by
        rcases Nat.lt_or_ge i d with h | h
        · exact h
        · have : d = i := by omega
          subst this; rw [hK] at hKd; cases hKd
      have hLd : L d = true := (I.qc d hdn hKd).2 (by omega)
      have hnp : Nat.testBit (preOf c.all d) i = false := by
        cases hb : Nat.testBit (preOf c.all d) i with
        | false => rfl
        | true => exact absurd (I.closed d i hLd hb) hni
      obtain ⟨od, pd, _, _, _, hsd⟩ := k.run.get hdn
      rw [hKd] at hsd
      simp only [StepF] at hsd
      have hst := hsd.2.2.2.1
      have hmem := k.run.held (i := i + 1) (x := ⟨i, fun h => f (c.st i).tm (layFrees (preOf c.all i) (c.st i).fls h), c.v i⟩) (by rw [hheld]; simp) (k := d) (by omega) (Nat.le_of_lt hdn)
      have hv := still_spec hst _ hmem hnp
      refine ⟨f, (c.st q).h, hf, hw, rfl, rfl, I.rep.fresh, fun p ob mk hp hk => k.name_lt hk (by omega) I.qn, ?_⟩
      rw [hd]; exact hv
end
end Cx.Ok
end Go.Ev

namespace Go.Ev
variable [Rho] {S : Nat → Prop}
variable {c : Cx}
namespace Cx.Ok
section
variable {L L' : Nat → Bool} {a : Act} {w : World} {m : Mp} {q i : Nat}
theorem nw_inv (k : c.Ok) (I : c.Inv L a w m q) (hi : i < c.n) (hni : L i ≠ true) (hpre : ∀ j, c.pr i j → L j = true) (hL' : ∀ j, L' j = true ↔ (L j = true ∨ j = i)) {o : Oper} (ho : c.all[i]? = some o)
    {ob : AObj} {mk : Mk} (hK : c.K i = .nw ob mk) (hv : c.v i = mk.mk (c.nm i)) {cap : Nat} {obj : Obj} (hb : BlkObj (m.set (c.nm i) w.heap.size cap) (c.nm i) ob obj) (hin : InObj (c.DP q i) ob) (hne : ob.isB = true) :
    c.Inv L' (a.put o.dst (γ (m.set (c.nm i) w.heap.size cap) (c.v i))) { w with heap := w.heap.push obj } (m.set (c.nm i) w.heap.size cap) q := by
  have down : ∀ p, L' p = true → p ≠ i → L p = true := fun p hp hne => by rcases (hL' p).1 hp with h | h; exact h; exact absurd h hne
  have hnd : ¬ dom (c.st q).h (c.nm i) := I.nofl i ob mk hi hK hni
  have hlive : ∀ x, Live c L q x → x ≠ c.nm i := fun x hx e => by
    rcases hx with hx | ⟨p, ob', mk', h1, h2, h3, h4⟩
    · rw [e] at hx; exact hnd hx
    · rw [e] at h4
      have := k.name_inj hK h2 hi h1 h4
      subst this; exact hni h3
  have hag : ∀ x, Live c L q x → (m.set (c.nm i) w.heap.size cap).b x = m.b x ∧ (m.set (c.nm i) w.heap.size cap).cv x = m.cv x := fun x hx => Mp.set_other m _ _ (hlive x hx)
  have hkeep : ∀ b, b < w.heap.size → (w.heap.push obj)[b]? = w.heap[b]? := fun b hb => by rw [Array.getElem?_push, if_neg (Nat.ne_of_lt hb)]
  have hle : c.h0.nx.n ≤ (c.nm i).n := by
    have := k.run.mono (i := 0) (j := i) (Nat.zero_le _) (Nat.le_of_lt hi)
    rw [k.run.first] at this
    exact this
  have hlt : ∀ p ob' mk', p < c.n → c.K p = .nw ob' mk' → L p = true → m.b (c.nm p) < w.heap.size := fun p ob' mk' h1 h2 h3 => by
    rcases I.flo p ob' mk' h1 h2 h3 with h | F
    · exact I.rep.lt (fl_bk I h1 h2 h)
    · obtain ⟨o', h4, _⟩ := F.blk; exact (Array.getElem?_eq_some_iff.1 h4).1
  have hname : ∀ p ob' mk', p < c.n → c.K p = .nw ob' mk' → L p = true → (m.set (c.nm i) w.heap.size cap).b (c.nm p) = m.b (c.nm p) ∧ (m.set (c.nm i) w.heap.size cap).cv (c.nm p) = m.cv (c.nm p) := fun p ob' mk' h1 h2 h3 => hag _ (.inr ⟨p, ob', mk', h1, h2, h3, rfl⟩)
  have hDVi : ∀ x, c.DP q i x → c.DV q i x := fun x hx => by
    rcases hx with hx | ⟨p, ob, mk, h1, h2⟩
    · exact .inl hx
    · exact .inr ⟨p, ob, mk, .inr h1, h2⟩
  have hself : c.DV q i (c.nm i) := .inr ⟨i, ob, mk, .inl rfl, hi, hK, rfl⟩
  have g := I.goes
  refine k.mk_inv I hi hni hpre hL' ho I.qn (fun j hj hw => ?_) I.qm (I.rep.congr (fun x hx => hag x (.inl hx)) hkeep (by simp) (fun b hb hS => ?_) fun b hS => ?_)
    ⟨g.tape, g.os, g.output, Nat.le_trans g.size (by simp), fun b hb hn => ?_, fun x hx => ?_, g.nx, g.newd, fun x hx hx0 => ?_, g.old, g.bold, g.vats⟩ I.df
    (fun p ob' mk' hp hk hLp => ?_) (fun p ob' mk' hp hk hLp => ?_) (fun p ob' mk' hp hk hLp => I.nofl p ob' mk' hp hk (fun h => hLp ((hL' p).2 (.inl h)))) I.nvat hag (fun x hx => hx) ?_
  · rw [← I.qc j hj hw, hL']
    constructor
    · rintro (h | rfl)
      · exact h
      · rw [hK] at hw; cases hw
    · exact .inl
  · rcases hS with hS | ⟨p, ob', mk', h3, h4, h5, h6⟩
    · exact .inl hS
    · by_cases e : p = i
      · subst e; rw [Mp.set_b_same] at h6; omega
      · exact .inr ⟨p, ob', mk', h3, h4, down p h5 e, by rw [h6, (hname p ob' mk' h3 h4 (down p h5 e)).1]⟩
  · show b < (w.heap.push obj).size
    rw [Array.size_push]
    rcases hS with hS | ⟨p, ob', mk', h3, h4, h5, h6⟩
    · have := I.rep.lim b (.inl hS); omega
    · by_cases e : p = i
      · subst e; rw [Mp.set_b_same] at h6; omega
      · have := I.rep.lim b (.inr ⟨p, ob', mk', h3, h4, down p h5 e, by rw [h6, (hname p ob' mk' h3 h4 (down p h5 e)).1]⟩); omega
  · show (w.heap.push obj)[b]? = _
    rw [hkeep b (Nat.lt_of_lt_of_le hb g.size)]
    exact g.keep b hb hn
  · have : x ≠ c.nm i := fun e => by rw [e] at hx; omega
    rw [(Mp.set_other m w.heap.size cap this).1, (Mp.set_other m w.heap.size cap this).2]
    exact g.agree x hx
  · rw [(hag x (.inl hx.dom)).1]; exact g.newb x hx hx0
  · by_cases e : p = i
    · subst e
      rw [hK] at hk; cases hk
      right
      refine ⟨⟨obj, by rw [Mp.set_b_same]; show (w.heap.push obj)[w.heap.size]? = _; simp, hb⟩, by rw [Mp.set_b_same]; exact g.size, fun x hx => ?_, fun p' ob' mk' h1 h2 h3 h4 => ?_⟩
      · rw [Mp.set_b_same, (hag x (.inl hx.dom)).1]; exact Nat.ne_of_lt (I.rep.lt hx)
      · have h3' := down p' h3 h4
        rw [Mp.set_b_same, (hname p' ob' mk' h1 h2 h3').1]; exact Nat.ne_of_lt (hlt p' ob' mk' h1 h2 h3')
    · have hLp' := down p hLp e
      rcases I.flo p ob' mk' hp hk hLp' with h | F
      · exact .inl h
      · right
        obtain ⟨o', f1, f2⟩ := F.blk
        have hnp := hname p ob' mk' hp hk hLp'
        refine ⟨⟨o', by rw [hnp.1]; show (w.heap.push obj)[_]? = _; rw [hkeep _ (Array.getElem?_eq_some_iff.1 f1).1]; exact f1, BlkObj_congr (fun x hx => hag x (live_dv I hLp' hx)) (I.fin p ob' mk' hp hk hLp').1 hnp.2 f2⟩,
          by rw [hnp.1]; exact F.new, fun x hx => by rw [hnp.1, (hag x (.inl hx.dom)).1]; exact F.apart x hx, fun p' ob2 mk2 h1 h2 h3 h4 => ?_⟩
        by_cases e' : p' = i
        · subst e'; rw [Mp.set_b_same, hnp.1]; exact Ne.symm (Nat.ne_of_lt (hlt p ob' mk' hp hk hLp'))
        · have h3' := down p' h3 e'
          rw [hnp.1, (hname p' ob2 mk2 h1 h2 h3').1]; exact F.each p' ob2 mk2 h1 h2 h3' h4
  · by_cases e : p = i
    · subst e
      rw [hK] at hk; cases hk
      exact ⟨InObj_mono hDVi hin, hne⟩
    · exact I.fin p ob' mk' hp hk (down p hLp e)
  · rw [hv]; exact mk_in mk hself
/-- A link of the chain. -/
theorem wr_inv (k : c.Ok) (I : c.Inv L a w m q) (hi : i < c.n) (hni : L i ≠ true) (hpre : ∀ j, c.pr i j → L j = true) (hL' : ∀ j, L' j = true ↔ (L j = true ∨ j = i)) {o : Oper} (ho : c.all[i]? = some o)
    (hK : c.K i = .wr) {m1 : Mp} {w1 : World} (r1 : Rep c.E.gl (c.SS L m) m1 (c.st (i + 1)).h w1) (g1 : Goes m (layFrees (preOf c.all i) (c.st i).fls (c.st i).h) w m1 (c.st (i + 1)).h w1)
    (hdf : (c.st (i + 1)).h.df = (layFrees (preOf c.all i) (c.st i).fls (c.st i).h).df) (hv : In (dom (c.st (i + 1)).h) (c.v i)) :
    ∃ m', γ m' (c.v i) = γ m1 (c.v i) ∧ c.Inv L' (a.put o.dst (γ m' (c.v i))) w1 m' (i + 1) := by
  have down : ∀ p, L' p = true → p ≠ i → L p = true := fun p hp hne => by rcases (hL' p).1 hp with h | h; exact h; exact absurd h hne
  have hni' : ∀ p ob mk, c.K p = .nw ob mk → p ≠ i := fun p ob mk hp e => by subst e; rw [hK] at hp; cases hp
  -- the chain behind us
  have hq : q ≤ i := by
    rcases I.qm with h0 | ⟨d, hd, hKd⟩
    · omega
    · rcases Nat.lt_or_ge i d with h | h
      · have hdn : d < c.n := by have := I.qn; omega
        have hLd : L d = true := (I.qc d hdn hKd).2 (by omega)
        have := k.run.ordered rfl h hdn hK hKd
        exact absurd (I.closed d i hLd this) hni
      · by_cases e : d = i
        · subst e
          exact absurd ((I.qc d hi hKd).2 (by omega)) hni
        · omega
  have hqi := k.run.quiet (i := q) (j := i) hq (Nat.le_of_lt hi) fun x hx1 hx2 hx3 => by
    have := k.run.ordered rfl hx2 hi hx3 hK
    have := (I.qc x (by omega) hx3).1 (hpre x this)
    omega
  have hnx : (c.st q).h.nx.n ≤ (c.st i).h.nx.n := k.run.mono hq (Nat.le_of_lt hi)
  obtain ⟨lf1, lf2, lf3⟩ := layFrees_fields (preOf c.all i) (c.st i).fls (c.st i).h
  have hdom := k.doms I hi hpre hqi.1
  have hfrH : ∀ x, dom (c.st q).h x → x.n < (c.st i).h.nx.n := fun x hx => Nat.lt_of_lt_of_le (I.rep.fresh x hx) hnx
  have hin0 : ∀ x, dom (c.st q).h x → dom (layFrees (preOf c.all i) (c.st i).fls (c.st i).h) x := fun x hx => (hdom x).2 (.inl hx)
  have hup : ∀ x, dom (c.st q).h x → dom (c.st (i + 1)).h x := fun x hx => g1.old x (hin0 x hx)
  have hprefl : ∀ p ob mk, c.pr i p → p < c.n → c.K p = .nw ob mk → dom (c.st (i + 1)).h (c.nm p) := fun p ob mk h1 h2 h3 => g1.old _ ((hdom _).2 (.inr ⟨p, ob, mk, h1, h2, h3, rfl⟩))
  -- the names of the other objects
  have hlow : ∀ p ob mk, p < c.n → c.K p = .nw ob mk → ¬ dom (layFrees (preOf c.all i) (c.st i).fls (c.st i).h) (c.nm p) → ¬ dom (c.st (i + 1)).h (c.nm p) := fun p ob mk h1 h2 h3 h4 => by
    have hpi := hni' p ob mk h2
    rcases Nat.lt_or_ge p i with h | h
    · have := k.name_lt h2 h (Nat.le_of_lt hi)
      rcases g1.newd _ h4 with h5 | h5
      · exact h3 h5
      · rw [lf1] at h5; omega
    · have h6 := r1.fresh _ h4
      have h7 := k.run.mono (i := i + 1) (j := p) (by omega) (Nat.le_of_lt h1)
      show False
      have : (c.nm p).n = (c.st p).h.nx.n := rfl
      omega
  let m' : Mp := ⟨fun x => @ite _ (dom (c.st (i + 1)).h x) (Classical.propDecidable _) (m1.b x) (m.b x), fun x => @ite _ (dom (c.st (i + 1)).h x) (Classical.propDecidable _) (m1.cv x) (m.cv x)⟩
  have hm1 : ∀ x, dom (c.st (i + 1)).h x → m'.b x = m1.b x ∧ m'.cv x = m1.cv x := fun x hx => by
    simp [m', hx]
  have hm0 : ∀ x, ¬ dom (c.st (i + 1)).h x → m'.b x = m.b x ∧ m'.cv x = m.cv x := fun x hx => by
    simp [m', hx]
  have hmlow : ∀ x, x.n < (layFrees (preOf c.all i) (c.st i).fls (c.st i).h).nx.n → m'.b x = m.b x ∧ m'.cv x = m.cv x := fun x hx => by
    by_cases e : dom (c.st (i + 1)).h x
    · rw [(hm1 x e).1, (hm1 x e).2]; exact g1.agree x hx
    · exact hm0 x e
  have hag : ∀ x, Live c L q x → m'.b x = m.b x ∧ m'.cv x = m.cv x := fun x hx => by
    rcases hx with hx | ⟨p, ob, mk, h1, h2, h3, rfl⟩
    · exact hmlow x (by rw [lf1]; exact hfrH x hx)
    · by_cases e : dom (layFrees (preOf c.all i) (c.st i).fls (c.st i).h) (c.nm p)
      · rcases (hdom _).1 e with h | ⟨p', ob', mk', h4, h5, h6, h7⟩
        · exact hmlow _ (by rw [lf1]; exact hfrH _ h)
        · exact hmlow _ (by rw [lf1, h7]; exact k.name_lt h6 (k.pr_lt h4) (Nat.le_of_lt hi))
      · exact hm0 _ (hlow p ob mk h1 h2 e)
  have g1' : Goes m (layFrees (preOf c.all i) (c.st i).fls (c.st i).h) w m' (c.st (i + 1)).h w1 := g1.remap hm1 hmlow
  have rin := k.shown I hi hpre hqi.1 hqi.2.1 hfrH (fun p ob mk hp hk => k.name_lt hk hp (Nat.le_of_lt hi))
  have gin : Goes c.m0 c.h0 c.w0 m (layFrees (preOf c.all i) (c.st i).fls (c.st i).h) w := by
    have hob : ∀ p ∈ (c.st i).fls, Nat.testBit (preOf c.all i) p.ix = true → p.ob.isB = true := fun p hp ht' => by
      obtain ⟨mk, h1, h2, h3⟩ := (k.fls p (Nat.le_of_lt hi)).1 hp
      exact (I.fin p.ix p.ob mk (by omega) h2 (hpre _ ht')).2
    refine I.goes.lay (by rw [lf1]; exact hnx) hin0 (fun x hx => ?_) (fun x hx => layFrees_bk hob ((bk_ext hqi.1 x).2 hx)) (fun x hx => ?_) fun x id hx => (layFrees_vat hob).2 (by rw [at_ext hqi.1]; exact hx)
    · rcases (hdom x).1 hx with h | ⟨p, ob, mk, h1, h2, h3, rfl⟩
      · exact .inl h
      · have := k.run.mono (i := 0) (j := p) (Nat.zero_le _) (Nat.le_of_lt h2)
        rw [k.run.first] at this
        exact .inr this
    · rcases layFrees_bks hob hx with h | ⟨h, p, hp, hb, rfl⟩
      · exact .inl ((bk_ext hqi.1 x).1 h)
      · obtain ⟨mk, h1, h2, h3⟩ := (k.fls p (Nat.le_of_lt hi)).1 hp
        rw [h3] at h ⊢
        rcases I.flo p.ix p.ob mk (by omega) h2 (hpre _ hb) with h4 | F
        · exact absurd h ((dom_ext hqi.1 _).2 h4)
        · exact .inr F.new
  have hv' : γ m' (c.v i) = γ m1 (c.v i) := γ_congr hm1 _ hv
  have hlt : ∀ p ob' mk', p < c.n → c.K p = .nw ob' mk' → L p = true → m.b (c.nm p) < w.heap.size := fun p ob' mk' h1 h2 h3 => by
    rcases I.flo p ob' mk' h1 h2 h3 with h | F
    · exact I.rep.lt (fl_bk I h1 h2 h)
    · obtain ⟨o', h4, _⟩ := F.blk; exact (Array.getElem?_eq_some_iff.1 h4).1
  have hnv : ∀ p ob mk, p < c.n → c.K p = .nw ob mk → ∀ id, ((c.st (i + 1)).h.at (c.nm p)).obj ≠ .vat id := fun p ob mk h1 h2 id e => by
    have hob : ∀ p ∈ (c.st i).fls, Nat.testBit (preOf c.all i) p.ix = true → p.ob.isB = true := fun p hp ht' => by
      obtain ⟨mk, h1, h2, h3⟩ := (k.fls p (Nat.le_of_lt hi)).1 hp
      exact (I.fin p.ix p.ob mk (by omega) h2 (hpre _ ht')).2
    have hd1 : dom (c.st (i + 1)).h (c.nm p) := fun e' => by rw [e'] at e; cases e
    have hd0 : dom (layFrees (preOf c.all i) (c.st i).fls (c.st i).h) (c.nm p) := Classical.byContradiction fun h => hlow p ob mk h1 h2 h hd1
    rcases bk_or hd0 with h | ⟨id', h⟩
    · have := g1.bold _ h
      unfold bk at this; rw [e] at this; cases this
    · rw [layFrees_vat hob, at_ext hqi.1] at h
      exact I.nvat p ob mk h1 h2 id' h
  have hSm : ∀ b, c.SS L' m' b → c.SS L m b := fun b hS => by
    rcases hS with hS | ⟨p, ob, mk, h3, h4, h5, h6⟩
    · exact .inl hS
    · have h5' := down p h5 (hni' p ob mk h4)
      exact .inr ⟨p, ob, mk, h3, h4, h5', by rw [h6, (hag _ (.inr ⟨p, ob, mk, h3, h4, h5', rfl⟩)).1]⟩
  refine ⟨m', hv', ?_⟩
  refine k.mk_inv I hi hni hpre hL' ho hi (fun j hj hw => ?_) (.inr ⟨i, rfl, hK⟩) (r1.congr hm1 (fun _ _ => rfl) (Nat.le_refl _) (fun b _ hS => hSm b hS) fun b hS => r1.lim b (hSm b hS)) (Goes.trans k.rep rin gin g1')
    (by rw [hdf, lf3, hqi.2.2]; exact I.df) (fun p ob mk hp hk hLp => ?_) (fun p ob mk hp hk hLp => ?_) (fun p ob mk hp hk hLp => ?_) hnv hag hup (In_mono (fun x hx => .inl hx) _ hv)
  · rw [hL']
    constructor
    · rintro (h | rfl)
      · have := (I.qc j hj hw).1 h; omega
      · omega
    · intro h
      by_cases e : j = i
      · exact .inr e
      · exact .inl (hpre j (k.run.ordered rfl (by omega) hi hw hK))
  · have hLp' := down p hLp (hni' p ob mk hk)
    by_cases e : dom (c.st (i + 1)).h (c.nm p)
    · exact .inl e
    · right
      rcases I.flo p ob mk hp hk hLp' with h | F
      · exact absurd (hup _ h) e
      · have hnp := hm0 _ e
        have hob : ∀ p ∈ (c.st i).fls, Nat.testBit (preOf c.all i) p.ix = true → p.ob.isB = true := fun p hp ht' => by
          obtain ⟨mk, h1, h2, h3⟩ := (k.fls p (Nat.le_of_lt hi)).1 hp
          exact (I.fin p.ix p.ob mk (by omega) h2 (hpre _ ht')).2
        have hap : ∀ x, bk (layFrees (preOf c.all i) (c.st i).fls (c.st i).h) x → m.b x ≠ m.b (c.nm p) := fun x hx => by
          rcases layFrees_bks hob hx with h | ⟨_, y, hy, hb, rfl⟩
          · exact F.apart x ((bk_ext hqi.1 x).1 h)
          · obtain ⟨mk', h1, h2, h3⟩ := (k.fls y (Nat.le_of_lt hi)).1 hy
            rw [h3]
            refine F.each y.ix y.ob mk' (by omega) h2 (hpre _ hb) fun e' => ?_
            rw [← e'] at e
            exact e (hprefl y.ix y.ob mk' hb (by omega) h2)
        have hap' : ∀ x, bk (c.st (i + 1)).h x → m'.b x ≠ m.b (c.nm p) := fun x hx => by
          rw [(hm1 x hx.dom).1]
          by_cases e2 : bk (layFrees (preOf c.all i) (c.st i).fls (c.st i).h) x
          · rw [(g1.agree x (rin.fresh x e2.dom)).1]; exact hap x e2
          · rcases g1.newb x hx e2 with h | ⟨y, hy, h⟩
            · have := hlt p ob mk hp hk hLp'; omega
            · rw [← h]; exact hap y hy
        obtain ⟨o', f1, f2⟩ := F.blk
        refine ⟨⟨o', by rw [hnp.1, g1.keep _ (hlt p ob mk hp hk hLp') hap]; exact f1, BlkObj_congr (fun x hx => hag x (live_dv I hLp' hx)) (I.fin p ob mk hp hk hLp').1 hnp.2 f2⟩, by rw [hnp.1]; exact F.new,
          fun x hx => by rw [hnp.1]; exact hap' x hx, fun p' ob' mk' h1 h2 h3 h4 => ?_⟩
        rw [hnp.1]
        have h3' := down p' h3 (hni' p' ob' mk' h2)
        by_cases e3 : dom (c.st (i + 1)).h (c.nm p')
        · refine hap' _ ?_
          rcases bk_or e3 with h | ⟨id, h⟩
          · exact h
          · exact absurd h (hnv p' ob' mk' h1 h2 id)
        · rw [(hm0 _ e3).1]; exact F.each p' ob' mk' h1 h2 h3' h4
  · obtain ⟨f1, f2⟩ := I.fin p ob mk hp hk (down p hLp (hni' p ob mk hk))
    refine ⟨InObj_mono (fun x hx => ?_) f1, f2⟩
    rcases hx with hx | hx
    · exact .inl (hup x hx)
    · exact .inr hx
  · refine hlow p ob mk hp hk fun hd => ?_
    rcases (hdom _).1 hd with h | ⟨p', ob', mk', h1, h2, h3, h4⟩
    · exact I.nofl p ob mk hp hk (fun h => hLp ((hL' p).2 (.inl h))) h
    · have := k.name_inj hk h3 hp h2 h4
      subst this
      exact hLp ((hL' p).2 (.inl (hpre p h1)))
end
end Cx.Ok
end Go.Ev

namespace Go.Ev
variable [Rho] {S : Nat → Prop}
variable {c : Cx}
omit [Rho] in
theorem opK_select {E : Env} {cs b} : opK E (.select cs b) = .bad := by unfold opK; split <;> rfl
omit [Rho] in
theorem count_set : ∀ (x : List Bool) (i : Nat), x[i]? = some false → ((x.set i true).filter id).length = (x.filter id).length + 1
  | [], _, h => by cases h
  | b :: x, 0, h => by simp at h; subst h; simp
  | b :: x, i + 1, h => by
    have := count_set x i (by simpa using h)
    rw [List.set_cons_succ]
    cases b <;> simp [this]
namespace Cx.Ok
section
variable {L L' : Nat → Bool} {a : Act} {w : World} {m : Mp} {q i : Nat}
theorem wants (k : c.Ok) (I : c.Inv L a w m q) (hi : i < c.n) (hni : L i ≠ true) (hpre : ∀ j, c.pr i j → L j = true) {o : Oper} (ho : c.all[i]? = some o) :
    (WantT c.all o (c.st i).tm → Region.wanted o (yielded c.all.toArray a.tmps) = true) ∧ ((∃ wk, wantK c.all o.guard = some wk ∧ wk.f (c.st i).tm = some false) → Region.wanted o (yielded c.all.toArray a.tmps) = false) := by
  obtain ⟨g1, g2⟩ := want_gen (all := c.all) (o := o) (m := m) (tm := (c.st i).tm) (a := a) fun j b oj d h1 h2 h3 => (k.reads I hi hni hpre ho (.inr ⟨j, b, oj, h1, h2, h3⟩)).1
  exact ⟨fun h => by rcases h with h | ⟨wk, h1, h2⟩; exact g1 h; exact g2 wk true h1 h2, fun ⟨wk, h1, h2⟩ => g2 wk false h1 h2⟩
theorem step (k : c.Ok) (I : c.Inv L a w m q) (hi : i < c.n) (hni : L i ≠ true) (hpre : ∀ j, c.pr i j → L j = true) (hL' : ∀ j, L' j = true ↔ (L j = true ∨ j = i)) {Q : Exit → Act → World → Prop} {Kont : Act → World → Prop}
    (hK : ∀ a' w' m' q', c.Inv L' a' w' m' q' → Kont a' w') : wpOp c.P c.all.toArray Q i Kont a w := by
  obtain ⟨o, p, ho, hp, htm, hs⟩ := k.run.get hi
  have hat : c.all.toArray[i]? = some o := by simpa using ho
  unfold wpOp
  rw [hat]
  simp only
  obtain ⟨wt, wf⟩ := k.wants I hi hni hpre ho
  obtain ⟨tm, ρ, hsrc, hexec, hsame⟩ := k.view I hi hni hpre ho
  have hop := opK_ok k.env o.op
  have hsrcT : ∀ {H : Heap}, H.t = (c.st q).h.t → Src c.E.gl m (dom (layFrees (preOf c.all i) (c.st i).fls H)) tm ρ := fun ht =>
    ⟨fun t => ⟨(hsrc.tmp t).1, In_mono (fun x hx => (k.doms I hi hpre ht x).2 hx) _ (hsrc.tmp t).2⟩, hsrc.const, hsrc.global, hsrc.func⟩
  cases hk : c.K i with
  | skip =>
    rw [hk] at hs
    simp only [StepF] at hs
    rw [wf hs.2.1]
    simp only [Bool.false_eq_true, if_false]
    refine hK _ _ m q ?_
    have := k.calm I hi hni hpre hL' ho (by rw [hk]; simp) (by rw [hk]; simp) (by rw [hs.1]; exact trivial)
    rw [hs.1] at this
    exact this
  | pu =>
    rw [hk] at hs
    simp only [StepF] at hs
    rw [wt hs.1]
    simp only [if_true]
    obtain ⟨f, hf, hv⟩ := hs.2.1
    rw [hf] at hop hsame
    have hns : ∀ cs b, o.op ≠ .select cs b := fun cs b e => by rw [e, opK_select] at hf; cases hf; cases hv
    obtain ⟨h1, h2⟩ := hop m (c.DP q i) tm ρ (c.v i) w o rfl hsrc (by rw [← (show f (c.st i).tm = f tm from hsame)]; exact hv)
    left
    unfold Oper.wp
    rw [hexec hns, h1]
    exact hK _ _ m q (k.calm I hi hni hpre hL' ho (by rw [hk]; simp) (by rw [hk]; simp) h2)
  | rd =>
    obtain ⟨f, H, hf, hw, ht, ha, hn, hfl, hv⟩ := k.rd_value I hi hni hpre ho hk
    rw [wt hw]
    simp only [if_true]
    rw [hf] at hop hsame
    have hns : ∀ cs b, o.op ≠ .select cs b := fun cs b e => by rw [e, opK_select] at hf; cases hf
    obtain ⟨h1, h2⟩ := hop _ m _ tm ρ (c.v i) w o rfl (k.shown I hi hpre ht ha hn hfl) (hsrcT ht) (by rw [← (hsame : ∀ h, f (c.st i).tm h = f tm h)]; exact hv)
    left
    unfold Oper.wp
    rw [hexec hns, h1]
    exact hK _ _ m q (k.calm I hi hni hpre hL' ho (by rw [hk]; simp) (by rw [hk]; simp) (In_mono (fun x hx => (k.doms I hi hpre ht x).1 hx) _ h2))
  | nw ob mk =>
    rw [hk] at hs
    simp only [StepF] at hs
    rw [wt hs.1]
    simp only [if_true]
    obtain ⟨f, hf, hv⟩ := hs.2.1
    rw [hf] at hop hsame
    have hns : ∀ cs b, o.op ≠ .select cs b := fun cs b e => by rw [e, opK_select] at hf; cases hf
    have hnd : ¬ c.DP q i (c.nm i) := fun h => by
      rcases h with h | ⟨p, ob', mk', h1, h2, h3, h4⟩
      · exact I.nofl i ob mk hi hk hni h
      · have := k.name_inj hk h3 hi h2 h4
        subst this
        exact absurd (k.pr_lt h1) (Nat.lt_irrefl _)
    obtain ⟨cap, obj, h1, h2, h3, h4⟩ := hop m (c.DP q i) tm ρ ob mk w o rfl hsrc (by rw [← (show f (c.st i).tm = f tm from hsame)]; exact hv) (c.nm i) hnd
    left
    unfold Oper.wp
    rw [hexec hns, h1]
    have := k.nw_inv I hi hni hpre hL' ho hk hs.2.2.1 h2 h3 h4
    rw [show c.v i = mk.mk (c.nm i) from hs.2.2.1] at this
    exact hK _ _ _ q this
  | wr =>
    rw [hk] at hs
    simp only [StepF] at hs
    rw [wt hs.1]
    simp only [if_true]
    obtain ⟨f, hf, hv⟩ := hs.2.1
    rw [hf] at hop hsame
    have hns : ∀ cs b, o.op ≠ .select cs b := fun cs b e => by rw [e, opK_select] at hf; cases hf
    left
    unfold Oper.wp
    rw [hexec hns]
    -- the memory that it is shown
    have hq : q ≤ i := by
      rcases I.qm with h0 | ⟨d, hd, hKd⟩
      · omega
      · rcases Nat.lt_or_ge i d with h | h
        · have hdn : d < c.n := by have := I.qn; omega
          have hLd : L d = true := (I.qc d hdn hKd).2 (by omega)
          exact absurd (I.closed d i hLd (k.run.ordered rfl h hdn hk hKd)) hni
        · by_cases e : d = i
          · subst e
            exact absurd ((I.qc d hi hKd).2 (by omega)) hni
          · omega
    have hqi := k.run.quiet (i := q) (j := i) hq (Nat.le_of_lt hi) fun x hx1 hx2 hx3 => by
      have := (I.qc x (by omega) hx3).1 (hpre x (k.run.ordered rfl hx2 hi hx3 hk))
      omega
    have rin := k.shown I hi hpre hqi.1 hqi.2.1 (fun x hx => Nat.lt_of_lt_of_le (I.rep.fresh x hx) (k.run.mono hq (Nat.le_of_lt hi))) (fun p ob mk hp hk => k.name_lt hk hp (Nat.le_of_lt hi))
    have hg := hop _ m _ tm ρ w o rfl rin (hsrcT hqi.1)
    rw [← (hsame : ∀ h, f (c.st i).tm h = f tm h)] at hg
    rcases hv with hv | ⟨g, args, hv, hc⟩
    · rw [hv] at hg
      obtain ⟨m1, w1, r, h2, h3, h4, h5, h6, h7⟩ := hg
      rw [h2]
      obtain ⟨m', e1, J⟩ := k.wr_inv I hi hni hpre hL' ho hk h4 h5 h7 h6
      rcases h3 with rfl | ⟨rfl, h8⟩
      · rw [← e1]; exact hK _ _ m' _ J
      · rw [h8] at J; exact hK _ _ m' _ J
    · rw [hv] at hg
      obtain ⟨h2, h3⟩ := hg
      rw [h2]
      obtain ⟨h4, h5⟩ := k.cfok g args _ _ _ hc
      show Calls c.P g ⟨γs m args⟩ w _
      refine (h5 _ m w rin h3 (fun d hd => ?_)).mono fun en w1 ⟨m1, he, r1, g1, hin⟩ => ?_
      · rw [(layFrees_fields _ _ _).2.2, hqi.2.2, I.df] at hd
        exact layFrees_dom (fun p hp ht' => by
          obtain ⟨mk, h1, h2, h3⟩ := (k.fls p (Nat.le_of_lt hi)).1 hp
          exact (I.fin p.ix p.ob mk (by omega) h2 (hpre _ ht')).2) ((dom_ext hqi.1 d).2 (I.goes.old d (k.ddom d hd)))
      · subst he
        obtain ⟨m', e1, J⟩ := k.wr_inv I hi hni hpre hL' ho hk r1 g1 h4 hin
        show Kont (a.put o.dst (γ m1 (c.v i))) w1
        rw [← e1]; exact hK _ _ m' _ J
end

/-! ### Any order -/
def ofArr (l : Array Bool) (j : Nat) : Bool := l.getD j false
omit [Rho] in
theorem ready_spec {l : Array Bool} (hl : l.size = c.n) {i : Nat} : i ∈ Region.ready .any c.all.toArray l ↔ (i < c.n ∧ ofArr l i ≠ true ∧ ∃ o, c.all[i]? = some o ∧ ∀ e ∈ o.after.toList, binding e = true → ofArr l e.on = true) := by
  have hb : ∀ e : Edge, Region.binds .any e = binding e := fun e => by unfold Region.binds binding; cases e.ground <;> rfl
  unfold Region.ready
  simp only [List.mem_filter, List.mem_range, List.size_toArray, Bool.and_eq_true, Bool.not_eq_true']
  constructor
  · rintro ⟨h1, h2, h3⟩
    have hi : i < l.size := by rw [hl]; exact h1
    refine ⟨h1, ?_, ?_⟩
    · unfold ofArr
      simp [hi] at h2 ⊢; exact h2
    · have ho : c.all[i]? = some c.all[i] := List.getElem?_eq_getElem h1
      have ho' : c.all.toArray[i]? = some c.all[i] := by simp
      refine ⟨_, ho, fun e he hbe => ?_⟩
      rw [ho'] at h3
      simp only [Option.map_some, Option.getD_some, Array.all_eq_true_iff_forall_mem, Bool.or_eq_true, Bool.not_eq_true'] at h3
      rcases h3 e (by simpa using he) with h4 | h4
      · rw [hb, hbe] at h4; cases h4
      · exact h4
  · rintro ⟨h1, h2, o, ho, h3⟩
    have hi : i < l.size := by rw [hl]; exact h1
    have ho' : c.all.toArray[i]? = some o := by simpa using ho
    refine ⟨h1, ?_, ?_⟩
    · unfold ofArr at h2
      simp [hi] at h2 ⊢; exact h2
    · rw [ho']
      simp only [Option.map_some, Option.getD_some, Array.all_eq_true_iff_forall_mem, Bool.or_eq_true, Bool.not_eq_true']
      intro e he
      cases hbe : binding e with
      | false => left; rw [hb]; exact hbe
      | true => right; exact h3 e (by simpa using he) hbe
theorem any_order (k : c.Ok) {Q : Exit → Act → World → Prop} (hQ : ∀ L a w m q, (∀ i, i < c.n → L i = true) → c.Inv L a w m q → Q .normal a w) : ∀ (fuel : Nat) (l : Array Bool) (a : Act) (w : World) (m : Mp) (q : Nat),
    l.size = c.n → c.n ≤ fuel + (l.toList.filter id).length → c.Inv (ofArr l) a w m q → wpAny c.P .any c.all.toArray Q fuel l a w := by
  have done : ∀ (l : Array Bool) (a : Act) (w : World) (m : Mp) (q : Nat), l.size = c.n → c.Inv (ofArr l) a w m q → Region.ready .any c.all.toArray l = [] → Q .normal a w := fun l a w m q hl I hr => by
    refine hQ (ofArr l) a w m q (fun i hi => ?_) I
    cases Classical.em (∃ j, j < c.n ∧ ofArr l j ≠ true) with
    | inr h => exact Classical.byContradiction fun hn => h ⟨i, hi, hn⟩
    | inl h =>
      obtain ⟨j, ⟨h1, h2⟩, h3⟩ := least h
      have ho : c.all[j]? = some c.all[j] := List.getElem?_eq_getElem h1
      have : j ∈ Region.ready .any c.all.toArray l := (ready_spec hl).2 ⟨h1, h2, _, ho, fun e he hbe => by
        have hp : Nat.testBit (preOf c.all j) e.on = true := (pre_iff ho e.on).2 ⟨e, he, hbe, .inl rfl⟩
        have hlt : e.on < j := k.ord.lt j e.on hp
        exact Classical.byContradiction fun hn => h3 e.on hlt ⟨by omega, hn⟩⟩
      rw [hr] at this; cases this
  intro fuel
  induction fuel with
  | zero =>
    intro l a w m q hl hf I
    refine ⟨?_, ?_⟩
    · cases hr : Region.ready .any c.all.toArray l with
      | nil => rfl
      | cons i x =>
        have hi : i ∈ Region.ready .any c.all.toArray l := by rw [hr]; simp
        obtain ⟨h1, h2, _⟩ := (ready_spec hl).1 hi
        have hall : (l.toList.filter id).length = l.toList.length := by
          have := List.length_filter_le id l.toList
          have e : l.toList.length = c.n := by simpa using hl
          omega
        have hid := List.length_filter_eq_length_iff.1 hall
        have hi' : i < l.size := by rw [hl]; exact h1
        have := hid l[i] (by simp)
        unfold ofArr at h2
        simp [hi'] at h2
        simp only [id] at this
        rw [this] at h2; cases h2
    · refine done l a w m q hl I ?_
      cases hr : Region.ready .any c.all.toArray l with
      | nil => rfl
      | cons i x =>
        have hi : i ∈ Region.ready .any c.all.toArray l := by rw [hr]; simp
        obtain ⟨h1, h2, _⟩ := (ready_spec hl).1 hi
        have hall : (l.toList.filter id).length = l.toList.length := by
          have := List.length_filter_le id l.toList
          have e : l.toList.length = c.n := by simpa using hl
          omega
        have hid := List.length_filter_eq_length_iff.1 hall
        have hi' : i < l.size := by rw [hl]; exact h1
        have := hid l[i] (by simp)
        unfold ofArr at h2
        simp [hi'] at h2
        simp only [id] at this
        rw [this] at h2; cases h2
  | succ fuel ih =>
    intro l a w m q hl hf I
    refine ⟨done l a w m q hl I, fun i hi => ?_⟩
    obtain ⟨h1, h2, o, ho, h3⟩ := (ready_spec hl).1 hi
    have hi' : i < l.size := by rw [hl]; exact h1
    have hpre : ∀ j, c.pr i j → ofArr l j = true := fun j hj => by
      obtain ⟨e, he, hb, h | ⟨hl', h⟩⟩ := (pre_iff ho j).1 hj
      · subst h; exact h3 e he hb
      · exact I.closed e.on j (h3 e he hb) h
    have hL' : ∀ j, ofArr (l.setIfInBounds i true) j = true ↔ (ofArr l j = true ∨ j = i) := fun j => by
      unfold ofArr
      by_cases e : j = i
      · subst e; simp [hi']
      · simp [Array.getElem?_setIfInBounds_ne (Ne.symm e), e]
    refine k.step I h1 h2 hpre hL' fun a' w' m' q' J => ?_
    refine ih _ a' w' m' q' (by simpa using hl) ?_ J
    have : ((l.setIfInBounds i true).toList.filter id).length = (l.toList.filter id).length + 1 := by
      have hli : l.toList[i]? = some false := by
        unfold ofArr at h2
        simp [hi'] at h2 ⊢; exact h2
      rw [Array.toList_setIfInBounds]
      exact count_set _ _ hli
    omega
end Cx.Ok
/-- A region whose order is drawn. -/
theorem draw_ok {P : Program} {E : Env} (hmix : P.follows .mixedOrders = true) (ok : EnvOk P E) : DrawOk P E := by
  intro nt id ops cf hcf tm h out tm' h' e S m a w Q hr ht hQ
  unfold regionK at e
  cases hto : tempsOk ops.toList ops.toList (befores ops.toList) 0 [] with
  | false => rw [hto] at e; cases e
  | true =>
    rw [hto] at e
    simp only at e
    cases hd : (drawOpsK E nt ops.toList ops.toList (befores ops.toList) 0).f cf ⟨tm, h, [], 0, [], []⟩ with
    | none => rw [hd] at e; cases e
    | some sN =>
      rw [hd] at e
      simp only at e
      rw [layK_eq] at e
      cases e
      obtain ⟨st, K, v, run⟩ := run_of hd
      let w0 : World := { w with drawn := w.drawn + 1 }
      let c : Cx := { P, E, nt, all := ops.toList, cf, tm0 := tm, m0 := m, h0 := h, w0, S0 := S, sN, st, K, v }
      have hr0 : Rep E.gl S m h w0 := hr.heap_eq rfl
      have g0 : Goes m h w m h w0 := ⟨rfl, rfl, rfl, Nat.le_refl _, fun _ _ _ => rfl, fun _ _ => ⟨rfl, rfl⟩, Nat.le_refl _, fun _ h => .inl h, fun _ a b => absurd a b, fun _ h => h, fun _ h => h, fun _ _ h => h⟩
      have k : c.Ok := ⟨ok, hcf, ordered_of hto, run, hr0, ht.ins, ht.ddom⟩
      have hst0 : c.st 0 = ⟨tm, h, [], 0, [], []⟩ := run.first
      have hcur : ∀ (j t : Nat), c.cur (Cx.Ok.ofArr (Array.replicate ops.size false)) j t = tget t tm := fun j t => by
        induction j with
        | zero => rfl
        | succ j ih =>
          rw [Cx.cur, if_neg, ih]
          rintro ⟨h1, _⟩
          simp [Cx.Ok.ofArr, Array.getD_eq_getD_getElem?, Array.getElem?_replicate] at h1
          split at h1 <;> simp at h1
      have no : ∀ j, Cx.Ok.ofArr (Array.replicate ops.size false) j ≠ true := fun j h1 => by
        simp [Cx.Ok.ofArr, Array.getD_eq_getD_getElem?, Array.getElem?_replicate] at h1
        split at h1 <;> simp at h1
      have I : c.Inv (Cx.Ok.ofArr (Array.replicate ops.size false)) a w0 m 0 :=
        { qn := Nat.zero_le _
          qc := fun i _ _ => ⟨fun h => absurd h (no i), fun h => by omega⟩
          qm := .inl rfl
          rep := by
            rw [hst0]
            refine hr0.shrink fun b hb => ?_
            rcases hb with hb | ⟨p, _, _, _, _, h, _⟩
            · exact hb
            · exact absurd h (no p)
          goes := by rw [hst0]; exact Goes.refl m h w0
          df := by rw [hst0]
          flo := fun p _ _ _ _ h => absurd h (no p)
          fin := fun p _ _ _ _ h => absurd h (no p)
          nofl := fun p ob mk hp hk _ hd => by
            have h1 : dom h (c.nm p) := by rw [hst0] at hd; exact hd
            have h2 := hr0.fresh _ h1
            have h3 := run.mono (i := 0) (j := p) (Nat.zero_le _) (Nat.le_of_lt hp)
            rw [run.first] at h3
            exact absurd (Nat.lt_of_lt_of_le h2 h3) (Nat.lt_irrefl _)
          nvat := fun p ob mk hp hk id e => by
            have h1 : dom h (c.nm p) := fun e' => by rw [hst0] at e; exact AObj.noConfusion (e.symm.trans e')
            have h2 := hr0.fresh _ h1
            have h3 := run.mono (i := 0) (j := p) (Nat.zero_le _) (Nat.le_of_lt hp)
            rw [run.first] at h3
            exact absurd (Nat.lt_of_lt_of_le h2 h3) (Nat.lt_irrefl _)
          tv := fun t => by rw [hcur]; exact ht.val t
          vin := fun j _ h => absurd h (no j)
          sz := ht.size
          adf := ht.defs
          closed := fun i j h _ => absurd h (no i) }
      refine wp_region_any hmix ?_
      have key := k.any_order (Q := Q) (fun L a' w' m' q' hall J => ?_) ops.size (Array.replicate ops.size false) a w0 m 0 (by show _ = ops.toList.length; simp) (by show ops.toList.length ≤ _; simp) I
      · have e : ops.toList.toArray = ops := by simp
        rw [show c.all.toArray = ops from e] at key
        exact key
      · -- all has been done
        have hlast : c.st c.n = sN := run.last
        have hq := k.run.quiet (i := q') (j := c.n) J.qn (Nat.le_refl _) fun x hx1 hx2 hx3 => by
          have := (J.qc x hx2 hx3).1 (hall x hx2); omega
        have hmono := k.run.mono (i := q') (j := c.n) J.qn (Nat.le_refl _)
        rw [hlast] at hq hmono
        have hbit : ∀ i, Nat.testBit (Nat.sub (Nat.pow 2 ops.toList.length) 1) i = decide (i < ops.toList.length) := fun i => Nat.testBit_two_pow_sub_one ..
        have hob : ∀ p ∈ sN.fls, Nat.testBit (Nat.sub (Nat.pow 2 ops.toList.length) 1) p.ix = true → p.ob.isB = true := fun p hp _ => by
          rw [← hlast] at hp
          obtain ⟨mk, h1, h2, h3⟩ := (k.fls p (Nat.le_refl _)).1 hp
          exact (J.fin p.ix p.ob mk h1 h2 (hall _ h1)).2
        obtain ⟨lf1, lf2, lf3⟩ := layFrees_fields (Nat.sub (Nat.pow 2 ops.toList.length) 1) sN.fls sN.h
        have hdom : ∀ x, dom (layFrees (Nat.sub (Nat.pow 2 ops.toList.length) 1) sN.fls sN.h) x ↔ Cx.Ok.Live c L q' x := fun x => by
          rw [layFrees_doms hob]
          constructor
          · rintro (h | ⟨p, hp, hb, rfl⟩)
            · exact .inl ((dom_ext hq.1 x).1 h)
            · rw [← hlast] at hp
              obtain ⟨mk, h1, h2, h3⟩ := (k.fls p (Nat.le_refl _)).1 hp
              exact .inr ⟨p.ix, p.ob, mk, h1, h2, hall _ h1, h3⟩
          · rintro (h | ⟨p, ob, mk, h1, h2, h3, rfl⟩)
            · exact .inl ((dom_ext hq.1 x).2 h)
            · refine .inr ⟨⟨p, c.nm p, ob⟩, ?_, ?_, rfl⟩
              · rw [← hlast]; exact (k.fls _ (Nat.le_refl _)).2 ⟨mk, h1, h2, rfl⟩
              · rw [hbit]; exact decide_eq_true h1
        have r1 : Rep E.gl (c.SS L m') m' sN.h w' := J.rep.ext hq.1 hq.2.1 fun n hn => Nat.lt_of_lt_of_le (J.rep.fresh n hn) hmono
        have hfree : ∀ p ob mk, p < c.n → c.K p = .nw ob mk → (sN.h.at (c.nm p)).obj = .free → c.FlOk L m' q' w' p ob := fun p ob mk h1 h2 h3 => by
          rcases J.flo p ob mk h1 h2 (hall p h1) with h4 | h4
          · exact absurd h3 ((dom_ext hq.1 _).2 h4)
          · exact h4
        have r2 : Rep E.gl (c.SS L m') m' (layFrees (Nat.sub (Nat.pow 2 ops.toList.length) 1) sN.fls sN.h) w' := by
          refine r1.layAll hob (fun p hp hb hf => ?_) (fun p hp p' hp' hb hb' hf hf' hne => ?_) (fun p hp hb hf => ?_)
          · rw [← hlast] at hp
            obtain ⟨mk, h1, h2, h3⟩ := (k.fls p (Nat.le_refl _)).1 hp
            rw [h3] at hf ⊢
            have F := hfree p.ix p.ob mk h1 h2 hf
            refine ⟨F.blk, by rw [← hlast]; exact k.name_lt h2 h1 (Nat.le_refl _), fun x hx => F.apart x ((bk_ext hq.1 x).1 hx), ?_, fun g l hg e => ?_⟩
            · exact InObj_mono (fun x hx => (hdom x).2 (Cx.Ok.live_dv J (hall _ h1) hx)) (J.fin p.ix p.ob mk h1 h2 (hall _ h1)).1
            · have := k.tab_lt hg
              have := F.new
              omega
          · rw [← hlast] at hp hp'
            obtain ⟨mk, h1, h2, h3⟩ := (k.fls p (Nat.le_refl _)).1 hp
            obtain ⟨mk', h1', h2', h3'⟩ := (k.fls p' (Nat.le_refl _)).1 hp'
            rw [h3] at hf hne ⊢
            rw [h3'] at hf' hne ⊢
            exact (hfree p'.ix p'.ob mk' h1' h2' hf').each p.ix p.ob mk h1 h2 (hall _ h1) (fun e => hne (by rw [e]))
          · rw [← hlast] at hp
            obtain ⟨mk, h1, h2, h3⟩ := (k.fls p (Nat.le_refl _)).1 hp
            exact .inr ⟨p.ix, p.ob, mk, h1, h2, hall _ h1, by rw [h3]⟩
        have g2 : Goes m h w0 m' (layFrees (Nat.sub (Nat.pow 2 ops.toList.length) 1) sN.fls sN.h) w' := by
          refine J.goes.lay (by rw [lf1]; exact hmono) (fun x hx => (hdom x).2 (.inl hx)) (fun x hx => ?_) (fun x hx => layFrees_bk hob ((bk_ext hq.1 x).2 hx)) (fun x hx => ?_) fun x id hx => (layFrees_vat hob).2 (by rw [at_ext hq.1]; exact hx)
          · rcases (hdom x).1 hx with h1 | ⟨p, ob, mk, h1, h2, h3, rfl⟩
            · exact .inl h1
            · have := run.mono (i := 0) (j := p) (Nat.zero_le _) (Nat.le_of_lt h1)
              rw [run.first] at this
              exact .inr this
          · rcases layFrees_bks hob hx with h1 | ⟨h1, p, hp, hb, rfl⟩
            · exact .inl ((bk_ext hq.1 x).1 h1)
            · rw [← hlast] at hp
              obtain ⟨mk, h2, h3, h4⟩ := (k.fls p (Nat.le_refl _)).1 hp
              rw [h4] at h1 ⊢
              exact .inr (hfree p.ix p.ob mk h2 h3 h1).new
        have g3 := Goes.trans hr hr0 g0 g2
        refine hQ m' a' w' (r2.shrink fun b hb => .inl hb) ?_ g3
        have hdf : (layFrees (Nat.sub (Nat.pow 2 ops.toList.length) 1) sN.fls sN.h).df = h.df := by rw [lf3, hq.2.2]; exact J.df
        have hcur' : ∀ t, c.cur L c.n t = tget t sN.tm := fun t => by
          rw [k.cur_text (Nat.le_refl _) t fun j hj _ => hall j hj, hlast]
        refine ⟨J.sz, fun t => by rw [J.tv, hcur'], fun t => ?_, ?_, fun d hd => ?_⟩
        · rw [← hcur']; exact In_mono (fun x hx => (hdom x).2 hx) _ (k.live_cur J t)
        · rw [J.adf, hdf]
          apply List.map_congr_left
          intro d hm
          simp only [collected]
          rw [(g3.agree d (hr.fresh d (ht.ddom d hm))).1]
        · rw [hdf] at hd; exact g3.old d (ht.ddom d hd)
theorem callG_sound {P : Program} (hmix : P.follows .mixedOrders = true) (G : Tabs) (hL : G.len = fun _ => none) (n : Nat) : CFOk P (Env.of P G) (callG (Env.of P G) n) :=
  have ok := envOk P G [] (fun _ h => by cases h) (fun id a h => by rw [hL] at h; cases h)
  callG_ok ok (draw_ok hmix ok) n
end Go.Ev

namespace Go.Ev
noncomputable def isTrue : VR → Bool
  | .ok (.bool b) _ => b
  | _ => false
/-- No symbol means anything. -/
instance rho0 : Rho := ⟨fun _ => default⟩
theorem emptyHeap_dom (n : Nat) (x : Pos) : ¬ dom (emptyHeap n) x := fun h => h (by
  show ((DTree.leaf : DTree Cell).get noCell x).obj = .free
  rw [DTree.get_leaf]; rfl)
theorem emptyHeap_bk (n : Nat) (x : Pos) : ¬ bk (emptyHeap n) x := fun h => emptyHeap_dom n x h.dom
theorem emptyHeap_at (n : Nat) (x : Pos) : (emptyHeap n).at x = noCell := DTree.get_leaf _
/-- A call without arguments that the evaluator sees return true returns true, wherever it is made. -/
theorem calls_true {P : Program} (hmix : P.follows .mixedOrders = true) {G : Tabs} (hL : G.len = fun _ => none) {n f : Nat} (h : isTrue (callG (Env.of P G) n f [] (emptyHeap 1)) = true) {W : World}
    (hg : ∀ g l, G.g g = some l → ∃ rest e fz, W.heap[g]? = some (.cells ⟨l ++ rest⟩ e fz)) :
    Calls P f #[] W fun e W' => e = .returned (.bool true) ∧ RowKit.Below W.heap.size W W' := by
  cases hc : callG (Env.of P G) n f [] (emptyHeap 1) with
  | fail => rw [hc] at h; cases h
  | ok v h' =>
    rw [hc] at h
    have hv : v = .bool true := by
      cases v <;> first | (cases h; done) | (rename_i b; cases b <;> first | rfl | cases h)
    subst hv
    let m0 : Mp := ⟨fun _ => 0, fun _ => ⟨0, default⟩⟩
    have r0 : Rep (Env.of P G).gl (fun _ => False) m0 (emptyHeap 1) W :=
      { blk := fun n hn => absurd hn (emptyHeap_bk 1 n)
        fresh := fun n hn => absurd hn (emptyHeap_dom 1 n)
        apart := fun n k hn => absurd hn (emptyHeap_bk 1 n)
        mem := fun n k hn => absurd hn (emptyHeap_dom 1 n)
        rts := fun n hn => absurd hn (emptyHeap_dom 1 n)
        ins := fun n => by rw [emptyHeap_at]; exact trivial
        glob := fun g l hl => ⟨hg g l hl, fun n hn => absurd hn (emptyHeap_bk 1 n)⟩
        sem := fun n id hn => by rw [emptyHeap_at] at hn; cases hn
        lim := fun _ h => h.elim }
    have := (callG_sound hmix G hL n f [] (emptyHeap 1) (.bool true) h' hc).2 _ m0 W r0 trivial (fun d hd => by cases hd)
    exact Calls.mono this fun e W' ⟨m', he, _, g, _⟩ => ⟨he, ⟨g.os, g.tape, g.output, g.size, fun b hb => g.keep b hb fun n hn => absurd hn (emptyHeap_bk 1 n)⟩⟩
end Go.Ev

namespace Go.Ev
def vrV : VR → AVal
  | .ok v _ => v
  | .fail => undefA
noncomputable def vrH : VR → Heap
  | .ok _ h => h
  | .fail => emptyHeap 1
def vrOk : VR → Bool
  | .ok _ _ => true
  | .fail => false
theorem vr_of {r : VR} (h : vrOk r = true) : r = .ok (vrV r) (vrH r) := by
  cases r with
  | ok _ _ => rfl
  | fail => cases h
/-- What a tuple holds at its head. -/
def tup0 : AVal → AVal
  | .tup (v :: _) => v
  | _ => undefA
/-- A tuple of a slice and two integers. -/
def sliceIntInt : AVal → Bool
  | .tup [.slc _ _ _ _, .int .i64 _, .int .i64 _] => true
  | _ => false
/-- A tuple of an integer and a Boolean. -/
def isIntBool (n : Nat) (b : Bool) : AVal → Bool
  | .tup [.int .i64 (.ofNat k), .bool c] => Nat.beq k n && boolEqb c b
  | _ => false
section
variable [Rho] {S : Nat → Prop} {P : Program} {G : Tabs} {m : Mp} {h : Heap} {w w' : World}
theorem Rep.blk_lt (r : Rep G S m h w) {n : Pos} (hn : bk h n) : m.b n < w.heap.size := by
  obtain ⟨o, ho, _⟩ := r.blk n hn
  exact (Array.getElem?_eq_some_iff.1 ho).1
theorem Rep.moved (r : Rep G S m h w) (hk : ∀ n, bk h n → w'.heap[m.b n]? = w.heap[m.b n]?) (hg : ∀ g l, G.g g = some l → w'.heap[g]? = w.heap[g]?) (hs : ∀ i w v, G.sem i w v) (hl : ∀ b, S b → b < w'.heap.size) : Rep G S m h w' where
  blk := fun n hn => by
    obtain ⟨o, ho, hb⟩ := r.blk n hn
    exact ⟨o, (hk n hn).trans ho, hb⟩
  fresh := r.fresh
  apart := r.apart
  mem := r.mem
  rts := r.rts
  ins := r.ins
  glob := fun g l hgl => by
    obtain ⟨⟨rest, e, fz, h1⟩, h2⟩ := r.glob g l hgl
    exact ⟨⟨rest, e, fz, (hg g l hgl).trans h1⟩, h2⟩
  sem := fun _ _ _ _ _ => hs _ _ _
  lim := hl
theorem Rep.glob_lt (r : Rep G S m h w) {g : Nat} {l : List Value} (hg : G.g g = some l) : g < w.heap.size := by
  obtain ⟨⟨rest, e, fz, h1⟩, _⟩ := r.glob g l hg
  exact (Array.getElem?_eq_some_iff.1 h1).1
theorem Rep.below (r : Rep G S m h w) (hs : ∀ i w v, G.sem i w v) (hb : RowKit.Below w.heap.size w w') : Rep G S m h w' :=
  r.moved (fun _ hn => hb.block _ (r.blk_lt hn)) (fun _ _ hg => hb.block _ (r.glob_lt hg)) hs fun b h => Nat.lt_of_lt_of_le (r.lim b h) hb.size
def noS : Nat → Prop := fun _ => False
/-- A heap lies in a world, its blocks from B on; no atoms. -/
structure Lies (G : Tabs) (B : Nat) (m : Mp) (h : Heap) (w : World) : Prop where
  rep : Rep G noS m h w
  df : h.df = []
  from_ : ∀ n, bk h n → B ≤ m.b n
  tri : ∀ i w v, G.sem i w v
  nolen : G.len = fun _ => none
theorem Lies.below {B : Nat} (l : Lies G B m h w) (hb : RowKit.Below w.heap.size w w') : Lies G B m h w' := ⟨l.rep.below l.tri hb, l.df, l.from_, l.tri, l.nolen⟩
def mp0 : Mp := ⟨fun _ => 0, fun _ => ⟨0, default⟩⟩
/-- Tables alone. -/
def tabsOf (g : Nat → Option (List Value)) : Tabs := ⟨g, fun _ _ _ => True, fun _ => none⟩
theorem lies_empty {g : Nat → Option (List Value)} {W : World} (hg : ∀ k l, g k = some l → ∃ rest e fz, W.heap[k]? = some (.cells ⟨l ++ rest⟩ e fz)) : Lies (tabsOf g) W.heap.size mp0 (emptyHeap 1) W where
  rep :=
    { blk := fun n hn => absurd hn (emptyHeap_bk 1 n)
      fresh := fun n hn => absurd hn (emptyHeap_dom 1 n)
      apart := fun n k hn => absurd hn (emptyHeap_bk 1 n)
      mem := fun n k hn => absurd hn (emptyHeap_dom 1 n)
      rts := fun n hn => absurd hn (emptyHeap_dom 1 n)
      ins := fun n => by rw [emptyHeap_at]; exact trivial
      glob := fun k l hl => ⟨hg k l hl, fun n hn => absurd hn (emptyHeap_bk 1 n)⟩
      sem := fun _ _ _ _ _ => trivial
      lim := fun _ h => h.elim }
  df := rfl
  from_ := fun n hn => absurd hn (emptyHeap_bk 1 n)
  tri := fun _ _ _ => trivial
  nolen := rfl
/-- The contract of a call that the evaluator has carried out. -/
theorem calls_of (hmix : P.follows .mixedOrders = true) {n f : Nat} {args : List AVal} {v : AVal} {h' : Heap} (hc : callG (Env.of P G) n f args h = .ok v h') {B : Nat}
    (hl : Lies G B m h w) (hB : B ≤ w.heap.size) (ha : InL (dom h) args) :
    Calls P f ⟨γs m args⟩ w fun e w' => ∃ m', e = .returned (γ m' v) ∧ Lies G B m' h' w' ∧ In (dom h') v ∧ RowKit.Below B w w' ∧ Goes m h w m' h' w' := by
  obtain ⟨hd, hk⟩ := callG_sound hmix G hl.nolen n f args h v h' hc
  refine (hk _ m w hl.rep ha (fun d hd' => by rw [hl.df] at hd'; cases hd')).mono fun e w' ⟨m', he, r, g, hv⟩ => ⟨m', he, ⟨r, hd.trans hl.df, fun x hx => ?_, hl.tri, hl.nolen⟩, hv, ?_, g⟩
  · by_cases hx0 : bk h x
    · rw [(g.agree x (hl.rep.fresh x hx0.dom)).1]; exact hl.from_ x hx0
    · rcases g.newb x hx hx0 with h1 | ⟨k, hk, he⟩
      · omega
      · rw [← he]; exact hl.from_ k hk
  · exact ⟨g.os, g.tape, g.output, g.size, fun b hb => g.keep b (by omega) fun x hx e => by have := hl.from_ x hx; omega⟩
/-- What lies apart stays. -/
theorem Lies.apart {B : Nat} {m1 m1' : Mp} {h1 h1' : Heap} (l : Lies G B m h w) (l1 : Rep G S m1 h1 w) (g : Goes m1 h1 w m1' h1' w') (hlt : ∀ n, bk h1 n → m1.b n < B) : Lies G B m h w' where
  rep := l.rep.moved (fun n hn => g.keep _ (l.rep.blk_lt hn) fun x hx e => by have := hlt x hx; have := l.from_ n hn; omega)
    (fun q l' hq => g.keep q (l.rep.glob_lt hq) fun x hx => (l1.glob q l' hq).2 x hx) l.tri (fun _ h => h.elim)
  df := l.df
  from_ := l.from_
  tri := l.tri
  nolen := l.nolen
end
end Go.Ev
