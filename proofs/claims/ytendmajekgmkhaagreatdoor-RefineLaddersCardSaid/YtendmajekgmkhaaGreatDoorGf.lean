/- The evaluator of closed calls, part Gf: what the program computes on given inputs, read by the kernel; sound in every world (part Gh). -/
import Derived.Test.YtendmajekgmkhaaGreatDoorGe
set_option linter.unusedVariables false
set_option linter.unusedSimpArgs false
set_option linter.unnecessarySimpa false
namespace Go.Ev
variable {c : Cx}
theorem least {p : Nat → Prop} (h : ∃ n, p n) : ∃ n, p n ∧ ∀ m, m < n → ¬ p m := by
  obtain ⟨n, hn⟩ := h
  induction n using Nat.strongRecOn with
  | _ n ih =>
    cases Classical.em (∃ m, m < n ∧ p m) with
    | inl h => obtain ⟨m, h1, h2⟩ := h; exact ih m h1 h2
    | inr h => exact ⟨n, hn, fun m h1 h2 => h ⟨m, h1, h2⟩⟩
theorem mk_in {D : Pos → Prop} {n : Pos} (mk : Mk) (h : D n) : In D (mk.mk n) := by cases mk <;> exact h
namespace Cx.Ok
section
variable {L L' : Nat → Bool} {a : Act} {w : World} {m : Mp} {q i : Nat}

theorem cur_upd (k : c.Ok) (I : c.Inv L a w m q) (hi : i < c.n) (hni : L i ≠ true) (hL' : ∀ j, L' j = true ↔ (L j = true ∨ j = i)) (t : Nat) :
    c.cur L' c.n t = if c.dst i = some t then c.v i else c.cur L c.n t := by
  have lo : ∀ j, j ≤ i → c.cur L' j t = c.cur L j t := by
    intro j
    induction j with
    | zero => intro _; rfl
    | succ j ih =>
      intro hj
      rw [Cx.cur, Cx.cur, ih (by omega)]
      have : L' j = true ↔ L j = true := by rw [hL']; constructor; rintro (h | h); exact h; omega; exact .inl
      simp only [this]
  have hi' : ∀ j, i + 1 ≤ j → j ≤ c.n → c.cur L' j t = if c.dst i = some t then c.v i else c.cur L j t := by
    intro j
    induction j with
    | zero => intro h; omega
    | succ j ih =>
      intro hj hn
      by_cases e : i = j
      · subst e
        rw [Cx.cur, Cx.cur, lo i (Nat.le_refl _)]
        have h1 : L' i = true := (hL' i).2 (.inr rfl)
        by_cases hd : c.dst i = some t
        · rw [if_pos ⟨h1, hd⟩, if_pos hd]
        · rw [if_neg fun x => hd x.2, if_neg hd, if_neg fun x => hd x.2]
      · have hij : i < j := by omega
        have h1 : L' j = true ↔ L j = true := by rw [hL']; constructor; rintro (h | h); exact h; omega; exact .inl
        rw [Cx.cur, Cx.cur, ih (by omega) (by omega)]
        by_cases hd : c.dst i = some t
        · rw [if_pos hd, if_pos hd]
          refine if_neg fun x => ?_
          obtain ⟨oi, ho, hod⟩ := dst_oper hd
          obtain ⟨oj, hoj, hojd⟩ := dst_oper x.2
          have := k.ord.clash i j oi oj hij ho hoj ⟨t, .inl ⟨hod, .inr hojd⟩⟩
          exact hni (I.closed j i (h1.1 x.1) this)
        · rw [if_neg hd, if_neg hd]
          simp only [h1]
  exact hi' c.n (by omega) (Nat.le_refl _)
theorem put_at (a : Act) (d : Option Tmp) (u : Value) (t : Nat) (hd : ∀ x, d = some x → x < a.tmps.size) : (a.put d u).tmps.getD t undef = if d = some t then u else a.tmps.getD t undef := by
  cases d with
  | none => simp [Act.put]
  | some x =>
    rw [put_getD a x u t (hd x rfl)]
    by_cases e : x = t <;> simp [e]
theorem mk_inv (k : c.Ok) (I : c.Inv L a w m q) (hi : i < c.n) (hni : L i ≠ true) (hpre : ∀ j, c.pr i j → L j = true) (hL' : ∀ j, L' j = true ↔ (L j = true ∨ j = i)) {o : Oper} (ho : c.all[i]? = some o)
    {m' : Mp} {q' : Nat} {w' : World} (qn : q' ≤ c.n) (qc : ∀ j, j < c.n → c.K j = .wr → (L' j = true ↔ j < q')) (qm : q' = 0 ∨ ∃ k, q' = k + 1 ∧ c.K k = .wr)
    (rep : Rep c.E.gl m' (c.st q').h w') (goes : Goes c.m0 c.h0 c.w0 m' (c.st q').h w') (df : (c.st q').h.df = c.h0.df)
    (flo : ∀ p ob mk, p < c.n → c.K p = .nw ob mk → L' p = true → dom (c.st q').h (c.nm p) ∨ c.FlOk L' m' q' w' p ob)
    (fin : ∀ p ob mk, p < c.n → c.K p = .nw ob mk → L' p = true → InObj (c.DV q' p) ob ∧ ob ≠ .free)
    (nofl : ∀ p ob mk, p < c.n → c.K p = .nw ob mk → L' p ≠ true → ¬ dom (c.st q').h (c.nm p))
    (hag : ∀ x, Live c L q x → m'.b x = m.b x ∧ m'.c x = m.c x) (hdv : ∀ x, dom (c.st q).h x → dom (c.st q').h x) (hv : In (c.DV q' i) (c.v i)) :
    c.Inv L' (a.put o.dst (γ m' (c.v i))) w' m' q' where
  qn := qn
  qc := qc
  qm := qm
  rep := rep
  goes := goes
  df := df
  flo := flo
  fin := fin
  nofl := nofl
  tv := fun t => by
    have hd : ∀ x, o.dst = some x → x < a.tmps.size := fun x hx => by
      obtain ⟨o', p, ho', hp, _⟩ := k.run.get hi
      rw [ho] at ho'; cases ho'
      unfold putK at hp
      rw [hx] at hp
      simp only at hp
      obtain ⟨h1, _⟩ := cond_some' hp
      exact Nat.lt_of_lt_of_le (blt_iff.1 h1) I.sz
    rw [put_at a o.dst _ t hd, k.cur_upd I hi hni hL' t, dst_of ho]
    by_cases e : o.dst = some t
    · rw [if_pos e, if_pos e]
    · rw [if_neg e, if_neg e, I.tv t]
      exact (γ_congr hag _ (k.live_cur I t)).symm
  vin := fun j hj hLj => by
    rcases (hL' j).1 hLj with h | rfl
    · refine In_mono (fun x hx => ?_) _ (I.vin j hj h)
      rcases hx with hx | hx
      · exact .inl (hdv x hx)
      · exact .inr hx
    · exact hv
  sz := by
    have : (a.put o.dst (γ m' (c.v i))).tmps.size = a.tmps.size := by cases o.dst <;> simp [Act.put]
    rw [this]; exact I.sz
  adf := by
    have : (a.put o.dst (γ m' (c.v i))).defers = a.defers := by cases o.dst <;> rfl
    rw [this]; exact I.adf
  closed := fun x y hx hxy => by
    rcases (hL' x).1 hx with h | rfl
    · exact (hL' y).2 (.inl (I.closed x y h hxy))
    · exact (hL' y).2 (.inl (hpre y hxy))
/-- Nothing in memory is changed. -/
theorem calm (k : c.Ok) (I : c.Inv L a w m q) (hi : i < c.n) (hni : L i ≠ true) (hpre : ∀ j, c.pr i j → L j = true) (hL' : ∀ j, L' j = true ↔ (L j = true ∨ j = i)) {o : Oper} (ho : c.all[i]? = some o)
    (h1 : ∀ ob mk, c.K i ≠ .nw ob mk) (h2 : c.K i ≠ .wr) (hv : In (c.DP q i) (c.v i)) : c.Inv L' (a.put o.dst (γ m (c.v i))) w m q := by
  have down : ∀ p, L' p = true → p ≠ i → L p = true := fun p hp hne => by rcases (hL' p).1 hp with h | h; exact h; exact absurd h hne
  have hni' : ∀ p ob mk, c.K p = .nw ob mk → p ≠ i := fun p ob mk hp e => by subst e; exact h1 _ _ hp
  refine k.mk_inv I hi hni hpre hL' ho I.qn (fun j hj hw => ?_) I.qm I.rep I.goes I.df (fun p ob mk hp hk hLp => ?_) (fun p ob mk hp hk hLp => I.fin p ob mk hp hk (down p hLp (hni' p ob mk hk))) (fun p ob mk hp hk hLp => I.nofl p ob mk hp hk (fun h => hLp ((hL' p).2 (.inl h)))) (fun x _ => ⟨rfl, rfl⟩) (fun x hx => hx) ?_
  · rw [← I.qc j hj hw, hL']
    constructor
    · rintro (h | rfl)
      · exact h
      · exact absurd hw h2
    · exact .inl
  · rcases I.flo p ob mk hp hk (down p hLp (hni' p ob mk hk)) with h | F
    · exact .inl h
    · exact .inr ⟨F.blk, F.new, F.apart, fun p' ob' mk' h1 h2 h3 => F.each p' ob' mk' h1 h2 (down p' h3 (hni' p' ob' mk' h2))⟩
  · refine In_mono (fun x hx => ?_) _ hv
    rcases hx with hx | ⟨p, ob, mk, h1, h2⟩
    · exact .inl hx
    · exact .inr ⟨p, ob, mk, .inr h1, h2⟩
/-- The operands, as the operation is shown them. -/
theorem view (k : c.Ok) (I : c.Inv L a w m q) (hi : i < c.n) (hni : L i ≠ true) (hpre : ∀ j, c.pr i j → L j = true) {o : Oper} (ho : c.all[i]? = some o) :
    ∃ (tm : Tm) (ρ : Operand → Value), Src c.E.gl m (c.DP q i) tm ρ ∧ ((∀ cs b, o.op ≠ .select cs b) → execOp a.eval o = execOp ρ o) ∧ (opK c.E o.op).same (c.st i).tm tm := by
  let rl : List Nat := o.op.operands.toList.filterMap fun | .tmp t => some t | _ => none
  have hrl : ∀ t, t ∈ rl ↔ Operand.tmp t ∈ o.op.operands.toList := fun t => by
    simp only [rl, List.mem_filterMap]
    constructor
    · rintro ⟨x, hx, e⟩
      cases x <;> simp at e
      subst e; exact hx
    · exact fun h => ⟨_, h, rfl⟩
  let tm := only (c.st i).tm rl
  have htm : ∀ t, Operand.tmp t ∈ o.op.operands.toList → tget t tm = tget t (c.st i).tm := fun t ht => by
    show tget t (only _ _) = _
    rw [tget_only, if_pos ((hrl t).2 ht)]
  let ρ : Operand → Value := fun x => match x with
    | .tmp t => γ m (tget t tm)
    | .const v => v
    | .global g => .pointer (some ⟨g, 0, none⟩)
    | .func f => .func (.func f) #[] #[]
  refine ⟨tm, ρ, ⟨fun t => ⟨rfl, ?_⟩, fun _ => rfl, fun _ => rfl, fun _ => rfl⟩, fun hs => ?_, ?_⟩
  · by_cases ht : Operand.tmp t ∈ o.op.operands.toList
    · rw [htm t ht]; exact (k.reads I hi hni hpre ho (.inl ht)).2
    · show In _ (tget t (only _ _))
      rw [tget_only, if_neg fun h => ht ((hrl t).1 h)]
      exact trivial
  · refine execOp_congr o hs fun x hx => ?_
    cases x with
    | tmp t =>
      have ht : Operand.tmp t ∈ o.op.operands.toList := by simpa using hx
      show a.tmps.getD t undef = γ m (tget t tm)
      rw [htm t ht]
      exact (k.reads I hi hni hpre ho (.inl ht)).1
    | const v => rfl
    | global g => rfl
    | func f => rfl
  · refine opK_congr o.op fun x hx => ?_
    cases x with
    | tmp t =>
      have ht : Operand.tmp t ∈ o.op.operands.toList := by simpa using hx
      exact (htm t ht).symm
    | const v => rfl
    | global g => rfl
    | func f => rfl
/-- The value of a read is the same whenever it may come up. -/
theorem rd_value (k : c.Ok) (I : c.Inv L a w m q) (hi : i < c.n) (hni : L i ≠ true) (hpre : ∀ j, c.pr i j → L j = true) {o : Oper} (ho : c.all[i]? = some o) (hK : c.K i = .rd) :
    ∃ f H, opK c.E o.op = .rd f ∧ WantT c.all o (c.st i).tm ∧ H.t = (c.st q).h.t ∧ H.al = (c.st q).h.al ∧ (∀ x, dom (c.st q).h x → x.n < H.nx.n) ∧ (∀ p ob mk, p < i → c.K p = .nw ob mk → (c.nm p).n < H.nx.n) ∧
      f (c.st i).tm (layFrees (preOf c.all i) (c.st i).fls H) = some (c.v i) := by
  obtain ⟨o', p, ho', _, _, hs⟩ := k.run.get hi
  rw [ho] at ho'; cases ho'
  rw [hK] at hs
  simp only [StepF] at hs
  obtain ⟨hw, ⟨f, hf, hval, hback, hheld⟩, _⟩ := hs
  by_cases hq : q ≤ i
  · by_cases hex : ∃ d, q ≤ d ∧ d < i ∧ c.K d = .wr
    · obtain ⟨d, ⟨h1, h2, h3⟩, h4⟩ := least hex
      have hqd := k.run.quiet (i := q) (j := d) h1 (by have : d < c.all.length := Nat.lt_trans h2 hi; omega) fun x hx1 hx2 hx3 => h4 x hx2 ⟨hx1, by omega, hx3⟩
      have hnL : L d ≠ true := fun h => by have := (I.qc d (by omega) h3).1 h; omega
      have hnp : Nat.testBit (preOf c.all i) d = false := by
        cases hb : Nat.testBit (preOf c.all i) d with
        | false => rfl
        | true => exact absurd (hpre d hb) hnL
      have hv := k.run.back rfl rfl (pre := preOf c.all i) (fun x y h5 h6 => k.pr_trans h5 h6) (Nat.le_of_lt hi) hback d h2 h3 hnp
      refine ⟨f, ⟨(c.st d).h.t, (c.st i).h.nx, (c.st d).h.al, (c.st d).h.df⟩, hf, hw, hqd.1, hqd.2.1, fun x hx => ?_, fun p ob mk hp hk => k.name_lt hk hp (Nat.le_of_lt hi), hv⟩
      exact Nat.lt_of_lt_of_le (I.rep.fresh x hx) (k.run.mono hq (Nat.le_of_lt hi))
    · have hqi := k.run.quiet (i := q) (j := i) hq (Nat.le_of_lt hi) fun x hx1 hx2 hx3 => hex ⟨x, hx1, hx2, hx3⟩
      refine ⟨f, (c.st i).h, hf, hw, hqi.1, hqi.2.1, fun x hx => Nat.lt_of_lt_of_le (I.rep.fresh x hx) (k.run.mono hq (Nat.le_of_lt hi)), fun p ob mk hp hk => k.name_lt hk hp (Nat.le_of_lt hi), hval⟩
  · rcases I.qm with h0 | ⟨d, hd, hKd⟩
    · omega
    · have hdn : d < c.n := by have := I.qn; omega
      have hdi : i < d := by
        rcases Nat.lt_or_ge i d with h | h
        · exact h
        · have : d = i := by omega
          subst this; rw [hK] at hKd; cases hKd
      have hLd : L d = true := (I.qc d hdn hKd).2 (by omega)
      have hnp : Nat.testBit (preOf c.all d) i = false := by
        cases hb : Nat.testBit (preOf c.all d) i with
        | false => rfl
        | true => exact absurd (I.closed d i hLd hb) hni
      obtain ⟨od, pd, _, _, _, hsd⟩ := k.run.get hdn
      rw [hKd] at hsd
      simp only [StepF] at hsd
      have hst := hsd.2.2.2.1
      have hmem := k.run.held (i := i + 1) (x := ⟨i, fun h => f (c.st i).tm (layFrees (preOf c.all i) (c.st i).fls h), c.v i⟩) (by rw [hheld]; simp) (k := d) (by omega) (Nat.le_of_lt hdn)
      have hv := still_spec hst _ hmem hnp
      refine ⟨f, (c.st q).h, hf, hw, rfl, rfl, I.rep.fresh, fun p ob mk hp hk => k.name_lt hk (by omega) I.qn, ?_⟩
      rw [hd]; exact hv
end
end Cx.Ok
end Go.Ev
