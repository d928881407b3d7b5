/- The evaluator of closed calls, part Gg: what the program computes on given inputs, read by the kernel; sound in every world (part Gh). -/
import Derived.Test.YtendmajekgmkhaaGreatDoorGf
set_option linter.unusedVariables false
set_option linter.unusedSimpArgs false
set_option linter.unnecessarySimpa false
namespace Go.Ev
variable {c : Cx}
namespace Cx.Ok
section
variable {L L' : Nat → Bool} {a : Act} {w : World} {m : Mp} {q i : Nat}
theorem nw_inv (k : c.Ok) (I : c.Inv L a w m q) (hi : i < c.n) (hni : L i ≠ true) (hpre : ∀ j, c.pr i j → L j = true) (hL' : ∀ j, L' j = true ↔ (L j = true ∨ j = i)) {o : Oper} (ho : c.all[i]? = some o)
    {ob : AObj} {mk : Mk} (hK : c.K i = .nw ob mk) (hv : c.v i = mk.mk (c.nm i)) {cap : Nat} {obj : Obj} (hb : BlkObj (m.set (c.nm i) w.heap.size cap) (c.nm i) ob obj) (hin : InObj (c.DP q i) ob) (hne : ob ≠ .free) :
    c.Inv L' (a.put o.dst (γ (m.set (c.nm i) w.heap.size cap) (c.v i))) { w with heap := w.heap.push obj } (m.set (c.nm i) w.heap.size cap) q := by
  have down : ∀ p, L' p = true → p ≠ i → L p = true := fun p hp hne => by rcases (hL' p).1 hp with h | h; exact h; exact absurd h hne
  have hnd : ¬ dom (c.st q).h (c.nm i) := I.nofl i ob mk hi hK hni
  have hlive : ∀ x, Live c L q x → x ≠ c.nm i := fun x hx e => by
    rcases hx with hx | ⟨p, ob', mk', h1, h2, h3, h4⟩
    · rw [e] at hx; exact hnd hx
    · rw [e] at h4
      have := k.name_inj hK h2 hi h1 h4
      subst this; exact hni h3
  have hag : ∀ x, Live c L q x → (m.set (c.nm i) w.heap.size cap).b x = m.b x ∧ (m.set (c.nm i) w.heap.size cap).c x = m.c x := fun x hx => Mp.set_other m _ _ (hlive x hx)
  have hkeep : ∀ b, b < w.heap.size → (w.heap.push obj)[b]? = w.heap[b]? := fun b hb => by rw [Array.getElem?_push, if_neg (Nat.ne_of_lt hb)]
  have hle : c.h0.nx.n ≤ (c.nm i).n := by
    have := k.run.mono (i := 0) (j := i) (Nat.zero_le _) (Nat.le_of_lt hi)
    rw [k.run.first] at this
    exact this
  have hlt : ∀ p ob' mk', p < c.n → c.K p = .nw ob' mk' → L p = true → m.b (c.nm p) < w.heap.size := fun p ob' mk' h1 h2 h3 => by
    rcases I.flo p ob' mk' h1 h2 h3 with h | F
    · exact I.rep.lt h
    · obtain ⟨o', h4, _⟩ := F.blk; exact (Array.getElem?_eq_some_iff.1 h4).1
  have hname : ∀ p ob' mk', p < c.n → c.K p = .nw ob' mk' → L p = true → (m.set (c.nm i) w.heap.size cap).b (c.nm p) = m.b (c.nm p) ∧ (m.set (c.nm i) w.heap.size cap).c (c.nm p) = m.c (c.nm p) := fun p ob' mk' h1 h2 h3 => hag _ (.inr ⟨p, ob', mk', h1, h2, h3, rfl⟩)
  have hDVi : ∀ x, c.DP q i x → c.DV q i x := fun x hx => by
    rcases hx with hx | ⟨p, ob, mk, h1, h2⟩
    · exact .inl hx
    · exact .inr ⟨p, ob, mk, .inr h1, h2⟩
  have hself : c.DV q i (c.nm i) := .inr ⟨i, ob, mk, .inl rfl, hi, hK, rfl⟩
  have g := I.goes
  refine k.mk_inv I hi hni hpre hL' ho I.qn (fun j hj hw => ?_) I.qm (I.rep.congr (fun x hx => hag x (.inl hx)) hkeep)
    ⟨g.tape, g.os, g.output, Nat.le_trans g.size (by simp), fun b hb hn => ?_, fun x hx => ?_, g.nx, g.newd, fun x hx hx0 => ?_, g.old⟩ I.df
    (fun p ob' mk' hp hk hLp => ?_) (fun p ob' mk' hp hk hLp => ?_) (fun p ob' mk' hp hk hLp => I.nofl p ob' mk' hp hk (fun h => hLp ((hL' p).2 (.inl h)))) hag (fun x hx => hx) ?_
  · rw [← I.qc j hj hw, hL']
    constructor
    · rintro (h | rfl)
      · exact h
      · rw [hK] at hw; cases hw
    · exact .inl
  · show (w.heap.push obj)[b]? = _
    rw [hkeep b (Nat.lt_of_lt_of_le hb g.size)]
    exact g.keep b hb hn
  · have : x ≠ c.nm i := fun e => by rw [e] at hx; omega
    rw [(Mp.set_other m w.heap.size cap this).1, (Mp.set_other m w.heap.size cap this).2]
    exact g.agree x hx
  · rw [(hag x (.inl hx)).1]; exact g.newb x hx hx0
  · by_cases e : p = i
    · subst e
      rw [hK] at hk; cases hk
      right
      refine ⟨⟨obj, by rw [Mp.set_b_same]; show (w.heap.push obj)[w.heap.size]? = _; simp, hb⟩, by rw [Mp.set_b_same]; exact g.size, fun x hx => ?_, fun p' ob' mk' h1 h2 h3 h4 => ?_⟩
      · rw [Mp.set_b_same, (hag x (.inl hx)).1]; exact Nat.ne_of_lt (I.rep.lt hx)
      · have h3' := down p' h3 h4
        rw [Mp.set_b_same, (hname p' ob' mk' h1 h2 h3').1]; exact Nat.ne_of_lt (hlt p' ob' mk' h1 h2 h3')
    · have hLp' := down p hLp e
      rcases I.flo p ob' mk' hp hk hLp' with h | F
      · exact .inl h
      · right
        obtain ⟨o', f1, f2⟩ := F.blk
        have hnp := hname p ob' mk' hp hk hLp'
        refine ⟨⟨o', by rw [hnp.1]; show (w.heap.push obj)[_]? = _; rw [hkeep _ (Array.getElem?_eq_some_iff.1 f1).1]; exact f1, BlkObj_congr (fun x hx => hag x (live_dv I hLp' hx)) (I.fin p ob' mk' hp hk hLp').1 hnp.2 f2⟩,
          by rw [hnp.1]; exact F.new, fun x hx => by rw [hnp.1, (hag x (.inl hx)).1]; exact F.apart x hx, fun p' ob2 mk2 h1 h2 h3 h4 => ?_⟩
        by_cases e' : p' = i
        · subst e'; rw [Mp.set_b_same, hnp.1]; exact Ne.symm (Nat.ne_of_lt (hlt p ob' mk' hp hk hLp'))
        · have h3' := down p' h3 e'
          rw [hnp.1, (hname p' ob2 mk2 h1 h2 h3').1]; exact F.each p' ob2 mk2 h1 h2 h3' h4
  · by_cases e : p = i
    · subst e
      rw [hK] at hk; cases hk
      exact ⟨InObj_mono hDVi hin, hne⟩
    · exact I.fin p ob' mk' hp hk (down p hLp e)
  · rw [hv]; exact mk_in mk hself
/-- A link of the chain. -/
theorem wr_inv (k : c.Ok) (I : c.Inv L a w m q) (hi : i < c.n) (hni : L i ≠ true) (hpre : ∀ j, c.pr i j → L j = true) (hL' : ∀ j, L' j = true ↔ (L j = true ∨ j = i)) {o : Oper} (ho : c.all[i]? = some o)
    (hK : c.K i = .wr) {m1 : Mp} {w1 : World} (r1 : Rep c.E.gl m1 (c.st (i + 1)).h w1) (g1 : Goes m (layFrees (preOf c.all i) (c.st i).fls (c.st i).h) w m1 (c.st (i + 1)).h w1)
    (hdf : (c.st (i + 1)).h.df = (layFrees (preOf c.all i) (c.st i).fls (c.st i).h).df) (hv : In (dom (c.st (i + 1)).h) (c.v i)) :
    ∃ m', γ m' (c.v i) = γ m1 (c.v i) ∧ c.Inv L' (a.put o.dst (γ m' (c.v i))) w1 m' (i + 1) := by
  have down : ∀ p, L' p = true → p ≠ i → L p = true := fun p hp hne => by rcases (hL' p).1 hp with h | h; exact h; exact absurd h hne
  have hni' : ∀ p ob mk, c.K p = .nw ob mk → p ≠ i := fun p ob mk hp e => by subst e; rw [hK] at hp; cases hp
  -- the chain behind us
  have hq : q ≤ i := by
    rcases I.qm with h0 | ⟨d, hd, hKd⟩
    · omega
    · rcases Nat.lt_or_ge i d with h | h
      · have hdn : d < c.n := by have := I.qn; omega
        have hLd : L d = true := (I.qc d hdn hKd).2 (by omega)
        have := k.run.ordered rfl h hdn hK hKd
        exact absurd (I.closed d i hLd this) hni
      · by_cases e : d = i
        · subst e
          exact absurd ((I.qc d hi hKd).2 (by omega)) hni
        · omega
  have hqi := k.run.quiet (i := q) (j := i) hq (Nat.le_of_lt hi) fun x hx1 hx2 hx3 => by
    have := k.run.ordered rfl hx2 hi hx3 hK
    have := (I.qc x (by omega) hx3).1 (hpre x this)
    omega
  have hnx : (c.st q).h.nx.n ≤ (c.st i).h.nx.n := k.run.mono hq (Nat.le_of_lt hi)
  obtain ⟨lf1, lf2, lf3⟩ := layFrees_fields (preOf c.all i) (c.st i).fls (c.st i).h
  have hdom := k.doms I hi hpre hqi.1
  have hfrH : ∀ x, dom (c.st q).h x → x.n < (c.st i).h.nx.n := fun x hx => Nat.lt_of_lt_of_le (I.rep.fresh x hx) hnx
  have hin0 : ∀ x, dom (c.st q).h x → dom (layFrees (preOf c.all i) (c.st i).fls (c.st i).h) x := fun x hx => (hdom x).2 (.inl hx)
  have hup : ∀ x, dom (c.st q).h x → dom (c.st (i + 1)).h x := fun x hx => g1.old x (hin0 x hx)
  have hprefl : ∀ p ob mk, c.pr i p → p < c.n → c.K p = .nw ob mk → dom (c.st (i + 1)).h (c.nm p) := fun p ob mk h1 h2 h3 => g1.old _ ((hdom _).2 (.inr ⟨p, ob, mk, h1, h2, h3, rfl⟩))
  -- the names of the other objects
  have hlow : ∀ p ob mk, p < c.n → c.K p = .nw ob mk → ¬ dom (layFrees (preOf c.all i) (c.st i).fls (c.st i).h) (c.nm p) → ¬ dom (c.st (i + 1)).h (c.nm p) := fun p ob mk h1 h2 h3 h4 => by
    have hpi := hni' p ob mk h2
    rcases Nat.lt_or_ge p i with h | h
    · have := k.name_lt h2 h (Nat.le_of_lt hi)
      rcases g1.newd _ h4 with h5 | h5
      · exact h3 h5
      · rw [lf1] at h5; omega
    · have h6 := r1.fresh _ h4
      have h7 := k.run.mono (i := i + 1) (j := p) (by omega) (Nat.le_of_lt h1)
      show False
      have : (c.nm p).n = (c.st p).h.nx.n := rfl
      omega
  let m' : Mp := ⟨fun x => @ite _ (dom (c.st (i + 1)).h x) (Classical.propDecidable _) (m1.b x) (m.b x), fun x => @ite _ (dom (c.st (i + 1)).h x) (Classical.propDecidable _) (m1.c x) (m.c x)⟩
  have hm1 : ∀ x, dom (c.st (i + 1)).h x → m'.b x = m1.b x ∧ m'.c x = m1.c x := fun x hx => by
    simp [m', hx]
  have hm0 : ∀ x, ¬ dom (c.st (i + 1)).h x → m'.b x = m.b x ∧ m'.c x = m.c x := fun x hx => by
    simp [m', hx]
  have hmlow : ∀ x, x.n < (layFrees (preOf c.all i) (c.st i).fls (c.st i).h).nx.n → m'.b x = m.b x ∧ m'.c x = m.c x := fun x hx => by
    by_cases e : dom (c.st (i + 1)).h x
    · rw [(hm1 x e).1, (hm1 x e).2]; exact g1.agree x hx
    · exact hm0 x e
  have hag : ∀ x, Live c L q x → m'.b x = m.b x ∧ m'.c x = m.c x := fun x hx => by
    rcases hx with hx | ⟨p, ob, mk, h1, h2, h3, rfl⟩
    · exact hmlow x (by rw [lf1]; exact hfrH x hx)
    · by_cases e : dom (layFrees (preOf c.all i) (c.st i).fls (c.st i).h) (c.nm p)
      · rcases (hdom _).1 e with h | ⟨p', ob', mk', h4, h5, h6, h7⟩
        · exact hmlow _ (by rw [lf1]; exact hfrH _ h)
        · exact hmlow _ (by rw [lf1, h7]; exact k.name_lt h6 (k.pr_lt h4) (Nat.le_of_lt hi))
      · exact hm0 _ (hlow p ob mk h1 h2 e)
  have g1' : Goes m (layFrees (preOf c.all i) (c.st i).fls (c.st i).h) w m' (c.st (i + 1)).h w1 := g1.remap hm1 hmlow
  have rin := k.shown I hi hpre hqi.1 hqi.2.1 hfrH (fun p ob mk hp hk => k.name_lt hk hp (Nat.le_of_lt hi))
  have gin : Goes c.m0 c.h0 c.w0 m (layFrees (preOf c.all i) (c.st i).fls (c.st i).h) w := by
    refine I.goes.lay (by rw [lf1]; exact hnx) hin0 fun x hx => ?_
    rcases (hdom x).1 hx with h | ⟨p, ob, mk, h1, h2, h3, rfl⟩
    · exact .inl h
    · rcases I.flo p ob mk h2 h3 (hpre p h1) with h | F
      · exact .inl h
      · refine .inr ⟨?_, F.new⟩
        have := k.run.mono (i := 0) (j := p) (Nat.zero_le _) (Nat.le_of_lt h2)
        rw [k.run.first] at this
        exact this
  have hv' : γ m' (c.v i) = γ m1 (c.v i) := γ_congr hm1 _ hv
  have hlt : ∀ p ob' mk', p < c.n → c.K p = .nw ob' mk' → L p = true → m.b (c.nm p) < w.heap.size := fun p ob' mk' h1 h2 h3 => by
    rcases I.flo p ob' mk' h1 h2 h3 with h | F
    · exact I.rep.lt h
    · obtain ⟨o', h4, _⟩ := F.blk; exact (Array.getElem?_eq_some_iff.1 h4).1
  refine ⟨m', hv', ?_⟩
  refine k.mk_inv I hi hni hpre hL' ho hi (fun j hj hw => ?_) (.inr ⟨i, rfl, hK⟩) (r1.congr hm1 (fun _ _ => rfl)) (Goes.trans k.rep rin gin g1')
    (by rw [hdf, lf3, hqi.2.2]; exact I.df) (fun p ob mk hp hk hLp => ?_) (fun p ob mk hp hk hLp => ?_) (fun p ob mk hp hk hLp => ?_) hag hup (In_mono (fun x hx => .inl hx) _ hv)
  · rw [hL']
    constructor
    · rintro (h | rfl)
      · have := (I.qc j hj hw).1 h; omega
      · omega
    · intro h
      by_cases e : j = i
      · exact .inr e
      · exact .inl (hpre j (k.run.ordered rfl (by omega) hi hw hK))
  · have hLp' := down p hLp (hni' p ob mk hk)
    by_cases e : dom (c.st (i + 1)).h (c.nm p)
    · exact .inl e
    · right
      rcases I.flo p ob mk hp hk hLp' with h | F
      · exact absurd (hup _ h) e
      · have hnp := hm0 _ e
        have hap : ∀ x, dom (layFrees (preOf c.all i) (c.st i).fls (c.st i).h) x → m.b x ≠ m.b (c.nm p) := fun x hx => by
          rcases (hdom x).1 hx with h | ⟨p', ob', mk', h1, h2, h3, rfl⟩
          · exact F.apart x h
          · refine F.each p' ob' mk' h2 h3 (hpre p' h1) fun e' => ?_
            subst e'
            exact e (hprefl p' ob' mk' h1 h2 h3)
        have hap' : ∀ x, dom (c.st (i + 1)).h x → m'.b x ≠ m.b (c.nm p) := fun x hx => by
          rw [(hm1 x hx).1]
          by_cases e2 : dom (layFrees (preOf c.all i) (c.st i).fls (c.st i).h) x
          · rw [(g1.agree x (rin.fresh x e2)).1]; exact hap x e2
          · rcases g1.newb x hx e2 with h | ⟨y, hy, h⟩
            · have := hlt p ob mk hp hk hLp'; omega
            · rw [← h]; exact hap y hy
        obtain ⟨o', f1, f2⟩ := F.blk
        refine ⟨⟨o', by rw [hnp.1, g1.keep _ (hlt p ob mk hp hk hLp') hap]; exact f1, BlkObj_congr (fun x hx => hag x (live_dv I hLp' hx)) (I.fin p ob mk hp hk hLp').1 hnp.2 f2⟩, by rw [hnp.1]; exact F.new,
          fun x hx => by rw [hnp.1]; exact hap' x hx, fun p' ob' mk' h1 h2 h3 h4 => ?_⟩
        rw [hnp.1]
        have h3' := down p' h3 (hni' p' ob' mk' h2)
        by_cases e3 : dom (c.st (i + 1)).h (c.nm p')
        · exact hap' _ e3
        · rw [(hm0 _ e3).1]; exact F.each p' ob' mk' h1 h2 h3' h4
  · obtain ⟨f1, f2⟩ := I.fin p ob mk hp hk (down p hLp (hni' p ob mk hk))
    refine ⟨InObj_mono (fun x hx => ?_) f1, f2⟩
    rcases hx with hx | hx
    · exact .inl (hup x hx)
    · exact .inr hx
  · refine hlow p ob mk hp hk fun hd => ?_
    rcases (hdom _).1 hd with h | ⟨p', ob', mk', h1, h2, h3, h4⟩
    · exact I.nofl p ob mk hp hk (fun h => hLp ((hL' p).2 (.inl h))) h
    · have := k.name_inj hk h3 hp h2 h4
      subst this
      exact hLp ((hL' p).2 (.inl (hpre p h1)))
end
end Cx.Ok
end Go.Ev
