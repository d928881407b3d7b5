/- The evaluator of closed calls, part Gh: what the program computes on given inputs, read by the kernel; sound in every world (part Gh). -/
import Derived.Test.YtendmajekgmkhaaGreatDoorGg
set_option linter.unusedVariables false
set_option linter.unusedSimpArgs false
set_option linter.unnecessarySimpa false
namespace Go.Ev
variable {c : Cx}
theorem opK_select {E : Env} {cs b} : opK E (.select cs b) = .bad := rfl
theorem count_set : ∀ (x : List Bool) (i : Nat), x[i]? = some false → ((x.set i true).filter id).length = (x.filter id).length + 1
  | [], _, h => by cases h
  | b :: x, 0, h => by simp at h; subst h; simp
  | b :: x, i + 1, h => by
    have := count_set x i (by simpa using h)
    rw [List.set_cons_succ]
    cases b <;> simp [this]
namespace Cx.Ok
section
variable {L L' : Nat → Bool} {a : Act} {w : World} {m : Mp} {q i : Nat}
theorem wants (k : c.Ok) (I : c.Inv L a w m q) (hi : i < c.n) (hni : L i ≠ true) (hpre : ∀ j, c.pr i j → L j = true) {o : Oper} (ho : c.all[i]? = some o) :
    (WantT c.all o (c.st i).tm → Region.wanted o (yielded c.all.toArray a.tmps) = true) ∧ ((∃ wk, wantK c.all o.guard = some wk ∧ wk.f (c.st i).tm = some false) → Region.wanted o (yielded c.all.toArray a.tmps) = false) := by
  obtain ⟨g1, g2⟩ := want_gen (all := c.all) (o := o) (m := m) (tm := (c.st i).tm) (a := a) fun j b oj d h1 h2 h3 => (k.reads I hi hni hpre ho (.inr ⟨j, b, oj, h1, h2, h3⟩)).1
  exact ⟨fun h => by rcases h with h | ⟨wk, h1, h2⟩; exact g1 h; exact g2 wk true h1 h2, fun ⟨wk, h1, h2⟩ => g2 wk false h1 h2⟩
theorem step (k : c.Ok) (I : c.Inv L a w m q) (hi : i < c.n) (hni : L i ≠ true) (hpre : ∀ j, c.pr i j → L j = true) (hL' : ∀ j, L' j = true ↔ (L j = true ∨ j = i)) {Q : Exit → Act → World → Prop} {Kont : Act → World → Prop}
    (hK : ∀ a' w' m' q', c.Inv L' a' w' m' q' → Kont a' w') : wpOp c.P c.all.toArray Q i Kont a w := by
  obtain ⟨o, p, ho, hp, htm, hs⟩ := k.run.get hi
  have hat : c.all.toArray[i]? = some o := by simpa using ho
  unfold wpOp
  rw [hat]
  simp only
  obtain ⟨wt, wf⟩ := k.wants I hi hni hpre ho
  obtain ⟨tm, ρ, hsrc, hexec, hsame⟩ := k.view I hi hni hpre ho
  have hop := opK_ok k.env o.op
  have hsrcT : ∀ {H : Heap}, H.t = (c.st q).h.t → Src c.E.gl m (dom (layFrees (preOf c.all i) (c.st i).fls H)) tm ρ := fun ht =>
    ⟨fun t => ⟨(hsrc.tmp t).1, In_mono (fun x hx => (k.doms I hi hpre ht x).2 hx) _ (hsrc.tmp t).2⟩, hsrc.const, hsrc.global, hsrc.func⟩
  cases hk : c.K i with
  | skip =>
    rw [hk] at hs
    simp only [StepF] at hs
    rw [wf hs.2.1]
    simp only [Bool.false_eq_true, if_false]
    refine hK _ _ m q ?_
    have := k.calm I hi hni hpre hL' ho (by rw [hk]; simp) (by rw [hk]; simp) (by rw [hs.1]; exact trivial)
    rw [hs.1] at this
    exact this
  | pu =>
    rw [hk] at hs
    simp only [StepF] at hs
    rw [wt hs.1]
    simp only [if_true]
    obtain ⟨f, hf, hv⟩ := hs.2.1
    rw [hf] at hop hsame
    have hns : ∀ cs b, o.op ≠ .select cs b := fun cs b e => by rw [e, opK_select] at hf; cases hf; cases hv
    obtain ⟨h1, h2⟩ := hop m (c.DP q i) tm ρ (c.v i) w o rfl hsrc (by rw [← (show f (c.st i).tm = f tm from hsame)]; exact hv)
    left
    unfold Oper.wp
    rw [hexec hns, h1]
    exact hK _ _ m q (k.calm I hi hni hpre hL' ho (by rw [hk]; simp) (by rw [hk]; simp) h2)
  | rd =>
    obtain ⟨f, H, hf, hw, ht, ha, hn, hfl, hv⟩ := k.rd_value I hi hni hpre ho hk
    rw [wt hw]
    simp only [if_true]
    rw [hf] at hop hsame
    have hns : ∀ cs b, o.op ≠ .select cs b := fun cs b e => by rw [e, opK_select] at hf; cases hf
    obtain ⟨h1, h2⟩ := hop m _ tm ρ (c.v i) w o rfl (k.shown I hi hpre ht ha hn hfl) (hsrcT ht) (by rw [← (hsame : ∀ h, f (c.st i).tm h = f tm h)]; exact hv)
    left
    unfold Oper.wp
    rw [hexec hns, h1]
    exact hK _ _ m q (k.calm I hi hni hpre hL' ho (by rw [hk]; simp) (by rw [hk]; simp) (In_mono (fun x hx => (k.doms I hi hpre ht x).1 hx) _ h2))
  | nw ob mk =>
    rw [hk] at hs
    simp only [StepF] at hs
    rw [wt hs.1]
    simp only [if_true]
    obtain ⟨f, hf, hv⟩ := hs.2.1
    rw [hf] at hop hsame
    have hns : ∀ cs b, o.op ≠ .select cs b := fun cs b e => by rw [e, opK_select] at hf; cases hf
    have hnd : ¬ c.DP q i (c.nm i) := fun h => by
      rcases h with h | ⟨p, ob', mk', h1, h2, h3, h4⟩
      · exact I.nofl i ob mk hi hk hni h
      · have := k.name_inj hk h3 hi h2 h4
        subst this
        exact absurd (k.pr_lt h1) (Nat.lt_irrefl _)
    obtain ⟨cap, obj, h1, h2, h3, h4⟩ := hop m (c.DP q i) tm ρ ob mk w o rfl hsrc (by rw [← (show f (c.st i).tm = f tm from hsame)]; exact hv) (c.nm i) hnd
    left
    unfold Oper.wp
    rw [hexec hns, h1]
    have := k.nw_inv I hi hni hpre hL' ho hk hs.2.2.1 h2 h3 h4
    rw [show c.v i = mk.mk (c.nm i) from hs.2.2.1] at this
    exact hK _ _ _ q this
  | wr =>
    rw [hk] at hs
    simp only [StepF] at hs
    rw [wt hs.1]
    simp only [if_true]
    obtain ⟨f, hf, hv⟩ := hs.2.1
    rw [hf] at hop hsame
    have hns : ∀ cs b, o.op ≠ .select cs b := fun cs b e => by rw [e, opK_select] at hf; cases hf
    left
    unfold Oper.wp
    rw [hexec hns]
    -- the memory that it is shown
    have hq : q ≤ i := by
      rcases I.qm with h0 | ⟨d, hd, hKd⟩
      · omega
      · rcases Nat.lt_or_ge i d with h | h
        · have hdn : d < c.n := by have := I.qn; omega
          have hLd : L d = true := (I.qc d hdn hKd).2 (by omega)
          exact absurd (I.closed d i hLd (k.run.ordered rfl h hdn hk hKd)) hni
        · by_cases e : d = i
          · subst e
            exact absurd ((I.qc d hi hKd).2 (by omega)) hni
          · omega
    have hqi := k.run.quiet (i := q) (j := i) hq (Nat.le_of_lt hi) fun x hx1 hx2 hx3 => by
      have := (I.qc x (by omega) hx3).1 (hpre x (k.run.ordered rfl hx2 hi hx3 hk))
      omega
    have rin := k.shown I hi hpre hqi.1 hqi.2.1 (fun x hx => Nat.lt_of_lt_of_le (I.rep.fresh x hx) (k.run.mono hq (Nat.le_of_lt hi))) (fun p ob mk hp hk => k.name_lt hk hp (Nat.le_of_lt hi))
    have hg := hop m _ tm ρ w o rfl rin (hsrcT hqi.1)
    rw [← (hsame : ∀ h, f (c.st i).tm h = f tm h)] at hg
    rcases hv with hv | ⟨g, args, hv, hc⟩
    · rw [hv] at hg
      obtain ⟨m1, w1, r, h2, h3, h4, h5, h6, h7⟩ := hg
      rw [h2]
      obtain ⟨m', e1, J⟩ := k.wr_inv I hi hni hpre hL' ho hk h4 h5 h7 h6
      rcases h3 with rfl | ⟨rfl, h8⟩
      · rw [← e1]; exact hK _ _ m' _ J
      · rw [h8] at J; exact hK _ _ m' _ J
    · rw [hv] at hg
      obtain ⟨h2, h3⟩ := hg
      rw [h2]
      obtain ⟨h4, h5⟩ := k.cfok g args _ _ _ hc
      show Calls c.P g ⟨γs m args⟩ w _
      refine (h5 m w rin h3 (fun d hd => ?_)).mono fun en w1 ⟨m1, he, r1, g1, hin⟩ => ?_
      · rw [(layFrees_fields _ _ _).2.2, hqi.2.2, I.df] at hd
        exact layFrees_dom (fun p hp ht' => by
          obtain ⟨mk, h1, h2, h3⟩ := (k.fls p (Nat.le_of_lt hi)).1 hp
          exact (I.fin p.ix p.ob mk (by omega) h2 (hpre _ ht')).2) ((dom_ext hqi.1 d).2 (I.goes.old d (k.ddom d hd)))
      · subst he
        obtain ⟨m', e1, J⟩ := k.wr_inv I hi hni hpre hL' ho hk r1 g1 h4 hin
        show Kont (a.put o.dst (γ m1 (c.v i))) w1
        rw [← e1]; exact hK _ _ m' _ J
end

/-! ### Any order -/
def ofArr (l : Array Bool) (j : Nat) : Bool := l.getD j false
theorem ready_spec {l : Array Bool} (hl : l.size = c.n) {i : Nat} : i ∈ Region.ready .any c.all.toArray l ↔ (i < c.n ∧ ofArr l i ≠ true ∧ ∃ o, c.all[i]? = some o ∧ ∀ e ∈ o.after.toList, binding e = true → ofArr l e.on = true) := by
  have hb : ∀ e : Edge, Region.binds .any e = binding e := fun e => by unfold Region.binds binding; cases e.ground <;> rfl
  unfold Region.ready
  simp only [List.mem_filter, List.mem_range, List.size_toArray, Bool.and_eq_true, Bool.not_eq_true']
  constructor
  · rintro ⟨h1, h2, h3⟩
    have hi : i < l.size := by rw [hl]; exact h1
    refine ⟨h1, ?_, ?_⟩
    · unfold ofArr
      simp [hi] at h2 ⊢; exact h2
    · have ho : c.all[i]? = some c.all[i] := List.getElem?_eq_getElem h1
      have ho' : c.all.toArray[i]? = some c.all[i] := by simpa using ho
      refine ⟨_, ho, fun e he hbe => ?_⟩
      rw [ho'] at h3
      simp only [Option.map_some, Option.getD_some, Array.all_eq_true_iff_forall_mem, Bool.or_eq_true, Bool.not_eq_true'] at h3
      rcases h3 e (by simpa using he) with h4 | h4
      · rw [hb, hbe] at h4; cases h4
      · exact h4
  · rintro ⟨h1, h2, o, ho, h3⟩
    have hi : i < l.size := by rw [hl]; exact h1
    have ho' : c.all.toArray[i]? = some o := by simpa using ho
    refine ⟨h1, ?_, ?_⟩
    · unfold ofArr at h2
      simp [hi] at h2 ⊢; exact h2
    · rw [ho']
      simp only [Option.map_some, Option.getD_some, Array.all_eq_true_iff_forall_mem, Bool.or_eq_true, Bool.not_eq_true']
      intro e he
      cases hbe : binding e with
      | false => left; rw [hb]; exact hbe
      | true => right; exact h3 e (by simpa using he) hbe
theorem any_order (k : c.Ok) {Q : Exit → Act → World → Prop} (hQ : ∀ L a w m q, (∀ i, i < c.n → L i = true) → c.Inv L a w m q → Q .normal a w) : ∀ (fuel : Nat) (l : Array Bool) (a : Act) (w : World) (m : Mp) (q : Nat),
    l.size = c.n → c.n ≤ fuel + (l.toList.filter id).length → c.Inv (ofArr l) a w m q → wpAny c.P .any c.all.toArray Q fuel l a w := by
  have done : ∀ (l : Array Bool) (a : Act) (w : World) (m : Mp) (q : Nat), l.size = c.n → c.Inv (ofArr l) a w m q → Region.ready .any c.all.toArray l = [] → Q .normal a w := fun l a w m q hl I hr => by
    refine hQ (ofArr l) a w m q (fun i hi => ?_) I
    cases Classical.em (∃ j, j < c.n ∧ ofArr l j ≠ true) with
    | inr h => exact Classical.byContradiction fun hn => h ⟨i, hi, hn⟩
    | inl h =>
      obtain ⟨j, ⟨h1, h2⟩, h3⟩ := least h
      have ho : c.all[j]? = some c.all[j] := List.getElem?_eq_getElem h1
      have : j ∈ Region.ready .any c.all.toArray l := (ready_spec hl).2 ⟨h1, h2, _, ho, fun e he hbe => by
        have hp : Nat.testBit (preOf c.all j) e.on = true := (pre_iff ho e.on).2 ⟨e, he, hbe, .inl rfl⟩
        have hlt : e.on < j := k.ord.lt j e.on hp
        exact Classical.byContradiction fun hn => h3 e.on hlt ⟨by omega, hn⟩⟩
      rw [hr] at this; cases this
  intro fuel
  induction fuel with
  | zero =>
    intro l a w m q hl hf I
    refine ⟨?_, ?_⟩
    · cases hr : Region.ready .any c.all.toArray l with
      | nil => rfl
      | cons i x =>
        have hi : i ∈ Region.ready .any c.all.toArray l := by rw [hr]; simp
        obtain ⟨h1, h2, _⟩ := (ready_spec hl).1 hi
        have hall : (l.toList.filter id).length = l.toList.length := by
          have := List.length_filter_le id l.toList
          have e : l.toList.length = c.n := by simpa using hl
          omega
        have hid := List.length_filter_eq_length_iff.1 hall
        have hi' : i < l.size := by rw [hl]; exact h1
        have := hid l[i] (by simp)
        unfold ofArr at h2
        simp [hi'] at h2
        simp only [id] at this
        rw [this] at h2; cases h2
    · refine done l a w m q hl I ?_
      cases hr : Region.ready .any c.all.toArray l with
      | nil => rfl
      | cons i x =>
        have hi : i ∈ Region.ready .any c.all.toArray l := by rw [hr]; simp
        obtain ⟨h1, h2, _⟩ := (ready_spec hl).1 hi
        have hall : (l.toList.filter id).length = l.toList.length := by
          have := List.length_filter_le id l.toList
          have e : l.toList.length = c.n := by simpa using hl
          omega
        have hid := List.length_filter_eq_length_iff.1 hall
        have hi' : i < l.size := by rw [hl]; exact h1
        have := hid l[i] (by simp)
        unfold ofArr at h2
        simp [hi'] at h2
        simp only [id] at this
        rw [this] at h2; cases h2
  | succ fuel ih =>
    intro l a w m q hl hf I
    refine ⟨done l a w m q hl I, fun i hi => ?_⟩
    obtain ⟨h1, h2, o, ho, h3⟩ := (ready_spec hl).1 hi
    have hi' : i < l.size := by rw [hl]; exact h1
    have hpre : ∀ j, c.pr i j → ofArr l j = true := fun j hj => by
      obtain ⟨e, he, hb, h | ⟨hl', h⟩⟩ := (pre_iff ho j).1 hj
      · subst h; exact h3 e he hb
      · exact I.closed e.on j (h3 e he hb) h
    have hL' : ∀ j, ofArr (l.setIfInBounds i true) j = true ↔ (ofArr l j = true ∨ j = i) := fun j => by
      unfold ofArr
      by_cases e : j = i
      · subst e; simp [hi']
      · simp [Array.getElem?_setIfInBounds_ne (Ne.symm e), e]
    refine k.step I h1 h2 hpre hL' fun a' w' m' q' J => ?_
    refine ih _ a' w' m' q' (by simpa using hl) ?_ J
    have : ((l.setIfInBounds i true).toList.filter id).length = (l.toList.filter id).length + 1 := by
      have hli : l.toList[i]? = some false := by
        unfold ofArr at h2
        simp [hi'] at h2 ⊢; exact h2
      rw [Array.toList_setIfInBounds]
      exact count_set _ _ hli
    omega
end Cx.Ok
/-- A region whose order is drawn. -/
theorem draw_ok {P : Program} {E : Env} (hmix : P.follows .mixedOrders = true) (ok : EnvOk P E) : DrawOk P E := by
  intro nt id ops cf hcf tm h out tm' h' e m a w Q hr ht hQ
  unfold regionK at e
  cases hto : tempsOk ops.toList ops.toList (befores ops.toList) 0 [] with
  | false => rw [hto] at e; cases e
  | true =>
    rw [hto] at e
    simp only at e
    cases hd : (drawOpsK E nt ops.toList ops.toList (befores ops.toList) 0).f cf ⟨tm, h, [], 0, [], []⟩ with
    | none => rw [hd] at e; cases e
    | some sN =>
      rw [hd] at e
      simp only at e
      rw [layK_eq] at e
      cases e
      obtain ⟨st, K, v, run⟩ := run_of hd
      let w0 : World := { w with drawn := w.drawn + 1 }
      let c : Cx := { P, E, nt, all := ops.toList, cf, tm0 := tm, m0 := m, h0 := h, w0, sN, st, K, v }
      have hr0 : Rep E.gl m h w0 := hr.heap_eq rfl
      have g0 : Goes m h w m h w0 := ⟨rfl, rfl, rfl, Nat.le_refl _, fun _ _ _ => rfl, fun _ _ => ⟨rfl, rfl⟩, Nat.le_refl _, fun _ h => .inl h, fun _ a b => absurd a b, fun _ h => h⟩
      have k : c.Ok := ⟨ok, hcf, ordered_of hto, run, hr0, ht.ins, ht.ddom⟩
      have hst0 : c.st 0 = ⟨tm, h, [], 0, [], []⟩ := run.first
      have hcur : ∀ (j t : Nat), c.cur (Cx.Ok.ofArr (Array.replicate ops.size false)) j t = tget t tm := fun j t => by
        induction j with
        | zero => rfl
        | succ j ih =>
          rw [Cx.cur, if_neg, ih]
          rintro ⟨h1, _⟩
          simp [Cx.Ok.ofArr, Array.getD_eq_getD_getElem?, Array.getElem?_replicate] at h1
          split at h1 <;> simp at h1
      have no : ∀ j, Cx.Ok.ofArr (Array.replicate ops.size false) j ≠ true := fun j h1 => by
        simp [Cx.Ok.ofArr, Array.getD_eq_getD_getElem?, Array.getElem?_replicate] at h1
        split at h1 <;> simp at h1
      have I : c.Inv (Cx.Ok.ofArr (Array.replicate ops.size false)) a w0 m 0 :=
        { qn := Nat.zero_le _
          qc := fun i _ _ => ⟨fun h => absurd h (no i), fun h => by omega⟩
          qm := .inl rfl
          rep := by rw [hst0]; exact hr0
          goes := by rw [hst0]; exact Goes.refl m h w0
          df := by rw [hst0]
          flo := fun p _ _ _ _ h => absurd h (no p)
          fin := fun p _ _ _ _ h => absurd h (no p)
          nofl := fun p ob mk hp hk _ hd => by
            have h1 : dom h (c.nm p) := by rw [hst0] at hd; exact hd
            have h2 := hr0.fresh _ h1
            have h3 := run.mono (i := 0) (j := p) (Nat.zero_le _) (Nat.le_of_lt hp)
            rw [run.first] at h3
            exact absurd (Nat.lt_of_lt_of_le h2 h3) (Nat.lt_irrefl _)
          tv := fun t => by rw [hcur]; exact ht.val t
          vin := fun j _ h => absurd h (no j)
          sz := ht.size
          adf := ht.defs
          closed := fun i j h _ => absurd h (no i) }
      refine wp_region_any hmix ?_
      have key := k.any_order (Q := Q) (fun L a' w' m' q' hall J => ?_) ops.size (Array.replicate ops.size false) a w0 m 0 (by show _ = ops.toList.length; simp) (by show ops.toList.length ≤ _; simp) I
      · have e : ops.toList.toArray = ops := by simp
        rw [show c.all.toArray = ops from e] at key
        exact key
      · -- all has been done
        have hlast : c.st c.n = sN := run.last
        have hq := k.run.quiet (i := q') (j := c.n) J.qn (Nat.le_refl _) fun x hx1 hx2 hx3 => by
          have := (J.qc x hx2 hx3).1 (hall x hx2); omega
        have hmono := k.run.mono (i := q') (j := c.n) J.qn (Nat.le_refl _)
        rw [hlast] at hq hmono
        have hbit : ∀ i, Nat.testBit (Nat.sub (Nat.pow 2 ops.toList.length) 1) i = decide (i < ops.toList.length) := fun i => Nat.testBit_two_pow_sub_one ..
        have hob : ∀ p ∈ sN.fls, Nat.testBit (Nat.sub (Nat.pow 2 ops.toList.length) 1) p.ix = true → p.ob ≠ .free := fun p hp _ => by
          rw [← hlast] at hp
          obtain ⟨mk, h1, h2, h3⟩ := (k.fls p (Nat.le_refl _)).1 hp
          exact (J.fin p.ix p.ob mk h1 h2 (hall _ h1)).2
        obtain ⟨lf1, lf2, lf3⟩ := layFrees_fields (Nat.sub (Nat.pow 2 ops.toList.length) 1) sN.fls sN.h
        have hdom : ∀ x, dom (layFrees (Nat.sub (Nat.pow 2 ops.toList.length) 1) sN.fls sN.h) x ↔ Cx.Ok.Live c L q' x := fun x => by
          rw [layFrees_doms hob]
          constructor
          · rintro (h | ⟨p, hp, hb, rfl⟩)
            · exact .inl ((dom_ext hq.1 x).1 h)
            · rw [← hlast] at hp
              obtain ⟨mk, h1, h2, h3⟩ := (k.fls p (Nat.le_refl _)).1 hp
              exact .inr ⟨p.ix, p.ob, mk, h1, h2, hall _ h1, h3⟩
          · rintro (h | ⟨p, ob, mk, h1, h2, h3, rfl⟩)
            · exact .inl ((dom_ext hq.1 x).2 h)
            · refine .inr ⟨⟨p, c.nm p, ob⟩, ?_, ?_, rfl⟩
              · rw [← hlast]; exact (k.fls _ (Nat.le_refl _)).2 ⟨mk, h1, h2, rfl⟩
              · rw [hbit]; exact decide_eq_true h1
        have r1 : Rep E.gl m' sN.h w' := J.rep.ext hq.1 hq.2.1 fun n hn => Nat.lt_of_lt_of_le (J.rep.fresh n hn) hmono
        have hfree : ∀ p ob mk, p < c.n → c.K p = .nw ob mk → (sN.h.at (c.nm p)).obj = .free → c.FlOk L m' q' w' p ob := fun p ob mk h1 h2 h3 => by
          rcases J.flo p ob mk h1 h2 (hall p h1) with h4 | h4
          · exact absurd h3 ((dom_ext hq.1 _).2 h4)
          · exact h4
        have r2 : Rep E.gl m' (layFrees (Nat.sub (Nat.pow 2 ops.toList.length) 1) sN.fls sN.h) w' := by
          refine r1.layAll hob (fun p hp hb hf => ?_) (fun p hp p' hp' hb hb' hf hf' hne => ?_)
          · rw [← hlast] at hp
            obtain ⟨mk, h1, h2, h3⟩ := (k.fls p (Nat.le_refl _)).1 hp
            rw [h3] at hf ⊢
            have F := hfree p.ix p.ob mk h1 h2 hf
            refine ⟨F.blk, by rw [← hlast]; exact k.name_lt h2 h1 (Nat.le_refl _), fun x hx => F.apart x ((dom_ext hq.1 x).1 hx), ?_, fun g l hg e => ?_⟩
            · exact InObj_mono (fun x hx => (hdom x).2 (Cx.Ok.live_dv J (hall _ h1) hx)) (J.fin p.ix p.ob mk h1 h2 (hall _ h1)).1
            · have := k.tab_lt hg
              have := F.new
              omega
          · rw [← hlast] at hp hp'
            obtain ⟨mk, h1, h2, h3⟩ := (k.fls p (Nat.le_refl _)).1 hp
            obtain ⟨mk', h1', h2', h3'⟩ := (k.fls p' (Nat.le_refl _)).1 hp'
            rw [h3] at hf hne ⊢
            rw [h3'] at hf' hne ⊢
            exact (hfree p'.ix p'.ob mk' h1' h2' hf').each p.ix p.ob mk h1 h2 (hall _ h1) (fun e => hne (by rw [e]))
        have g2 : Goes m h w0 m' (layFrees (Nat.sub (Nat.pow 2 ops.toList.length) 1) sN.fls sN.h) w' := by
          refine J.goes.lay (by rw [lf1]; exact hmono) (fun x hx => (hdom x).2 (.inl hx)) fun x hx => ?_
          rcases (hdom x).1 hx with h1 | ⟨p, ob, mk, h1, h2, h3, rfl⟩
          · exact .inl h1
          · rcases J.flo p ob mk h1 h2 h3 with h4 | F
            · exact .inl h4
            · refine .inr ⟨?_, F.new⟩
              have := run.mono (i := 0) (j := p) (Nat.zero_le _) (Nat.le_of_lt h1)
              rw [run.first] at this
              exact this
        have g3 := Goes.trans hr hr0 g0 g2
        refine hQ m' a' w' r2 ?_ g3
        have hdf : (layFrees (Nat.sub (Nat.pow 2 ops.toList.length) 1) sN.fls sN.h).df = h.df := by rw [lf3, hq.2.2]; exact J.df
        have hcur' : ∀ t, c.cur L c.n t = tget t sN.tm := fun t => by
          rw [k.cur_text (Nat.le_refl _) t fun j hj _ => hall j hj, hlast]
        refine ⟨J.sz, fun t => by rw [J.tv, hcur'], fun t => ?_, ?_, fun d hd => ?_⟩
        · rw [← hcur']; exact In_mono (fun x hx => (hdom x).2 hx) _ (k.live_cur J t)
        · rw [J.adf, hdf]
          apply List.map_congr_left
          intro d hm
          simp only [collected]
          rw [(g3.agree d (hr.fresh d (ht.ddom d hm))).1]
        · rw [hdf] at hd; exact g3.old d (ht.ddom d hd)
theorem callG_sound {P : Program} (hmix : P.follows .mixedOrders = true) (G : Tabs) (n : Nat) : CFOk P (Env.of P G) (callG (Env.of P G) n) := callG_ok (envOk P G) (draw_ok hmix (envOk P G)) n
end Go.Ev
