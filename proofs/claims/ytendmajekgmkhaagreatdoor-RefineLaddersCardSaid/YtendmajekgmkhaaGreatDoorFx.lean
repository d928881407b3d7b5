/- The evaluator of closed calls, part Fx: what the program computes on given inputs, read by the kernel; sound in every world (part Gh). -/
import Derived.Test.YtendmajekgmkhaaGreatDoorFw
import Derived.RangeFuncIn
import Derived.LoopN
import Derived.Scope
set_option linter.unusedVariables false
set_option linter.unusedSimpArgs false
set_option linter.unnecessarySimpa false
namespace Go.Ev
section
variable {P : Program} {E : Env}

def outExit : Out → Exit
  | .normal => .normal
  | .ret => .ret
  | .exit id => .exit id
/-- What a piece of code does. -/
def Does (P : Program) (E : Env) (nt : Nat) (c : Code) (tm : Tm) (h : Heap) (out : Out) (tm' : Tm) (h' : Heap) : Prop :=
  ∀ (m : Mp) (a : Act) (w : World) (Q : Exit → Act → World → Prop), Rep E.gl m h w → TR m h nt tm a →
    (∀ m' a' w', Rep E.gl m' h' w' → TR m' h' nt tm' a' → Goes m h w m' h' w' → Q (outExit out) a' w') → c.wp P Q a w
def DrawOk (P : Program) (E : Env) : Prop :=
  ∀ (nt id : Nat) (ops : Array Oper) (cf : CF), CFOk P E cf → ∀ tm h out tm' h', (regionK E nt ops.toList).f cf tm h = .ok out tm' h' → Does P E nt (.region id ops true) tm h out tm' h'

theorem Rep.withDf {G : Tabs} {m : Mp} {h : Heap} {w : World} (r : Rep G m h w) (l : List Pos) : Rep G m ⟨h.t, h.nx, h.al, l⟩ w :=
  ⟨r.blk, r.fresh, r.apart, r.mem, r.rts, r.ins, r.glob⟩
theorem Goes.withDf {m m' : Mp} {h h' : Heap} {w w' : World} (g : Goes m h w m' h' w') (l : List Pos) : Goes m h w m' ⟨h'.t, h'.nx, h'.al, l⟩ w' :=
  ⟨g.tape, g.os, g.output, g.size, g.keep, g.agree, g.nx, g.newd, g.newb, g.old⟩
theorem Goes.fromDf {m m' : Mp} {h h' : Heap} {w w' : World} {l : List Pos} (g : Goes m ⟨h.t, h.nx, h.al, l⟩ w m' h' w') : Goes m h w m' h' w' :=
  ⟨g.tape, g.os, g.output, g.size, g.keep, g.agree, g.nx, g.newd, g.newb, g.old⟩

theorem wp_rangeFunc {g : Operand} {ps : Array Tmp} {assign body : Code} {Q : Exit → Act → World → Prop} {a : Act} {w : World}
    (h : ∀ fn, ∃ (l : Nat) (mark : List Deferred) (w₁ : World) (d : Deferred) (f : FuncId) (args : Array Value),
      (Instr.enterLoop fn a.tmps ps assign body none).run P w = .ok (l, mark) w₁ ∧
      (resolve a.eval (rangeCall g l) 0).run P w₁ = .ok d w₁ ∧
      (invoke d.target d.args).run P w₁ = .ok (.enter f args) w₁ ∧
      Calls P f args w₁ fun e w₃ => (∃ v, e = .returned v) ∧ ∃ w₄, (Instr.endLoop l).run P w₃ = .ok none w₄ ∧ Q .normal { a with defers := mark ++ a.defers } w₄) :
    (Code.rangeFunc g ps assign body).wp P Q a w := by
  intro b k cs
  let b0 : Frame := { b with roundOf := none }
  have hb : ∀ a k, b.at a k = b0.atR a k := fun a k => by simp [Frame.atR, Frame.at, b0]
  obtain ⟨l, mark, w₁, d, f, args, he, hres, hinv, hcall⟩ := h b.fn
  have henter := stepR_rangeFunc (P := P) (b := b0) (a := a) (k := k) (cs := cs) (w := w) he hres hinv
  obtain ⟨e, w₃, fr, ⟨⟨v, rfl⟩, w₄, hend, hQ⟩, hsteps, hfn, hleave⟩ := hcall (b0.atR { a with defers := mark ++ a.defers } (.inRangeFunc l :: k) :: cs)
  refine ⟨.normal, _, w₄, hQ, ?_⟩
  rw [hb]
  show Steps P _ (lone (b.at _ k) cs w₄)
  rw [hb]
  refine .head henter (Steps.trans hsteps (.head ?_ (.one (stepR_endRangeFunc (b := b0) (a := { a with defers := mark ++ a.defers }) (k := k) (cs := cs) hend))))
  rw [← finish_atR_inRangeFunc l v]; exact step_leave_returned hleave

theorem TR.mono {m : Mp} {h : Heap} {nt : Nat} {tm : Tm} {a : Act} (t : TR m h nt tm a) : TR m h nt tm a := t

theorem rangeFunc_ok (ok : EnvOk P E) {nt : Nat} {g : Operand} {ps : Array Tmp} {assign body : Code} {cf : CF} (hcf : CFOk P E cf) {tm : Tm} {h : Heap} {out : Out} {tm' : Tm} {h' : Heap}
    (e : (codeK E nt (.rangeFunc g ps assign body)).f cf tm h = .ok out tm' h') : Does P E nt (.rangeFunc g ps assign body) tm h out tm' h' := by
  simp only [codeK] at e
  intro m a w Q hr ht hQ
  obtain ⟨s1, s2⟩ := src_ok (E := E) (ht.src hr) g
  generalize (srcK E g).g tm = u at e s1 s2
  cases u <;> try (cases e; done)
  rename_i fn first captured
  cases fn <;> try (cases e; done)
  rename_i f
  simp only at e
  apply wp_rangeFunc
  intro fnid
  -- the records
  let w1 : World := { w with heap := w.heap.push (.deferred (some [])) }
  obtain ⟨r1, g1, d1⟩ := hr.pushed (ob := .defN) (o := .deferred (some [])) (w' := w1) (cap := 0) ⟨rfl, rfl, rfl, rfl⟩ (by simp) rfl trivial
  let lp : Loop := { state := .ready, pending := none, fn := fnid, tmps := a.tmps, params := ps, assign, body, defers := w.heap.size }
  let w2 : World := { w1 with heap := w1.heap.push (.loop lp) }
  obtain ⟨r2, g2, d2⟩ := r1.pushed (ob := .loopR) (o := .loop lp) (w' := w2) (cap := 0) ⟨rfl, rfl, rfl, rfl⟩ (by simp) ⟨lp, rfl, rfl, rfl⟩ trivial
  generalize hm2 : (m.set h.nx w.heap.size 0).set (h.new .defN).nx w1.heap.size 0 = m2 at r2 g2
  have g12 := Goes.trans hr r1 g1 g2
  generalize hh2 : (h.new .defN).new .loopR = h2 at e r2 g2 d2 g12
  have hdf2 : h2.df = h.df := by rw [← hh2]; rfl
  have hlt : h.nx.n < (h.new .defN).nx.n := by show _ < h.nx.succ.n; rw [Pos.n_succ]; omega
  have hbl : m2.b (h.new .defN).nx = w1.heap.size := by rw [← hm2, Mp.set_b_same]
  have hbd : m2.b h.nx = w.heap.size := by
    rw [← hm2, (Mp.set_other _ _ _ (fun e => by rw [e] at hlt; exact Nat.lt_irrefl _ hlt)).1, Mp.set_b_same]
  have hd2 : dom h2 h.nx := by rw [← hh2] at g2 ⊢; exact g2.old _ d1
  have hag2 : ∀ n, dom h n → m2.b n = m.b n ∧ m2.c n = m.c n := fun n hn => g12.agree n (hr.fresh n hn)
  have hin : InL (dom h2) (first ++ (.yld (h.new .defN).nx :: captured)) := (InL_iff _).2 fun v hv => by
    rcases List.mem_append.1 hv with hv | hv
    · exact In_mono g12.old _ ((InL_iff _).1 s2.1 v hv)
    · rcases List.mem_cons.1 hv with rfl | hv
      · exact d2
      · exact In_mono g12.old _ ((InL_iff _).1 s2.2 v hv)
  have hcall := callFn_run ok r2 (f := f) hin
  rw [appA_spec] at e
  generalize (callFnK E f).f h2 (first ++ (.yld (h.new .defN).nx :: captured)) = res at e hcall
  cases res with
  | ok _ _ => cases e
  | fail => cases e
  | call g' args =>
    obtain ⟨c1, c2⟩ := hcall
    simp only at e
    cases hc : cf g' args h2 with
    | fail => rw [hc] at e; cases e
    | ok v h3 =>
      rw [hc] at e
      simp only at e
      cases ho : (h3.at (h.new .defN).nx).obj <;> rw [ho] at e <;> try (cases e; done)
      cases e
      refine ⟨w1.heap.size, [{ target := .collected w.heap.size, args := #[] }], w2, { target := .fn (.func f) ⟨γs m captured⟩, args := ⟨γs m first⟩ ++ #[.func (.yield w1.heap.size) #[] #[]] }, g', ⟨γs m2 args⟩, ?_, ?_, ?_, ?_⟩
      · simp only [Instr.enterLoop, Sem.run_bind, run_newObj, Result.andThen_ok, Sem.run_pure]
        rfl
      · simp only [resolve, rangeCall, s1, γ, Deferred.ofValue]
        simp [Act.eval]
      · rw [show (invoke _ _ : Sem Next) = callFunc f ⟨γs m2 (first ++ (.yld (h.new .defN).nx :: captured))⟩ from ?_]
        · exact c1
        · simp only [invoke]
          congr 1
          apply Array.ext'
          simp only [γs_append, γs, γ, hbl]
          rw [γs_congr (D := dom h) hag2 first s2.1, γs_congr (D := dom h) hag2 captured s2.2]
          simp
      · obtain ⟨q1, q2⟩ := hcf g' args h2 v h3 hc
        refine (q2 m2 w2 r2 c2 (fun d hd => by rw [hdf2] at hd; exact g12.old _ (ht.ddom d hd))).mono fun en w3 ⟨m3, he, r3, g3, _⟩ => ?_
        subst he
        refine ⟨⟨_, rfl⟩, ?_⟩
        have hag3 := g3.agree _ (r2.fresh _ d2)
        have hdl : dom h3 (h.new .defN).nx := g3.old _ d2
        obtain ⟨o, b1, b2⟩ := r3.blk _ hdl
        rw [ho] at b2
        obtain ⟨lp', rfl, p1, p2⟩ := b2
        rw [hag3.1, hbl] at b1
        refine ⟨{ w3 with heap := w3.heap.setIfInBounds w1.heap.size (.loop { lp' with state := .exhausted }) }, ?_, ?_⟩
        · have hg : (getObj w1.heap.size).run P w3 = .ok (.loop lp') w3 := by simp [getObj, Sem.run, b1]
          simp only [Instr.endLoop, Instr.getLoop, Sem.run_bind, hg, Result.andThen_ok, Sem.run_pure, p1]
          have hst := run_setObj_of (P := P) b1 (fun _ _ _ e => by cases e) (.loop { lp' with state := .exhausted })
          have hb : (LoopState.ready == LoopState.busy) = false := rfl
          simp only [hb, Bool.false_eq_true, if_false, Sem.run_bind, Sem.run_pure, hst, Result.andThen_ok]
          rw [p2]
        · obtain ⟨r4, g4, d4⟩ := r3.noCells_alone (n := (h.new .defN).nx) (by rw [ho]; rfl) .other (.loop { lp' with state := .exhausted }) (w' := { w3 with heap := w3.heap.setIfInBounds w1.heap.size (.loop { lp' with state := .exhausted }) })
            (by simp) trivial trivial (by rw [hag3.1, hbl]) rfl rfl rfl
          have gall := Goes.trans hr r2 g12 (Goes.trans r2 r3 g3 g4)
          refine hQ m3 _ _ (r4.withDf _) ?_ (gall.withDf _)
          have hdf4 : (h3.setObj (h.new .defN).nx .other).df = h.df := by show h3.df = _; rw [q1, hdf2]
          have t4 := ht.step hr gall hdf4
          refine ⟨t4.size, t4.val, t4.ins, ?_, ?_⟩
          · show _ :: a.defers = collected m3 h.nx :: List.map _ _
            rw [t4.defs]
            congr 1
            simp only [collected]
            rw [(g3.agree _ (r2.fresh _ hd2)).1, hbd]
          · intro d hd
            rcases List.mem_cons.1 hd with rfl | hd
            · exact g4.old _ (g3.old _ hd2)
            · exact t4.ddom d hd
theorem loopGo_ok {cf : CF} {x : CK} {nt : Nat} {c : Code} (hx : ∀ tm h out tm' h', x.f cf tm h = .ok out tm' h' → Does P E nt c tm h out tm' h') : ∀ (n : Nat) (tm : Tm) (h : Heap) (out : Out) (tm' : Tm) (h' : Heap),
    loopGo x cf n tm h = .ok out tm' h' → ∀ (m : Mp) (a : Act) (w : World) (Q : Exit → Act → World → Prop), Rep E.gl m h w → TR m h nt tm a →
      (∀ m' a' w', Rep E.gl m' h' w' → TR m' h' nt tm' a' → Goes m h w m' h' w' → Q (outExit out) a' w') → Code.rounds P c Q n a w
  | 0, _, _, _, _, _, e => by cases e
  | n + 1, tm, h, out, tm', h', e => by
    intro m a w Q hr ht hQ
    rw [rounds_succ]
    have e' : CR.casesOn (motive := fun _ => CR) (x.f cf tm h) (fun o tm h => Out.casesOn (motive := fun _ => CR) o (loopGo x cf n tm h) (.ok .ret tm h) (fun id => .ok (.exit id) tm h)) .fail = .ok out tm' h' := e
    cases hxe : x.f cf tm h with
    | fail => rw [hxe] at e'; cases e'
    | ok o t1 h1 =>
      rw [hxe] at e'
      refine hx _ _ _ _ _ hxe m a w _ hr ht fun m1 a1 w1 r1 t1' g1 => ?_
      cases o with
      | normal => exact loopGo_ok hx n _ _ _ _ _ e' m1 a1 w1 Q r1 t1' fun m' a' w' r' t' g' => hQ m' a' w' r' t' (Goes.trans hr r1 g1 g')
      | ret => cases e'; exact hQ _ _ _ r1 t1' g1
      | exit id => cases e'; exact hQ _ _ _ r1 t1' g1
theorem codeK_ok (ok : EnvOk P E) (hD : DrawOk P E) {cf : CF} (hcf : CFOk P E cf) (nt : Nat) : ∀ (c : Code) (tm : Tm) (h : Heap) (out : Out) (tm' : Tm) (h' : Heap),
    (codeK E nt c).f cf tm h = .ok out tm' h' → Does P E nt c tm h out tm' h' := by
  intro c
  induction c with
  | skip => intro tm h out tm' h' e m a w Q hr ht hQ; simp only [codeK] at e; cases e; exact wp_skip (hQ m a w hr ht (Goes.refl ..))
  | label l => intro tm h out tm' h' e m a w Q hr ht hQ; simp only [codeK] at e; cases e; exact wp_label (hQ m a w hr ht (Goes.refl ..))
  | ret => intro tm h out tm' h' e m a w Q hr ht hQ; simp only [codeK] at e; cases e; exact wp_ret (hQ m a w hr ht (Goes.refl ..))
  | exit id => intro tm h out tm' h' e m a w Q hr ht hQ; simp only [codeK] at e; cases e; exact wp_exit (hQ m a w hr ht (Goes.refl ..))
  | seq x y ihx ihy =>
    intro tm h out tm' h' e m a w Q hr ht hQ
    simp only [codeK] at e
    cases hx : (codeK E nt x).f cf tm h with
    | fail => rw [hx] at e; cases e
    | ok o t1 h1 =>
      rw [hx] at e
      refine wp_seq (ihx _ _ _ _ _ hx m a w _ hr ht fun m1 a1 w1 r1 t1' g1 => ?_)
      cases o with
      | normal => exact ihy _ _ _ _ _ e m1 a1 w1 Q r1 t1' fun m' a' w' r' t' g' => hQ m' a' w' r' t' (Goes.trans hr r1 g1 g')
      | ret => cases e; exact hQ _ _ _ r1 t1' g1
      | exit id => cases e; exact hQ _ _ _ r1 t1' g1
  | cond x a b iha ihb =>
    intro tm h out tm' h' e m ac w Q hr ht hQ
    simp only [codeK] at e
    obtain ⟨s1, s2⟩ := src_ok (E := E) (ht.src hr) x
    generalize (srcK E x).g tm = u at e s1 s2
    cases u <;> try (cases e; done)
    rename_i c
    refine wp_cond (t := c) (by rw [s1]; rfl) ?_
    cases c with
    | true => exact iha _ _ _ _ _ e m ac w Q hr ht hQ
    | false => exact ihb _ _ _ _ _ e m ac w Q hr ht hQ
  | block id x ih =>
    intro tm h out tm' h' e m a w Q hr ht hQ
    simp only [codeK] at e
    cases hx : (codeK E nt x).f cf tm h with
    | fail => rw [hx] at e; cases e
    | ok o t1 h1 =>
      rw [hx] at e
      refine wp_block (ih _ _ _ _ _ hx m a w _ hr ht fun m1 a1 w1 r1 t1' g1 => ?_)
      cases o with
      | normal => cases e; exact hQ _ _ _ r1 t1' g1
      | ret => cases e; exact hQ _ _ _ r1 t1' g1
      | exit j =>
        simp only at e
        simp only [outExit, Exit.inBlock]
        by_cases hj : j = id
        · subst hj
          simp only [Nat.beq_refl, cond_true] at e
          cases e
          rw [if_pos rfl]; exact hQ _ _ _ r1 t1' g1
        · rw [if_neg hj]
          have : Nat.beq j id = false := by cases hb : Nat.beq j id with
            | false => rfl
            | true => exact absurd (Nat.eq_of_beq_eq_true hb) hj
          rw [this, cond_false] at e
          cases e
          exact hQ _ _ _ r1 t1' g1
  | loop x ih =>
    intro tm h out tm' h' e m a w Q hr ht hQ
    simp only [codeK] at e
    exact wp_loop_rounds 1000000 (loopGo_ok ih 1000000 _ _ _ _ _ e m a w Q hr ht hQ)
  | scope x ih =>
    intro tm h out tm' h' e m a w Q hr ht hQ
    simp only [codeK] at e
    refine wp_scope_straight (ih _ _ _ _ _ e m a w _ hr ht fun m1 a1 w1 r1 t1' g1 => ?_)
    have := hQ _ _ _ r1 t1' g1
    cases out <;> exact this
  | region id ops draw =>
    intro tm h out tm' h' e
    cases draw with
    | true => simp only [codeK] at e; exact hD nt id ops cf hcf _ _ _ _ _ e
    | false =>
      simp only [codeK] at e
      intro m a w Q hr ht hQ
      obtain ⟨rfl, k⟩ := opsK_ok ok hcf nt ops.toList ops.toList 0 rfl _ _ _ _ _ e
      have := k m a w Q hr ht hQ
      rw [← List.range_eq_range'] at this
      exact wp_region (by simpa using this)
  | rangeFunc g ps x y => intro tm h out tm' h' e; exact rangeFunc_ok ok hcf e
  | _ => intro tm h out tm' h' e; simp only [codeK] at e; cases e
end
end Go.Ev
