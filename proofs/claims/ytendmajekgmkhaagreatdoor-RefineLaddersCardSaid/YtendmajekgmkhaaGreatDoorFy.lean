/- The evaluator of closed calls, part Fy: what the program computes on given inputs, read by the kernel; sound in every world (part Gh). -/
import Derived.Test.YtendmajekgmkhaaGreatDoorFx
set_option linter.unusedVariables false
set_option linter.unusedSimpArgs false
set_option linter.unnecessarySimpa false
namespace Go.Ev
section
variable {P : Program} {E : Env}

/-! ### Leaving a function: the marks of its loops, then its results -/
def Takes (P : Program) : List Nat → World → World → Prop
  | [], w, w' => w' = w
  | d :: l, w, w' => ∃ w1, (Instr.takeDeferred d).run P w = .ok [] w1 ∧ Takes P l w1 w'
def markOf (d : Nat) : Deferred := { target := .collected d, args := #[] }
theorem step_mark {b : Frame} {a : Act} {k : List Item} {cs : List Frame} {w w1 : World} {d : Nat} {ds : List Deferred} (h : (Instr.takeDeferred d).run P w = .ok [] w1) :
    step P (lone { b.at { tmps := a.tmps, defers := markOf d :: ds } k with mode := .returning } cs w) = .next (lone { b.at { tmps := a.tmps, defers := ds } k with mode := .returning } cs w1) :=
  step_lone_go (by simp [stepG, unwind, markOf, Frame.at, Sem.runT_eq, h, GStep.bare_after])
theorem steps_marks {b : Frame} {k : List Item} {cs : List Frame} : ∀ (l : List Nat) (a : Act) (w w' : World), a.defers = l.map markOf → Takes P l w w' →
    Steps P (lone { b.at a k with mode := .returning } cs w) (lone { b.at { tmps := a.tmps, defers := [] } k with mode := .returning } cs w')
  | [], ⟨t, ds⟩, w, w', h1, h2 => by
    simp only [List.map_nil] at h1
    subst h1
    rw [show w' = w from h2]
    exact Steps.refl _ _
  | d :: l, ⟨t, ds⟩, w, w', h1, ⟨w1, h2, h3⟩ => by
    simp only [List.map_cons] at h1
    subst h1
    exact .head (step_mark (a := ⟨t, []⟩) h2) (steps_marks l ⟨t, l.map markOf⟩ w1 w' rfl h3)
theorem calls_of_wp_marks {f : FuncId} {fn : Func} {c : Code} {args : Array Value} {w : World} {R : Ending → World → Prop}
    (hf : P.funcs[f]? = some fn) (hb : fn.body = some c)
    (h : c.wp P (fun e a w1 => (e = .normal ∨ e = .ret) ∧ ∃ l w2 v, a.defers = l.map markOf ∧ Takes P l w1 w2 ∧ (results fn a.tmps).run P w2 = .ok v w2 ∧ R (.returned v) w2)
      { tmps := args ++ Array.replicate (fn.ntmps - args.size) undef, defers := [] } w) :
    Calls P f args w R := by
  intro cs
  let b : Frame := { (default : Frame) with fn := f, kind := .normal }
  have henter : Frame.enter P f args .normal =
      b.at { tmps := args ++ Array.replicate (fn.ntmps - args.size) undef, defers := [] } [.code c] := by
    simp [Frame.enter, Frame.at, hf, hb, b]
  obtain ⟨e, a', w', ⟨he, l, w2, v, h1, h2, h3, h4⟩, harr⟩ := h b [] cs
  rw [← henter] at harr
  have hend : ∃ todo, Steps P (lone (Frame.enter P f args .normal) cs w) (lone { b.at a' todo with mode := .returning } cs w') := by
    rcases he with rfl | rfl
    · exact ⟨[], Steps.trans harr (.one step_end)⟩
    · exact harr
  obtain ⟨todo, hs⟩ := hend
  exact ⟨.returned v, w2, _, h4, Steps.trans hs (steps_marks l a' w' w2 h1 h2), rfl, rfl, rfl, rfl, fn, hf, h3⟩

/-! ### The results -/
def resF (tmps : Array Value) : ResultVar → Sem Value
  | .tmp t => pure (tmps.getD t undef)
  | .cell a t => do loadVar t (← asAddr (tmps.getD a undef))
theorem results_eq (fn : Func) (tmps : Array Value) : results fn tmps = (do
    let vs ← fn.results.mapM (resF tmps)
    pure (if h : vs.size = 1 then vs[0] else .tuple vs)) := by
  unfold results
  congr 1
theorem resK_ok (ok : EnvOk P E) {m : Mp} {h : Heap} {w : World} (hr : Rep E.gl m h w) {tm : Tm} {tmps : Array Value}
    (hv : ∀ t, tmps.getD t undef = γ m (tget t tm) ∧ In (dom h) (tget t tm)) : ∀ (rs : List ResultVar) (l : List AVal), (resK E rs).f tm h = some l →
    (List.mapM (resF tmps) rs).run P w = .ok (γs m l) w ∧ InL (dom h) l
  | [], l, e => by simp only [resK] at e; cases e; exact ⟨by simp [γs], trivial⟩
  | .tmp t :: rs, l, e => by
    simp only [resK] at e
    cases hx : (resK E rs).f tm h with
    | none => rw [hx] at e; cases e
    | some x =>
      rw [hx] at e
      cases e
      obtain ⟨i1, i2⟩ := resK_ok ok hr hv rs x hx
      refine ⟨?_, (hv t).2, i2⟩
      rw [List.mapM_cons]
      simp only [resF, Sem.run_bind, Sem.run_pure, Result.andThen_ok, i1, γs, (hv t).1]
  | .cell a t :: rs, l, e => by
    simp only [resK] at e
    cases hl : (loadK E t).f h (tget a tm) with
    | none => rw [hl] at e; cases e
    | some v =>
      rw [hl] at e
      simp only at e
      cases hx : (resK E rs).f tm h with
      | none => rw [hx] at e; cases e
      | some x =>
        rw [hx] at e
        cases e
        obtain ⟨i1, i2⟩ := resK_ok ok hr hv rs x hx
        have lo := load_ok ok t (.tmp a)
        have hsrc : Src E.gl m (dom h) tm (fun x => match x with | .tmp t => tmps.getD t undef | .const v => v | .global g => .pointer (some ⟨g, 0, none⟩) | .func f => .func (.func f) #[] #[]) :=
          ⟨hv, fun _ => rfl, fun _ => rfl, fun _ => rfl⟩
        obtain ⟨k1, k2⟩ := lo m h tm _ v w { (default : Oper) with op := .load t (.tmp a) } rfl hr hsrc hl
        refine ⟨?_, k2, i2⟩
        have k3 : (Instr.loadAt t (tmps.getD a undef)).run P w = .ok (γ m v) w := by
          simp only [execOp, Sem.run_bind] at k1
          cases hq : (Instr.loadAt t (tmps.getD a undef)).run P w with
          | ok u w1 => rw [hq] at k1; simp at k1; rw [k1.1, k1.2]
          | halt x w1 => rw [hq] at k1; cases k1
        rw [List.mapM_cons]
        simp only [resF, Sem.run_bind, Sem.run_pure, γs]
        generalize tmps.getD a undef = u at k3 ⊢
        unfold Instr.loadAt at k3
        cases u with
        | pointer o =>
          cases o with
          | none => simp [Instr.sureAddr] at k3
          | some ad =>
            simp only [Instr.sureAddr, Sem.run_bind, Sem.run_pure, Result.andThen_ok] at k3
            simp only [asAddr, Sem.run_pure, Result.andThen_ok, k3]
            rw [i1]; rfl
        | _ => simp [Instr.sureAddr] at k3
theorem oneOrTup_spec (m : Mp) (l : List AVal) : (if h : (⟨γs m l⟩ : Array Value).size = 1 then (⟨γs m l⟩ : Array Value)[0] else Value.tuple ⟨γs m l⟩) = γ m (oneOrTup l) := by
  match l with
  | [] => rfl
  | [v] => rfl
  | a :: b :: l => simp [γs, oneOrTup, γ]
theorem oneOrTup_in {D : Pos → Prop} {l : List AVal} (h : InL D l) : In D (oneOrTup l) := by
  match l, h with
  | [], h => exact h
  | [v], h => exact h.1
  | a :: b :: l, h => exact h
theorem results_ok (ok : EnvOk P E) {m : Mp} {h : Heap} {w : World} (hr : Rep E.gl m h w) {tm : Tm} {tmps : Array Value}
    (hv : ∀ t, tmps.getD t undef = γ m (tget t tm) ∧ In (dom h) (tget t tm)) {fn : Func} {l : List AVal} (e : (resK E fn.results.toList).f tm h = some l) :
    (results fn tmps).run P w = .ok (γ m (oneOrTup l)) w ∧ In (dom h) (oneOrTup l) := by
  obtain ⟨h1, h2⟩ := resK_ok ok hr hv _ _ e
  refine ⟨?_, oneOrTup_in h2⟩
  rw [← oneOrTup_spec]
  rw [results_eq, show fn.results = fn.results.toList.toArray by simp, List.mapM_toArray]
  rw [map_eq_pure_bind]
  simp only [Sem.run_bind, h1, Result.andThen_ok, Sem.run_pure]

/-! ### The marks -/
theorem undefer_ok {m : Mp} : ∀ (l : List Pos) (h h' : Heap) (w : World), Rep E.gl m h w → undefer l h = some h' → ∃ w', Takes P (l.map m.b) w w' ∧ Rep E.gl m h' w' ∧ Goes m h w m h' w'
  | [], h, h', w, r, e => by cases e; exact ⟨w, rfl, r, Goes.refl m h w⟩
  | d :: l, h, h', w, r, e => by
    simp only [undefer] at e
    cases ho : (h.at d).obj <;> rw [ho] at e <;> try (cases e; done)
    simp only at e
    have hd : dom h d := by unfold dom; rw [ho]; simp
    obtain ⟨o, b1, b2⟩ := r.blk d hd
    rw [ho] at b2
    cases (show o = _ from b2)
    obtain ⟨r1, g1, _⟩ := r.noCells_alone (n := d) (by rw [ho]; rfl) .other (.deferred none) (w' := { w with heap := w.heap.setIfInBounds (m.b d) (.deferred none) }) (by simp) trivial trivial rfl rfl rfl rfl
    obtain ⟨w', t2, r2, g2⟩ := undefer_ok l _ h' _ r1 e
    refine ⟨w', ⟨_, ?_, t2⟩, r2, Goes.trans r r1 g1 g2⟩
    have hg : (getObj (m.b d)).run P w = .ok (.deferred (some [])) w := by simp [getObj, Sem.run, b1]
    have hst := run_setObj_of (P := P) b1 (fun _ _ _ e => by cases e) (.deferred none)
    simp only [Instr.takeDeferred, Sem.run_bind, hg, Result.andThen_ok, hst, Sem.run_pure]

/-! ### A function -/
theorem tget_layArgs : ∀ (l : List AVal) (k : Nat) (tm : Tm) (t : Nat), tget t (layArgs l k tm) = if k ≤ t then (l[t - k]?).getD (tget t tm) else tget t tm
  | [], k, tm, t => by simp [layArgs]
  | v :: l, k, tm, t => by
    simp only [layArgs]
    rw [tget_layArgs l (k + 1), tget_set]
    by_cases h1 : k + 1 ≤ t
    · have h2 : k ≤ t := by omega
      have h3 : ¬ k = t := by omega
      have h4 : t - k = (t - (k + 1)) + 1 := by omega
      simp only [if_pos h1, if_pos h2, if_neg h3, h4]
      simp
    · by_cases h2 : k = t
      · subst h2; simp [h1]
      · have h3 : ¬ k ≤ t := by omega
        simp only [if_neg h1, if_neg h2, if_neg h3]
theorem tget_leaf (t : Nat) : tget t (.leaf : Tm) = undefA := by unfold tget; exact DTree.get_leaf _
theorem args_getD (m : Mp) (args : List AVal) (n t : Nat) : ((⟨γs m args⟩ : Array Value) ++ Array.replicate n undef).getD t undef = γ m (tget t (layArgs args 0 .leaf)) := by
  rw [tget_layArgs, tget_leaf]
  simp only [Nat.zero_le, if_true, Nat.sub_zero, Array.getD_eq_getD_getElem?, Array.getElem?_append]
  by_cases h : t < args.length
  · simp [γs_map, h]
  · simp [γs_map, h, undefA, γ, γs, undef, Array.getElem?_replicate]
    split <;> rfl
theorem cond_failV {b : Bool} {x : VR} {v : AVal} {h : Heap} (e : cond b x .fail = .ok v h) : b = true ∧ x = .ok v h := by
  cases b with
  | true => exact ⟨rfl, e⟩
  | false => cases e
theorem funK_ok (ok : EnvOk P E) (hD : DrawOk P E) {cf : CF} (hcf : CFOk P E cf) : CFOk P E (fun f args h => (funK E f).f cf args h) := by
  intro f args h v h' e
  simp only [funK] at e
  cases hf : E.fns.get none (pos f) with
  | none => rw [hf] at e; cases e
  | some fn =>
    rw [hf] at e
    simp only at e
    cases hb : fn.body with
    | none => rw [hb] at e; cases e
    | some c =>
      rw [hb] at e
      simp only at e
      replace e := cond_failV e
      obtain ⟨hle, e⟩ := e
      cases hx : (codeK E fn.ntmps c).f cf (layArgs args 0 .leaf) ⟨h.t, h.nx, h.al, []⟩ with
      | fail => rw [hx] at e; cases e
      | ok o tm h1 =>
        rw [hx] at e
        simp only at e
        have hend : (o = .normal ∨ o = .ret) ∧ ∃ h2 l, undefer h1.df h1 = some h2 ∧ (resK E fn.results.toList).f tm h2 = some l ∧ v = oneOrTup l ∧ h' = ⟨h2.t, h2.nx, h2.al, h.df⟩ := by
          cases o with
          | exit id => cases e
          | normal =>
            refine ⟨.inl rfl, ?_⟩
            cases hu : undefer h1.df h1 with
            | none => rw [hu] at e; cases e
            | some h2 =>
              rw [hu] at e
              simp only at e
              cases hl : (resK E fn.results.toList).f tm h2 with
              | none => rw [hl] at e; cases e
              | some l => rw [hl] at e; cases e; exact ⟨h2, l, rfl, hl, rfl, rfl⟩
          | ret =>
            refine ⟨.inr rfl, ?_⟩
            cases hu : undefer h1.df h1 with
            | none => rw [hu] at e; cases e
            | some h2 =>
              rw [hu] at e
              simp only at e
              cases hl : (resK E fn.results.toList).f tm h2 with
              | none => rw [hl] at e; cases e
              | some l => rw [hl] at e; cases e; exact ⟨h2, l, rfl, hl, rfl, rfl⟩
        obtain ⟨ho, h2, l, hu, hl, rfl, rfl⟩ := hend
        refine ⟨rfl, fun m w hr hin hdd => ?_⟩
        have hlen : args.length ≤ fn.ntmps := Nat.le_of_ble_eq_true hle
        refine calls_of_wp_marks (ok.fn f fn hf) hb ?_
        have hr0 := hr.withDf []
        have ht0 : TR m ⟨h.t, h.nx, h.al, []⟩ fn.ntmps (layArgs args 0 .leaf) { tmps := ⟨γs m args⟩ ++ Array.replicate (fn.ntmps - (⟨γs m args⟩ : Array Value).size) undef, defers := [] } := by
          refine ⟨?_, fun t => args_getD m args _ t, fun t => ?_, rfl, fun d hd => (by cases hd)⟩
          · simp [γs_length]; omega
          · rw [tget_layArgs, tget_leaf]
            simp only [Nat.zero_le, if_true, Nat.sub_zero]
            cases hq : args[t]? with
            | none => exact trivial
            | some v => exact InL_mem hin hq
        refine codeK_ok ok hD hcf fn.ntmps c _ _ _ _ _ hx m _ w _ hr0 ht0 fun m1 a1 w1 r1 t1 g1 => ?_
        obtain ⟨w2, k1, r2, g2⟩ := undefer_ok (P := P) h1.df h1 h2 w1 r1 hu
        have hv : ∀ t, a1.tmps.getD t undef = γ m1 (tget t tm) ∧ In (dom h2) (tget t tm) := fun t => ⟨t1.val t, In_mono g2.old _ (t1.ins t)⟩
        obtain ⟨q1, q2⟩ := results_ok ok r2 hv hl
        refine ⟨by rcases ho with rfl | rfl; exact .inl rfl; exact .inr rfl, h1.df.map m1.b, w2, _, ?_, k1, q1, m1, rfl, r2.withDf _, ((Goes.trans hr0 r1 g1 g2).fromDf).withDf _, q2⟩
        rw [t1.defs, List.map_map]; rfl
theorem callG_ok (ok : EnvOk P E) (hD : DrawOk P E) : ∀ n, CFOk P E (callG E n)
  | 0 => fun f args h v h' e => by cases e
  | n + 1 => funK_ok ok hD (callG_ok ok hD n)
theorem envOk (P : Program) (G : Tabs) : EnvOk P (Env.of P G) where
  ty := fun t i h => by
    simp only [Env.ty, Env.of] at h
    rw [DTree.get_ofList, List.getD_eq_getElem?_getD, List.getElem?_map] at h
    have hl : P.types.toList[t]? = some i := by
      cases hq : P.types.toList[t]? with
      | none => rw [hq] at h; cases h
      | some j => rw [hq] at h; simpa using h
    have hlt : t < P.types.size := by
      have := (List.getElem?_eq_some_iff.1 hl).1
      simpa using this
    show (if t < P.types.size then P.types[t]? else _) = _
    rw [if_pos hlt]
    simpa using hl
  fn := fun f fn h => by
    simp only [Env.of] at h
    rw [DTree.get_ofList, List.getD_eq_getElem?_getD, List.getElem?_map] at h
    cases hq : P.funcs.toList[f]? with
    | none => rw [hq] at h; cases h
    | some j => rw [hq] at h; simp at h; subst h; simpa using hq
  gt := fun t h => by
    simp only [Env.of, Bool.and_eq_true, Bool.not_eq_true'] at h
    exact h
end
end Go.Ev
