/- The evaluator of closed calls, part Fg: what the program computes on given inputs, read by the kernel; sound in every world (part Gh). -/
import Derived.Test.YtendmajekgmkhaaGreatDoorFf
set_option linter.unusedVariables false
set_option linter.unusedSimpArgs false
set_option linter.unnecessarySimpa false
namespace Go.Ev
section
variable {P : Program} {E : Env} {m : Mp} {D : Pos → Prop} {tm : Tm} {ρ : Operand → Value}

/-- A value of a plain kind and its type. -/
noncomputable def plainAt (E : Env) (t : TypeId) (v : AVal) : Bool := match E.und t, v with
  | some (.int _), .int _ _ => true
  | some .string, .str _ => true
  | some .bool, .bool _ => true
  | _, _ => false
theorem plainFields_cons {k : Nat} {f : Field} {fs : List Field} {v : AVal} {vs : List AVal} (h : plainFields E k (f :: fs) (v :: vs) = true) :
    plainAt E f.type v = true ∧ f.offset = k ∧ f.name ≠ "_" ∧ plainFields E (k + 1) fs vs = true := by
  simp only [plainFields, Bool.and_eq_true] at h
  obtain ⟨h1, ⟨h2, h3⟩, h4⟩ := h
  refine ⟨h1, beq_iff.1 h2, ?_, h4⟩
  intro e; rw [e] at h3; simp at h3
theorem plain_agg {t : TypeId} {v : AVal} (h : plainAt E t v = true) : E.agg? t = some false := by
  unfold plainAt at h; unfold Env.agg?
  cases hu : E.und t with
  | none => rw [hu] at h; cases h
  | some d => rw [hu] at h; cases d <;> cases v <;> first | rfl | cases h
theorem EnvOk.run_part (ok : EnvOk P E) {t : TypeId} (h : E.agg? t = some false) {xs : Array Value} {off : Nat} {v : Value} (hx : xs[off]? = some v) (w : World) : (part t xs off).run P w = .ok v w := by
  simp [part, ok.run_agg h, hx]
theorem plain_eq1 (ok : EnvOk P E) {t : TypeId} {a b : AVal} {r : Bool} (ha : plainAt E t a = true) (hb : plainAt E t b = true) (hr : sameKeyS a b = some r) (d : Nat) (w : World) :
    (Op.equalIn (d + 1) t (γ m a) (γ m b)).run P w = .ok r w := by
  unfold plainAt at ha hb
  cases hu : E.und t with
  | none => rw [hu] at ha; cases ha
  | some ds =>
    rw [hu] at ha hb
    have hP := ok.und hu
    cases ds <;> try (cases a <;> cases ha; done)
    case bool =>
      cases a <;> try (cases ha; done)
      cases b <;> try (cases hb; done)
      rename_i a b
      simp only [sameKeyS, sameKey, Option.some.injEq] at hr
      subst hr
      simp only [γ, boolEqb_spec]; exact run_equalIn_bool' w d t a b hP
    case int k =>
      cases a <;> try (cases ha; done)
      cases b <;> try (cases hb; done)
      rename_i k1 a k2 b
      simp only [sameKeyS, sameKey] at hr
      cases hk : ikEqb k1 k2 with
      | false => rw [hk] at hr; cases hr
      | true =>
        rw [hk] at hr; cases hr
        have := (ikEqb_spec _ _).1 hk; subst this
        simp only [γ, intEqb_spec]; rw [run_equalIn_int w d t k1 k a b hP]
        by_cases e : a = b <;> simp [e]
    case string =>
      cases a <;> try (cases ha; done)
      cases b <;> try (cases hb; done)
      rename_i a b
      simp only [sameKeyS, Option.some.injEq] at hr
      subst hr
      simp only [γ, bytesEqb_spec]; rw [run_equalIn_string w d t _ _ hP, toList_mk, toList_mk]
      by_cases e : a = b <;> simp [e]
theorem plain_like {t : TypeId} {a b : AVal} {r : Bool} (ha : plainAt E t a = true) (hr : sameKeyS a b = some r) : plainAt E t b = true := by
  unfold plainAt at ha ⊢
  cases hu : E.und t with
  | none => rw [hu] at ha; cases ha
  | some ds => rw [hu] at ha; cases ds <;> cases a <;> first | (cases ha; done) | (cases b <;> first | rfl | (cases hr; done))
theorem plain_eqs (ok : EnvOk P E) (d : Nat) (w : World) : ∀ (fs : List Field) (a b : List AVal) (k : Nat) (r : Bool) (xs ys : Array Value), plainFields E k fs a = true → sameKeys a b = some r →
    (∀ i, xs[k + i]? = (a[i]?).map (γ m)) → (∀ i, ys[k + i]? = (b[i]?).map (γ m)) → (Op.eqFields (d + 1) xs ys fs).run P w = .ok r w
  | [], a, b, k, r, xs, ys, ha, hr, _, _ => by
    cases a <;> simp [plainFields] at ha
    cases b with
    | nil => simp [sameKeys] at hr; subst hr; simp [Op.eqFields]
    | cons b bs => simp [sameKeys] at hr
  | f :: fs, a, b, k, r, xs, ys, ha, hr, hx, hy => by
    cases a with
    | nil => simp [plainFields] at ha
    | cons a as =>
      cases b with
      | nil => simp [sameKeys] at hr
      | cons b bs =>
        obtain ⟨a1, a2, a3, a4⟩ := plainFields_cons ha
        have x0 := hx 0
        have y0 := hy 0
        simp only [Nat.add_zero, List.getElem?_cons_zero, Option.map_some] at x0 y0
        simp only [sameKeys] at hr
        cases h1 : sameKeyS a b with
        | none => rw [h1] at hr; cases hr
        | some q =>
          rw [h1] at hr
          have b1 := plain_like a1 h1
          have e1 := plain_eq1 (m := m) ok a1 b1 h1 d w
          have pa := ok.run_part (plain_agg a1) (off := f.offset) (by rw [a2]; exact x0) w
          have pb := ok.run_part (plain_agg b1) (off := f.offset) (by rw [a2]; exact y0) w
          simp only [Op.eqFields, ne_eq, a3, not_false_eq_true, if_true, Sem.run_bind, pa, pb, e1, Result.andThen_ok]
          cases q with
          | false => simp at hr; subst hr; simp
          | true =>
            simp only at hr
            simp only [Bool.not_true, Bool.false_eq_true, if_false]
            exact plain_eqs ok d w fs as bs (k + 1) r xs ys a4 hr (fun i => by have := hx (i + 1); rw [show k + (i + 1) = k + 1 + i by omega] at this; simpa using this)
              (fun i => by have := hy (i + 1); rw [show k + (i + 1) = k + 1 + i by omega] at this; simpa using this)

theorem eql_of {t : TypeId} {x y : Value} {b : Bool} {w : World} (h1 : binOp .eql t x y = (do pure (Value.bool (← Op.equal t x y)))) (h2 : binOp .neq t x y = (do pure (Value.bool (!(← Op.equal t x y)))))
    (h : ∀ d, (Op.equalIn (d + 1) t x y).run P w = .ok b w) : (binOp .eql t x y).run P w = .ok (.bool b) w ∧ (binOp .neq t x y).run P w = .ok (.bool (!b)) w := by
  have e : (Op.equal t x y).run P w = .ok b w := h 9999
  rw [h1, h2]
  simp only [Sem.run_bind, e, Result.andThen_ok]
  exact ⟨rfl, rfl⟩
theorem eqK_spec (ok : EnvOk P E) {t : TypeId} {c : Bool} {x y : AVal} {b : Bool} (h : (eqK E t c).f x y = some b) {xo yo : Operand} (hc : c = (isK xo || isK yo)) (op : BinOp) (w : World) :
    (eqGuard op t xo yo (γ m x) (γ m y)).run P w = .ok () w ∧ (binOp .eql t (γ m x) (γ m y)).run P w = .ok (.bool b) w ∧ (binOp .neq t (γ m x) (γ m y)).run P w = .ok (.bool (!b)) w := by
  unfold eqK at h
  cases hu : E.und t with
  | none => rw [hu] at h; cases h
  | some d =>
    rw [hu] at h
    have hP := ok.und hu
    have hrun := fun w => run_underlying hP w
    cases d <;> try (cases h; done)
    case bool =>
      cases x <;> try (cases h; done)
      cases y <;> try (cases h; done)
      rename_i p q
      simp only [Option.some.injEq, boolEqb_spec] at h
      subst h
      simp only [γ]
      exact ⟨by rw [eqGuard_at_bool]; rfl, run_eql_bool w t p q hP, run_neq_bool w t p q hP⟩
    case pointer e =>
      cases x <;> try (cases h; done)
      all_goals (cases y <;> try (cases h; done))
      all_goals
        simp only [Option.some.injEq] at h
        subst h
        simp only [γ]
        refine ⟨by rw [eqGuard_at_pointer]; rfl, eql_of rfl rfl fun d => ?_⟩; simp only [Op.equalIn, Sem.run_bind, hrun, Result.andThen_ok]; rfl
    case slice e =>
      cases x <;> try (cases h; done)
      all_goals (cases y <;> try (cases h; done))
      all_goals
        simp only [Option.some.injEq] at h
        subst h
      · rename_i n o l cp
        cases cp <;> (simp only [γ]; refine ⟨by rw [eqGuard_at_slice]; rfl, eql_of rfl rfl fun d => ?_⟩; simp only [Op.equalIn, Sem.run_bind, hrun, Result.andThen_ok]; rfl)
      · rename_i n o l cp
        cases cp <;> (simp only [γ]; refine ⟨by rw [eqGuard_at_slice]; rfl, eql_of rfl rfl fun d => ?_⟩; simp only [Op.equalIn, Sem.run_bind, hrun, Result.andThen_ok]; rfl)
      · simp only [γ]; refine ⟨by rw [eqGuard_at_slice]; rfl, eql_of rfl rfl fun d => ?_⟩; simp only [Op.equalIn, Sem.run_bind, hrun, Result.andThen_ok]; rfl
    case map e f =>
      cases x <;> try (cases h; done)
      all_goals (cases y <;> try (cases h; done))
      all_goals
        simp only [Option.some.injEq] at h
        subst h
        simp only [γ]
        refine ⟨by rw [eqGuard_at_map]; rfl, eql_of rfl rfl fun d => ?_⟩; simp only [Op.equalIn, Sem.run_bind, hrun, Result.andThen_ok]; rfl
    case func e f g =>
      cases x <;> try (cases h; done)
      all_goals (cases y <;> try (cases h; done))
      all_goals
        simp only [Option.some.injEq] at h
        subst h
        simp only [γ]
        refine ⟨by cases op <;> rfl, eql_of rfl rfl fun d => ?_⟩; simp only [Op.equalIn, Sem.run_bind, hrun, Result.andThen_ok]; rfl
    case interface ms =>
      cases x <;> try (cases h; done)
      all_goals (cases y <;> try (cases h; done))
      · simp only [Option.some.injEq] at h
        subst h
        simp only [γ]
        refine ⟨by cases op <;> rfl, eql_of rfl rfl fun d => ?_⟩; simp only [Op.equalIn, Sem.run_bind, hrun, Result.andThen_ok]; rfl
      · simp only [Option.some.injEq] at h
        subst h
        simp only [γ]
        refine ⟨by cases op <;> rfl, eql_of rfl rfl fun d => ?_⟩; simp only [Op.equalIn, Sem.run_bind, hrun, Result.andThen_ok]; rfl
      · cases c with
        | false => cases h
        | true =>
          cases h
          simp only [γ]
          refine ⟨?_, eql_of rfl rfl fun d => ?_⟩
          · cases xo <;> cases yo <;> first | (simp [isK] at hc; done) | (cases op <;> rfl)
          · simp only [Op.equalIn, Sem.run_bind, hrun, Result.andThen_ok]; rfl
    case struct fs =>
      cases hg : E.gt t with
      | false => rw [hg] at h; cases h
      | true =>
        rw [hg] at h
        obtain ⟨g1, g2⟩ := ok.gt t hg
        cases x <;> try (cases h; done)
        cases y <;> try (cases h; done)
        rename_i a b'
        simp only [cond_true] at h
        cases hp : (plainFields E 0 fs.toList a && plainFields E 0 fs.toList b') with
        | false => rw [hp] at h; cases h
        | true =>
          rw [hp] at h
          simp only [cond_true] at h
          rw [Bool.and_eq_true] at hp
          have hf : P.fieldsOf t = fs := by unfold Program.fieldsOf; rw [hP]
          have key : (Op.equalIn 10000 t (.agg ⟨γs m a⟩) (.agg ⟨γs m b'⟩)).run P w = .ok b w := by
            rw [run_equalIn_agg w 9999 t _ _ (by rw [hf]; exact hP) g1, hf]
            exact plain_eqs (m := m) ok 9998 w fs.toList a b' 0 b _ _ hp.1 h (fun i => by simp [γs_map]) (fun i => by simp [γs_map])
          simp only [γ]
          exact ⟨run_eqGuard_agg w op t xo yo _ _ g2, by rw [run_eql_struct, key]; rfl, by rw [run_neq_struct, key]; rfl⟩
end
end Go.Ev
