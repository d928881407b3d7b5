/- The evaluator of closed calls, part Fl: what the program computes on given inputs, read by the kernel; sound in every world (part Gh). -/
import Derived.Test.YtendmajekgmkhaaGreatDoorFk
set_option linter.unusedVariables false
set_option linter.unusedSimpArgs false
set_option linter.unnecessarySimpa false
namespace Go.Ev
section
variable {P : Program} {E : Env}

/-! ### Keys -/
theorem plain_key1 (ok : EnvOk P E) {m : Mp} {t : TypeId} {a : AVal} (ha : plainAt E t a = true) (e : Bool) (d : Nat) (w : World) : (Instr.checkKey e (d + 1) t (γ m a)).run P w = .ok () w := by
  unfold plainAt at ha
  cases hu : E.und t with
  | none => rw [hu] at ha; cases ha
  | some ds =>
    rw [hu] at ha
    have hr := ok.run_und hu w
    cases ds <;> cases a <;> first | (cases ha; done) | (simp only [Instr.checkKey, Sem.run_bind, hr, Result.andThen_ok, γ]; rfl)
theorem keyOk_run (ok : EnvOk P E) {m : Mp} {t : TypeId} {k : AVal} {b : Bool} (h : (keyOkK E t).f k k = some b) (e : Bool) (w : World) : (Instr.checkKey e 10000 t (γ m k)).run P w = .ok () w := by
  unfold keyOkK at h
  cases hu : E.und t with
  | none => rw [hu] at h; cases h
  | some d =>
    rw [hu] at h
    have hr := ok.run_und hu w
    have pl : plainAt E t k = true → (Instr.checkKey e 10000 t (γ m k)).run P w = .ok () w := fun hp => plain_key1 ok hp e 9999 w
    cases d <;> try (cases h; done)
    · exact pl (by unfold plainAt; rw [hu]; cases k <;> first | (cases h; done) | rfl)
    · exact pl (by unfold plainAt; rw [hu]; cases k <;> first | (cases h; done) | rfl)
    · exact pl (by unfold plainAt; rw [hu]; cases k <;> first | (cases h; done) | rfl)
    · rename_i fs
      cases hg : E.gt t with
      | false => rw [hg] at h; cases h
      | true =>
        rw [hg] at h
        simp only [cond_true] at h
        cases k <;> try (cases h; done)
        rename_i l
        simp only at h
        cases hp : plainFields E 0 fs.toList l with
        | false => rw [hp] at h; cases h
        | true =>
          have gen : ∀ N, (Instr.checkKey e (N + 2) t (.agg ⟨γs m l⟩)).run P w = .ok () w := by
            intro N
            clear h pl
            unfold Instr.checkKey
            simp only [Sem.run_bind, hr, Result.andThen_ok]
            rw [← Array.forIn_toList]
            have hx : ∀ j, (⟨γs m l⟩ : Array Value)[0 + j]? = (l[j]?).map (γ m) := fun j => by simp [γs_map]
            generalize (⟨γs m l⟩ : Array Value) = xs at hx
            generalize fs.toList = fl at hp
            generalize (0 : Nat) = i at hp hx
            induction fl generalizing l i with
            | nil => simp
            | cons f fl ih =>
              cases l with
              | nil => simp [plainFields] at hp
              | cons a as =>
                obtain ⟨a1, a2, a3, a4⟩ := plainFields_cons hp
                have x0 := hx 0
                simp only [Nat.add_zero, List.getElem?_cons_zero, Option.map_some] at x0
                have pa := ok.run_part (plain_agg a1) (off := f.offset) (by rw [a2]; exact x0) w
                have ck := plain_key1 (m := m) ok a1 e N w
                simp only [List.forIn_cons, Sem.run_bind, ne_eq, a3, not_false_eq_true, if_true, pa, Result.andThen_ok, ck, Sem.run_pure]
                exact ih as (i + 1) a4 (fun j => by have := hx (j + 1); rw [show i + (j + 1) = i + 1 + j by omega] at this; simpa using this)
          exact gen 9998
/-- Two keys that 'sameK' compares. -/
theorem sameK_equal (ok : EnvOk P E) {m : Mp} {t : TypeId} {k q : AVal} {b r : Bool} (h : (keyOkK E t).f k k = some b) (hr : sameK k q = some r) (w : World) :
    (Op.equal t (γ m k) (γ m q)).run P w = .ok r w ∧ (match P.underlying t with | some d => Instr.sameNow d (γ m k) (γ m q) = some r ∨ (∃ fs, d = .struct fs ∧ Instr.sameNow d (γ m k) (γ m q) = none) | none => False) := by
  unfold keyOkK at h
  cases hu : E.und t with
  | none => rw [hu] at h; cases h
  | some d =>
    rw [hu] at h
    have hP := ok.und hu
    rw [hP]
    have pl : ∀ {a c : AVal}, plainAt E t a = true → sameKeyS a c = some r → (Op.equal t (γ m a) (γ m c)).run P w = .ok r w := fun ha hs => plain_eq1 (m := m) ok ha (plain_like ha hs) hs 9999 w
    cases d <;> try (cases h; done)
    · cases k <;> try (cases h; done)
      cases q <;> try (cases hr; done)
      rename_i a c
      have hs : sameKeyS (.bool a) (.bool c) = some r := hr
      refine ⟨pl (by unfold plainAt; rw [hu]) hs, .inl ?_⟩
      simp only [sameKeyS, sameKey, Option.some.injEq, boolEqb_spec] at hs
      subst hs; rfl
    · cases k <;> try (cases h; done)
      cases q <;> try (cases hr; done)
      rename_i k1 a k2 c
      have hs : sameKeyS (.int k1 a) (.int k2 c) = some r := hr
      refine ⟨pl (by unfold plainAt; rw [hu]) hs, .inl ?_⟩
      simp only [sameKeyS, sameKey] at hs
      cases hk : ikEqb k1 k2 with
      | false => rw [hk] at hs; cases hs
      | true =>
        rw [hk] at hs; cases hs
        have := (ikEqb_spec _ _).1 hk; subst this
        simp only [γ, Instr.sameNow, if_true, intEqb_spec, Option.some.injEq]
        by_cases e : a = c <;> simp [e]
    · cases k <;> try (cases h; done)
      cases q <;> try (cases hr; done)
      rename_i a c
      have hs : sameKeyS (.str a) (.str c) = some r := hr
      refine ⟨pl (by unfold plainAt; rw [hu]) hs, .inl ?_⟩
      simp only [sameKeyS, Option.some.injEq, bytesEqb_spec] at hs
      subst hs
      simp only [γ, Instr.sameNow, Option.some.injEq]
      rw [beq_toListBytes, toList_mk, toList_mk]
      by_cases e : a = c <;> simp [e]
    · rename_i fs
      cases hg : E.gt t with
      | false => rw [hg] at h; cases h
      | true =>
        rw [hg] at h
        simp only [cond_true] at h
        cases k <;> try (cases h; done)
        cases q <;> try (cases hr; done)
        rename_i a c
        simp only at h
        cases hp : plainFields E 0 fs.toList a with
        | false => rw [hp] at h; cases h
        | true =>
            have hf : P.fieldsOf t = fs := by unfold Program.fieldsOf; rw [hP]
            refine ⟨?_, .inr ⟨fs, rfl, rfl⟩⟩
            show (Op.equalIn 10000 t (.agg ⟨γs m a⟩) (.agg ⟨γs m c⟩)).run P w = .ok r w
            rw [run_equalIn_agg w 9999 t _ _ (by rw [hf]; exact hP) (ok.gt t hg).1, hf]
            exact plain_eqs (m := m) ok 9998 w fs.toList a c 0 r _ _ hp hr (fun i => by simp [γs_map]) (fun i => by simp [γs_map])
end
end Go.Ev
