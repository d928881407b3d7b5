/- The evaluator of closed calls, part Ft: what the program computes on given inputs, read by the kernel; sound in every world (part Gh). -/
import Derived.Test.YtendmajekgmkhaaGreatDoorFs
set_option linter.unusedVariables false
set_option linter.unusedSimpArgs false
set_option linter.unnecessarySimpa false
namespace Go.Ev
section
variable {P : Program} {E : Env}

theorem first0 {v : Value} {n s : Nat} {w : World} (h : (Builtin.lenOf v).run P w = .ok n w) : ∃ cs, (Builtin.firstCells s 0 v).run P w = .ok cs w := by
  cases v <;> try (simp [Builtin.lenOf] at h; done)
  · exact ⟨_, by simp only [Builtin.firstCells]; rfl⟩
  · rename_i a l c
    cases a with
    | none => exact ⟨_, by simp only [Builtin.firstCells]; rfl⟩
    | some a => exact ⟨#[], by simp [Builtin.firstCells, loadCells, loadCellsFrom]⟩
theorem copy_ok (ok : EnvOk P E) {c : Call} {x y : Operand} (hc : c.callee = .builtin .copy) (ha : c.args.toList = [x, y]) :
    OpOk P E (.call c) (.wr fun tm h => (copyK E c.argTypes.toList).f h ((srcK E x).g tm) ((srcK E y).g tm)) := fun m h tm ρ w o ho hr hs => by
  obtain ⟨h1, h2⟩ := src_ok (E := E) hs x
  obtain ⟨g1, g2⟩ := src_ok (E := E) hs y
  simp only
  generalize (srcK E x).g tm = a at h1 h2
  generalize (srcK E y).g tm = b at g1 g2
  rw [builtin_exec ho hc, args_eq ha]
  unfold copyK
  cases hts : c.argTypes.toList with
  | nil => exact trivial
  | cons t ts =>
    simp only
    cases hu : E.und t with
    | none => exact trivial
    | some d =>
      cases d <;> try (exact trivial)
      rename_i e
      simp only
      cases hz : E.size e with
      | none => exact trivial
      | some s =>
        simp only
        have hru := ok.run_und hu w
        have hzr := ok.run_size hz w
        rw [types_eq hts]
        suffices hall : ∀ r : OR, (srcLen b OR.fail fun n => (match (generalizing := false) a with
          | .slc m off len _ =>
            forceN (Nat.min n len) fun k =>
            Option.casesOn (motive := fun _ => OR) (srcCells h s k b) OR.fail fun l =>
              Option.casesOn (motive := fun _ => OR) (h.store m off l) OR.fail fun h => OR.ok (.int .i64 (.ofNat k)) h
          | .slcNil => OR.ok (.int .i64 (.ofNat 0)) h
          | _ => OR.fail)) = r → WrGood P E m h w (builtin .copy ⟨t :: ts⟩ o.type (c.args.map fun | .const _ => true | _ => false) ⟨[x, y].map ρ⟩) r from hall _ rfl
        intro r hres
        by_cases hfail : r = .fail
        · subst hfail; exact trivial
        obtain ⟨n, hlen, hk, _, _⟩ := srcLen_spec hres hfail
        have hlw := hlen m w
        have fin : ∀ {val : Value} {w' : World}, (Builtin.copy_ ⟨t :: ts⟩ o.type #[γ m a, γ m b]).run P w = .ok val w' → (builtin .copy ⟨t :: ts⟩ o.type (c.args.map fun | .const _ => true | _ => false) ⟨[x, y].map ρ⟩).run P w = .ok (.value val) w' := fun {val w'} hh => by
          simp only [List.map_cons, List.map_nil, h1, g1]
          show ((do pure (Next.value (← Builtin.copy_ ⟨t :: ts⟩ o.type #[γ m a, γ m b])) : Sem Next)).run P w = _
          simp [hh]
        cases a <;> try (exact absurd hk.symm hfail)
        · rename_i q off len cp
          simp only [forceN_spec] at hk
          cases hsc : srcCells h s (Nat.min n len) b with
          | none => rw [hsc] at hk; exact absurd hk.symm hfail
          | some l =>
            rw [hsc] at hk
            simp only at hk
            cases hst : h.store q off l with
            | none => rw [hst] at hk; exact absurd hk.symm hfail
            | some h' =>
              rw [hst] at hk
              simp only at hk
              subst hk
              obtain ⟨n1, n2, _⟩ := srcCells_spec (P := P) hr hsc
              obtain ⟨w', s1, s2, s3, s4, s5⟩ := hr.store hst n1 P
              have hn2 := n2 w hr
              refine ⟨m, w', _, fin ?_, .inl rfl, s2, s3, trivial, s4⟩
              have goal : ∀ cpv, (Builtin.copy_ ⟨t :: ts⟩ o.type #[.slice (some ⟨m.b q, off, none⟩) len cpv, γ m b]).run P w = .ok (.int .i64 (.ofNat (Nat.min n len))) w' := fun cpv => by
                simp only [Builtin.copy_, List.getElem?_toArray, List.getElem?_cons_zero, List.getElem?_cons_succ, Sem.run_bind, hru, Result.andThen_ok]
                rw [hlw]
                simp only [Result.andThen_ok]
                rw [hzr]
                simp only [Result.andThen_ok]
                rw [hn2]
                simp only [Result.andThen_ok, s1, Sem.run_pure]
                rfl
              cases cp <;> exact goal _
        · simp only at hk
          subst hk
          refine ⟨m, w, .value (.int .i64 (.ofNat 0)), fin ?_, .inl rfl, hr, Goes.refl m h w, trivial, rfl⟩
          obtain ⟨cs, hf0⟩ := first0 (s := s) hlw
          simp only [γ, Builtin.copy_, List.getElem?_toArray, List.getElem?_cons_zero, List.getElem?_cons_succ, Sem.run_bind, hru, Result.andThen_ok]
          rw [hlw]
          simp only [Result.andThen_ok]
          rw [hzr]
          simp only [Result.andThen_ok, show Nat.min n 0 = 0 from Nat.min_zero n]
          rw [hf0]
          rfl
end
end Go.Ev
