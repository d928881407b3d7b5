/- The evaluator of closed calls, part Fm: what the program computes on given inputs, read by the kernel; sound in every world (part Gh). -/
import Derived.Test.YtendmajekgmkhaaGreatDoorFl
set_option linter.unusedVariables false
set_option linter.unusedSimpArgs false
set_option linter.unnecessarySimpa false
namespace Go.Ev
section
variable {P : Program} {E : Env}

def found (m : Mp) : Option (Nat × AVal) → Option (Nat × Value)
  | some (i, v) => some (i, γ m v)
  | none => none
theorem find_now (ok : EnvOk P E) {m : Mp} {t : TypeId} {k : AVal} {b : Bool} (hk : (keyOkK E t).f k k = some b) {d : TypeDesc} (hd : P.underlying t = some d) (hns : ∀ fs, d ≠ .struct fs) :
    ∀ (es : List MEnt) (i : Nat) (r : Option (Nat × AVal)), findA k es i = some r → Instr.findNow d (γ m k) (es.map (entG m)) i = some (found m r)
  | [], i, r, h => by cases h; rfl
  | e :: es, i, r, h => by
    simp only [findA] at h
    cases hs : sameK k e.key with
    | none => rw [hs] at h; cases h
    | some q =>
      rw [hs] at h
      have hq := (sameK_equal (P := P) (m := m) ok hk hs (default : World)).2
      rw [hd] at hq
      rcases hq with hq | ⟨fs, h1, _⟩
      · cases q with
        | true => simp only [Option.some.injEq] at h; subst h; simp [Instr.findNow, entG, hq, found]
        | false =>
          have ih := find_now ok (m := m) hk hd hns es (i + 1) r h
          simp [Instr.findNow, entG, hq]; exact ih
      · exact absurd h1 (hns fs)
theorem find_ask (ok : EnvOk P E) {m : Mp} {t : TypeId} {k : AVal} {b : Bool} (hk : (keyOkK E t).f k k = some b) (w : World) :
    ∀ (es : List MEnt) (i : Nat) (r : Option (Nat × AVal)), findA k es i = some r → (Instr.findAsking t (γ m k) (es.map (entG m)) i).run P w = .ok (found m r) w
  | [], i, r, h => by cases h; rfl
  | e :: es, i, r, h => by
    simp only [findA] at h
    cases hs : sameK k e.key with
    | none => rw [hs] at h; cases h
    | some q =>
      rw [hs] at h
      have hq := (sameK_equal (P := P) (m := m) ok hk hs w).1
      cases q with
      | true => simp only [Option.some.injEq] at h; subst h; simp [Instr.findAsking, entG, hq, found]
      | false =>
        have ih := find_ask ok (m := m) hk w es (i + 1) r h
        simp [Instr.findAsking, entG, hq]; exact ih
theorem find_run (ok : EnvOk P E) {m : Mp} {t : TypeId} {k : AVal} {b : Bool} (hk : (keyOkK E t).f k k = some b) (w : World) {es : List MEnt} {r : Option (Nat × AVal)} (h : findA k es 0 = some r) :
    (Instr.findKey t (γ m k) (es.map (entG m))).run P w = .ok (found m r) w := by
  have hu : ∃ d, E.und t = some d := by
    unfold keyOkK at hk
    cases hu : E.und t with
    | none => rw [hu] at hk; cases hk
    | some d => exact ⟨d, rfl⟩
  obtain ⟨d, hu⟩ := hu
  have hP := ok.und hu
  have hr := ok.run_und hu w
  unfold Instr.findKey
  simp only [Sem.run_bind, hr, Result.andThen_ok]
  by_cases hst : ∃ fs, d = .struct fs
  · obtain ⟨fs, rfl⟩ := hst
    cases es with
    | nil => cases h; rfl
    | cons e es =>
      have hn : Instr.findNow (.struct fs) (γ m k) ((e :: es).map (entG m)) 0 = none := rfl
      rw [hn]
      exact find_ask ok hk w _ 0 r h
  · rw [find_now ok hk hP (fun fs e => hst ⟨fs, e⟩) es 0 r h]; rfl
theorem findA_val {D : Pos → Prop} {k : AVal} : ∀ (es : List MEnt) (i : Nat) (j : Nat) (v : AVal), findA k es i = some (some (j, v)) → (∀ e ∈ es, In D e.key ∧ In D e.val) → In D v ∧ ∃ e, es[j - i]? = some e ∧ i ≤ j ∧ sameK k e.key = some true
  | [], i, j, v, h, _ => by cases h
  | e :: es, i, j, v, h, hi => by
    simp only [findA] at h
    cases hs : sameK k e.key with
    | none => rw [hs] at h; cases h
    | some q =>
      rw [hs] at h
      cases q with
      | true => simp only [Option.some.injEq, Prod.mk.injEq] at h; obtain ⟨rfl, rfl⟩ := h; exact ⟨(hi e (List.mem_cons_self ..)).2, e, by simp, Nat.le_refl _, hs⟩
      | false =>
        obtain ⟨h1, e', h2, h3, h4⟩ := findA_val es (i + 1) j v h (fun e he => hi e (List.mem_cons_of_mem _ he))
        refine ⟨h1, e', ?_, by omega, h4⟩
        rw [show j - i = (j - (i + 1)) + 1 by omega]; simpa using h2
theorem keyOk_any {t : TypeId} {k : AVal} (h : (keyOkK E t).f k k ≠ none) : ∃ b, (keyOkK E t).f k k = some b := by
  cases hh : (keyOkK E t).f k k with
  | none => exact absurd hh h
  | some b => exact ⟨b, rfl⟩
theorem lookup_ok (ok : EnvOk P E) (t : TypeId) (x y : Operand) (c : Bool) : OpOk P E (.lookup t x y c) (opK E (.lookup t x y c)) := fun m h tm ρ v w o ho hr hs hv => by
  obtain ⟨h1, h2⟩ := src_ok (E := E) hs x
  obtain ⟨g1, g2⟩ := src_ok (E := E) hs y
  change (lookupK E t c).f h ((srcK E x).g tm) ((srcK E y).g tm) = some v at hv
  generalize (srcK E x).g tm = a at h1 h2 hv
  generalize (srcK E y).g tm = k at g1 g2 hv
  have key : (Instr.lookup t (ρ x) (ρ y) c).run P w = .ok (γ m v) w ∧ In (dom h) v := by
    unfold lookupK at hv
    cases hu : E.und t with
    | none => rw [hu] at hv; cases hv
    | some d =>
      rw [hu] at hv
      have hru := ok.run_und hu w
      cases d <;> try (cases hv; done)
      rename_i kt et
      simp only at hv
      cases hz : E.zero et with
      | none => rw [hz] at hv; cases hv
      | some z =>
        rw [hz] at hv
        simp only at hv
        obtain ⟨it, zv, z1, z2, rfl⟩ := ok.zero hz
        have hzr := run_zero z1 z2 w
        cases hk : (keyOkK E kt).f k k with
        | none => rw [hk] at hv; cases hv
        | some b =>
          rw [hk] at hv
          simp only at hv
          cases he : entries h a with
          | none => rw [he] at hv; cases hv
          | some es =>
            rw [he] at hv
            simp only at hv
            cases hf : findA k es 0 with
            | none => rw [hf] at hv; cases hv
            | some r =>
              rw [hf] at hv
              simp only at hv
              have hfr := find_run (m := m) ok hk w hf
              have hck : ∀ e, (Instr.checkKey e 10000 kt (γ m k)).run P w = .ok () w := fun e => keyOk_run ok hk e w
              rw [h1, g1]
              have hin : (∀ e ∈ es, In (dom h) e.key ∧ In (dom h) e.val) ∧ ∀ (K : Array MapEntry → Sem Value), (K ⟨es.map (entG m)⟩).run P w = .ok (γ m v) w → (match γ m a with
                  | .map none => K #[]
                  | .map (some r) => do
                    let .map es _ ← getObj r | stuck "Lookup: map expected"
                    K es
                  | _ => stuck "Lookup: map expected" : Sem Value).run P w = .ok (γ m v) w := by
                unfold entries at he
                cases a <;> try (cases he; done)
                · cases he; exact ⟨fun e he => (nomatch he), fun K hK => hK⟩
                · rename_i n
                  simp only at he
                  cases hob : (h.at n).obj <;> rw [hob] at he <;> try (cases he; done)
                  cases he
                  obtain ⟨_, m1, m2⟩ := hr.map_at hob
                  exact ⟨m2, fun K hK => by simp only [γ, Sem.run_bind, run_getObj_map m1, Result.andThen_ok]; exact hK⟩
              obtain ⟨hin, hK⟩ := hin
              have hv2 : In (dom h) v ∧ (∀ q, (match found m r with | some (_, v) => (pure (v, true) : Sem (Value × Bool)) | none => do pure (← zeroValue et, false)).run P w = .ok q w → (if c then Value.tuple #[q.1, .bool q.2] else q.1) = γ m v) := by
                cases r with
                | none =>
                  simp only [Option.some.injEq] at hv
                  subst hv
                  refine ⟨by cases c <;> first | exact In_ofValue _ zv | exact ⟨In_ofValue _ zv, trivial, trivial⟩, fun u hu => ?_⟩
                  simp only [found, Sem.run_bind, hzr, Result.andThen_ok, Sem.run_pure, Result.ok.injEq, and_true] at hu
                  subst hu
                  cases c <;> simp [γ, γs, γ_ofValue]
                | some p =>
                  obtain ⟨j, u⟩ := p
                  simp only [Option.some.injEq] at hv
                  subst hv
                  have hu' := (findA_val (D := dom h) es 0 j u hf hin).1
                  refine ⟨by cases c <;> first | exact hu' | exact ⟨hu', trivial, trivial⟩, fun q hq => ?_⟩
                  simp only [found, Sem.run_pure, Result.ok.injEq, and_true] at hq
                  subst hq
                  cases c <;> simp [γ, γs]
              refine ⟨?_, hv2.1⟩
              unfold Instr.lookup
              simp only [Sem.run_bind, hru, Result.andThen_ok]
              refine hK (fun es => do
                Instr.checkKey es.isEmpty 10000 kt (γ m k)
                let (v, ok) ← match ← Instr.findKey kt (γ m k) es.toList with
                  | some (_, v) => pure (v, true)
                  | none => pure (← zeroValue et, false)
                pure (if c then .tuple #[v, .bool ok] else v)) ?_
              simp only [Sem.run_bind, hck, Result.andThen_ok, hfr]
              cases r with
              | none => have := hv2.2 (zv, false) (by simp [found, hzr]); simp [found, hzr]; simpa using this
              | some p => have := hv2.2 (γ m p.2, true) (by simp [found]); simp [found]; simpa using this
  exact ⟨pu_val (s := Instr.lookup t (ρ x) (ρ y) c) (by simp only [execOp, ho]) key.1, key.2⟩
theorem len_map_ok (ok : EnvOk P E) {c : Call} {x : Operand} {t kt et : TypeId} {ts : List TypeId} (hc : c.callee = .builtin .len) (ha : c.args.toList = [x]) (ht : c.argTypes.toList = t :: ts) (hu : E.und t = some (.map kt et)) :
    OpOk P E (.call c) (.rd fun tm h => Option.casesOn (entries h ((srcK E x).g tm)) none fun es => forceN es.length fun k => some (.int .i64 (.ofNat k))) := fun m h tm ρ v w o ho hr hs hv => by
  obtain ⟨h1, h2⟩ := src_ok (E := E) hs x
  have hru := ok.run_und hu w
  simp only at hv
  generalize (srcK E x).g tm = a at h1 h2 hv
  cases he : entries h a with
  | none => rw [he] at hv; cases hv
  | some es =>
    rw [he] at hv
    simp only [forceN_spec, Option.some.injEq] at hv
    subst hv
    refine ⟨?_, trivial⟩
    rw [builtin_exec ho hc, args_eq ha, types_eq ht]
    unfold entries at he
    cases a <;> try (cases he; done)
    · cases he
      simp [builtin, Builtin.len_, hru, h1, γ, goInt]
    · rename_i n
      simp only at he
      cases hob : (h.at n).obj <;> rw [hob] at he <;> try (cases he; done)
      rename_i es' cl
      cases he
      obtain ⟨_, m1, _⟩ := hr.map_at hob
      simp [builtin, Builtin.len_, hru, h1, γ, goInt, run_getObj_map m1]
end
end Go.Ev
