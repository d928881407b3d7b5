/- The evaluator of closed calls, part Fj: what the program computes on given inputs, read by the kernel; sound in every world (part Gh). -/
import Derived.Test.YtendmajekgmkhaaGreatDoorFi
set_option linter.unusedVariables false
set_option linter.unusedSimpArgs false
set_option linter.unnecessarySimpa false
namespace Go.Ev
section
variable {P : Program} {E : Env}

theorem map_placeOf {fs : List Field} (ok : EnvOk P E) : ∀ (i : Nat) (p : Nat × Nat), placeOf E fs i = some p → ∃ f, fs[i]? = some f ∧ ∃ inf, P.info? f.type = some inf ∧ p = (f.offset, inf.size) := by
  intro i p h
  unfold placeOf at h
  cases hf : fs[i]? with
  | none => rw [hf] at h; cases h
  | some f =>
    rw [hf] at h
    simp only at h
    cases hs : E.size f.type with
    | none => rw [hs] at h; cases h
    | some s =>
      rw [hs] at h; cases h
      obtain ⟨inf, h1, h2⟩ := ok.size hs
      exact ⟨f, rfl, inf, h1, by rw [h2]⟩
/-- 'fill' asks its places alone. -/
theorem fill_places {pl pl' : Nat → Option (Nat × Nat)} (h : ∀ i p, pl i = some p → pl' i = some p) : ∀ (parts : List (Nat × Value)) (c r : Array Value), Instr.fill pl c parts = some r → Instr.fill pl' c parts = some r
  | [], c, r, hr => hr
  | (i, v) :: rest, c, r, hr => by
    simp only [Instr.fill] at hr ⊢
    cases hp : pl i with
    | none => rw [hp] at hr; cases hr
    | some p =>
      rw [hp] at hr
      rw [h i p hp]
      obtain ⟨off, size⟩ := p
      simp only at hr ⊢
      split at hr
      · cases hr
      · rename_i hc
        rw [if_neg hc]
        exact fill_places h rest _ r hr
theorem build_ok (ok : EnvOk P E) (t : TypeId) (parts : Array (Nat × Operand)) : OpOk P E (.build t parts) (opK E (.build t parts)) := fun m D tm ρ v w o ho hs hv => by
  have hin : ∀ x : Operand, In D ((srcK E x).g tm) := fun x => (src_ok (E := E) hs x).2
  have hparts : (parts.map fun (i, x) => (i, ρ x)).toList = parts.toList.map fun p => (p.1, γ m ((srcK E p.2).g tm)) := by
    simp only [Array.toList_map]
    apply List.map_congr_left
    intro p _
    rw [(src_ok (E := E) hs p.2).1]
  change (buildK E t parts).f tm = some v at hv
  unfold buildK at hv
  cases hz : E.zero t with
  | none => rw [hz] at hv; cases hv
  | some z =>
    obtain ⟨it, zv, hit, hzv, rfl⟩ := ok.zero hz
    rw [hz] at hv
    have hzin := In_ofValue D zv
    have hzc : zv.cells = ⟨γs m (AVal.ofValue zv).cells⟩ := by rw [← γ_cells m hzin, γ_ofValue]
    cases hu : E.und t with
    | none => rw [hu] at hv; cases hv
    | some d =>
      rw [hu] at hv
      have hP := ok.und hu
      cases d <;> try (cases hv; done)
      case array n e =>
        simp only at hv
        cases hs' : E.size e with
        | none => rw [hs'] at hv; cases hv
        | some s =>
          rw [hs'] at hv
          simp only at hv
          obtain ⟨ie, he1, he2⟩ := ok.size hs'
          cases hf : fillA (fun i => some (Nat.mul i s, s)) (partsK E parts) tm (AVal.ofValue zv).cells with
          | none => rw [hf] at hv; cases hv
          | some l =>
            rw [hf] at hv; cases hv
            obtain ⟨f1, f2, _⟩ := fill_spec hin parts.toList _ _ hf (InL_cells hzin)
            refine ⟨?_, f2⟩
            have hb : P.built t (parts.map fun (i, x) => (i, ρ x)).toList = some ⟨γs m l⟩ := by
              unfold Program.built
              rw [hit, hP]
              simp only [hzv, he1, hzc, hparts, he2]
              exact f1
            refine pu_val (s := Instr.build t (parts.map fun (i, x) => (i, ρ x))) (by simp only [execOp, ho]) ?_
            exact run_build w t _ _ hb
      case struct fs =>
        simp only at hv
        cases hall : (fs.toList.all fun f => (E.size f.type).isSome) with
        | false => rw [hall] at hv; cases hv
        | true =>
        rw [hall] at hv
        simp only [cond_true] at hv
        cases hf : fillA (placeOf E fs.toList) (partsK E parts) tm (AVal.ofValue zv).cells with
        | none => rw [hf] at hv; cases hv
        | some l =>
          rw [hf] at hv; cases hv
          obtain ⟨f1, f2, _⟩ := fill_spec hin parts.toList _ _ hf (InL_cells hzin)
          refine ⟨?_, f2⟩
          have hpl : ∃ places : List (Nat × Nat), fs.toList.mapM (fun f => (P.info? f.type).map fun i => (f.offset, i.size)) = some places ∧ ∀ (i : Nat) (f : Field), fs.toList[i]? = some f → ∀ inf, P.info? f.type = some inf → places[i]? = some (f.offset, inf.size) := by
            have hall : ∀ f ∈ fs.toList, (P.info? f.type).isSome = true := fun f hf => by
              have := List.all_eq_true.1 hall f hf
              obtain ⟨s, hs2⟩ := Option.isSome_iff_exists.1 this
              obtain ⟨i, hi, _⟩ := ok.size hs2
              rw [hi]; rfl
            generalize fs.toList = l at hall
            induction l with
            | nil => exact ⟨[], rfl, fun i f h => by simp at h⟩
            | cons f l ih =>
              obtain ⟨pl, h1, h2⟩ := ih (fun g hg => hall g (List.mem_cons_of_mem _ hg))
              obtain ⟨inf, hinf⟩ := Option.isSome_iff_exists.1 (hall f (List.mem_cons_self ..))
              refine ⟨(f.offset, inf.size) :: pl, by simp [List.mapM_cons, hinf, h1], fun i g hg inf' hi => ?_⟩
              cases i with
              | zero => simp at hg; subst hg; rw [hinf] at hi; cases hi; rfl
              | succ i => simp at hg ⊢; exact h2 i g hg inf' hi
          obtain ⟨places, p1, p2⟩ := hpl
          have hb : P.built t (parts.map fun (i, x) => (i, ρ x)).toList = some ⟨γs m l⟩ := by
            unfold Program.built
            rw [hit, hP]
            simp only [hzv, p1, hzc, hparts]
            refine fill_places (fun i p hp => ?_) _ _ _ f1
            obtain ⟨f, q1, inf, q2, rfl⟩ := map_placeOf ok i p hp
            have := p2 i f q1 inf q2
            simpa using this
          refine pu_val (s := Instr.build t (parts.map fun (i, x) => (i, ρ x))) (by simp only [execOp, ho]) ?_
          exact run_build w t _ _ hb

theorem natOf_spec {v : AVal} {k : Nat → Option AVal} {r : AVal} (h : natOf v none k = some r) : ∃ kd n, v = .int kd (.ofNat n) ∧ k n = some r := by
  unfold natOf at h
  cases v <;> try (cases h; done)
  rename_i kd n
  cases n with
  | negSucc n => cases h
  | ofNat n => exact ⟨kd, n, rfl, h⟩
theorem fieldPlace_run {f : Field} {s : Nat} (ok : EnvOk P E) (h : E.size f.type = some (s + 1)) (b off : Nat) (w : World) : (fieldPlace ⟨b, off, none⟩ f).run P w = .ok ⟨b, off + f.offset, none⟩ w := by
  have hz := ok.run_size h w
  simp [fieldPlace, hz, add_at]
theorem fieldAddr_ok (ok : EnvOk P E) (t : TypeId) (x : Operand) (f : Nat) : OpOk P E (.fieldAddr t x f) (opK E (.fieldAddr t x f)) :=
  on1_ok (fun a => Instr.fieldAt t a f) (fun ρ o ho => by simp only [execOp, ho]) fun m D u v w hu hv => by
    unfold fieldAddrK at hv
    cases ht : E.und t with
    | none => rw [ht] at hv; cases hv
    | some d =>
      rw [ht] at hv
      have hr := ok.run_und ht w
      cases d <;> try (cases hv; done)
      rename_i fs
      simp only at hv
      cases hf : fs.toList[f]? with
      | none => rw [hf] at hv; cases hv
      | some fd =>
        rw [hf] at hv
        simp only at hv
        cases hs : E.size fd.type with
        | none => rw [hs] at hv; cases hv
        | some s =>
          rw [hs] at hv
          cases s with
          | zero => cases hv
          | succ s =>
            simp only at hv
            cases u <;> try (cases hv; done)
            rename_i n off
            simp only [forceN_spec, Option.some.injEq] at hv
            subst hv
            have hf' : fs[f]? = some fd := by rw [← Array.getElem?_toList]; exact hf
            exact ⟨by simp [Instr.fieldAt, hr, hf', γ, Instr.sureAddr, fieldPlace_run ok hs], hu⟩
theorem field_ok (ok : EnvOk P E) (t : TypeId) (x : Operand) (f : Nat) : OpOk P E (.field t x f) (opK E (.field t x f)) :=
  on1_ok (fun a => Instr.field t a f) (fun ρ o ho => by simp only [execOp, ho]) fun m D u v w hu hv => by
    unfold fieldK at hv
    cases ht : E.und t with
    | none => rw [ht] at hv; cases hv
    | some d =>
      rw [ht] at hv
      have hr := ok.run_und ht w
      cases d <;> try (cases hv; done)
      rename_i fs
      simp only at hv
      cases hf : fs.toList[f]? with
      | none => rw [hf] at hv; cases hv
      | some fd =>
        rw [hf] at hv
        simp only at hv
        cases u <;> try (cases hv; done)
        rename_i l
        have hf' : fs[f]? = some fd := by rw [← Array.getElem?_toList]; exact hf
        obtain ⟨p1, p2⟩ := part_spec (m := m) ok hv hu w
        exact ⟨by simp [Instr.field, hr, hf', γ, asAgg, p1], p2⟩
theorem indexAddr_ok (ok : EnvOk P E) (t : TypeId) (x y : Operand) : OpOk P E (.indexAddr t x y) (opK E (.indexAddr t x y)) :=
  on2_ok (fun a b => Instr.indexAt t a b) (fun ρ o ho => by simp only [execOp, ho]) fun m D a b v w ha hb hv => by
    unfold indexAddrK at hv
    cases ht : E.und t with
    | none => rw [ht] at hv; cases hv
    | some d =>
      rw [ht] at hv
      have hr := ok.run_und ht w
      cases d <;> try (cases hv; done)
      case slice e =>
        simp only at hv
        cases hs : E.size e with
        | none => rw [hs] at hv; cases hv
        | some sz =>
          rw [hs] at hv
          simp only at hv
          have hz := ok.run_size hs w
          replace hv := natOf_spec hv; obtain ⟨kd, i, rfl, hv⟩ := hv
          cases a <;> try (cases hv; done)
          rename_i n off len cap
          simp only at hv
          cases hlt : Nat.blt i len with
          | false => rw [hlt] at hv; cases hv
          | true =>
            rw [hlt] at hv
            simp only [cond_true, forceN_spec, Option.some.injEq] at hv
            subst hv
            have hi : i < len := blt_iff.1 hlt
            refine ⟨?_, ha⟩
            cases cap <;> simp [Instr.indexAt, asIntOf, hr, γ, hz, hi, add_at] <;> rfl
      case array len e =>
        simp only at hv
        cases hs : E.size e with
        | none => rw [hs] at hv; cases hv
        | some sz =>
          rw [hs] at hv
          simp only at hv
          have hz := ok.run_size hs w
          replace hv := natOf_spec hv; obtain ⟨kd, i, rfl, hv⟩ := hv
          cases a <;> try (cases hv; done)
          · rename_i n off
            simp only at hv
            cases hlt : Nat.blt i len with
            | false => rw [hlt] at hv; cases hv
            | true =>
              rw [hlt] at hv
              simp only [cond_true, forceN_spec, Option.some.injEq] at hv
              subst hv
              have hi : i < len := blt_iff.1 hlt
              refine ⟨?_, ha⟩
              simp [Instr.indexAt, asIntOf, hr, γ, hz, hi, add_at, Instr.sureAddr] <;> rfl
          · rename_i u
            split at hv <;> try (cases hv; done)
            · rename_i he; cases he
            · rename_i g off he
              cases he
              cases hlt : Nat.blt i len with
              | false => rw [hlt] at hv; cases hv
              | true =>
                rw [hlt] at hv
                simp only [cond_true, forceN_spec, Option.some.injEq] at hv
                subst hv
                have hi : i < len := blt_iff.1 hlt
                refine ⟨?_, by show Value.oneCell' _ = true; rfl⟩
                simp [Instr.indexAt, asIntOf, hr, γ, hz, hi, add_at, Instr.sureAddr] <;> rfl
theorem index_ok (ok : EnvOk P E) (t : TypeId) (x y : Operand) : OpOk P E (.index t x y) (opK E (.index t x y)) :=
  on2_ok (fun a b => Instr.index t a b) (fun ρ o ho => by simp only [execOp, ho]) fun m D a b v w ha hb hv => by
    unfold indexK at hv
    cases ht : E.und t with
    | none => rw [ht] at hv; cases hv
    | some d =>
      rw [ht] at hv
      have hr := ok.run_und ht w
      cases d <;> try (cases hv; done)
      case string =>
        simp only at hv
        replace hv := natOf_spec hv; obtain ⟨kd, i, rfl, hv⟩ := hv
        cases a <;> try (cases hv; done)
        rename_i l
        simp only [nthB_spec] at hv
        cases hl : l[i]? with
        | none => rw [hl] at hv; cases hv
        | some b =>
          rw [hl] at hv
          simp only [forceN_spec, Option.some.injEq] at hv
          subst hv
          refine ⟨?_, trivial⟩
          have hlt := (List.getElem?_eq_some_iff.1 hl).1
          have e : (⟨⟨l⟩⟩ : ByteArray)[i]? = some b := by
            have hsz : i < (⟨⟨l⟩⟩ : ByteArray).size := hlt
            rw [getElem?_pos (⟨⟨l⟩⟩ : ByteArray) i hsz]
            have := (List.getElem?_eq_some_iff.1 hl).2
            exact congrArg some this
          simp [Instr.index, asIntOf, hr, γ, e]
      case array len e =>
        simp only at hv
        cases hs : E.size e with
        | none => rw [hs] at hv; cases hv
        | some sz =>
          rw [hs] at hv
          simp only at hv
          have hz := ok.run_size hs w
          replace hv := natOf_spec hv; obtain ⟨kd, i, rfl, hv⟩ := hv
          cases a <;> try (cases hv; done)
          rename_i l
          simp only at hv
          cases hlt : Nat.blt i len with
          | false => rw [hlt] at hv; cases hv
          | true =>
            rw [hlt] at hv
            simp only [cond_true] at hv
            have hi : i < len := blt_iff.1 hlt
            obtain ⟨p1, p2⟩ := part_spec (m := m) ok hv ha w
            refine ⟨?_, p2⟩
            have p1' : (part e ⟨γs m l⟩ (i * sz)).run P w = .ok (γ m v) w := p1
            simp [Instr.index, asIntOf, hr, γ, hz, hi, p1']
theorem typeAssert_ok (ok : EnvOk P E) (x : Operand) (xt t : TypeId) (c : Bool) : OpOk P E (.typeAssert x xt t c) (opK E (.typeAssert x xt t c)) :=
  on1_ok (fun a => Instr.typeAssert a xt t c) (fun ρ o ho => by simp only [execOp, ho]) fun m D u v w hu hv => by
    unfold typeAssertK at hv
    cases ht : E.und t with
    | none => rw [ht] at hv; cases hv
    | some d =>
      rw [ht] at hv
      have hr := ok.run_und ht w
      have hgen : (match E.zero t with
        | some z => (⟨fun x => match x with
          | .iface u v => cond (Nat.beq u t) (some (cond c (.tup [v, .bool true]) v)) (cond c (some (.tup [z, .bool false])) none)
          | _ => none⟩ : OnA)
        | none => ⟨fun _ => none⟩).f u = some v ∧ (∀ ms, d ≠ .interface ms) := by
        cases d <;> first | (cases hv; done) | exact ⟨hv, fun ms e => by cases e⟩
      obtain ⟨hv, hd⟩ := hgen
      cases hz : E.zero t with
      | none => rw [hz] at hv; cases hv
      | some z =>
        rw [hz] at hv
        obtain ⟨it, zv, z1, z2, rfl⟩ := ok.zero hz
        have hzr := run_zero z1 z2 w
        simp only at hv
        obtain ⟨s, q, rfl⟩ : ∃ s q, u = .iface s q := by cases u <;> first | (cases hv; done) | exact ⟨_, _, rfl⟩
        simp only at hv
        cases hb : Nat.beq s t with
        | true =>
          rw [hb] at hv
          simp only [cond_true, Option.some.injEq] at hv
          subst hv
          have := beq_iff.1 hb; subst this
          cases c with
          | true => exact ⟨by cases d <;> first | exact absurd rfl (hd _) | simp [Instr.typeAssert, hr, γ, γs], ⟨hu, trivial, trivial⟩⟩
          | false => exact ⟨by cases d <;> first | exact absurd rfl (hd _) | simp [Instr.typeAssert, hr, γ], hu⟩
        | false =>
          rw [hb] at hv
          have hne : s ≠ t := fun e => by subst e; rw [Nat.beq_refl] at hb; cases hb
          cases c with
          | false => cases hv
          | true =>
            simp only [cond_true, cond_false, Option.some.injEq] at hv
            subst hv
            exact ⟨by cases d <;> first | exact absurd rfl (hd _) | simp [Instr.typeAssert, hr, γ, γs, hne, hzr, γ_ofValue], ⟨In_ofValue D zv, trivial, trivial⟩⟩
end
end Go.Ev
