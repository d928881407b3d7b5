/- The evaluator of closed calls, part 4: what the program computes on given inputs, read by the kernel; sound in every world (part 8). -/
import Derived.Test.YtkpjikaobjpkoaaGreatDoorPkEv3
namespace Go.Ev
variable [Rho] {S : Nat → Prop}
section
variable {P : Program} {E : Env}

theorem map_placeOf {fs : List Field} (ok : EnvOk P E) : ∀ (i : Nat) (p : Nat × Nat), placeOf E fs i = some p → ∃ f, fs[i]? = some f ∧ ∃ inf, P.info? f.type = some inf ∧ p = (f.offset, inf.size) := by
  intro i p h
  unfold placeOf at h
  cases hf : fs[i]? with
  | none => rw [hf] at h; cases h
  | some f =>
    rw [hf] at h
    simp only at h
    cases hs : E.size f.type with
    | none => rw [hs] at h; cases h
    | some s =>
      rw [hs] at h; cases h
      obtain ⟨inf, h1, h2⟩ := ok.size hs
      exact ⟨f, rfl, inf, h1, by rw [h2]⟩
omit [Rho] in
/-- 'fill' asks its places alone. -/
theorem fill_places {pl pl' : Nat → Option (Nat × Nat)} (h : ∀ i p, pl i = some p → pl' i = some p) : ∀ (parts : List (Nat × Value)) (c r : Array Value), Instr.fill pl c parts = some r → Instr.fill pl' c parts = some r
  | [], c, r, hr => hr
  | (i, v) :: rest, c, r, hr => by
    simp only [Instr.fill] at hr ⊢
    cases hp : pl i with
    | none => rw [hp] at hr; cases hr
    | some p =>
      rw [hp] at hr
      rw [h i p hp]
      obtain ⟨off, size⟩ := p
      simp only at hr ⊢
      split at hr
      · cases hr
      · rename_i hc
        rw [if_neg hc]
        exact fill_places h rest _ r hr
theorem build_ok (ok : EnvOk P E) (t : TypeId) (parts : Array (Nat × Operand)) : OpOk P E (.build t parts) (opK0 E (.build t parts)) := fun m D tm ρ v w o ho hs hv => by
  have hin : ∀ x : Operand, In D ((srcK E x).g tm) := fun x => (src_ok (E := E) hs x).2
  have hparts : (parts.map fun (i, x) => (i, ρ x)).toList = parts.toList.map fun p => (p.1, γ m ((srcK E p.2).g tm)) := by
    simp only [Array.toList_map]
    apply List.map_congr_left
    intro p _
    rw [(src_ok (E := E) hs p.2).1]
  change (buildK E t parts).f tm = some v at hv
  unfold buildK at hv
  cases hz : E.zero t with
  | none => rw [hz] at hv; cases hv
  | some z =>
    obtain ⟨it, zv, hit, hzv, rfl⟩ := ok.zero hz
    rw [hz] at hv
    have hzin := In_ofValue D zv
    have hzc : zv.cells = ⟨γs m (AVal.ofValue zv).cells⟩ := by rw [← γ_cells m hzin, γ_ofValue]
    cases hu : E.und t with
    | none => rw [hu] at hv; cases hv
    | some d =>
      rw [hu] at hv
      have hP := ok.und hu
      cases d <;> try (cases hv; done)
      case array n e =>
        simp only at hv
        cases hs' : E.size e with
        | none => rw [hs'] at hv; cases hv
        | some s =>
          rw [hs'] at hv
          simp only at hv
          obtain ⟨ie, he1, he2⟩ := ok.size hs'
          cases hf : fillA (fun i => some (Nat.mul i s, s)) (partsK E parts) tm (AVal.ofValue zv).cells with
          | none => rw [hf] at hv; cases hv
          | some l =>
            rw [hf] at hv; cases hv
            obtain ⟨f1, f2, _⟩ := fill_spec hin parts.toList _ _ hf (InL_cells hzin)
            refine ⟨?_, f2⟩
            have hb : P.built t (parts.map fun (i, x) => (i, ρ x)).toList = some ⟨γs m l⟩ := by
              unfold Program.built
              rw [hit, hP]
              simp only [hzv, he1, hzc, hparts, he2]
              exact f1
            refine pu_val (s := Instr.build t (parts.map fun (i, x) => (i, ρ x))) (by simp only [execOp, ho]) ?_
            exact run_build w t _ _ hb
      case struct fs =>
        simp only at hv
        cases hall : (fs.toList.all fun f => (E.size f.type).isSome) with
        | false => rw [hall] at hv; cases hv
        | true =>
        rw [hall] at hv
        simp only [cond_true] at hv
        cases hf : fillA (placeOf E fs.toList) (partsK E parts) tm (AVal.ofValue zv).cells with
        | none => rw [hf] at hv; cases hv
        | some l =>
          rw [hf] at hv; cases hv
          obtain ⟨f1, f2, _⟩ := fill_spec hin parts.toList _ _ hf (InL_cells hzin)
          refine ⟨?_, f2⟩
          have hpl : ∃ places : List (Nat × Nat), fs.toList.mapM (fun f => (P.info? f.type).map fun i => (f.offset, i.size)) = some places ∧ ∀ (i : Nat) (f : Field), fs.toList[i]? = some f → ∀ inf, P.info? f.type = some inf → places[i]? = some (f.offset, inf.size) := by
            have hall : ∀ f ∈ fs.toList, (P.info? f.type).isSome = true := fun f hf => by
              have := List.all_eq_true.1 hall f hf
              obtain ⟨s, hs2⟩ := Option.isSome_iff_exists.1 this
              obtain ⟨i, hi, _⟩ := ok.size hs2
              rw [hi]; rfl
            generalize fs.toList = l at hall
            induction l with
            | nil => exact ⟨[], rfl, fun i f h => by simp at h⟩
            | cons f l ih =>
              obtain ⟨pl, h1, h2⟩ := ih (fun g hg => hall g (List.mem_cons_of_mem _ hg))
              obtain ⟨inf, hinf⟩ := Option.isSome_iff_exists.1 (hall f (List.mem_cons_self ..))
              refine ⟨(f.offset, inf.size) :: pl, by simp [List.mapM_cons, hinf, h1], fun i g hg inf' hi => ?_⟩
              cases i with
              | zero => simp at hg; subst hg; rw [hinf] at hi; cases hi; rfl
              | succ i => simp at hg ⊢; exact h2 i g hg inf' hi
          obtain ⟨places, p1, p2⟩ := hpl
          have hb : P.built t (parts.map fun (i, x) => (i, ρ x)).toList = some ⟨γs m l⟩ := by
            unfold Program.built
            rw [hit, hP]
            simp only [hzv, p1, hzc, hparts]
            refine fill_places (fun i p hp => ?_) _ _ _ f1
            obtain ⟨f, q1, inf, q2, rfl⟩ := map_placeOf ok i p hp
            have := p2 i f q1 inf q2
            simpa using this
          refine pu_val (s := Instr.build t (parts.map fun (i, x) => (i, ρ x))) (by simp only [execOp, ho]) ?_
          exact run_build w t _ _ hb

omit [Rho] in
theorem natOf_spec {v : AVal} {k : Nat → Option AVal} {r : AVal} (h : natOf v none k = some r) : ∃ kd n, v = .int kd (.ofNat n) ∧ k n = some r := by
  unfold natOf at h
  cases v <;> try (cases h; done)
  rename_i kd n
  cases n with
  | negSucc n => cases h
  | ofNat n => exact ⟨kd, n, rfl, h⟩
theorem fieldPlace_run {f : Field} {s : Nat} (ok : EnvOk P E) (h : E.size f.type = some (s + 1)) (b off : Nat) (w : World) : (fieldPlace ⟨b, off, none⟩ f).run P w = .ok ⟨b, off + f.offset, none⟩ w := by
  have hz := ok.run_size h w
  simp [fieldPlace, hz, add_at]
theorem fieldAddr_ok (ok : EnvOk P E) (t : TypeId) (x : Operand) (f : Nat) : OpOk P E (.fieldAddr t x f) (opK0 E (.fieldAddr t x f)) :=
  on1_ok (fun a => Instr.fieldAt t a f) (fun ρ o ho => by simp only [execOp, ho]) fun m D u v w hu hv => by
    unfold fieldAddrK at hv
    cases ht : E.und t with
    | none => rw [ht] at hv; cases hv
    | some d =>
      rw [ht] at hv
      have hr := ok.run_und ht w
      cases d <;> try (cases hv; done)
      rename_i fs
      simp only at hv
      cases hf : fs.toList[f]? with
      | none => rw [hf] at hv; cases hv
      | some fd =>
        rw [hf] at hv
        simp only at hv
        cases hs : E.size fd.type with
        | none => rw [hs] at hv; cases hv
        | some s =>
          rw [hs] at hv
          cases s with
          | zero => cases hv
          | succ s =>
            simp only at hv
            cases u <;> try (cases hv; done)
            rename_i n off
            simp only [forceN_spec, Option.some.injEq] at hv
            subst hv
            have hf' : fs[f]? = some fd := by rw [← Array.getElem?_toList]; exact hf
            exact ⟨by simp [Instr.fieldAt, hr, hf', γ, Instr.sureAddr, fieldPlace_run ok hs], hu⟩
theorem field_ok (ok : EnvOk P E) (t : TypeId) (x : Operand) (f : Nat) : OpOk P E (.field t x f) (opK0 E (.field t x f)) :=
  on1_ok (fun a => Instr.field t a f) (fun ρ o ho => by simp only [execOp, ho]) fun m D u v w hu hv => by
    unfold fieldK at hv
    cases ht : E.und t with
    | none => rw [ht] at hv; cases hv
    | some d =>
      rw [ht] at hv
      have hr := ok.run_und ht w
      cases d <;> try (cases hv; done)
      rename_i fs
      simp only at hv
      cases hf : fs.toList[f]? with
      | none => rw [hf] at hv; cases hv
      | some fd =>
        rw [hf] at hv
        simp only at hv
        cases u <;> try (cases hv; done)
        rename_i l
        have hf' : fs[f]? = some fd := by rw [← Array.getElem?_toList]; exact hf
        obtain ⟨p1, p2⟩ := part_spec (m := m) ok hv hu w
        exact ⟨by simp [Instr.field, hr, hf', γ, asAgg, p1], p2⟩
theorem indexAddr_ok (ok : EnvOk P E) (t : TypeId) (x y : Operand) : OpOk P E (.indexAddr t x y) (opK0 E (.indexAddr t x y)) :=
  on2_ok (fun a b => Instr.indexAt t a b) (fun ρ o ho => by simp only [execOp, ho]) fun m D a b v w ha hb hv => by
    unfold indexAddrK at hv
    cases ht : E.und t with
    | none => rw [ht] at hv; cases hv
    | some d =>
      rw [ht] at hv
      have hr := ok.run_und ht w
      cases d <;> try (cases hv; done)
      case slice e =>
        simp only at hv
        cases hs : E.size e with
        | none => rw [hs] at hv; cases hv
        | some sz =>
          rw [hs] at hv
          simp only at hv
          have hz := ok.run_size hs w
          replace hv := natOf_spec hv; obtain ⟨kd, i, rfl, hv⟩ := hv
          cases a <;> try (cases hv; done)
          rename_i n off len cap
          simp only at hv
          cases hlt : Nat.blt i len with
          | false => rw [hlt] at hv; cases hv
          | true =>
            rw [hlt] at hv
            simp only [cond_true, forceN_spec, Option.some.injEq] at hv
            subst hv
            have hi : i < len := blt_iff.1 hlt
            refine ⟨?_, ha⟩
            cases cap <;> simp [Instr.indexAt, asIntOf, hr, γ, hz, hi, add_at] <;> rfl
      case array len e =>
        simp only at hv
        cases hs : E.size e with
        | none => rw [hs] at hv; cases hv
        | some sz =>
          rw [hs] at hv
          simp only at hv
          have hz := ok.run_size hs w
          replace hv := natOf_spec hv; obtain ⟨kd, i, rfl, hv⟩ := hv
          cases a <;> try (cases hv; done)
          · rename_i n off
            simp only at hv
            cases hlt : Nat.blt i len with
            | false => rw [hlt] at hv; cases hv
            | true =>
              rw [hlt] at hv
              simp only [cond_true, forceN_spec, Option.some.injEq] at hv
              subst hv
              have hi : i < len := blt_iff.1 hlt
              refine ⟨?_, ha⟩
              simp [Instr.indexAt, asIntOf, hr, γ, hz, hi, add_at, Instr.sureAddr] <;> rfl
          · rename_i u
            split at hv <;> try (cases hv; done)
            · rename_i he; cases he
            · rename_i g off he
              cases he
              cases hlt : Nat.blt i len with
              | false => rw [hlt] at hv; cases hv
              | true =>
                rw [hlt] at hv
                simp only [cond_true, forceN_spec, Option.some.injEq] at hv
                subst hv
                have hi : i < len := blt_iff.1 hlt
                refine ⟨?_, by show Value.oneCell' _ = true; rfl⟩
                simp [Instr.indexAt, asIntOf, hr, γ, hz, hi, add_at, Instr.sureAddr] <;> rfl
theorem index_ok (ok : EnvOk P E) (t : TypeId) (x y : Operand) : OpOk P E (.index t x y) (opK0 E (.index t x y)) :=
  on2_ok (fun a b => Instr.index t a b) (fun ρ o ho => by simp only [execOp, ho]) fun m D a b v w ha hb hv => by
    unfold indexK at hv
    cases ht : E.und t with
    | none => rw [ht] at hv; cases hv
    | some d =>
      rw [ht] at hv
      have hr := ok.run_und ht w
      cases d <;> try (cases hv; done)
      case string =>
        simp only at hv
        replace hv := natOf_spec hv; obtain ⟨kd, i, rfl, hv⟩ := hv
        cases a <;> try (cases hv; done)
        rename_i l
        simp only [nthB_spec] at hv
        cases hl : l[i]? with
        | none => rw [hl] at hv; cases hv
        | some b =>
          rw [hl] at hv
          simp only [forceN_spec, Option.some.injEq] at hv
          subst hv
          refine ⟨?_, trivial⟩
          have hlt := (List.getElem?_eq_some_iff.1 hl).1
          have e : (⟨⟨l⟩⟩ : ByteArray)[i]? = some b := by
            have hsz : i < (⟨⟨l⟩⟩ : ByteArray).size := hlt
            rw [getElem?_pos (⟨⟨l⟩⟩ : ByteArray) i hsz]
            have := (List.getElem?_eq_some_iff.1 hl).2
            exact congrArg some this
          simp [Instr.index, asIntOf, hr, γ, e]
      case array len e =>
        simp only at hv
        cases hs : E.size e with
        | none => rw [hs] at hv; cases hv
        | some sz =>
          rw [hs] at hv
          simp only at hv
          have hz := ok.run_size hs w
          replace hv := natOf_spec hv; obtain ⟨kd, i, rfl, hv⟩ := hv
          cases a <;> try (cases hv; done)
          rename_i l
          simp only at hv
          cases hlt : Nat.blt i len with
          | false => rw [hlt] at hv; cases hv
          | true =>
            rw [hlt] at hv
            simp only [cond_true] at hv
            have hi : i < len := blt_iff.1 hlt
            obtain ⟨p1, p2⟩ := part_spec (m := m) ok hv ha w
            refine ⟨?_, p2⟩
            have p1' : (part e ⟨γs m l⟩ (i * sz)).run P w = .ok (γ m v) w := p1
            simp [Instr.index, asIntOf, hr, γ, hz, hi, p1']
theorem typeAssert_ok (ok : EnvOk P E) (x : Operand) (xt t : TypeId) (c : Bool) : OpOk P E (.typeAssert x xt t c) (opK0 E (.typeAssert x xt t c)) :=
  on1_ok (fun a => Instr.typeAssert a xt t c) (fun ρ o ho => by simp only [execOp, ho]) fun m D u v w hu hv => by
    unfold typeAssertK at hv
    cases ht : E.und t with
    | none => rw [ht] at hv; cases hv
    | some d =>
      rw [ht] at hv
      have hr := ok.run_und ht w
      have hgen : (match E.zero t with
        | some z => (⟨fun x => match x with
          | .iface u v => cond (Nat.beq u t) (some (cond c (.tup [v, .bool true]) v)) (cond c (some (.tup [z, .bool false])) none)
          | _ => none⟩ : OnA)
        | none => ⟨fun _ => none⟩).f u = some v ∧ (∀ ms, d ≠ .interface ms) := by
        cases d <;> first | (cases hv; done) | exact ⟨hv, fun ms e => by cases e⟩
      obtain ⟨hv, hd⟩ := hgen
      cases hz : E.zero t with
      | none => rw [hz] at hv; cases hv
      | some z =>
        rw [hz] at hv
        obtain ⟨it, zv, z1, z2, rfl⟩ := ok.zero hz
        have hzr := run_zero z1 z2 w
        simp only at hv
        obtain ⟨s, q, rfl⟩ : ∃ s q, u = .iface s q := by cases u <;> first | (cases hv; done) | exact ⟨_, _, rfl⟩
        simp only at hv
        cases hb : Nat.beq s t with
        | true =>
          rw [hb] at hv
          simp only [cond_true, Option.some.injEq] at hv
          subst hv
          have := beq_iff.1 hb; subst this
          cases c with
          | true => exact ⟨by cases d <;> first | exact absurd rfl (hd _) | simp [Instr.typeAssert, hr, γ, γs], ⟨hu, trivial, trivial⟩⟩
          | false => exact ⟨by cases d <;> first | exact absurd rfl (hd _) | simp [Instr.typeAssert, hr, γ], hu⟩
        | false =>
          rw [hb] at hv
          have hne : s ≠ t := fun e => by subst e; rw [Nat.beq_refl] at hb; cases hb
          cases c with
          | false => cases hv
          | true =>
            simp only [cond_true, cond_false, Option.some.injEq] at hv
            subst hv
            exact ⟨by cases d <;> first | exact absurd rfl (hd _) | simp [Instr.typeAssert, hr, γ, γs, hne, hzr, γ_ofValue], ⟨In_ofValue D zv, trivial, trivial⟩⟩
end
end Go.Ev

namespace Go.Ev
variable [Rho] {S : Nat → Prop}
section
variable {P : Program} {E : Env}

omit [Rho] in
theorem builtin_exec {ρ : Operand → Value} {o : Oper} {c : Call} {b : Builtin} (ho : o.op = .call c) (hc : c.callee = .builtin b) :
    execOp ρ o = builtin b c.argTypes o.type (c.args.map fun | .const _ => true | _ => false) (c.args.map ρ) := by
  simp only [execOp, ho, resolve, hc]; rfl
omit [Rho] in
theorem args_eq {ρ : Operand → Value} {c : Call} {l : List Operand} (h : c.args.toList = l) : c.args.map ρ = ⟨l.map ρ⟩ := by
  subst h; apply Array.ext'; simp
omit [Rho] in
theorem types_eq {c : Call} {l : List TypeId} (h : c.argTypes.toList = l) : c.argTypes = ⟨l⟩ := by subst h; rfl
/-- A builtin of one operand that does not look at memory. -/
theorem bi1_ok {c : Call} {b : Builtin} {f : AVal → Option AVal} {x : Operand} {t : TypeId} {ts : List TypeId} (hc : c.callee = .builtin b) (ha : c.args.toList = [x]) (ht : c.argTypes.toList = t :: ts)
    (s : Value → Sem Value) (hb : ∀ ty cs u, builtin b ⟨t :: ts⟩ ty cs #[u] = (do pure (.value (← s u))))
    (hf : ∀ (m : Mp) (D : Pos → Prop) u v w, In D u → f u = some v → (s (γ m u)).run P w = .ok (γ m v) w ∧ In D v) : OpOk P E (.call c) (on1 E f x) :=
  on1_ok s (fun ρ o ho => by rw [builtin_exec ho hc, args_eq ha, types_eq ht]; exact hb _ _ _) hf
theorem len_string_ok (ok : EnvOk P E) {c : Call} {x : Operand} {t : TypeId} {ts : List TypeId} (hc : c.callee = .builtin .len) (ha : c.args.toList = [x]) (ht : c.argTypes.toList = t :: ts) (hu : E.und t = some .string) :
    OpOk P E (.call c) (on1 E (fun v => match v with | .str s => forceN s.length fun k => some (.int .i64 (.ofNat k)) | _ => none) x) :=
  bi1_ok hc ha ht (fun u => Builtin.len_ ⟨t :: ts⟩ 0 #[u]) (fun _ _ _ => rfl) fun m D u v w hi hv => by
    cases u <;> try (cases hv; done)
    simp only [forceN_spec, Option.some.injEq] at hv
    subst hv
    exact ⟨by simp [Builtin.len_, ok.run_und hu, γ, goInt]; rfl, trivial⟩
theorem len_slice_ok (ok : EnvOk P E) {c : Call} {x : Operand} {t e : TypeId} {ts : List TypeId} (hc : c.callee = .builtin .len) (ha : c.args.toList = [x]) (ht : c.argTypes.toList = t :: ts) (hu : E.und t = some (.slice e)) :
    OpOk P E (.call c) (on1 E (fun v => match v with | .slcNil => some (.int .i64 (.ofNat 0)) | .slc _ _ n _ => some (.int .i64 (.ofNat n)) | _ => none) x) :=
  bi1_ok hc ha ht (fun u => Builtin.len_ ⟨t :: ts⟩ 0 #[u]) (fun _ _ _ => rfl) fun m D u v w hi hv => by
    cases u <;> try (cases hv; done)
    · rename_i n off l cp
      simp only [Option.some.injEq] at hv
      subst hv
      cases cp <;> exact ⟨by simp [Builtin.len_, ok.run_und hu, γ, goInt], trivial⟩
    · simp only [Option.some.injEq] at hv
      subst hv
      exact ⟨by simp [Builtin.len_, ok.run_und hu, γ, goInt], trivial⟩
theorem cap_slice_ok (ok : EnvOk P E) {c : Call} {x : Operand} {t e : TypeId} {ts : List TypeId} (hc : c.callee = .builtin .cap) (ha : c.args.toList = [x]) (ht : c.argTypes.toList = t :: ts) (hu : E.und t = some (.slice e)) :
    OpOk P E (.call c) (on1 E capA x) :=
  bi1_ok hc ha ht (fun u => Builtin.cap_ ⟨t :: ts⟩ 0 #[u]) (fun _ _ _ => rfl) fun m D u v w hi hv => by
    cases u <;> try (cases hv; done)
    · rename_i n off l cp
      cases cp <;> try (cases hv; done)
      simp only [capA, Option.some.injEq] at hv
      subst hv
      exact ⟨by simp [Builtin.cap_, ok.run_und hu, γ, goInt], trivial⟩
    · simp only [capA, Option.some.injEq] at hv
      subst hv
      exact ⟨by simp [Builtin.cap_, ok.run_und hu, γ, goInt], trivial⟩
theorem mnmx_spec {m : Mp} {D : Pos → Prop} (mx : Bool) : ∀ (l : List AVal) (x v : AVal) (w : World), In D x → mnmx mx l x = some v →
    ((γs m l).foldlM (if mx then Builtin.max2 else Builtin.min2) (γ m x)).run P w = .ok (γ m v) w ∧ In D v
  | [], x, v, w, hx, h => by cases h; exact ⟨rfl, hx⟩
  | y :: l, x, v, w, hx, h => by
    unfold mnmx at h
    cases x <;> try (cases h; done)
    cases y <;> try (cases h; done)
    rename_i k a j b
    simp only at h
    obtain ⟨h1, h2⟩ := mnmx_spec (m := m) (D := D) mx l (AVal.int k (cond mx (cond (ltA a b) b a) (cond (ltA b a) b a))) v w trivial h
    refine ⟨?_, h2⟩
    simp only [γs, List.foldlM_cons, γ, Sem.run_bind]
    cases mx
    · simp only [Bool.false_eq_true, if_false, Builtin.min2, Sem.run_pure, Result.andThen_ok]
      simp only [γ, ltA_spec, cond_false, Bool.false_eq_true, if_false] at h1
      by_cases e : b < a
      · simpa [e] using h1
      · simpa [e] using h1
    · simp only [if_true, Builtin.max2, Sem.run_pure, Result.andThen_ok]
      simp only [γ, ltA_spec, cond_true, if_true] at h1
      by_cases e : a < b
      · simpa [e] using h1
      · simpa [e] using h1
theorem max_ok {c : Call} {x : Operand} {l : List Operand} (hc : c.callee = .builtin .max) (ha : c.args.toList = x :: l) :
    OpOk P E (.call c) (.pu fun tm => mnmx true (srcsG (srcsK E l) tm) ((srcK E x).g tm)) := fun m D tm ρ v w o ho hs hv => by
  obtain ⟨h1, h2⟩ := src_ok (E := E) hs x
  obtain ⟨g1, g2⟩ := srcs_ok (E := E) hs l
  obtain ⟨k1, k2⟩ := mnmx_spec (P := P) (m := m) (D := D) true _ _ v w h2 hv
  refine ⟨?_, k2⟩
  rw [builtin_exec ho hc, args_eq ha]
  simp only [if_true] at k1
  simp only [builtin, Builtin.max_, List.map_cons, h1, g1, Sem.run_bind, k1, Result.andThen_ok, Sem.run_pure]
theorem min_ok {c : Call} {x : Operand} {l : List Operand} (hc : c.callee = .builtin .min) (ha : c.args.toList = x :: l) :
    OpOk P E (.call c) (.pu fun tm => mnmx false (srcsG (srcsK E l) tm) ((srcK E x).g tm)) := fun m D tm ρ v w o ho hs hv => by
  obtain ⟨h1, h2⟩ := src_ok (E := E) hs x
  obtain ⟨g1, g2⟩ := srcs_ok (E := E) hs l
  obtain ⟨k1, k2⟩ := mnmx_spec (P := P) (m := m) (D := D) false _ _ v w h2 hv
  refine ⟨?_, k2⟩
  rw [builtin_exec ho hc, args_eq ha]
  simp only [Bool.false_eq_true, if_false] at k1
  simp only [builtin, Builtin.min_, List.map_cons, h1, g1, Sem.run_bind, k1, Result.andThen_ok, Sem.run_pure]

/-! ### Reading operations -/
omit [Rho] in
theorem nthV_spec : ∀ (n : Nat) (l : List Value), nthV n l = l[n]?
  | 0, [] => rfl
  | 0, _ :: _ => rfl
  | n + 1, [] => rfl
  | n + 1, _ :: l => (nthV_spec n l).trans (by simp)
theorem load_ok (ok : EnvOk P E) (t : TypeId) (x : Operand) : OpOk P E (.load t x) (opK0 E (.load t x)) := fun S m h tm ρ v w o ho hr hs hv => by
  obtain ⟨h1, h2⟩ := src_ok (E := E) hs x
  change (loadK E t).f h ((srcK E x).g tm) = some v at hv
  have key : (Instr.loadAt t (ρ x)).run P w = .ok (γ m v) w ∧ In (dom h) v := by
    unfold loadK at hv
    cases ha : E.agg? t with
    | none => rw [ha] at hv; cases hv
    | some b =>
      rw [ha] at hv
      have hag := ok.run_agg ha w
      rw [h1]
      cases b with
      | true =>
        cases hz : E.size t with
        | none => rw [hz] at hv; cases hv
        | some k =>
          rw [hz] at hv
          simp only at hv
          have hzr := ok.run_size hz w
          obtain ⟨n, off, he⟩ : ∃ n off, (srcK E x).g tm = .ptr n off := by
            cases hu : (srcK E x).g tm <;> rw [hu] at hv <;> first | (cases hv; done) | exact ⟨_, _, rfl⟩
          rw [he] at hv ⊢
          simp only at hv
          cases hl : h.loadN n off k with
          | none => rw [hl] at hv; cases hv
          | some l =>
            rw [hl] at hv; cases hv
            exact ⟨by simp [Instr.loadAt, Instr.sureAddr, γ, loadVar, hag, hzr, hr.run_loadN hl], (hr.loadN hl).2.1⟩
      | false =>
        simp only at hv
        generalize (srcK E x).g tm = u at hv ⊢
        split at hv <;> try (cases hv; done)
        · obtain ⟨k1, k2⟩ := hr.load1 hv
          exact ⟨by simp [Instr.loadAt, Instr.sureAddr, γ, loadVar, hag, k1], k2⟩
        · rename_i g off
          cases hg : E.gl.g g with
          | none => rw [hg] at hv; cases hv
          | some l =>
            rw [hg] at hv
            simp only [nthV_spec] at hv
            cases hl : l[off]? with
            | none => rw [hl] at hv; cases hv
            | some u =>
              rw [hl] at hv
              cases hv
              obtain ⟨⟨rest, e, fz, b1⟩, _⟩ := hr.glob g l hg
              obtain ⟨hlt, rfl⟩ := List.getElem?_eq_some_iff.1 hl
              have k1 : w.cell? ⟨g, off, none⟩ = some l[off] := by
                simp only [World.cell?, b1]
                simp [List.getElem?_append, hlt]
              exact ⟨by simp [Instr.loadAt, Instr.sureAddr, γ, loadVar, hag, k1, γ_ofValue], In_ofValue _ _⟩
  exact ⟨pu_val (s := Instr.loadAt t (ρ x)) (by simp only [execOp, ho]) key.1, key.2⟩
theorem Rep.map_at {G : Tabs} {m : Mp} {h : Heap} {w : World} (r : Rep G S m h w) {n : Pos} {es : List MEnt} {cl : Nat} (ho : (h.at n).obj = .map es cl) :
    dom h n ∧ w.heap[m.b n]? = some (.map ⟨es.map (entG m)⟩ cl) ∧ ∀ e ∈ es, In (dom h) e.key ∧ In (dom h) e.val := by
  have hd : dom h n := by unfold dom; rw [ho]; simp
  obtain ⟨o, h1, h2⟩ := r.blk n (bk_of ho rfl)
  have hi := r.ins n
  rw [ho] at h2 hi
  exact ⟨hd, by rw [h1, show o = _ from h2], hi⟩
omit [Rho] in
theorem run_getObj_map {w : World} {r : Nat} {es : Array MapEntry} {cl : Nat} (h : w.heap[r]? = some (.map es cl)) : (getObj r).run P w = .ok (.map es cl) w := by
  simp [getObj, Sem.run, h]
end
end Go.Ev

namespace Go.Ev
variable [Rho] {S : Nat → Prop}
section
variable {P : Program} {E : Env}

/-! ### Keys -/
theorem plain_key1 (ok : EnvOk P E) {m : Mp} {t : TypeId} {a : AVal} (ha : plainAt E t a = true) (e : Bool) (d : Nat) (w : World) : (Instr.checkKey e (d + 1) t (γ m a)).run P w = .ok () w := by
  unfold plainAt at ha
  cases hu : E.und t with
  | none => rw [hu] at ha; cases ha
  | some ds =>
    rw [hu] at ha
    have hr := ok.run_und hu w
    cases ds <;> cases a <;> first | (cases ha; done) | (simp only [Instr.checkKey, Sem.run_bind, hr, Result.andThen_ok, γ]; rfl)
theorem keyOk_run (ok : EnvOk P E) {m : Mp} {t : TypeId} {k : AVal} {b : Bool} (h : (keyOkK E t).f k k = some b) (e : Bool) (w : World) : (Instr.checkKey e 10000 t (γ m k)).run P w = .ok () w := by
  unfold keyOkK at h
  cases hu : E.und t with
  | none => rw [hu] at h; cases h
  | some d =>
    rw [hu] at h
    have hr := ok.run_und hu w
    have pl : plainAt E t k = true → (Instr.checkKey e 10000 t (γ m k)).run P w = .ok () w := fun hp => plain_key1 ok hp e 9999 w
    cases d <;> try (cases h; done)
    · exact pl (by unfold plainAt; rw [hu]; cases k <;> first | (cases h; done) | rfl)
    · exact pl (by unfold plainAt; rw [hu]; cases k <;> first | (cases h; done) | rfl)
    · exact pl (by unfold plainAt; rw [hu]; cases k <;> first | (cases h; done) | rfl)
    · rename_i fs
      cases hg : E.gt t with
      | false => rw [hg] at h; cases h
      | true =>
        rw [hg] at h
        simp only [cond_true] at h
        cases k <;> try (cases h; done)
        rename_i l
        simp only at h
        cases hp : plainFields E 0 fs.toList l with
        | false => rw [hp] at h; cases h
        | true =>
          have gen : ∀ N, (Instr.checkKey e (N + 2) t (.agg ⟨γs m l⟩)).run P w = .ok () w := by
            intro N
            clear h pl
            unfold Instr.checkKey
            simp only [Sem.run_bind, hr, Result.andThen_ok]
            rw [← Array.forIn_toList]
            have hx : ∀ j, (⟨γs m l⟩ : Array Value)[0 + j]? = (l[j]?).map (γ m) := fun j => by simp [γs_map]
            generalize (⟨γs m l⟩ : Array Value) = xs at hx
            generalize fs.toList = fl at hp
            generalize (0 : Nat) = i at hp hx
            induction fl generalizing l i with
            | nil => simp
            | cons f fl ih =>
              cases l with
              | nil => simp [plainFields] at hp
              | cons a as =>
                obtain ⟨a1, a2, a3, a4⟩ := plainFields_cons hp
                have x0 := hx 0
                simp only [Nat.add_zero, List.getElem?_cons_zero, Option.map_some] at x0
                have pa := ok.run_part (plain_agg a1) (off := f.offset) (by rw [a2]; exact x0) w
                have ck := plain_key1 (m := m) ok a1 e N w
                simp only [List.forIn_cons, Sem.run_bind, ne_eq, a3, not_false_eq_true, if_true, pa, Result.andThen_ok, ck, Sem.run_pure]
                exact ih as (i + 1) a4 (fun j => by have := hx (j + 1); rw [show i + (j + 1) = i + 1 + j by omega] at this; simpa using this)
          exact gen 9998
/-- Two keys that 'sameK' compares. -/
theorem sameK_equal (ok : EnvOk P E) {m : Mp} {t : TypeId} {k q : AVal} {b r : Bool} (h : (keyOkK E t).f k k = some b) (hr : sameK k q = some r) (w : World) :
    (Op.equal t (γ m k) (γ m q)).run P w = .ok r w ∧ (match P.underlying t with | some d => Instr.sameNow d (γ m k) (γ m q) = some r ∨ (∃ fs, d = .struct fs ∧ Instr.sameNow d (γ m k) (γ m q) = none) | none => False) := by
  unfold keyOkK at h
  cases hu : E.und t with
  | none => rw [hu] at h; cases h
  | some d =>
    rw [hu] at h
    have hP := ok.und hu
    rw [hP]
    have pl : ∀ {a c : AVal}, plainAt E t a = true → sameKeyS a c = some r → (Op.equal t (γ m a) (γ m c)).run P w = .ok r w := fun ha hs => plain_eq1 (m := m) ok ha (plain_like ha hs) hs 9999 w
    cases d <;> try (cases h; done)
    · cases k <;> try (cases h; done)
      cases q <;> try (cases hr; done)
      rename_i a c
      have hs : sameKeyS (.bool a) (.bool c) = some r := hr
      refine ⟨pl (by unfold plainAt; rw [hu]) hs, .inl ?_⟩
      simp only [sameKeyS, sameKey, Option.some.injEq, boolEqb_spec] at hs
      subst hs; rfl
    · cases k <;> try (cases h; done)
      cases q <;> try (cases hr; done)
      rename_i k1 a k2 c
      have hs : sameKeyS (.int k1 a) (.int k2 c) = some r := hr
      refine ⟨pl (by unfold plainAt; rw [hu]) hs, .inl ?_⟩
      simp only [sameKeyS, sameKey] at hs
      cases hk : ikEqb k1 k2 with
      | false => rw [hk] at hs; cases hs
      | true =>
        rw [hk] at hs; cases hs
        have := (ikEqb_spec _ _).1 hk; subst this
        simp only [γ, Instr.sameNow, if_true, intEqb_spec, Option.some.injEq]
        by_cases e : a = c <;> simp [e]
    · cases k <;> try (cases h; done)
      cases q <;> try (cases hr; done)
      rename_i a c
      have hs : sameKeyS (.str a) (.str c) = some r := hr
      refine ⟨pl (by unfold plainAt; rw [hu]) hs, .inl ?_⟩
      simp only [sameKeyS, Option.some.injEq, bytesEqb_spec] at hs
      subst hs
      simp only [γ, Instr.sameNow, Option.some.injEq]
      rw [beq_toListBytes, toList_mk, toList_mk]
      by_cases e : a = c <;> simp [e]
    · rename_i fs
      cases hg : E.gt t with
      | false => rw [hg] at h; cases h
      | true =>
        rw [hg] at h
        simp only [cond_true] at h
        cases k <;> try (cases h; done)
        cases q <;> try (cases hr; done)
        rename_i a c
        simp only at h
        cases hp : plainFields E 0 fs.toList a with
        | false => rw [hp] at h; cases h
        | true =>
            have hf : P.fieldsOf t = fs := by unfold Program.fieldsOf; rw [hP]
            refine ⟨?_, .inr ⟨fs, rfl, rfl⟩⟩
            show (Op.equalIn 10000 t (.agg ⟨γs m a⟩) (.agg ⟨γs m c⟩)).run P w = .ok r w
            rw [run_equalIn_agg w 9999 t _ _ (by rw [hf]; exact hP) (ok.gt t hg).1, hf]
            exact plain_eqs (m := m) ok 9998 w fs.toList a c 0 r _ _ hp hr (fun i => by simp [γs_map]) (fun i => by simp [γs_map])
end
end Go.Ev

namespace Go.Ev
variable [Rho] {S : Nat → Prop}
section
variable {P : Program} {E : Env}

def found (m : Mp) : Option (Nat × AVal) → Option (Nat × Value)
  | some (i, v) => some (i, γ m v)
  | none => none
theorem find_now (ok : EnvOk P E) {m : Mp} {t : TypeId} {k : AVal} {b : Bool} (hk : (keyOkK E t).f k k = some b) {d : TypeDesc} (hd : P.underlying t = some d) (hns : ∀ fs, d ≠ .struct fs) :
    ∀ (es : List MEnt) (i : Nat) (r : Option (Nat × AVal)), findA k es i = some r → Instr.findNow d (γ m k) (es.map (entG m)) i = some (found m r)
  | [], i, r, h => by cases h; rfl
  | e :: es, i, r, h => by
    simp only [findA] at h
    cases hs : sameK k e.key with
    | none => rw [hs] at h; cases h
    | some q =>
      rw [hs] at h
      have hq := (sameK_equal (P := P) (m := m) ok hk hs (default : World)).2
      rw [hd] at hq
      rcases hq with hq | ⟨fs, h1, _⟩
      · cases q with
        | true => simp only [Option.some.injEq] at h; subst h; simp [Instr.findNow, entG, hq, found]
        | false =>
          have ih := find_now ok (m := m) hk hd hns es (i + 1) r h
          simp [Instr.findNow, entG, hq]; exact ih
      · exact absurd h1 (hns fs)
theorem find_ask (ok : EnvOk P E) {m : Mp} {t : TypeId} {k : AVal} {b : Bool} (hk : (keyOkK E t).f k k = some b) (w : World) :
    ∀ (es : List MEnt) (i : Nat) (r : Option (Nat × AVal)), findA k es i = some r → (Instr.findAsking t (γ m k) (es.map (entG m)) i).run P w = .ok (found m r) w
  | [], i, r, h => by cases h; rfl
  | e :: es, i, r, h => by
    simp only [findA] at h
    cases hs : sameK k e.key with
    | none => rw [hs] at h; cases h
    | some q =>
      rw [hs] at h
      have hq := (sameK_equal (P := P) (m := m) ok hk hs w).1
      cases q with
      | true => simp only [Option.some.injEq] at h; subst h; simp [Instr.findAsking, entG, hq, found]
      | false =>
        have ih := find_ask ok (m := m) hk w es (i + 1) r h
        simp [Instr.findAsking, entG, hq]; exact ih
theorem find_run (ok : EnvOk P E) {m : Mp} {t : TypeId} {k : AVal} {b : Bool} (hk : (keyOkK E t).f k k = some b) (w : World) {es : List MEnt} {r : Option (Nat × AVal)} (h : findA k es 0 = some r) :
    (Instr.findKey t (γ m k) (es.map (entG m))).run P w = .ok (found m r) w := by
  have hu : ∃ d, E.und t = some d := by
    unfold keyOkK at hk
    cases hu : E.und t with
    | none => rw [hu] at hk; cases hk
    | some d => exact ⟨d, rfl⟩
  obtain ⟨d, hu⟩ := hu
  have hP := ok.und hu
  have hr := ok.run_und hu w
  unfold Instr.findKey
  simp only [Sem.run_bind, hr, Result.andThen_ok]
  by_cases hst : ∃ fs, d = .struct fs
  · obtain ⟨fs, rfl⟩ := hst
    cases es with
    | nil => cases h; rfl
    | cons e es =>
      have hn : Instr.findNow (.struct fs) (γ m k) ((e :: es).map (entG m)) 0 = none := rfl
      rw [hn]
      exact find_ask ok hk w _ 0 r h
  · rw [find_now ok hk hP (fun fs e => hst ⟨fs, e⟩) es 0 r h]; rfl
omit [Rho] in
theorem findA_val {D : Pos → Prop} {k : AVal} : ∀ (es : List MEnt) (i : Nat) (j : Nat) (v : AVal), findA k es i = some (some (j, v)) → (∀ e ∈ es, In D e.key ∧ In D e.val) → In D v ∧ ∃ e, es[j - i]? = some e ∧ i ≤ j ∧ sameK k e.key = some true
  | [], i, j, v, h, _ => by cases h
  | e :: es, i, j, v, h, hi => by
    simp only [findA] at h
    cases hs : sameK k e.key with
    | none => rw [hs] at h; cases h
    | some q =>
      rw [hs] at h
      cases q with
      | true => simp only [Option.some.injEq, Prod.mk.injEq] at h; obtain ⟨rfl, rfl⟩ := h; exact ⟨(hi e (List.mem_cons_self ..)).2, e, by simp, Nat.le_refl _, hs⟩
      | false =>
        obtain ⟨h1, e', h2, h3, h4⟩ := findA_val es (i + 1) j v h (fun e he => hi e (List.mem_cons_of_mem _ he))
        refine ⟨h1, e', ?_, by omega, h4⟩
        rw [show j - i = (j - (i + 1)) + 1 by omega]; simpa using h2
omit [Rho] in
theorem keyOk_any {t : TypeId} {k : AVal} (h : (keyOkK E t).f k k ≠ none) : ∃ b, (keyOkK E t).f k k = some b := by
  cases hh : (keyOkK E t).f k k with
  | none => exact absurd hh h
  | some b => exact ⟨b, rfl⟩
theorem lookup_ok (ok : EnvOk P E) (t : TypeId) (x y : Operand) (c : Bool) : OpOk P E (.lookup t x y c) (opK0 E (.lookup t x y c)) := fun S m h tm ρ v w o ho hr hs hv => by
  obtain ⟨h1, h2⟩ := src_ok (E := E) hs x
  obtain ⟨g1, g2⟩ := src_ok (E := E) hs y
  change (lookupK E t c).f h ((srcK E x).g tm) ((srcK E y).g tm) = some v at hv
  generalize (srcK E x).g tm = a at h1 h2 hv
  generalize (srcK E y).g tm = k at g1 g2 hv
  have key : (Instr.lookup t (ρ x) (ρ y) c).run P w = .ok (γ m v) w ∧ In (dom h) v := by
    unfold lookupK at hv
    cases hu : E.und t with
    | none => rw [hu] at hv; cases hv
    | some d =>
      rw [hu] at hv
      have hru := ok.run_und hu w
      cases d <;> try (cases hv; done)
      rename_i kt et
      simp only at hv
      cases hz : E.zero et with
      | none => rw [hz] at hv; cases hv
      | some z =>
        rw [hz] at hv
        simp only at hv
        obtain ⟨it, zv, z1, z2, rfl⟩ := ok.zero hz
        have hzr := run_zero z1 z2 w
        cases hk : (keyOkK E kt).f k k with
        | none => rw [hk] at hv; cases hv
        | some b =>
          rw [hk] at hv
          simp only at hv
          cases he : entries h a with
          | none => rw [he] at hv; cases hv
          | some es =>
            rw [he] at hv
            simp only at hv
            cases hf : findA k es 0 with
            | none => rw [hf] at hv; cases hv
            | some r =>
              rw [hf] at hv
              simp only at hv
              have hfr := find_run (m := m) ok hk w hf
              have hck : ∀ e, (Instr.checkKey e 10000 kt (γ m k)).run P w = .ok () w := fun e => keyOk_run ok hk e w
              rw [h1, g1]
              have hin : (∀ e ∈ es, In (dom h) e.key ∧ In (dom h) e.val) ∧ ∀ (K : Array MapEntry → Sem Value), (K ⟨es.map (entG m)⟩).run P w = .ok (γ m v) w → (match γ m a with
                  | .map none => K #[]
                  | .map (some r) => do
                    let .map es _ ← getObj r | stuck "Lookup: map expected"
                    K es
                  | _ => stuck "Lookup: map expected" : Sem Value).run P w = .ok (γ m v) w := by
                unfold entries at he
                cases a <;> try (cases he; done)
                · cases he; exact ⟨fun e he => (nomatch he), fun K hK => hK⟩
                · rename_i n
                  simp only at he
                  cases hob : (h.at n).obj <;> rw [hob] at he <;> try (cases he; done)
                  cases he
                  obtain ⟨_, m1, m2⟩ := hr.map_at hob
                  exact ⟨m2, fun K hK => by simp only [γ, Sem.run_bind, run_getObj_map m1, Result.andThen_ok]; exact hK⟩
              obtain ⟨hin, hK⟩ := hin
              have hv2 : In (dom h) v ∧ (∀ q, (match found m r with | some (_, v) => (pure (v, true) : Sem (Value × Bool)) | none => do pure (← zeroValue et, false)).run P w = .ok q w → (if c then Value.tuple #[q.1, .bool q.2] else q.1) = γ m v) := by
                cases r with
                | none =>
                  simp only [Option.some.injEq] at hv
                  subst hv
                  refine ⟨by cases c <;> first | exact In_ofValue _ zv | exact ⟨In_ofValue _ zv, trivial, trivial⟩, fun u hu => ?_⟩
                  simp only [found, Sem.run_bind, hzr, Result.andThen_ok, Sem.run_pure, Result.ok.injEq, and_true] at hu
                  subst hu
                  cases c <;> simp [γ, γs, γ_ofValue]
                | some p =>
                  obtain ⟨j, u⟩ := p
                  simp only [Option.some.injEq] at hv
                  subst hv
                  have hu' := (findA_val (D := dom h) es 0 j u hf hin).1
                  refine ⟨by cases c <;> first | exact hu' | exact ⟨hu', trivial, trivial⟩, fun q hq => ?_⟩
                  simp only [found, Sem.run_pure, Result.ok.injEq, and_true] at hq
                  subst hq
                  cases c <;> simp [γ, γs]
              refine ⟨?_, hv2.1⟩
              unfold Instr.lookup
              simp only [Sem.run_bind, hru, Result.andThen_ok]
              refine hK (fun es => do
                Instr.checkKey es.isEmpty 10000 kt (γ m k)
                let (v, ok) ← match ← Instr.findKey kt (γ m k) es.toList with
                  | some (_, v) => pure (v, true)
                  | none => pure (← zeroValue et, false)
                pure (if c then .tuple #[v, .bool ok] else v)) ?_
              simp only [Sem.run_bind, hck, Result.andThen_ok, hfr]
              cases r with
              | none => have := hv2.2 (zv, false) (by simp [found, hzr]); simp [found, hzr]; simpa using this
              | some p => have := hv2.2 (γ m p.2, true) (by simp [found]); simp [found]; simpa using this
  exact ⟨pu_val (s := Instr.lookup t (ρ x) (ρ y) c) (by simp only [execOp, ho]) key.1, key.2⟩
theorem len_map_ok (ok : EnvOk P E) {c : Call} {x : Operand} {t kt et : TypeId} {ts : List TypeId} (hc : c.callee = .builtin .len) (ha : c.args.toList = [x]) (ht : c.argTypes.toList = t :: ts) (hu : E.und t = some (.map kt et)) :
    OpOk P E (.call c) (.rd fun tm h => Option.casesOn (entries h ((srcK E x).g tm)) none fun es => forceN es.length fun k => some (.int .i64 (.ofNat k))) := fun S m h tm ρ v w o ho hr hs hv => by
  obtain ⟨h1, h2⟩ := src_ok (E := E) hs x
  have hru := ok.run_und hu w
  simp only at hv
  generalize (srcK E x).g tm = a at h1 h2 hv
  cases he : entries h a with
  | none => rw [he] at hv; cases hv
  | some es =>
    rw [he] at hv
    simp only [forceN_spec, Option.some.injEq] at hv
    subst hv
    refine ⟨?_, trivial⟩
    rw [builtin_exec ho hc, args_eq ha, types_eq ht]
    unfold entries at he
    cases a <;> try (cases he; done)
    · cases he
      simp [builtin, Builtin.len_, hru, h1, γ, goInt]
    · rename_i n
      simp only at he
      cases hob : (h.at n).obj <;> rw [hob] at he <;> try (cases he; done)
      rename_i es' cl
      cases he
      obtain ⟨_, m1, _⟩ := hr.map_at hob
      simp [builtin, Builtin.len_, hru, h1, γ, goInt, run_getObj_map m1]
end
end Go.Ev

namespace Go.Ev
variable [Rho] {S : Nat → Prop}
section
variable {P : Program} {E : Env}

def BoundIs (d : Nat) (o : Option AVal) (n : Nat) : Prop := (o = none ∧ n = d) ∨ ∃ kd, o = some (.int kd (.ofNat n))
omit [Rho] in
theorem boundOr_spec {d : Nat} {o : Option AVal} {k : Nat → Option AVal} {r : AVal} (h : boundOr d o none k = some r) : ∃ n, BoundIs d o n ∧ k n = some r := by
  cases o with
  | none => exact ⟨d, .inl ⟨rfl, rfl⟩, h⟩
  | some v => obtain ⟨kd, n, rfl, h2⟩ := natOf_spec h; exact ⟨n, .inr ⟨kd, rfl⟩, h2⟩
omit [Rho] in
theorem sliceBound_run (kd : IntKind) {n y : Nat} (h : n ≤ y) (code : BoundsCode) (w : World) : (Instr.sliceBound (.int kd (Int.ofNat n)) y code).run P w = .ok n w := by
  have h1 : (0 : Int) ≤ (n : Int) ∧ (n : Int) ≤ (y : Int) := ⟨by omega, by omega⟩
  simp [Instr.sliceBound, asIntOf, h]
theorem bounds_none {m : Mp} {lo hi : Option AVal} {len cap l r : Nat} (b : Bool) (h1 : BoundIs 0 lo l) (h2 : BoundIs len hi r) (hlr : l ≤ r) (hr : r ≤ cap) (w : World) :
    (Instr.sliceBounds b len cap (lo.map (γ m)) (hi.map (γ m)) none).run P w = .ok (l, r, cap) w := by
  rcases h1 with ⟨rfl, rfl⟩ | ⟨k1, rfl⟩ <;> rcases h2 with ⟨rfl, rfl⟩ | ⟨k2, rfl⟩
  · simp [Instr.sliceBounds]
  · simp only [Instr.sliceBounds, Option.map_some, Option.map_none, γ, Sem.run_bind, Sem.run_pure, Result.andThen_ok, sliceBound_run k2 hr]
  · simp only [Instr.sliceBounds, Option.map_some, Option.map_none, γ, Sem.run_bind, Sem.run_pure, Result.andThen_ok, sliceBound_run k1 hlr]
  · simp only [Instr.sliceBounds, Option.map_some, γ, Sem.run_bind, Sem.run_pure, Result.andThen_ok, sliceBound_run k1 hlr, sliceBound_run k2 hr]
theorem bounds_some {m : Mp} {lo : Option AVal} {len cap l r mm : Nat} {k2 k3 : IntKind} (b : Bool) (h1 : BoundIs 0 lo l) (hlr : l ≤ r) (hr : r ≤ mm) (hm : mm ≤ cap) (w : World) :
    (Instr.sliceBounds b len cap (lo.map (γ m)) (some (.int k2 (.ofNat r))) (some (.int k3 (.ofNat mm)))).run P w = .ok (l, r, mm) w := by
  rcases h1 with ⟨rfl, rfl⟩ | ⟨k1, rfl⟩
  · simp only [Instr.sliceBounds, Option.map_none, Sem.run_bind, Sem.run_pure, Result.andThen_ok, sliceBound_run k2 hr, sliceBound_run k3 hm]
  · simp only [Instr.sliceBounds, Option.map_some, γ, Sem.run_bind, Sem.run_pure, Result.andThen_ok, sliceBound_run k1 hlr, sliceBound_run k2 hr, sliceBound_run k3 hm]
omit [Rho] in
theorem mxOr_spec {v : Option AVal} {k : Option AVal} {f : Nat → Option AVal} {r : AVal} (h : mxOr v none k f = some r) : (v = none ∧ k = some r) ∨ ∃ kd n, v = some (.int kd (.ofNat n)) ∧ f n = some r := by
  cases v with
  | none => exact .inl ⟨rfl, h⟩
  | some v => obtain ⟨kd, n, rfl, h2⟩ := natOf_spec h; exact .inr ⟨kd, n, rfl, h2⟩
omit [Rho] in
theorem nilMx_spec {v : Option AVal} {k : Option AVal} {r : AVal} (h : nilMx v none k = some r) : v = none ∧ k = some r := by
  cases v with
  | none => exact ⟨rfl, h⟩
  | some v => cases h
omit [Rho] in
theorem cond_some {b : Bool} {v r : AVal} (h : cond b (some v) none = some r) : b = true ∧ v = r := by
  cases b <;> simp at h; exact ⟨rfl, h⟩
omit [Rho] in
theorem cond_some' {α : Type} {b : Bool} {o : Option α} {r : α} (h : cond b o none = some r) : b = true ∧ o = some r := by
  cases b <;> simp at h; exact ⟨rfl, h⟩
theorem srcO_map {m : Mp} {D : Pos → Prop} {tm : Tm} {ρ : Operand → Value} (s : Src E.gl m D tm ρ) (o : Option Operand) : o.map ρ = (srcO E o tm).map (γ m) := by
  cases o with
  | none => rfl
  | some x => simp [srcO, (src_ok (E := E) s x).1]
omit [Rho] in
theorem extract_bytes (s : List UInt8) (l r : Nat) : (⟨⟨s⟩⟩ : ByteArray).extract l r = ⟨⟨(s.drop l).take (r - l)⟩⟩ := by
  apply ByteArray.ext
  simp [ByteArray.data_extract, List.extract_eq_take_drop]
theorem slice_ok (ok : EnvOk P E) (t : TypeId) (x : Operand) (lo hi mx : Option Operand) : OpOk P E (.slice t x lo hi mx) (opK0 E (.slice t x lo hi mx)) := by
  show OpOk P E _ (cond (mx.isNone || hi.isSome) (.rd fun tm h => (sliceK E t).f h ((srcK E x).g tm) (srcO E lo tm) (srcO E hi tm) (srcO E mx tm)) .bad)
  cases hm : (mx.isNone || hi.isSome) with
  | false => exact bad_ok _
  | true =>
  intro S m h tm ρ v w o ho hr hs hv
  obtain ⟨h1, h2⟩ := src_ok (E := E) hs x
  simp only at hv
  have e1 := srcO_map (E := E) hs lo
  have e2 := srcO_map (E := E) hs hi
  have e3 := srcO_map (E := E) hs mx
  have hmx : (srcO E mx tm) = none ∨ (srcO E hi tm) ≠ none := by cases mx <;> cases hi <;> simp [srcO] at hm ⊢
  generalize (srcK E x).g tm = a at h1 h2 hv
  generalize srcO E lo tm = lo' at e1 hv
  generalize srcO E hi tm = hi' at e2 hv hmx
  generalize srcO E mx tm = mx' at e3 hv hmx
  have key : (Instr.sliceAt t (ρ x) (lo.map ρ) (hi.map ρ) (mx.map ρ)).run P w = .ok (γ m v) w ∧ In (dom h) v := by
    rw [h1, e1, e2, e3]
    unfold sliceK at hv
    cases hu : E.und t with
    | none => rw [hu] at hv; cases hv
    | some d =>
      rw [hu] at hv
      have hru := ok.run_und hu w
      cases d <;> try (cases hv; done)
      case string =>
        simp only at hv
        cases a <;> try (cases hv; done)
        rename_i s
        simp only at hv
        replace hv := nilMx_spec hv; obtain ⟨rfl, hv⟩ := hv
        replace hv := boundOr_spec hv; obtain ⟨l, hl, hv⟩ := hv
        replace hv := boundOr_spec hv; obtain ⟨r, hr', hv⟩ := hv
        obtain ⟨hc, rfl⟩ := cond_some hv
        rw [Bool.and_eq_true] at hc
        have hlr := ble_iff.1 hc.1
        have hrs := ble_iff.1 hc.2
        refine ⟨?_, trivial⟩
        have sz : (⟨⟨s⟩⟩ : ByteArray).size = s.length := rfl
        have bn := bounds_none (P := P) (m := m) false hl hr' hlr hrs w
        simp only [Instr.sliceAt, Instr.slice, Sem.run_bind, hru, Result.andThen_ok, γ, sz, Option.map_none, Option.isSome_none, Bool.false_eq_true, if_false, bn, extract_bytes, Sem.run_pure]
        rfl
      case slice e =>
        simp only at hv
        cases hsz : E.size e with
        | none => rw [hsz] at hv; cases hv
        | some sz =>
          rw [hsz] at hv
          simp only at hv
          have hz := ok.run_size hsz w
          cases a <;> try (cases hv; done)
          case slcNil =>
            simp only at hv
            replace hv := nilMx_spec hv; obtain ⟨rfl, hv⟩ := hv
            replace hv := boundOr_spec hv; obtain ⟨l, hl, hv⟩ := hv
            replace hv := boundOr_spec hv; obtain ⟨r, hr', hv⟩ := hv
            obtain ⟨hc, rfl⟩ := cond_some hv
            rw [Bool.and_eq_true] at hc
            have hr0 := beq_iff.1 hc.1
            have hl0 := beq_iff.1 hc.2
            subst hr0; subst hl0
            have bn := bounds_none (P := P) (m := m) (len := 0) (cap := 0) true hl hr' (Nat.le_refl _) (Nat.le_refl _) w
            exact ⟨by simp only [Instr.sliceAt, Instr.slice, Sem.run_bind, hru, Result.andThen_ok, γ, Option.map_none, bn, hz, if_true, Sem.run_pure], trivial⟩
          case slc n off len cap =>
            simp only [reslice] at hv
            replace hv := boundOr_spec hv; obtain ⟨l, hl, hv⟩ := hv
            replace hv := boundOr_spec hv; obtain ⟨r, hr', hv⟩ := hv
            have goSlice : ∀ (capv : Nat) (b' : Option Value) (ll rr mm : Nat), (Instr.sliceBounds true len capv (lo'.map (γ m)) (hi'.map (γ m)) b').run P w = .ok (ll, rr, mm) w →
                (Instr.sliceAt t (.slice (some ⟨m.b n, off, none⟩) len capv) (lo'.map (γ m)) (hi'.map (γ m)) b').run P w = .ok (.slice (some (if mm = ll then ⟨m.b n, off, none⟩ else ⟨m.b n, off + ll * sz, none⟩)) (rr - ll) (mm - ll)) w := fun capv b' ll rr mm hb => by
              simp only [Instr.sliceAt, Instr.slice, Sem.run_bind, hru, Result.andThen_ok, hb, hz, Sem.run_pure, Option.map_some, add_at]
              by_cases e : mm = ll <;> simp [e]
            have hiS : ∀ kd nn, mx' = some (.int kd nn) → ∃ k2, hi'.map (γ m) = some (.int k2 (.ofNat r)) := fun kd nn e => by
              rcases hmx with h0 | h0
              · rw [h0] at e; cases e
              · rcases hr' with ⟨h5, _⟩ | ⟨k2, h5⟩
                · exact absurd h5 h0
                · exact ⟨k2, by rw [h5]; rfl⟩
            cases cap with
            | exact c =>
              simp only [capOr] at hv
              replace hv := mxOr_spec hv; rcases hv with ⟨rfl, hv⟩ | ⟨kd, mm, rfl, hv⟩
              · obtain ⟨hc, rfl⟩ := cond_some hv
                rw [Bool.and_eq_true] at hc
                have bn := bounds_none (P := P) (m := m) (len := len) (cap := c) true hl hr' (ble_iff.1 hc.1) (ble_iff.1 hc.2) w
                refine ⟨?_, h2⟩
                have := goSlice c none _ _ _ bn
                simp only [γ, Option.map_none]
                rw [this]
                by_cases e : c = l
                · subst e; simp
                · rw [beq_no e]; simp [e]
              · obtain ⟨hc, rfl⟩ := cond_some hv
                rw [Bool.and_eq_true, Bool.and_eq_true] at hc
                obtain ⟨k2, hk2⟩ := hiS _ _ rfl
                have bn := bounds_some (P := P) (m := m) (len := len) (cap := c) (k2 := k2) (k3 := kd) true hl (ble_iff.1 hc.1) (ble_iff.1 hc.2.1) (ble_iff.1 hc.2.2) w
                rw [← hk2] at bn
                refine ⟨?_, h2⟩
                have := goSlice c (some (.int kd (.ofNat mm))) _ _ _ bn
                simp only [γ, Option.map_some]
                rw [this]
                by_cases e : mm = l
                · subst e; simp
                · rw [beq_no e]; simp [e]
            | rest d =>
              simp only [capOr] at hv
              replace hv := cellsOf_some hv; obtain ⟨xs, xe, esz, hob, hv⟩ := hv
              replace hv := cond_some' hv; obtain ⟨hc, hv⟩ := hv
              rw [Bool.and_eq_true, Bool.and_eq_true] at hc
              have he := beq_iff.1 hc.1; subst he
              have hpos := blt_iff.1 hc.2.1
              have hlr := ble_iff.1 hc.2.2
              obtain ⟨_, _, rest, fz, _, hlen, _⟩ := hr.cells hob
              have hcap : ∀ k, Nat.mul (Nat.add k d) esz ≤ xs.length → k ≤ m.c n - d := fun k hk => by
                have h5 : (k + d) * esz ≤ m.c n * esz := by
                  have : (k + d) * esz ≤ xs.length := hk
                  rw [← hlen]; simp [γs_length]; omega
                have := Nat.le_of_mul_le_mul_right h5 hpos
                omega
              replace hv := mxOr_spec hv; rcases hv with ⟨rfl, hv⟩ | ⟨kd, mm, rfl, hv⟩
              · obtain ⟨hc2, rfl⟩ := cond_some hv
                rw [Bool.and_eq_true] at hc2
                have hr1 := hcap r (ble_iff.1 hc2.1)
                have bn := bounds_none (P := P) (m := m) (len := len) (cap := m.c n - d) true hl hr' hlr hr1 w
                refine ⟨?_, h2⟩
                have := goSlice (m.c n - d) none _ _ _ bn
                simp only [γ, Option.map_none]
                rw [this]
                have hadd : off + l * esz = Nat.add off (Nat.mul l esz) := rfl
                have hsub : m.c n - d - l = m.c n - Nat.add d l := by show _ = m.c n - (d + l); omega
                rw [hsub]
                by_cases e : m.c n - d = l
                · have hl0 : l = 0 := by
                    have hq := hc2.2
                    rw [Bool.or_eq_true] at hq
                    rcases hq with hq | hq
                    · exact beq_iff.1 hq
                    · exfalso
                      have hq2 : (l + d) * esz < xs.length := blt_iff.1 hq
                      have h6 : xs.length ≤ m.c n * esz := by rw [← hlen]; simp [γs_length]
                      have h7 : (l + d) * esz < m.c n * esz := by omega
                      have h8 := Nat.lt_of_mul_lt_mul_right h7
                      omega
                  subst hl0
                  rw [if_pos e]
                  simp
                · rw [if_neg e]
                  rfl
              · obtain ⟨hc2, rfl⟩ := cond_some hv
                rw [Bool.and_eq_true] at hc2
                have hm1 := hcap mm (ble_iff.1 hc2.2)
                obtain ⟨k2, hk2⟩ := hiS _ _ rfl
                have bn := bounds_some (P := P) (m := m) (len := len) (cap := m.c n - d) (k2 := k2) (k3 := kd) true hl hlr (ble_iff.1 hc2.1) hm1 w
                rw [← hk2] at bn
                refine ⟨?_, h2⟩
                have := goSlice (m.c n - d) (some (.int kd (.ofNat mm))) _ _ _ bn
                simp only [γ, Option.map_some]
                rw [this]
                by_cases e : mm = l
                · subst e; simp
                · rw [beq_no e]; simp [e]
      case array len e =>
        simp only at hv
        cases hsz : E.size e with
        | none => rw [hsz] at hv; cases hv
        | some sz =>
          rw [hsz] at hv
          simp only at hv
          have hz := ok.run_size hsz w
          cases a <;> try (cases hv; done)
          rename_i n off
          simp only at hv
          replace hv := nilMx_spec hv; obtain ⟨rfl, hv⟩ := hv
          replace hv := boundOr_spec hv; obtain ⟨l, hl, hv⟩ := hv
          replace hv := boundOr_spec hv; obtain ⟨r, hr', hv⟩ := hv
          obtain ⟨hc, rfl⟩ := cond_some hv
          rw [Bool.and_eq_true] at hc
          have bn := bounds_none (P := P) (m := m) (len := len) (cap := len) false hl hr' (ble_iff.1 hc.1) (ble_iff.1 hc.2) w
          refine ⟨?_, h2⟩
          simp only [Instr.sliceAt, Sem.run_bind, hru, Result.andThen_ok, γ, Instr.sureAddr, Option.map_none, bn, hz, Sem.run_pure, add_at]
          by_cases e : len = l
          · subst e; simp
          · rw [beq_no e]; simp [e]
  exact ⟨pu_val (s := Instr.sliceAt t (ρ x) (lo.map ρ) (hi.map ρ) (mx.map ρ)) (by simp only [execOp, ho]) key.1, key.2⟩
end
end Go.Ev
