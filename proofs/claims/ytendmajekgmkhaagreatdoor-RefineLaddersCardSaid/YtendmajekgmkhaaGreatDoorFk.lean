/- The evaluator of closed calls, part Fk: what the program computes on given inputs, read by the kernel; sound in every world (part Gh). -/
import Derived.Test.YtendmajekgmkhaaGreatDoorFj
set_option linter.unusedVariables false
set_option linter.unusedSimpArgs false
set_option linter.unnecessarySimpa false
namespace Go.Ev
section
variable {P : Program} {E : Env}

theorem builtin_exec {ρ : Operand → Value} {o : Oper} {c : Call} {b : Builtin} (ho : o.op = .call c) (hc : c.callee = .builtin b) :
    execOp ρ o = builtin b c.argTypes o.type (c.args.map fun | .const _ => true | _ => false) (c.args.map ρ) := by
  simp only [execOp, ho, resolve, hc]; rfl
theorem args_eq {ρ : Operand → Value} {c : Call} {l : List Operand} (h : c.args.toList = l) : c.args.map ρ = ⟨l.map ρ⟩ := by
  subst h; apply Array.ext'; simp
theorem types_eq {c : Call} {l : List TypeId} (h : c.argTypes.toList = l) : c.argTypes = ⟨l⟩ := by subst h; rfl
/-- A builtin of one operand that does not look at memory. -/
theorem bi1_ok {c : Call} {b : Builtin} {f : AVal → Option AVal} {x : Operand} {t : TypeId} {ts : List TypeId} (hc : c.callee = .builtin b) (ha : c.args.toList = [x]) (ht : c.argTypes.toList = t :: ts)
    (s : Value → Sem Value) (hb : ∀ ty cs u, builtin b ⟨t :: ts⟩ ty cs #[u] = (do pure (.value (← s u))))
    (hf : ∀ (m : Mp) (D : Pos → Prop) u v w, In D u → f u = some v → (s (γ m u)).run P w = .ok (γ m v) w ∧ In D v) : OpOk P E (.call c) (on1 E f x) :=
  on1_ok s (fun ρ o ho => by rw [builtin_exec ho hc, args_eq ha, types_eq ht]; exact hb _ _ _) hf
theorem len_string_ok (ok : EnvOk P E) {c : Call} {x : Operand} {t : TypeId} {ts : List TypeId} (hc : c.callee = .builtin .len) (ha : c.args.toList = [x]) (ht : c.argTypes.toList = t :: ts) (hu : E.und t = some .string) :
    OpOk P E (.call c) (on1 E (fun v => match v with | .str s => forceN s.length fun k => some (.int .i64 (.ofNat k)) | _ => none) x) :=
  bi1_ok hc ha ht (fun u => Builtin.len_ ⟨t :: ts⟩ 0 #[u]) (fun _ _ _ => rfl) fun m D u v w hi hv => by
    cases u <;> try (cases hv; done)
    simp only [forceN_spec, Option.some.injEq] at hv
    subst hv
    exact ⟨by simp [Builtin.len_, ok.run_und hu, γ, goInt]; rfl, trivial⟩
theorem len_slice_ok (ok : EnvOk P E) {c : Call} {x : Operand} {t e : TypeId} {ts : List TypeId} (hc : c.callee = .builtin .len) (ha : c.args.toList = [x]) (ht : c.argTypes.toList = t :: ts) (hu : E.und t = some (.slice e)) :
    OpOk P E (.call c) (on1 E (fun v => match v with | .slcNil => some (.int .i64 (.ofNat 0)) | .slc _ _ n _ => some (.int .i64 (.ofNat n)) | _ => none) x) :=
  bi1_ok hc ha ht (fun u => Builtin.len_ ⟨t :: ts⟩ 0 #[u]) (fun _ _ _ => rfl) fun m D u v w hi hv => by
    cases u <;> try (cases hv; done)
    · rename_i n off l cp
      simp only [Option.some.injEq] at hv
      subst hv
      cases cp <;> exact ⟨by simp [Builtin.len_, ok.run_und hu, γ, goInt], trivial⟩
    · simp only [Option.some.injEq] at hv
      subst hv
      exact ⟨by simp [Builtin.len_, ok.run_und hu, γ, goInt], trivial⟩
theorem cap_slice_ok (ok : EnvOk P E) {c : Call} {x : Operand} {t e : TypeId} {ts : List TypeId} (hc : c.callee = .builtin .cap) (ha : c.args.toList = [x]) (ht : c.argTypes.toList = t :: ts) (hu : E.und t = some (.slice e)) :
    OpOk P E (.call c) (on1 E capA x) :=
  bi1_ok hc ha ht (fun u => Builtin.cap_ ⟨t :: ts⟩ 0 #[u]) (fun _ _ _ => rfl) fun m D u v w hi hv => by
    cases u <;> try (cases hv; done)
    · rename_i n off l cp
      cases cp <;> try (cases hv; done)
      simp only [capA, Option.some.injEq] at hv
      subst hv
      exact ⟨by simp [Builtin.cap_, ok.run_und hu, γ, goInt], trivial⟩
    · simp only [capA, Option.some.injEq] at hv
      subst hv
      exact ⟨by simp [Builtin.cap_, ok.run_und hu, γ, goInt], trivial⟩
theorem mnmx_spec {m : Mp} {D : Pos → Prop} (mx : Bool) : ∀ (l : List AVal) (x v : AVal) (w : World), In D x → mnmx mx l x = some v →
    ((γs m l).foldlM (if mx then Builtin.max2 else Builtin.min2) (γ m x)).run P w = .ok (γ m v) w ∧ In D v
  | [], x, v, w, hx, h => by cases h; exact ⟨rfl, hx⟩
  | y :: l, x, v, w, hx, h => by
    unfold mnmx at h
    cases x <;> try (cases h; done)
    cases y <;> try (cases h; done)
    rename_i k a j b
    simp only at h
    obtain ⟨h1, h2⟩ := mnmx_spec (m := m) (D := D) mx l (AVal.int k (cond mx (cond (ltA a b) b a) (cond (ltA b a) b a))) v w trivial h
    refine ⟨?_, h2⟩
    simp only [γs, List.foldlM_cons, γ, Sem.run_bind]
    cases mx
    · simp only [Bool.false_eq_true, if_false, Builtin.min2, Sem.run_pure, Result.andThen_ok]
      simp only [γ, ltA_spec, cond_false, Bool.false_eq_true, if_false] at h1
      by_cases e : b < a
      · simpa [e] using h1
      · simpa [e] using h1
    · simp only [if_true, Builtin.max2, Sem.run_pure, Result.andThen_ok]
      simp only [γ, ltA_spec, cond_true, if_true] at h1
      by_cases e : a < b
      · simpa [e] using h1
      · simpa [e] using h1
theorem max_ok {c : Call} {x : Operand} {l : List Operand} (hc : c.callee = .builtin .max) (ha : c.args.toList = x :: l) :
    OpOk P E (.call c) (.pu fun tm => mnmx true (srcsG (srcsK E l) tm) ((srcK E x).g tm)) := fun m D tm ρ v w o ho hs hv => by
  obtain ⟨h1, h2⟩ := src_ok (E := E) hs x
  obtain ⟨g1, g2⟩ := srcs_ok (E := E) hs l
  obtain ⟨k1, k2⟩ := mnmx_spec (P := P) (m := m) (D := D) true _ _ v w h2 hv
  refine ⟨?_, k2⟩
  rw [builtin_exec ho hc, args_eq ha]
  simp only [if_true] at k1
  simp only [builtin, Builtin.max_, List.map_cons, h1, g1, Sem.run_bind, k1, Result.andThen_ok, Sem.run_pure]
theorem min_ok {c : Call} {x : Operand} {l : List Operand} (hc : c.callee = .builtin .min) (ha : c.args.toList = x :: l) :
    OpOk P E (.call c) (.pu fun tm => mnmx false (srcsG (srcsK E l) tm) ((srcK E x).g tm)) := fun m D tm ρ v w o ho hs hv => by
  obtain ⟨h1, h2⟩ := src_ok (E := E) hs x
  obtain ⟨g1, g2⟩ := srcs_ok (E := E) hs l
  obtain ⟨k1, k2⟩ := mnmx_spec (P := P) (m := m) (D := D) false _ _ v w h2 hv
  refine ⟨?_, k2⟩
  rw [builtin_exec ho hc, args_eq ha]
  simp only [Bool.false_eq_true, if_false] at k1
  simp only [builtin, Builtin.min_, List.map_cons, h1, g1, Sem.run_bind, k1, Result.andThen_ok, Sem.run_pure]

/-! ### Reading operations -/
theorem nthV_spec : ∀ (n : Nat) (l : List Value), nthV n l = l[n]?
  | 0, [] => rfl
  | 0, _ :: _ => rfl
  | n + 1, [] => rfl
  | n + 1, _ :: l => (nthV_spec n l).trans (by simp)
theorem load_ok (ok : EnvOk P E) (t : TypeId) (x : Operand) : OpOk P E (.load t x) (opK E (.load t x)) := fun m h tm ρ v w o ho hr hs hv => by
  obtain ⟨h1, h2⟩ := src_ok (E := E) hs x
  change (loadK E t).f h ((srcK E x).g tm) = some v at hv
  have key : (Instr.loadAt t (ρ x)).run P w = .ok (γ m v) w ∧ In (dom h) v := by
    unfold loadK at hv
    cases ha : E.agg? t with
    | none => rw [ha] at hv; cases hv
    | some b =>
      rw [ha] at hv
      have hag := ok.run_agg ha w
      rw [h1]
      cases b with
      | true =>
        cases hz : E.size t with
        | none => rw [hz] at hv; cases hv
        | some k =>
          rw [hz] at hv
          simp only at hv
          have hzr := ok.run_size hz w
          obtain ⟨n, off, he⟩ : ∃ n off, (srcK E x).g tm = .ptr n off := by
            cases hu : (srcK E x).g tm <;> rw [hu] at hv <;> first | (cases hv; done) | exact ⟨_, _, rfl⟩
          rw [he] at hv ⊢
          simp only at hv
          cases hl : h.loadN n off k with
          | none => rw [hl] at hv; cases hv
          | some l =>
            rw [hl] at hv; cases hv
            exact ⟨by simp [Instr.loadAt, Instr.sureAddr, γ, loadVar, hag, hzr, hr.run_loadN hl], (hr.loadN hl).2.1⟩
      | false =>
        simp only at hv
        generalize (srcK E x).g tm = u at hv ⊢
        split at hv <;> try (cases hv; done)
        · obtain ⟨k1, k2⟩ := hr.load1 hv
          exact ⟨by simp [Instr.loadAt, Instr.sureAddr, γ, loadVar, hag, k1], k2⟩
        · rename_i g off
          cases hg : E.gl g with
          | none => rw [hg] at hv; cases hv
          | some l =>
            rw [hg] at hv
            simp only [nthV_spec] at hv
            cases hl : l[off]? with
            | none => rw [hl] at hv; cases hv
            | some u =>
              rw [hl] at hv
              cases hv
              obtain ⟨⟨rest, e, fz, b1⟩, _⟩ := hr.glob g l hg
              obtain ⟨hlt, rfl⟩ := List.getElem?_eq_some_iff.1 hl
              have k1 : w.cell? ⟨g, off, none⟩ = some l[off] := by
                simp only [World.cell?, b1]
                simp [List.getElem?_append, hlt]
              exact ⟨by simp [Instr.loadAt, Instr.sureAddr, γ, loadVar, hag, k1, γ_ofValue], In_ofValue _ _⟩
  exact ⟨pu_val (s := Instr.loadAt t (ρ x)) (by simp only [execOp, ho]) key.1, key.2⟩
theorem Rep.map_at {G : Tabs} {m : Mp} {h : Heap} {w : World} (r : Rep G m h w) {n : Pos} {es : List MEnt} {cl : Nat} (ho : (h.at n).obj = .map es cl) :
    dom h n ∧ w.heap[m.b n]? = some (.map ⟨es.map (entG m)⟩ cl) ∧ ∀ e ∈ es, In (dom h) e.key ∧ In (dom h) e.val := by
  have hd : dom h n := by unfold dom; rw [ho]; simp
  obtain ⟨o, h1, h2⟩ := r.blk n hd
  have hi := r.ins n
  rw [ho] at h2 hi
  exact ⟨hd, by rw [h1, show o = _ from h2], hi⟩
theorem run_getObj_map {w : World} {r : Nat} {es : Array MapEntry} {cl : Nat} (h : w.heap[r]? = some (.map es cl)) : (getObj r).run P w = .ok (.map es cl) w := by
  simp [getObj, Sem.run, h]
end
end Go.Ev
