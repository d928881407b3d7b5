/- The evaluator of closed calls, part Fq: what the program computes on given inputs, read by the kernel; sound in every world (part Gh). -/
import Derived.Test.YtendmajekgmkhaaGreatDoorFp
import Derived.Laws.Append
set_option linter.unusedVariables false
set_option linter.unusedSimpArgs false
set_option linter.unnecessarySimpa false
namespace Go.Ev
section
variable {P : Program} {E : Env}

theorem okU_spec {o : Option Heap} {v : AVal} {h : Heap} (e : okU o = .ok v h) : o = some h ∧ v = undefA := by
  cases o with
  | none => cases e
  | some h' => cases e; exact ⟨rfl, rfl⟩
theorem store_ok (ok : EnvOk P E) (t : TypeId) (a x : Operand) : OpOk P E (.store t a x) (opK E (.store t a x)) := by
  show OpOk P E (.store t a x) (match E.size t with
    | some k => .wr fun tm h => match (srcK E a).g tm with
      | .ptr n off => cond (Nat.beq ((srcK E x).g tm).cells.length k) (okU (h.store n off ((srcK E x).g tm).cells)) .fail
      | _ => .fail
    | none => .bad)
  cases hz : E.size t with
  | none => exact bad_ok _
  | some k =>
    intro m h tm ρ w o ho hr hs
    obtain ⟨h1, h2⟩ := src_ok (E := E) hs a
    obtain ⟨g1, g2⟩ := src_ok (E := E) hs x
    simp only
    generalize (srcK E a).g tm = p at h1 h2
    generalize (srcK E x).g tm = v at g1 g2
    cases p <;> try (exact trivial)
    rename_i n off
    simp only
    cases hb : Nat.beq v.cells.length k with
    | false => exact trivial
    | true =>
      simp only [cond_true]
      cases hst : h.store n off v.cells with
      | none => exact trivial
      | some h' =>
        obtain ⟨w', r1, r2, r3, r4, r5⟩ := hr.store hst (InL_cells g2) P
        refine ⟨m, w', .skip, ?_, .inr ⟨rfl, rfl⟩, r2, r3, trivial, r4⟩
        have hsz := ok.run_size hz w
        have hcs : (γ m v).cells.size = k := by rw [γ_cells m g2]; simp [γs_length]; exact beq_iff.1 hb
        simp only [execOp, ho, Instr.storeAt, Sem.run_bind, h1, g1, γ, Instr.sureAddr, Sem.run_pure, Result.andThen_ok, storeVar, hsz]
        rw [if_neg (by rw [hcs]; simp), γ_cells m g2, r1]
        rfl
/-! ### Maps -/
theorem sameKeyS_eq {a b : AVal} (h : sameKeyS a b = some true) : a = b := by
  unfold sameKeyS at h
  cases a <;> cases b <;> try (cases h; done)
  · rename_i k1 x k2 y
    simp only [sameKey] at h
    cases hk : ikEqb k1 k2 with
    | false => rw [hk] at h; cases h
    | true => rw [hk, intEqb_spec] at h; simp at h; rw [(ikEqb_spec _ _).1 hk, h]
  · simp [sameKey, boolEqb_spec] at h; rw [h]
  · simp [bytesEqb_spec] at h; rw [h]
theorem sameKeys_eq : ∀ {a b : List AVal}, sameKeys a b = some true → a = b
  | [], [], _ => rfl
  | [], b :: bs, h => by simp [sameKeys] at h
  | a :: as, [], h => by simp [sameKeys] at h
  | a :: as, b :: bs, h => by
    simp only [sameKeys] at h
    cases hs : sameKeyS a b with
    | none => rw [hs] at h; cases h
    | some q =>
      rw [hs] at h
      cases q with
      | false => cases h
      | true => rw [sameKeyS_eq hs, sameKeys_eq h]
theorem sameK_eq {a b : AVal} (h : sameK a b = some true) : a = b := by
  unfold sameK at h
  cases a <;> cases b <;> first | exact sameKeyS_eq h | (rw [sameKeys_eq h])
theorem plain_bits {m : Mp} {t : TypeId} {a : AVal} (h : plainAt E t a = true) (n : Nat) : Instr.sameBits n (γ m a) (γ m a) = true := by
  unfold plainAt at h
  cases hu : E.und t with
  | none => rw [hu] at h; cases h
  | some d =>
    rw [hu] at h
    cases d <;> cases a <;> first | (cases h; done) | (cases n <;> simp [γ, Instr.sameBits, beq_toListBytes])
theorem fields_bits {m : Mp} (n : Nat) : ∀ (fs : List Field) (l : List AVal) (k : Nat), plainFields E k fs l = true → ∀ v ∈ l, Instr.sameBits n (γ m v) (γ m v) = true
  | [], [], _, _, v, hv => by cases hv
  | [], a :: l, _, h, _, _ => by simp [plainFields] at h
  | f :: fs, [], _, h, _, _ => by simp [plainFields] at h
  | f :: fs, a :: l, k, h, v, hv => by
    obtain ⟨a1, _, _, a4⟩ := plainFields_cons h
    rcases List.mem_cons.1 hv with rfl | hv
    · exact plain_bits a1 n
    · exact fields_bits n fs l (k + 1) a4 v hv
theorem key_bits {m : Mp} {t : TypeId} {k : AVal} {b : Bool} (h : (keyOkK E t).f k k = some b) : Instr.sameBits 10000 (γ m k) (γ m k) = true := by
  unfold keyOkK at h
  cases hu : E.und t with
  | none => rw [hu] at h; cases h
  | some d =>
    rw [hu] at h
    cases d <;> try (cases h; done)
    · exact plain_bits (t := t) (by unfold plainAt; rw [hu]; cases k <;> first | (cases h; done) | rfl) _
    · exact plain_bits (t := t) (by unfold plainAt; rw [hu]; cases k <;> first | (cases h; done) | rfl) _
    · exact plain_bits (t := t) (by unfold plainAt; rw [hu]; cases k <;> first | (cases h; done) | rfl) _
    · rename_i fs
      cases hg : E.gt t with
      | false => rw [hg] at h; cases h
      | true =>
        rw [hg] at h
        simp only [cond_true] at h
        cases k <;> try (cases h; done)
        rename_i l
        simp only at h
        cases hp : plainFields E 0 fs.toList l with
        | false => rw [hp] at h; cases h
        | true =>
          have fb := fields_bits (m := m) 9999 fs.toList l 0 hp
          have gen : ∀ n, (∀ v ∈ l, Instr.sameBits n (γ m v) (γ m v) = true) → Instr.sameBits (n + 1) (.agg ⟨γs m l⟩) (.agg ⟨γs m l⟩) = true := fun n hn => by
            simp only [Instr.sameBits, beq_self_eq_true, Bool.true_and, List.all_eq_true]
            rintro ⟨x, y⟩ hxy
            rw [γs_map] at hxy
            have : ∀ (q : List AVal), (x, y) ∈ (q.map (γ m)).zip (q.map (γ m)) → ∃ v ∈ q, x = γ m v ∧ y = γ m v := by
              intro q
              induction q with
              | nil => intro h; cases h
              | cons a q ih =>
                intro h
                simp only [List.map_cons, List.zip_cons_cons, List.mem_cons, Prod.mk.injEq] at h
                rcases h with ⟨rfl, rfl⟩ | h
                · exact ⟨a, List.mem_cons_self .., rfl, rfl⟩
                · obtain ⟨v, h1, h2⟩ := ih h; exact ⟨v, List.mem_cons_of_mem _ h1, h2⟩
            obtain ⟨v, h1, rfl, rfl⟩ := this l hxy
            exact hn v h1
          exact gen 9999 fb
theorem setEnt_map (m : Mp) (v k : AVal) : ∀ (i : Nat) (es : List MEnt), (setEnt v k i es).map (entG m) = (es.map (entG m)).modify i fun e => { e with key := γ m k, val := γ m v }
  | _, [] => by simp [setEnt]
  | 0, e :: es => by simp [setEnt, entG]
  | i + 1, e :: es => by simp [setEnt, setEnt_map m v k i es]
theorem eraseEnt_map (m : Mp) : ∀ (i : Nat) (es : List MEnt), (eraseEnt i es).map (entG m) = (es.map (entG m)).eraseIdx i
  | _, [] => by simp [eraseEnt]
  | 0, e :: es => by simp [eraseEnt]
  | i + 1, e :: es => by simp [eraseEnt, eraseEnt_map m i es]
theorem setEnt_mem {v k : AVal} : ∀ (i : Nat) (es : List MEnt) (e : MEnt), e ∈ setEnt v k i es → e ∈ es ∨ (e.key = k ∧ e.val = v)
  | _, [], e, h => by simp [setEnt] at h
  | 0, q :: es, e, h => by
    simp only [setEnt, List.mem_cons] at h
    rcases h with rfl | h
    · exact .inr ⟨rfl, rfl⟩
    · exact .inl (List.mem_cons_of_mem _ h)
  | i + 1, q :: es, e, h => by
    simp only [setEnt, List.mem_cons] at h
    rcases h with rfl | h
    · exact .inl (List.mem_cons_self ..)
    · rcases setEnt_mem i es e h with h | h
      · exact .inl (List.mem_cons_of_mem _ h)
      · exact .inr h
theorem eraseEnt_mem : ∀ (i : Nat) (es : List MEnt) (e : MEnt), e ∈ eraseEnt i es → e ∈ es
  | _, [], e, h => by simp [eraseEnt] at h
  | 0, q :: es, e, h => List.mem_cons_of_mem _ h
  | i + 1, q :: es, e, h => by
    simp only [eraseEnt, List.mem_cons] at h
    rcases h with rfl | h
    · exact List.mem_cons_self ..
    · exact List.mem_cons_of_mem _ (eraseEnt_mem i es e h)
theorem run_setObj_map {w : World} {r : Nat} {es : Array MapEntry} {cl : Nat} (h : w.heap[r]? = some (.map es cl)) (o : Obj) : (setObj r o).run P w = .ok () { w with heap := w.heap.setIfInBounds r o } := by
  simp [setObj, Sem.run, h]
theorem findA_at {k : AVal} : ∀ (es : List MEnt) (i : Nat) (j : Nat) (v : AVal), findA k es i = some (some (j, v)) → ∃ e, es[j - i]? = some e ∧ i ≤ j ∧ e.key = k
  | [], i, j, v, h => by cases h
  | e :: es, i, j, v, h => by
    simp only [findA] at h
    cases hs : sameK k e.key with
    | none => rw [hs] at h; cases h
    | some q =>
      rw [hs] at h
      cases q with
      | true => simp only [Option.some.injEq, Prod.mk.injEq] at h; obtain ⟨rfl, rfl⟩ := h; exact ⟨e, by simp, Nat.le_refl _, (sameK_eq hs).symm⟩
      | false =>
        obtain ⟨e', h2, h3, h4⟩ := findA_at es (i + 1) j v h
        refine ⟨e', ?_, by omega, h4⟩
        rw [show j - i = (j - (i + 1)) + 1 by omega]; simpa using h2
/-- 'm[k] = v' at a map that is there. -/
theorem update_run (ok : EnvOk P E) {m : Mp} {h : Heap} {w : World} (hr : Rep E.gl m h w) {t : TypeId} {a k v : AVal} (hk : In (dom h) k) (hv : In (dom h) v) :
    WrGood P E m h w (do Instr.mapUpdate t (γ m a) (γ m k) (γ m v); pure .skip) ((updateK E t).f h a k v) := by
  unfold updateK
  cases hu : E.und t with
  | none => exact trivial
  | some d =>
    cases d <;> try (exact trivial)
    rename_i kt et
    simp only
    cases a <;> try (exact trivial)
    rename_i n
    simp only
    cases hq : (keyOkK E kt).f k k with
    | none => exact trivial
    | some b =>
      simp only
      cases hob : (h.at n).obj <;> try (exact trivial)
      rename_i es cl
      simp only
      cases hf : findA k es 0 with
      | none => exact trivial
      | some r =>
        obtain ⟨hd, m1, m2⟩ := hr.map_at hob
        have hnc : (h.at n).obj.noCells = true := by rw [hob]; rfl
        have hru := ok.run_und hu w
        have hck := keyOk_run (P := P) (m := m) ok hq false w
        have hfr := find_run (m := m) ok hq w hf
        cases r with
        | none =>
          simp only
          obtain ⟨q1, q2, q3⟩ := hr.noCells_alone (n := n) hnc (.map (es ++ [(⟨k, v, cl⟩ : MEnt)]) (cl + 1)) (.map ⟨(es ++ [(⟨k, v, cl⟩ : MEnt)]).map (entG m)⟩ (cl + 1)) (w' := { w with heap := w.heap.setIfInBounds (m.b n) (.map ⟨(es ++ [(⟨k, v, cl⟩ : MEnt)]).map (entG m)⟩ (cl + 1)) })
            (by simp) rfl (fun e he => by
              rcases List.mem_append.1 he with he | he
              · exact m2 e he
              · rw [List.mem_singleton] at he; subst he; exact ⟨hk, hv⟩) rfl rfl rfl rfl
          refine ⟨m, _, .skip, ?_, .inr ⟨rfl, rfl⟩, q1, q2, trivial, rfl⟩
          simp only [Instr.mapUpdate, Sem.run_bind, hru, Result.andThen_ok, γ, run_getObj_map m1, hck, hfr, found]
          rw [run_setObj_map m1]
          have e9 : (⟨es.map (entG m)⟩ : Array MapEntry).push { key := γ m k, val := γ m v, born := cl } = ⟨(es ++ [(⟨k, v, cl⟩ : MEnt)]).map (entG m)⟩ := by apply Array.ext'; simp [entG]
          rw [e9]; rfl
        | some p =>
          obtain ⟨i, u⟩ := p
          simp only
          obtain ⟨q1, q2, q3⟩ := hr.noCells_alone (n := n) hnc (.map (setEnt v k i es) cl) (.map ⟨(setEnt v k i es).map (entG m)⟩ cl) (w' := { w with heap := w.heap.setIfInBounds (m.b n) (.map ⟨(setEnt v k i es).map (entG m)⟩ cl) })
            (by simp) rfl (fun e he => by
              rcases setEnt_mem i es e he with he | ⟨h1, h2⟩
              · exact m2 e he
              · rw [h1, h2]; exact ⟨hk, hv⟩) rfl rfl rfl rfl
          refine ⟨m, _, .skip, ?_, .inr ⟨rfl, rfl⟩, q1, q2, trivial, rfl⟩
          obtain ⟨e, e1, _, e2⟩ := findA_at es 0 i u hf
          have hold : ((((⟨es.map (entG m)⟩ : Array MapEntry)[i]?).map (·.key)).getD (γ m k)) = γ m k := by
            have e1' : es[i]? = some e := by simpa using e1
            simp [e1', entG, e2]
          have hks : (Instr.keyThatStays (γ m k) (γ m k)).run P w = .ok (γ m k) w := by simp [Instr.keyThatStays, key_bits (m := m) hq]
          simp only [Instr.mapUpdate, Sem.run_bind, hru, Result.andThen_ok, γ, run_getObj_map m1, hck, hfr, found, hold, hks]
          rw [run_setObj_map m1]
          have e9 : (⟨es.map (entG m)⟩ : Array MapEntry).modify i (fun e => { key := γ m k, val := γ m v, born := e.born }) = ⟨(setEnt v k i es).map (entG m)⟩ := by apply Array.ext'; rw [setEnt_map]; simp
          rw [e9]; rfl
theorem mapUpdate_ok (ok : EnvOk P E) (t : TypeId) (a k v : Operand) : OpOk P E (.mapUpdate t a k v) (opK E (.mapUpdate t a k v)) := fun m h tm ρ w o ho hr hs => by
  obtain ⟨h1, _⟩ := src_ok (E := E) hs a
  obtain ⟨g1, g2⟩ := src_ok (E := E) hs k
  obtain ⟨k1, k2⟩ := src_ok (E := E) hs v
  have := update_run (P := P) ok hr (t := t) (a := (srcK E a).g tm) g2 k2
  rw [← h1, ← g1, ← k1] at this
  have e : execOp ρ o = (do Instr.mapUpdate t (ρ a) (ρ k) (ρ v); pure .skip) := by simp only [execOp, ho]
  rw [e]; exact this
theorem insert_ok (ok : EnvOk P E) (t : TypeId) (a k v : Operand) : OpOk P E (.insert t a k v) (opK E (.insert t a k v)) := fun m h tm ρ w o ho hr hs => by
  obtain ⟨h1, _⟩ := src_ok (E := E) hs a
  obtain ⟨g1, g2⟩ := src_ok (E := E) hs k
  obtain ⟨k1, k2⟩ := src_ok (E := E) hs v
  have := update_run (P := P) ok hr (t := t) (a := (srcK E a).g tm) g2 k2
  rw [← h1, ← g1, ← k1] at this
  have e : execOp ρ o = (do Instr.mapUpdate t (ρ a) (ρ k) (ρ v); pure .skip) := by simp only [execOp, ho]
  rw [e]; exact this
theorem delete_ok (ok : EnvOk P E) {c : Call} {x y : Operand} (hc : c.callee = .builtin .delete) (ha : c.args.toList = [x, y]) :
    OpOk P E (.call c) (.wr fun tm h => (deleteK E c.argTypes.toList).f h ((srcK E x).g tm) ((srcK E y).g tm)) := fun m h tm ρ w o ho hr hs => by
  obtain ⟨h1, _⟩ := src_ok (E := E) hs x
  obtain ⟨g1, g2⟩ := src_ok (E := E) hs y
  simp only
  generalize (srcK E x).g tm = a at h1
  generalize (srcK E y).g tm = k at g1 g2
  rw [builtin_exec ho hc, args_eq ha]
  unfold deleteK
  cases hts : c.argTypes.toList with
  | nil => exact trivial
  | cons t ts =>
    simp only
    cases hu : E.und t with
    | none => exact trivial
    | some d =>
      cases d <;> try (exact trivial)
      rename_i kt et
      simp only
      cases a <;> try (exact trivial)
      rename_i n
      simp only
      cases hq : (keyOkK E kt).f k k with
      | none => exact trivial
      | some b =>
        simp only
        cases hob : (h.at n).obj <;> try (exact trivial)
        rename_i es cl
        simp only
        cases hf : findA k es 0 with
        | none => exact trivial
        | some r =>
          obtain ⟨hd, m1, m2⟩ := hr.map_at hob
          have hnc : (h.at n).obj.noCells = true := by rw [hob]; rfl
          have hru := ok.run_und hu w
          have hck := fun e => keyOk_run (P := P) (m := m) ok hq e w
          have hfr := find_run (m := m) ok hq w hf
          rw [types_eq hts]
          cases r with
          | none =>
            simp only
            obtain ⟨q1, q2, q3⟩ := hr.noCells_alone (n := n) hnc (.map es cl) (.map ⟨es.map (entG m)⟩ cl) (w' := { w with heap := w.heap.setIfInBounds (m.b n) (.map ⟨es.map (entG m)⟩ cl) }) (by simp) rfl m2 rfl rfl rfl rfl
            refine ⟨m, _, .value (.tuple #[]), ?_, .inl rfl, q1, q2, trivial, rfl⟩
            simp only [List.map_cons, List.map_nil, h1, g1, γ]
            simp [builtin, Builtin.delete_, hru, run_getObj_map m1, hck, hfr, found, run_setObj_map m1]
          | some p =>
            obtain ⟨i, u⟩ := p
            simp only
            obtain ⟨q1, q2, q3⟩ := hr.noCells_alone (n := n) hnc (.map (eraseEnt i es) cl) (.map ⟨(eraseEnt i es).map (entG m)⟩ cl) (w' := { w with heap := w.heap.setIfInBounds (m.b n) (.map ⟨(eraseEnt i es).map (entG m)⟩ cl) })
              (by simp) rfl (fun e he => m2 e (eraseEnt_mem i es e he)) rfl rfl rfl rfl
            refine ⟨m, _, .value (.tuple #[]), ?_, .inl rfl, q1, q2, trivial, rfl⟩
            simp only [List.map_cons, List.map_nil, h1, g1, γ]
            simp [builtin, Builtin.delete_, hru, run_getObj_map m1, hck, hfr, found, run_setObj_map m1, eraseEnt_map]
end
end Go.Ev
