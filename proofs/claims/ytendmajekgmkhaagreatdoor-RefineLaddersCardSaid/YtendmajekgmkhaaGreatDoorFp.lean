/- The evaluator of closed calls, part Fp: what the program computes on given inputs, read by the kernel; sound in every world (part Gh). -/
import Derived.Test.YtendmajekgmkhaaGreatDoorFo
import Derived.Laws.MakeOwn
set_option linter.unusedVariables false
set_option linter.unusedSimpArgs false
set_option linter.unnecessarySimpa false
namespace Go.Ev
section
variable {P : Program} {E : Env}

theorem pu_new {ρ : Operand → Value} {o : Oper} {s : Sem Value} {w w' : World} {r : Value} (he : execOp ρ o = (do pure (.value (← s)))) (h : s.run P w = .ok r w') : (execOp ρ o).run P w = .ok (.value r) w' := by
  rw [he]; simp [h]
theorem made_flatten (z : List Value) : ∀ n, ((List.range (n * z.length)).map fun i => z[i % z.length]!) = (List.replicate n z).flatten
  | 0 => by simp
  | n + 1 => by
    have ih := made_flatten z n
    rw [Nat.succ_mul, Nat.add_comm, List.range_add, List.map_append, List.replicate_succ, List.flatten_cons, ← ih]
    congr 1
    · apply List.ext_getElem?
      intro i
      by_cases h : i < z.length
      · simp [h, Nat.mod_eq_of_lt h]
      · simp [h]
    · rw [List.map_map]
      apply List.map_congr_left
      intro i _
      simp [Nat.add_mod_left]
theorem γs_repA (m : Mp) (z : List AVal) (n : Nat) : γs m (repA z n) = (List.replicate n (γs m z)).flatten := by
  rw [repA_spec, γs_map, γs_map]
  induction n with
  | zero => simp
  | succ n ih => simp [List.replicate_succ, ih]
theorem madeCells_repA (m : Mp) (v : Value) (k n : Nat) (hk : (AVal.ofValue v).cells.length = k) : madeCells v.cells (n * k) = ⟨γs m (repA (AVal.ofValue v).cells n)⟩ := by
  have hzc : v.cells = ⟨γs m (AVal.ofValue v).cells⟩ := by rw [← γ_cells (D := fun _ => False) m (In_ofValue _ v), γ_ofValue]
  subst hk
  rw [hzc, γs_repA]
  apply Array.ext'
  simp only [madeCells, Array.toList_map, Array.toList_range]
  rw [← γs_length m (AVal.ofValue v).cells]
  rw [← made_flatten (γs m (AVal.ofValue v).cells) n]
  apply List.map_congr_left
  intro i _
  simp
theorem repA_length (z : List AVal) (n : Nat) : (repA z n).length = n * z.length := by rw [repA_spec]; simp
theorem InL_repA {D : Pos → Prop} {z : List AVal} (h : InL D z) (n : Nat) : InL D (repA z n) := by
  rw [repA_spec, InL_iff]
  intro v hv
  obtain ⟨l, h1, h2⟩ := List.mem_flatten.1 hv
  rw [List.mem_replicate] at h1
  rw [h1.2] at h2
  exact (InL_iff _).1 h v h2
theorem zerosOf_spec (ok : EnvOk P E) {e : TypeId} {n : Nat} {z : List AVal} (h : zerosOf E e n = some z) : ∃ i v, P.info? e = some i ∧ E.ty e = some i ∧ i.zero = some v ∧ (AVal.ofValue v).cells.length = i.size ∧ z = repA (AVal.ofValue v).cells n := by
  unfold zerosOf at h
  cases ht : E.ty e with
  | none => rw [ht] at h; cases h
  | some i =>
    rw [ht] at h
    simp only at h
    cases hz : i.zero with
    | none => rw [hz] at h; cases h
    | some v =>
      rw [hz] at h
      simp only at h
      obtain ⟨h1, h2⟩ := cond_some' h
      cases h2
      exact ⟨i, v, ok.ty e i ht, rfl, hz, beq_iff.1 h1, rfl⟩
theorem blk_cells {m : Mp} {n : Pos} {l : List AVal} {e : TypeId} {s cap : Nat} (hc : m.c n = cap) (hl : l.length = cap * s) : BlkObj m n (.cells l e s) (.cells ⟨γs m l⟩ e) :=
  ⟨[], (0, 0), by simp, by simp [γs_length, hl, hc], fun j _ => by simp⟩
theorem γs_fresh {D : Pos → Prop} {m : Mp} {n : Pos} (hn : ¬ D n) {l : List AVal} (h : InL D l) (a b : Nat) : γs (m.set n a b) l = γs m l :=
  γs_congr (fun k hk => Mp.set_other m a b (fun e => hn (by rw [← e]; exact hk))) l h
theorem alloc_ok (ok : EnvOk P E) (e : TypeId) : OpOk P E (.alloc e) (opK E (.alloc e)) := by
  show OpOk P E (.alloc e) (match E.zero e with
    | some z => .nw fun _ => some (.cells z.cells e z.cells.length, .ptr)
    | none => .bad)
  cases hz : E.zero e with
  | none => exact bad_ok _
  | some z =>
    intro m D tm ρ ob mk w o ho hs hv n hn
    cases hv
    obtain ⟨i, v, h1, h2, rfl⟩ := ok.zero hz
    have hin := InL_cells (In_ofValue D v)
    have hzc : v.cells = ⟨γs m (AVal.ofValue v).cells⟩ := by rw [← γ_cells (D := D) m (In_ofValue _ v), γ_ofValue]
    refine ⟨1, .cells ⟨γs m (AVal.ofValue v).cells⟩ e, ?_, ?_, hin, by simp⟩
    · simp [execOp, ho, Instr.alloc, run_zero h1 h2, newVar, newRow, hzc, Mk.mk, γ, Mp.set]
    · rw [← γs_fresh hn hin w.heap.size 1]
      exact blk_cells (cap := 1) (by simp [Mp.set]) (by simp)
theorem box_ok (e : TypeId) (x : Operand) : OpOk P E (.box e x) (opK E (.box e x)) := by
  intro m D tm ρ ob mk w o ho hs hv n hn
  obtain ⟨h1, h2⟩ := src_ok (E := E) hs x
  cases hv
  have hin := InL_cells h2
  refine ⟨1, .cells ⟨γs m ((srcK E x).g tm).cells⟩ e, ?_, ?_, hin, by simp⟩
  · simp [execOp, ho, Instr.box, newVar, newRow, h1, γ_cells m h2, Mk.mk, γ, Mp.set]
  · rw [← γs_fresh hn hin w.heap.size 1]
    exact blk_cells (cap := 1) (by simp [Mp.set]) (by simp)
theorem makeMap_ok (t : TypeId) : OpOk P E (.makeMap t none) (opK E (.makeMap t none)) := by
  intro m D tm ρ ob mk w o ho hs hv n hn
  cases hv
  exact ⟨0, .map #[] 0, by simp [execOp, ho, Instr.makeMap, Mk.mk, γ, Mp.set], rfl, fun e he => (nomatch he), by simp⟩
theorem makeSlice_ok (ok : EnvOk P E) (t : TypeId) (l c : Operand) : OpOk P E (.makeSlice t l c) (opK E (.makeSlice t l c)) := by
  show OpOk P E (.makeSlice t l c) (match E.und t with
    | some (.slice e) => match E.ty e with
      | some i => .nw fun tm => natOf ((srcK E l).g tm) none fun l => natOf ((srcK E c).g tm) none fun c =>
          cond (Nat.ble l c && (Nat.ble (Nat.mul c i.bytes) 1099511627776 && Nat.ble c 1099511627776))
            (Option.casesOn (zerosOf E e c) none fun z => some (.cells z e i.size, .slc l c)) none
      | none => .bad
    | _ => .bad)
  cases hu : E.und t with
  | none => exact bad_ok _
  | some d =>
    cases d <;> try (exact bad_ok _)
    rename_i e
    simp only
    cases ht : E.ty e with
    | none => exact bad_ok _
    | some i =>
      intro m D tm ρ ob mk w o ho hs hv n hn
      obtain ⟨h1, h2⟩ := src_ok (E := E) hs l
      obtain ⟨g1, g2⟩ := src_ok (E := E) hs c
      simp only at hv
      generalize (srcK E l).g tm = a at h1 hv
      generalize (srcK E c).g tm = b at g1 hv
      have nat2 : ∀ {v : AVal} {k : Nat → Option (AObj × Mk)} {r}, natOf v none k = some r → ∃ kd n, v = .int kd (.ofNat n) ∧ k n = some r := fun {v k r} h => by
        unfold natOf at h
        cases v <;> try (cases h; done)
        rename_i kd n
        cases n with
        | negSucc n => cases h
        | ofNat n => exact ⟨kd, n, rfl, h⟩
      obtain ⟨k1, ln, rfl, hv1⟩ := nat2 hv
      obtain ⟨k2, cn, rfl, hv2⟩ := nat2 hv1
      cases hc : (Nat.ble ln cn && (Nat.ble (Nat.mul cn i.bytes) 1099511627776 && Nat.ble cn 1099511627776)) with
      | false => rw [hc] at hv2; cases hv2
      | true =>
        rw [hc] at hv2
        simp only [cond_true] at hv2
        rw [Bool.and_eq_true, Bool.and_eq_true] at hc
        have c1 := ble_iff.1 hc.1
        have c2 : cn * i.bytes ≤ 1099511627776 := ble_iff.1 hc.2.1
        have c3 := ble_iff.1 hc.2.2
        cases hz : zerosOf E e cn with
        | none => rw [hz] at hv2; cases hv2
        | some z =>
          rw [hz] at hv2; cases hv2
          obtain ⟨i', v, i1, i2, i3, i4, rfl⟩ := zerosOf_spec ok hz
          rw [ht] at i2; cases i2
          have hin : InL D (repA (AVal.ofValue v).cells cn) := InL_repA (InL_cells (In_ofValue D v)) cn
          refine ⟨cn, .cells ⟨γs m (repA (AVal.ofValue v).cells cn)⟩ e, ?_, ?_, hin, by simp⟩
          · have hbb : (i.bytes : Int) * (cn : Int) ≤ 281474976710656 := by
              have h5 : ((cn * i.bytes : Nat) : Int) ≤ ((1099511627776 : Nat) : Int) := Int.ofNat_le.2 c2
              rw [Int.natCast_mul, Int.mul_comm] at h5
              omega
            have rm := run_make (P := P) w t e i v (ok.und hu) i1 i3 k1 k2 (ln : Int) (cn : Int) (by omega) (by omega) hbb (by omega)
            rw [Int.toNat_natCast, Int.toNat_natCast, madeCells_repA m v i.size cn i4] at rm
            refine pu_new (s := Instr.makeSlice t (ρ l) (ρ c)) (by simp only [execOp, ho]) ?_
            rw [h1, g1]
            simp only [γ]
            rw [show (Int.ofNat ln) = (ln : Int) from rfl, show (Int.ofNat cn) = (cn : Int) from rfl, rm]
            have eγ : γ (m.set n w.heap.size cn) (Mk.mk (.slc ln cn) n) = .slice (some ⟨w.heap.size, 0, none⟩) ln cn := by simp [Mk.mk, γ, Mp.set]
            rw [eγ]; rfl
          · rw [← γs_fresh hn hin w.heap.size cn]
            exact blk_cells (cap := cn) (by simp [Mp.set]) (by rw [repA_length, i4])
theorem buildSlice_ok (ok : EnvOk P E) (t : TypeId) (len : Nat) (parts : Array (Nat × Operand)) : OpOk P E (.buildSlice t len parts) (opK E (.buildSlice t len parts)) := by
  show OpOk P E (.buildSlice t len parts) (match E.und t with
    | some (.slice e) => match E.size e, zerosOf E e len with
      | some s, some z =>
        cond (Nat.ble (Nat.mul len s) 16777216)
          (.nw fun tm => Option.casesOn (fillA (fun i => some (Nat.mul i s, s)) (partsK E parts) tm z) none fun l => some (.cells l e s, .slc len len)) .bad
      | _, _ => .bad
    | _ => .bad)
  cases hu : E.und t with
  | none => exact bad_ok _
  | some d =>
    cases d <;> try (exact bad_ok _)
    rename_i e
    simp only
    cases hs' : E.size e with
    | none => exact bad_ok _
    | some s =>
      cases hz : zerosOf E e len with
      | none => exact bad_ok _
      | some z =>
        simp only
        cases hb : Nat.ble (Nat.mul len s) 16777216 with
        | false => exact bad_ok _
        | true =>
          intro m D tm ρ ob mk w o ho hs hv n hn
          have hin : ∀ x : Operand, In D ((srcK E x).g tm) := fun x => (src_ok (E := E) hs x).2
          have hparts : (parts.map fun (i, x) => (i, ρ x)).toList = parts.toList.map fun p => (p.1, γ m ((srcK E p.2).g tm)) := by
            simp only [Array.toList_map]
            apply List.map_congr_left
            intro p _
            rw [(src_ok (E := E) hs p.2).1]
          simp only at hv
          cases hf : fillA (fun i => some (Nat.mul i s, s)) (partsK E parts) tm z with
          | none => rw [hf] at hv; cases hv
          | some l =>
            rw [hf] at hv; cases hv
            obtain ⟨i, v, i1, i2, i3, i4, rfl⟩ := zerosOf_spec ok hz
            obtain ⟨ii, j1, j2⟩ := ok.size hs'
            rw [i1] at j1; cases j1
            subst j2
            have hiz : InL D (repA (AVal.ofValue v).cells len) := InL_repA (InL_cells (In_ofValue D v)) len
            obtain ⟨f1, f2, f3⟩ := fill_spec hin parts.toList _ _ hf hiz
            have hle : ¬ (len * i.size > 2 ^ 24) := by have : len * i.size ≤ 16777216 := ble_iff.1 hb; omega
            refine ⟨len, .cells ⟨γs m l⟩ e, ?_, ?_, f2, by simp⟩
            · refine pu_new (s := Instr.buildSlice t len (parts.map fun (i, x) => (i, ρ x))) (by simp only [execOp, ho]) ?_
              have mk := madeCells_repA m v i.size len i4
              unfold madeCells at mk
              have f1' : Instr.fill (fun i_1 => some (i_1 * i.size, i.size)) ((Array.range (len * i.size)).map fun x => v.cells[x % v.cells.size]!) (parts.map fun (i, x) => (i, ρ x)).toList = some ⟨γs m l⟩ := by
                rw [mk, hparts]; exact f1
              by_cases h0 : len * i.size = 0
              · have f0 : Instr.fill (fun i_1 => some (i_1 * i.size, i.size)) (#[] : Array Value) (parts.map fun (i, x) => (i, ρ x)).toList = some ⟨γs m l⟩ := by
                  have := f1'
                  rw [h0] at this
                  simpa [Array.range_zero'] using this
                have r1 := ok.run_und hu w
                have r2 := Go.Ev.run_size i1 w
                have e0 : ((Array.range (len * i.size)).map fun x => (#[] : Array Value)[x % (#[] : Array Value).size]!) = #[] := by rw [h0, Array.range_zero']; simp
                simp only [Instr.buildSlice, Sem.run_bind, r1, r2, Result.andThen_ok, if_neg hle, if_pos h0, Sem.run_pure, e0, f0]
                simp [newRow, Mk.mk, γ, Mp.set]
              · have r1 := ok.run_und hu w
                have r2 := Go.Ev.run_size i1 w
                simp only [Instr.buildSlice, Sem.run_bind, r1, r2, Result.andThen_ok, if_neg hle, h0, if_false, Sem.run_pure, run_zero i1 i3]
                simp only [f1']
                simp [newRow, Mk.mk, γ, Mp.set]
            · rw [← γs_fresh hn f2 w.heap.size len]
              exact blk_cells (cap := len) (by simp [Mp.set]) (by rw [f3, repA_length, i4])
end
end Go.Ev
