/- The evaluator of closed calls, part 5: what the program computes on given inputs, read by the kernel; sound in every world (part 8). -/
import Derived.Test.YtkpjikaobjpkoaaGreatDoorPkEv4
import Derived.Laws.IdiomStrings
import Derived.Laws.MakeOwn
import Derived.Laws.Append
namespace Go.Ev
variable [Rho] {S : Nat → Prop}
section
variable {P : Program} {E : Env}

theorem bytes_loop (m : Mp) (F : Value → ByteArray → Sem (ForInStep ByteArray)) (hF : ∀ n r, F (.int .u8 n) r = pure (ForInStep.yield (r.push (UInt8.ofNat n.toNat)))) : ∀ (l : List AVal) (s : List UInt8) (acc : ByteArray) (w : World), bytesOf l = some s →
    (forIn (γs m l) acc F).run P w = .ok ⟨⟨acc.data.toList ++ s⟩⟩ w
  | [], s, acc, w, h => by cases h; simp [γs]
  | v :: l, s, acc, w, h => by
    unfold bytesOf at h
    cases v <;> try (cases h; done)
    rename_i k n
    cases k <;> try (cases h; done)
    cases n <;> try (cases h; done)
    rename_i n
    simp only at h
    cases hb : bytesOf l with
    | none => rw [hb] at h; cases h
    | some r =>
      rw [hb] at h
      simp only [forceN_spec, Option.some.injEq] at h
      subst h
      have ih := bytes_loop m F hF l r (acc.push (UInt8.ofNat n)) w hb
      simp only [γs, γ, List.forIn_cons, hF, Sem.run_bind, Sem.run_pure, Result.andThen_ok]
      rw [show (Int.ofNat n).toNat = n from rfl, ih]
      congr 1
      apply ByteArray.ext
      simp [ByteArray.data_push]
theorem byteVals_map (m : Mp) : ∀ l : List UInt8, γs m (byteVals l) = l.map fun b => .int .u8 b.toNat
  | [] => rfl
  | b :: l => by simp only [byteVals, forceN_spec, γs, γ, byteVals_map m l, List.map_cons]; rfl
omit [Rho] in
theorem InL_byteVals {D : Pos → Prop} : ∀ l : List UInt8, InL D (byteVals l)
  | [] => trivial
  | b :: l => by simp only [byteVals, forceN_spec]; exact ⟨trivial, InL_byteVals l⟩
omit [Rho] in
theorem byteVals_length : ∀ l : List UInt8, (byteVals l).length = l.length
  | [] => rfl
  | b :: l => by simp only [byteVals, forceN_spec, List.length_cons, byteVals_length l]
theorem bytes_row (m : Mp) (l : List UInt8) (cap : Nat) : bytesRow ⟨⟨l⟩⟩ cap = ⟨γs m (byteVals l) ++ List.replicate (cap - l.length) (.int .u8 0)⟩ := by
  apply Array.ext'
  simp [bytesRow, byteVals_map, ByteArray.size]
theorem toBytes_ok (ok : EnvOk P E) {s d e : TypeId} {x : Operand} (h1 : E.und s = some .string) (h2 : E.und d = some (.slice e)) (h3 : E.und e = some (.int .u8)) :
    OpOk P E (.convert s d x) (.wr fun tm h => match (srcK E x).g tm with
      | .str l => forceN l.length fun n => .ok (.slc h.nx 0 n (.rest 0)) (h.new (.cells (byteVals l) e 1))
      | _ => .fail) := by
  intro S m h tm ρ w o ho hr hs
  obtain ⟨q1, q2⟩ := src_ok (E := E) hs x
  simp only
  generalize (srcK E x).g tm = u at q1 q2
  cases u <;> try (exact trivial)
  rename_i l
  simp only [forceN_spec]
  have hrun := run_bytes_of_string (P := P) w s d e ⟨⟨l⟩⟩ (ok.und h1) (ok.und h2) (ok.und h3)
  have hsz : (⟨⟨l⟩⟩ : ByteArray).size = l.length := rfl
  rw [hsz] at hrun
  have hcap : l.length ≤ grownCap w l.length 0 e := by simp only [grownCap, Question.cut]; omega
  generalize hg : grownCap w l.length 0 e = cap at hrun hcap
  rw [bytes_row m] at hrun
  have hlen : (γs m (byteVals l) ++ List.replicate (cap - l.length) (Value.int .u8 0)).length = cap := by
    rw [List.length_append, γs_length, byteVals_length, List.length_replicate]; omega
  have hsize : (⟨γs m (byteVals l) ++ List.replicate (cap - l.length) (Value.int .u8 0)⟩ : Array Value).size = cap := hlen
  rw [hsize] at hrun
  have hfr : ¬ dom h h.nx := fun hd => Nat.lt_irrefl _ (hr.fresh _ hd)
  have hbv : ∀ m' : Mp, γs m' (byteVals l) = γs m (byteVals l) := fun m' => by rw [byteVals_map, byteVals_map]
  obtain ⟨p1, p2, p3⟩ := hr.pushed (ob := .cells (byteVals l) e 1) (o := .cells ⟨γs m (byteVals l) ++ List.replicate (cap - l.length) (.int .u8 0)⟩ e (cap, cap + 1))
    (w' := w.drew.alloc (.cells ⟨γs m (byteVals l) ++ List.replicate (cap - l.length) (.int .u8 0)⟩ e (cap, cap + 1))) (cap := cap) ⟨rfl, rfl, rfl, rfl⟩ (by simp)
    ⟨List.replicate (cap - l.length) (.int .u8 0), (cap, cap + 1), by rw [hbv (m.set h.nx w.heap.size cap)], by rw [hbv (m.set h.nx w.heap.size cap), Mp.set_c_same, Nat.mul_one]; exact hlen, fun j hj => by rw [hbv (m.set h.nx w.heap.size cap), hlen] at hj; omega⟩ (InL_byteVals l)
  refine ⟨_, _, .value (.slice (some ⟨w.heap.size, 0, none⟩) l.length cap), ?_, .inl ?_, p1, p2, p3, rfl⟩
  · have : execOp ρ o = (do pure (.value (← convert s d (ρ x)))) := by simp only [execOp, ho]
    rw [this]
    simp only [Sem.run_bind, q1, γ, hrun, Result.andThen_ok, Sem.run_pure]
  · simp [γ, Mp.set, Mp.c]
theorem convert_ok (ok : EnvOk P E) (s d : TypeId) (x : Operand) : OpOk P E (.convert s d x) (opK0 E (.convert s d x)) := by
  show OpOk P E (.convert s d x) (convertK E s d x)
  have gi : ∀ (ds : TypeDesc) (k : IntKind), E.und s = some ds → E.und d = some (.int k) → OpOk P E (.convert s d x) (on1 E (fun v => match v with
      | .int _ n => intOut k (wrapA k n)
      | _ => none) x) := fun ds k h1 h2 => on1_ok (fun a => convert s d a) (fun ρ o ho => by simp only [execOp, ho]) fun m D u v w hu hv => by
    cases u <;> try (cases hv; done)
    rename_i k' n
    have := intOut_spec hv; subst this
    refine ⟨?_, trivial⟩
    simp only [convert, Sem.run_bind, ok.run_und h1, ok.run_und h2, Result.andThen_ok, γ, wrapA_spec]
    cases ds <;> rfl
  have gs : ∀ (ds : TypeDesc), E.und s = some ds → (∀ e, ds ≠ .slice e) → E.und d = some .string → OpOk P E (.convert s d x) (on1 E (fun v => match v with
      | .int _ n => some (.str (Utf8.encode n).data.toList)
      | .str l => some (.str l)
      | _ => none) x) := fun ds h1 hns h2 => on1_ok (fun a => convert s d a) (fun ρ o ho => by simp only [execOp, ho]) fun m D u v w hu hv => by
    cases u <;> try (cases hv; done)
    · cases hv
      refine ⟨?_, trivial⟩
      simp only [convert, Sem.run_bind, ok.run_und h1, ok.run_und h2, Result.andThen_ok, γ]
      cases ds <;> first | rfl | exact absurd rfl (hns _)
    · cases hv
      refine ⟨?_, trivial⟩
      simp only [convert, Sem.run_bind, ok.run_und h1, ok.run_und h2, Result.andThen_ok, γ]
      cases ds <;> first | rfl | exact absurd rfl (hns _)
  generalize hk : convertK E s d x = K
  unfold convertK at hk
  cases h1 : E.und s with
  | none => rw [h1] at hk; subst hk; exact bad_ok _
  | some ds =>
    cases h2 : E.und d with
    | none => rw [h1, h2] at hk; cases ds <;> (subst hk; exact bad_ok _)
    | some dd =>
      rw [h1, h2] at hk
      cases dd with
      | int k => cases ds <;> (subst hk; exact gi _ k h1 h2)
      | string =>
        cases ds <;> try (subst hk; exact gs _ h1 (fun e he => by cases he) h2)
        rename_i e
        simp only at hk
        cases h3 : E.und e with
        | none => rw [h3] at hk; subst hk; exact bad_ok _
        | some de =>
          rw [h3] at hk
          cases de <;> try (subst hk; exact bad_ok _)
          rename_i k
          cases k <;> try (subst hk; exact bad_ok _)
          subst hk
          intro S m h tm ρ v w o ho hr hs hv
          obtain ⟨q1, q2⟩ := src_ok (E := E) hs x
          simp only at hv
          generalize (srcK E x).g tm = a at q1 q2 hv
          have key : (convert s d (ρ x)).run P w = .ok (γ m v) w ∧ In (dom h) v := by
            rw [q1]
            cases a <;> try (cases hv; done)
            · rename_i n off len cap
              simp only at hv
              cases hl : h.loadN n off len with
              | none => rw [hl] at hv; cases hv
              | some l =>
                rw [hl] at hv
                simp only at hv
                cases hb : bytesOf l with
                | none => rw [hb] at hv; cases hv
                | some bs =>
                  rw [hb] at hv; cases hv
                  refine ⟨?_, trivial⟩
                  have hld := hr.run_loadN (P := P) hl
                  have lp := fun F hF => bytes_loop (P := P) m F hF l bs ByteArray.empty w hb
                  have goal : ∀ c, (Conv.bytesToString (.slice (some ⟨m.b n, off, none⟩) len c)).run P w = .ok (γ m (.str bs)) w := fun c => by
                    simp only [Conv.bytesToString, Sem.run_bind, hld, Result.andThen_ok]
                    rw [← Array.forIn_toList]
                    rw [lp _ (fun _ _ => rfl)]
                    rfl
                  cases cap <;> simp only [convert, Sem.run_bind, ok.run_und h1, ok.run_und h2, ok.run_und h3, Result.andThen_ok, γ, goal]
            · cases hv
              exact ⟨by simp only [convert, Sem.run_bind, ok.run_und h1, ok.run_und h2, ok.run_und h3, Result.andThen_ok, γ]; rfl, trivial⟩
          exact ⟨pu_val (s := convert s d (ρ x)) (by simp only [execOp, ho]) key.1, key.2⟩
      | slice e =>
        cases ds <;> try (subst hk; exact bad_ok _)
        simp only at hk
        cases h3 : E.und e with
        | none => rw [h3] at hk; subst hk; exact bad_ok _
        | some de =>
          rw [h3] at hk
          cases de <;> try (subst hk; exact bad_ok _)
          rename_i k
          cases k <;> try (subst hk; exact bad_ok _)
          subst hk
          exact toBytes_ok ok h1 h2 h3
      | _ => cases ds <;> (subst hk; exact bad_ok _)
end
end Go.Ev

namespace Go.Ev
variable [Rho] {S : Nat → Prop}
section
variable {P : Program} {E : Env}

omit [Rho] in
theorem pu_new {ρ : Operand → Value} {o : Oper} {s : Sem Value} {w w' : World} {r : Value} (he : execOp ρ o = (do pure (.value (← s)))) (h : s.run P w = .ok r w') : (execOp ρ o).run P w = .ok (.value r) w' := by
  rw [he]; simp [h]
omit [Rho] in
theorem made_flatten (z : List Value) : ∀ n, ((List.range (n * z.length)).map fun i => z[i % z.length]!) = (List.replicate n z).flatten
  | 0 => by simp
  | n + 1 => by
    have ih := made_flatten z n
    rw [Nat.succ_mul, Nat.add_comm, List.range_add, List.map_append, List.replicate_succ, List.flatten_cons, ← ih]
    congr 1
    · apply List.ext_getElem?
      intro i
      by_cases h : i < z.length
      · simp [h, Nat.mod_eq_of_lt h]
      · simp [h]
    · rw [List.map_map]
      apply List.map_congr_left
      intro i _
      simp [Nat.add_mod_left]
theorem γs_repA (m : Mp) (z : List AVal) (n : Nat) : γs m (repA z n) = (List.replicate n (γs m z)).flatten := by
  rw [repA_spec, γs_map, γs_map]
  induction n with
  | zero => simp
  | succ n ih => simp [List.replicate_succ, ih]
theorem madeCells_repA (m : Mp) (v : Value) (k n : Nat) (hk : (AVal.ofValue v).cells.length = k) : madeCells v.cells (n * k) = ⟨γs m (repA (AVal.ofValue v).cells n)⟩ := by
  have hzc : v.cells = ⟨γs m (AVal.ofValue v).cells⟩ := by rw [← γ_cells (D := fun _ => False) m (In_ofValue _ v), γ_ofValue]
  subst hk
  rw [hzc, γs_repA]
  apply Array.ext'
  simp only [madeCells, Array.toList_map, Array.toList_range]
  rw [← γs_length m (AVal.ofValue v).cells]
  rw [← made_flatten (γs m (AVal.ofValue v).cells) n]
  apply List.map_congr_left
  intro i _
  simp
omit [Rho] in
theorem repA_length (z : List AVal) (n : Nat) : (repA z n).length = n * z.length := by rw [repA_spec]; simp
omit [Rho] in
theorem InL_repA {D : Pos → Prop} {z : List AVal} (h : InL D z) (n : Nat) : InL D (repA z n) := by
  rw [repA_spec, InL_iff]
  intro v hv
  obtain ⟨l, h1, h2⟩ := List.mem_flatten.1 hv
  rw [List.mem_replicate] at h1
  rw [h1.2] at h2
  exact (InL_iff _).1 h v h2
theorem zerosOf_spec (ok : EnvOk P E) {e : TypeId} {n : Nat} {z : List AVal} (h : zerosOf E e n = some z) : ∃ i v, P.info? e = some i ∧ E.ty e = some i ∧ i.zero = some v ∧ (AVal.ofValue v).cells.length = i.size ∧ z = repA (AVal.ofValue v).cells n := by
  unfold zerosOf at h
  cases ht : E.ty e with
  | none => rw [ht] at h; cases h
  | some i =>
    rw [ht] at h
    simp only at h
    cases hz : i.zero with
    | none => rw [hz] at h; cases h
    | some v =>
      rw [hz] at h
      simp only at h
      obtain ⟨h1, h2⟩ := cond_some' h
      cases h2
      exact ⟨i, v, ok.ty e i ht, rfl, hz, beq_iff.1 h1, rfl⟩
theorem blk_cells {m : Mp} {n : Pos} {l : List AVal} {e : TypeId} {s cap : Nat} (hc : m.c n = cap) (hl : l.length = cap * s) : BlkObj m n (.cells l e s) (.cells ⟨γs m l⟩ e) :=
  ⟨[], (0, 0), by simp, by simp [γs_length, hl, hc], fun j _ => by simp⟩
theorem γs_fresh {D : Pos → Prop} {m : Mp} {n : Pos} (hn : ¬ D n) {l : List AVal} (h : InL D l) (a b : Nat) : γs (m.set n a b) l = γs m l :=
  γs_congr (fun k hk => Mp.set_other m a b (fun e => hn (by rw [← e]; exact hk))) l h
theorem alloc_ok (ok : EnvOk P E) (e : TypeId) : OpOk P E (.alloc e) (opK0 E (.alloc e)) := by
  show OpOk P E (.alloc e) (match E.zero e with
    | some z => .nw fun _ => some (.cells z.cells e z.cells.length, .ptr)
    | none => .bad)
  cases hz : E.zero e with
  | none => exact bad_ok _
  | some z =>
    intro m D tm ρ ob mk w o ho hs hv n hn
    cases hv
    obtain ⟨i, v, h1, h2, rfl⟩ := ok.zero hz
    have hin := InL_cells (In_ofValue D v)
    have hzc : v.cells = ⟨γs m (AVal.ofValue v).cells⟩ := by rw [← γ_cells (D := D) m (In_ofValue _ v), γ_ofValue]
    refine ⟨1, .cells ⟨γs m (AVal.ofValue v).cells⟩ e, ?_, ?_, hin, by simp⟩
    · simp [execOp, ho, Instr.alloc, run_zero h1 h2, newVar, newRow, hzc, Mk.mk, γ, Mp.set]
    · rw [← γs_fresh hn hin w.heap.size 1]
      exact blk_cells (cap := 1) (by simp [Mp.set, Mp.c]) (by simp)
theorem box_ok (e : TypeId) (x : Operand) : OpOk P E (.box e x) (opK0 E (.box e x)) := by
  intro m D tm ρ ob mk w o ho hs hv n hn
  obtain ⟨h1, h2⟩ := src_ok (E := E) hs x
  cases hv
  have hin := InL_cells h2
  refine ⟨1, .cells ⟨γs m ((srcK E x).g tm).cells⟩ e, ?_, ?_, hin, by simp⟩
  · simp [execOp, ho, Instr.box, newVar, newRow, h1, γ_cells m h2, Mk.mk, γ, Mp.set]
  · rw [← γs_fresh hn hin w.heap.size 1]
    exact blk_cells (cap := 1) (by simp [Mp.set, Mp.c]) (by simp)
theorem makeMap_ok (t : TypeId) : OpOk P E (.makeMap t none) (opK0 E (.makeMap t none)) := by
  intro m D tm ρ ob mk w o ho hs hv n hn
  cases hv
  exact ⟨0, .map #[] 0, by simp [execOp, ho, Instr.makeMap, Mk.mk, γ, Mp.set], rfl, fun e he => (nomatch he), by simp⟩
theorem makeSlice_ok (ok : EnvOk P E) (t : TypeId) (l c : Operand) : OpOk P E (.makeSlice t l c) (opK0 E (.makeSlice t l c)) := by
  show OpOk P E (.makeSlice t l c) (match E.und t with
    | some (.slice e) => match E.ty e with
      | some i => .nw fun tm => natOf ((srcK E l).g tm) none fun l => natOf ((srcK E c).g tm) none fun c =>
          cond (Nat.ble l c && (Nat.ble (Nat.mul c i.bytes) 1099511627776 && Nat.ble c 1099511627776))
            (Option.casesOn (zerosOf E e c) none fun z => some (.cells z e i.size, .slc l c)) none
      | none => .bad
    | _ => .bad)
  cases hu : E.und t with
  | none => exact bad_ok _
  | some d =>
    cases d <;> try (exact bad_ok _)
    rename_i e
    simp only
    cases ht : E.ty e with
    | none => exact bad_ok _
    | some i =>
      intro m D tm ρ ob mk w o ho hs hv n hn
      obtain ⟨h1, h2⟩ := src_ok (E := E) hs l
      obtain ⟨g1, g2⟩ := src_ok (E := E) hs c
      simp only at hv
      generalize (srcK E l).g tm = a at h1 hv
      generalize (srcK E c).g tm = b at g1 hv
      have nat2 : ∀ {v : AVal} {k : Nat → Option (AObj × Mk)} {r}, natOf v none k = some r → ∃ kd n, v = .int kd (.ofNat n) ∧ k n = some r := fun {v k r} h => by
        unfold natOf at h
        cases v <;> try (cases h; done)
        rename_i kd n
        cases n with
        | negSucc n => cases h
        | ofNat n => exact ⟨kd, n, rfl, h⟩
      obtain ⟨k1, ln, rfl, hv1⟩ := nat2 hv
      obtain ⟨k2, cn, rfl, hv2⟩ := nat2 hv1
      cases hc : (Nat.ble ln cn && (Nat.ble (Nat.mul cn i.bytes) 1099511627776 && Nat.ble cn 1099511627776)) with
      | false => rw [hc] at hv2; cases hv2
      | true =>
        rw [hc] at hv2
        simp only [cond_true] at hv2
        rw [Bool.and_eq_true, Bool.and_eq_true] at hc
        have c1 := ble_iff.1 hc.1
        have c2 : cn * i.bytes ≤ 1099511627776 := ble_iff.1 hc.2.1
        have c3 := ble_iff.1 hc.2.2
        cases hz : zerosOf E e cn with
        | none => rw [hz] at hv2; cases hv2
        | some z =>
          rw [hz] at hv2; cases hv2
          obtain ⟨i', v, i1, i2, i3, i4, rfl⟩ := zerosOf_spec ok hz
          rw [ht] at i2; cases i2
          have hin : InL D (repA (AVal.ofValue v).cells cn) := InL_repA (InL_cells (In_ofValue D v)) cn
          refine ⟨cn, .cells ⟨γs m (repA (AVal.ofValue v).cells cn)⟩ e, ?_, ?_, hin, by simp⟩
          · have hbb : (i.bytes : Int) * (cn : Int) ≤ 281474976710656 := by
              have h5 : ((cn * i.bytes : Nat) : Int) ≤ ((1099511627776 : Nat) : Int) := Int.ofNat_le.2 c2
              rw [Int.natCast_mul, Int.mul_comm] at h5
              omega
            have rm := run_make (P := P) w t e i v (ok.und hu) i1 i3 k1 k2 (ln : Int) (cn : Int) (by omega) (by omega) hbb (by omega)
            rw [Int.toNat_natCast, Int.toNat_natCast, madeCells_repA m v i.size cn i4] at rm
            refine pu_new (s := Instr.makeSlice t (ρ l) (ρ c)) (by simp only [execOp, ho]) ?_
            rw [h1, g1]
            simp only [γ]
            rw [show (Int.ofNat ln) = (ln : Int) from rfl, show (Int.ofNat cn) = (cn : Int) from rfl, rm]
            have eγ : γ (m.set n w.heap.size cn) (Mk.mk (.slc ln cn) n) = .slice (some ⟨w.heap.size, 0, none⟩) ln cn := by simp [Mk.mk, γ, Mp.set]
            rw [eγ]; rfl
          · rw [← γs_fresh hn hin w.heap.size cn]
            exact blk_cells (cap := cn) (by simp [Mp.set, Mp.c]) (by rw [repA_length, i4])
theorem buildSlice_ok (ok : EnvOk P E) (t : TypeId) (len : Nat) (parts : Array (Nat × Operand)) : OpOk P E (.buildSlice t len parts) (opK0 E (.buildSlice t len parts)) := by
  show OpOk P E (.buildSlice t len parts) (match E.und t with
    | some (.slice e) => match E.size e, zerosOf E e len with
      | some s, some z =>
        cond (Nat.ble (Nat.mul len s) 16777216)
          (.nw fun tm => Option.casesOn (fillA (fun i => some (Nat.mul i s, s)) (partsK E parts) tm z) none fun l => some (.cells l e s, .slc len len)) .bad
      | _, _ => .bad
    | _ => .bad)
  cases hu : E.und t with
  | none => exact bad_ok _
  | some d =>
    cases d <;> try (exact bad_ok _)
    rename_i e
    simp only
    cases hs' : E.size e with
    | none => exact bad_ok _
    | some s =>
      cases hz : zerosOf E e len with
      | none => exact bad_ok _
      | some z =>
        simp only
        cases hb : Nat.ble (Nat.mul len s) 16777216 with
        | false => exact bad_ok _
        | true =>
          intro m D tm ρ ob mk w o ho hs hv n hn
          have hin : ∀ x : Operand, In D ((srcK E x).g tm) := fun x => (src_ok (E := E) hs x).2
          have hparts : (parts.map fun (i, x) => (i, ρ x)).toList = parts.toList.map fun p => (p.1, γ m ((srcK E p.2).g tm)) := by
            simp only [Array.toList_map]
            apply List.map_congr_left
            intro p _
            rw [(src_ok (E := E) hs p.2).1]
          simp only at hv
          cases hf : fillA (fun i => some (Nat.mul i s, s)) (partsK E parts) tm z with
          | none => rw [hf] at hv; cases hv
          | some l =>
            rw [hf] at hv; cases hv
            obtain ⟨i, v, i1, i2, i3, i4, rfl⟩ := zerosOf_spec ok hz
            obtain ⟨ii, j1, j2⟩ := ok.size hs'
            rw [i1] at j1; cases j1
            subst j2
            have hiz : InL D (repA (AVal.ofValue v).cells len) := InL_repA (InL_cells (In_ofValue D v)) len
            obtain ⟨f1, f2, f3⟩ := fill_spec hin parts.toList _ _ hf hiz
            have hle : ¬ (len * i.size > 2 ^ 24) := by have : len * i.size ≤ 16777216 := ble_iff.1 hb; omega
            refine ⟨len, .cells ⟨γs m l⟩ e, ?_, ?_, f2, by simp⟩
            · refine pu_new (s := Instr.buildSlice t len (parts.map fun (i, x) => (i, ρ x))) (by simp only [execOp, ho]) ?_
              have mk := madeCells_repA m v i.size len i4
              unfold madeCells at mk
              have f1' : Instr.fill (fun i_1 => some (i_1 * i.size, i.size)) ((Array.range (len * i.size)).map fun x => v.cells[x % v.cells.size]!) (parts.map fun (i, x) => (i, ρ x)).toList = some ⟨γs m l⟩ := by
                rw [mk, hparts]; exact f1
              by_cases h0 : len * i.size = 0
              · have f0 : Instr.fill (fun i_1 => some (i_1 * i.size, i.size)) (#[] : Array Value) (parts.map fun (i, x) => (i, ρ x)).toList = some ⟨γs m l⟩ := by
                  have := f1'
                  rw [h0] at this
                  simpa [Array.range_zero'] using this
                have r1 := ok.run_und hu w
                have r2 := Go.Ev.run_size i1 w
                have e0 : ((Array.range (len * i.size)).map fun x => (#[] : Array Value)[x % (#[] : Array Value).size]!) = #[] := by rw [h0, Array.range_zero']; simp
                simp only [Instr.buildSlice, Sem.run_bind, r1, r2, Result.andThen_ok, if_neg hle, if_pos h0, Sem.run_pure, e0, f0]
                simp [newRow, Mk.mk, γ, Mp.set]
              · have r1 := ok.run_und hu w
                have r2 := Go.Ev.run_size i1 w
                simp only [Instr.buildSlice, Sem.run_bind, r1, r2, Result.andThen_ok, if_neg hle, h0, if_false, Sem.run_pure, run_zero i1 i3]
                simp only [f1']
                simp [newRow, Mk.mk, γ, Mp.set]
            · rw [← γs_fresh hn f2 w.heap.size len]
              exact blk_cells (cap := len) (by simp [Mp.set, Mp.c]) (by rw [f3, repA_length, i4])
end
end Go.Ev

namespace Go.Ev
variable [Rho] {S : Nat → Prop}
section
variable {P : Program} {E : Env}

omit [Rho] in
theorem okU_spec {o : Option Heap} {v : AVal} {h : Heap} (e : okU o = .ok v h) : o = some h ∧ v = undefA := by
  cases o with
  | none => cases e
  | some h' => cases e; exact ⟨rfl, rfl⟩
theorem store_ok (ok : EnvOk P E) (t : TypeId) (a x : Operand) : OpOk P E (.store t a x) (opK0 E (.store t a x)) := by
  show OpOk P E (.store t a x) (match E.size t with
    | some k => .wr fun tm h => match (srcK E a).g tm with
      | .ptr n off => cond (Nat.beq ((srcK E x).g tm).cells.length k) (okU (h.store n off ((srcK E x).g tm).cells)) .fail
      | _ => .fail
    | none => .bad)
  cases hz : E.size t with
  | none => exact bad_ok _
  | some k =>
    intro S m h tm ρ w o ho hr hs
    obtain ⟨h1, h2⟩ := src_ok (E := E) hs a
    obtain ⟨g1, g2⟩ := src_ok (E := E) hs x
    simp only
    generalize (srcK E a).g tm = p at h1 h2
    generalize (srcK E x).g tm = v at g1 g2
    cases p <;> try (exact trivial)
    rename_i n off
    simp only
    cases hb : Nat.beq v.cells.length k with
    | false => exact trivial
    | true =>
      simp only [cond_true]
      cases hst : h.store n off v.cells with
      | none => exact trivial
      | some h' =>
        obtain ⟨w', r1, r2, r3, r4, r5⟩ := hr.store hst (InL_cells g2) P
        refine ⟨m, w', .skip, ?_, .inr ⟨rfl, rfl⟩, r2, r3, trivial, r4⟩
        have hsz := ok.run_size hz w
        have hcs : (γ m v).cells.size = k := by rw [γ_cells m g2]; simp [γs_length]; exact beq_iff.1 hb
        simp only [execOp, ho, Instr.storeAt, Sem.run_bind, h1, g1, γ, Instr.sureAddr, Sem.run_pure, Result.andThen_ok, storeVar, hsz]
        rw [if_neg (by rw [hcs]; simp), γ_cells m g2, r1]
        rfl
/-! ### Maps -/
omit [Rho] in
theorem sameKeyS_eq {a b : AVal} (h : sameKeyS a b = some true) : a = b := by
  unfold sameKeyS at h
  cases a <;> cases b <;> try (cases h; done)
  · rename_i k1 x k2 y
    simp only [sameKey] at h
    cases hk : ikEqb k1 k2 with
    | false => rw [hk] at h; cases h
    | true => rw [hk, intEqb_spec] at h; simp at h; rw [(ikEqb_spec _ _).1 hk, h]
  · simp [sameKey, boolEqb_spec] at h; rw [h]
  · simp [bytesEqb_spec] at h; rw [h]
omit [Rho] in
theorem sameKeys_eq : ∀ {a b : List AVal}, sameKeys a b = some true → a = b
  | [], [], _ => rfl
  | [], b :: bs, h => by simp [sameKeys] at h
  | a :: as, [], h => by simp [sameKeys] at h
  | a :: as, b :: bs, h => by
    simp only [sameKeys] at h
    cases hs : sameKeyS a b with
    | none => rw [hs] at h; cases h
    | some q =>
      rw [hs] at h
      cases q with
      | false => cases h
      | true => rw [sameKeyS_eq hs, sameKeys_eq h]
omit [Rho] in
theorem sameK_eq {a b : AVal} (h : sameK a b = some true) : a = b := by
  unfold sameK at h
  cases a <;> cases b <;> first | exact sameKeyS_eq h | (rw [sameKeys_eq h])
theorem plain_bits {m : Mp} {t : TypeId} {a : AVal} (h : plainAt E t a = true) (n : Nat) : Instr.sameBits n (γ m a) (γ m a) = true := by
  unfold plainAt at h
  cases hu : E.und t with
  | none => rw [hu] at h; cases h
  | some d =>
    rw [hu] at h
    cases d <;> cases a <;> first | (cases h; done) | (cases n <;> simp [γ, Instr.sameBits, beq_toListBytes])
theorem fields_bits {m : Mp} (n : Nat) : ∀ (fs : List Field) (l : List AVal) (k : Nat), plainFields E k fs l = true → ∀ v ∈ l, Instr.sameBits n (γ m v) (γ m v) = true
  | [], [], _, _, v, hv => by cases hv
  | [], a :: l, _, h, _, _ => by simp [plainFields] at h
  | f :: fs, [], _, h, _, _ => by simp [plainFields] at h
  | f :: fs, a :: l, k, h, v, hv => by
    obtain ⟨a1, _, _, a4⟩ := plainFields_cons h
    rcases List.mem_cons.1 hv with rfl | hv
    · exact plain_bits a1 n
    · exact fields_bits n fs l (k + 1) a4 v hv
theorem key_bits {m : Mp} {t : TypeId} {k : AVal} {b : Bool} (h : (keyOkK E t).f k k = some b) : Instr.sameBits 10000 (γ m k) (γ m k) = true := by
  unfold keyOkK at h
  cases hu : E.und t with
  | none => rw [hu] at h; cases h
  | some d =>
    rw [hu] at h
    cases d <;> try (cases h; done)
    · exact plain_bits (t := t) (by unfold plainAt; rw [hu]; cases k <;> first | (cases h; done) | rfl) _
    · exact plain_bits (t := t) (by unfold plainAt; rw [hu]; cases k <;> first | (cases h; done) | rfl) _
    · exact plain_bits (t := t) (by unfold plainAt; rw [hu]; cases k <;> first | (cases h; done) | rfl) _
    · rename_i fs
      cases hg : E.gt t with
      | false => rw [hg] at h; cases h
      | true =>
        rw [hg] at h
        simp only [cond_true] at h
        cases k <;> try (cases h; done)
        rename_i l
        simp only at h
        cases hp : plainFields E 0 fs.toList l with
        | false => rw [hp] at h; cases h
        | true =>
          have fb := fields_bits (m := m) 9999 fs.toList l 0 hp
          have gen : ∀ n, (∀ v ∈ l, Instr.sameBits n (γ m v) (γ m v) = true) → Instr.sameBits (n + 1) (.agg ⟨γs m l⟩) (.agg ⟨γs m l⟩) = true := fun n hn => by
            simp only [Instr.sameBits, beq_self_eq_true, Bool.true_and, List.all_eq_true]
            rintro ⟨x, y⟩ hxy
            rw [γs_map] at hxy
            have : ∀ (q : List AVal), (x, y) ∈ (q.map (γ m)).zip (q.map (γ m)) → ∃ v ∈ q, x = γ m v ∧ y = γ m v := by
              intro q
              induction q with
              | nil => intro h; cases h
              | cons a q ih =>
                intro h
                simp only [List.map_cons, List.zip_cons_cons, List.mem_cons, Prod.mk.injEq] at h
                rcases h with ⟨rfl, rfl⟩ | h
                · exact ⟨a, List.mem_cons_self .., rfl, rfl⟩
                · obtain ⟨v, h1, h2⟩ := ih h; exact ⟨v, List.mem_cons_of_mem _ h1, h2⟩
            obtain ⟨v, h1, rfl, rfl⟩ := this l hxy
            exact hn v h1
          exact gen 9999 fb
theorem setEnt_map (m : Mp) (v k : AVal) : ∀ (i : Nat) (es : List MEnt), (setEnt v k i es).map (entG m) = (es.map (entG m)).modify i fun e => { e with key := γ m k, val := γ m v }
  | _, [] => by simp [setEnt]
  | 0, e :: es => by simp [setEnt, entG]
  | i + 1, e :: es => by simp [setEnt, setEnt_map m v k i es]
theorem eraseEnt_map (m : Mp) : ∀ (i : Nat) (es : List MEnt), (eraseEnt i es).map (entG m) = (es.map (entG m)).eraseIdx i
  | _, [] => by simp [eraseEnt]
  | 0, e :: es => by simp [eraseEnt]
  | i + 1, e :: es => by simp [eraseEnt, eraseEnt_map m i es]
omit [Rho] in
theorem setEnt_mem {v k : AVal} : ∀ (i : Nat) (es : List MEnt) (e : MEnt), e ∈ setEnt v k i es → e ∈ es ∨ (e.key = k ∧ e.val = v)
  | _, [], e, h => by simp [setEnt] at h
  | 0, q :: es, e, h => by
    simp only [setEnt, List.mem_cons] at h
    rcases h with rfl | h
    · exact .inr ⟨rfl, rfl⟩
    · exact .inl (List.mem_cons_of_mem _ h)
  | i + 1, q :: es, e, h => by
    simp only [setEnt, List.mem_cons] at h
    rcases h with rfl | h
    · exact .inl (List.mem_cons_self ..)
    · rcases setEnt_mem i es e h with h | h
      · exact .inl (List.mem_cons_of_mem _ h)
      · exact .inr h
omit [Rho] in
theorem eraseEnt_mem : ∀ (i : Nat) (es : List MEnt) (e : MEnt), e ∈ eraseEnt i es → e ∈ es
  | _, [], e, h => by simp [eraseEnt] at h
  | 0, q :: es, e, h => List.mem_cons_of_mem _ h
  | i + 1, q :: es, e, h => by
    simp only [eraseEnt, List.mem_cons] at h
    rcases h with rfl | h
    · exact List.mem_cons_self ..
    · exact List.mem_cons_of_mem _ (eraseEnt_mem i es e h)
omit [Rho] in
theorem run_setObj_map {w : World} {r : Nat} {es : Array MapEntry} {cl : Nat} (h : w.heap[r]? = some (.map es cl)) (o : Obj) : (setObj r o).run P w = .ok () { w with heap := w.heap.setIfInBounds r o } := by
  simp [setObj, Sem.run, h]
omit [Rho] in
theorem findA_at {k : AVal} : ∀ (es : List MEnt) (i : Nat) (j : Nat) (v : AVal), findA k es i = some (some (j, v)) → ∃ e, es[j - i]? = some e ∧ i ≤ j ∧ e.key = k
  | [], i, j, v, h => by cases h
  | e :: es, i, j, v, h => by
    simp only [findA] at h
    cases hs : sameK k e.key with
    | none => rw [hs] at h; cases h
    | some q =>
      rw [hs] at h
      cases q with
      | true => simp only [Option.some.injEq, Prod.mk.injEq] at h; obtain ⟨rfl, rfl⟩ := h; exact ⟨e, by simp, Nat.le_refl _, (sameK_eq hs).symm⟩
      | false =>
        obtain ⟨e', h2, h3, h4⟩ := findA_at es (i + 1) j v h
        refine ⟨e', ?_, by omega, h4⟩
        rw [show j - i = (j - (i + 1)) + 1 by omega]; simpa using h2
/-- 'm[k] = v' at a map that is there. -/
theorem update_run (ok : EnvOk P E) {m : Mp} {h : Heap} {w : World} (hr : Rep E.gl S m h w) {t : TypeId} {a k v : AVal} (hk : In (dom h) k) (hv : In (dom h) v) :
    WrGood P E S m h w (do Instr.mapUpdate t (γ m a) (γ m k) (γ m v); pure .skip) ((updateK E t).f h a k v) := by
  unfold updateK
  cases hu : E.und t with
  | none => exact trivial
  | some d =>
    cases d <;> try (exact trivial)
    rename_i kt et
    simp only
    cases a <;> try (exact trivial)
    rename_i n
    simp only
    cases hq : (keyOkK E kt).f k k with
    | none => exact trivial
    | some b =>
      simp only
      cases hob : (h.at n).obj <;> try (exact trivial)
      rename_i es cl
      simp only
      cases hf : findA k es 0 with
      | none => exact trivial
      | some r =>
        obtain ⟨hd, m1, m2⟩ := hr.map_at hob
        have hnc : (h.at n).obj.noCells = true := by rw [hob]; rfl
        have hru := ok.run_und hu w
        have hck := keyOk_run (P := P) (m := m) ok hq false w
        have hfr := find_run (m := m) ok hq w hf
        cases r with
        | none =>
          simp only
          obtain ⟨q1, q2, q3⟩ := hr.noCells_alone (n := n) hnc (.map (es ++ [(⟨k, v, cl⟩ : MEnt)]) (cl + 1)) (.map ⟨(es ++ [(⟨k, v, cl⟩ : MEnt)]).map (entG m)⟩ (cl + 1)) (w' := { w with heap := w.heap.setIfInBounds (m.b n) (.map ⟨(es ++ [(⟨k, v, cl⟩ : MEnt)]).map (entG m)⟩ (cl + 1)) })
            (by simp) rfl (fun e he => by
              rcases List.mem_append.1 he with he | he
              · exact m2 e he
              · rw [List.mem_singleton] at he; subst he; exact ⟨hk, hv⟩) rfl rfl rfl rfl
          refine ⟨m, _, .skip, ?_, .inr ⟨rfl, rfl⟩, q1, q2, trivial, rfl⟩
          simp only [Instr.mapUpdate, Sem.run_bind, hru, Result.andThen_ok, γ, run_getObj_map m1, hck, hfr, found]
          rw [run_setObj_map m1]
          have e9 : (⟨es.map (entG m)⟩ : Array MapEntry).push { key := γ m k, val := γ m v, born := cl } = ⟨(es ++ [(⟨k, v, cl⟩ : MEnt)]).map (entG m)⟩ := by apply Array.ext'; simp [entG]
          rw [e9]; rfl
        | some p =>
          obtain ⟨i, u⟩ := p
          simp only
          obtain ⟨q1, q2, q3⟩ := hr.noCells_alone (n := n) hnc (.map (setEnt v k i es) cl) (.map ⟨(setEnt v k i es).map (entG m)⟩ cl) (w' := { w with heap := w.heap.setIfInBounds (m.b n) (.map ⟨(setEnt v k i es).map (entG m)⟩ cl) })
            (by simp) rfl (fun e he => by
              rcases setEnt_mem i es e he with he | ⟨h1, h2⟩
              · exact m2 e he
              · rw [h1, h2]; exact ⟨hk, hv⟩) rfl rfl rfl rfl
          refine ⟨m, _, .skip, ?_, .inr ⟨rfl, rfl⟩, q1, q2, trivial, rfl⟩
          obtain ⟨e, e1, _, e2⟩ := findA_at es 0 i u hf
          have hold : ((((⟨es.map (entG m)⟩ : Array MapEntry)[i]?).map (·.key)).getD (γ m k)) = γ m k := by
            have e1' : es[i]? = some e := by simpa using e1
            simp [e1', entG, e2]
          have hks : (Instr.keyThatStays (γ m k) (γ m k)).run P w = .ok (γ m k) w := by simp [Instr.keyThatStays, key_bits (m := m) hq]
          simp only [Instr.mapUpdate, Sem.run_bind, hru, Result.andThen_ok, γ, run_getObj_map m1, hck, hfr, found, hold, hks]
          rw [run_setObj_map m1]
          have e9 : (⟨es.map (entG m)⟩ : Array MapEntry).modify i (fun e => { key := γ m k, val := γ m v, born := e.born }) = ⟨(setEnt v k i es).map (entG m)⟩ := by apply Array.ext'; rw [setEnt_map]; simp
          rw [e9]; rfl
theorem mapUpdate_ok (ok : EnvOk P E) (t : TypeId) (a k v : Operand) : OpOk P E (.mapUpdate t a k v) (opK0 E (.mapUpdate t a k v)) := fun S m h tm ρ w o ho hr hs => by
  obtain ⟨h1, _⟩ := src_ok (E := E) hs a
  obtain ⟨g1, g2⟩ := src_ok (E := E) hs k
  obtain ⟨k1, k2⟩ := src_ok (E := E) hs v
  have := update_run (P := P) ok hr (t := t) (a := (srcK E a).g tm) g2 k2
  rw [← h1, ← g1, ← k1] at this
  have e : execOp ρ o = (do Instr.mapUpdate t (ρ a) (ρ k) (ρ v); pure .skip) := by simp only [execOp, ho]
  rw [e]; exact this
theorem insert_ok (ok : EnvOk P E) (t : TypeId) (a k v : Operand) : OpOk P E (.insert t a k v) (opK0 E (.insert t a k v)) := fun S m h tm ρ w o ho hr hs => by
  obtain ⟨h1, _⟩ := src_ok (E := E) hs a
  obtain ⟨g1, g2⟩ := src_ok (E := E) hs k
  obtain ⟨k1, k2⟩ := src_ok (E := E) hs v
  have := update_run (P := P) ok hr (t := t) (a := (srcK E a).g tm) g2 k2
  rw [← h1, ← g1, ← k1] at this
  have e : execOp ρ o = (do Instr.mapUpdate t (ρ a) (ρ k) (ρ v); pure .skip) := by simp only [execOp, ho]
  rw [e]; exact this
theorem delete_ok (ok : EnvOk P E) {c : Call} {x y : Operand} (hc : c.callee = .builtin .delete) (ha : c.args.toList = [x, y]) :
    OpOk P E (.call c) (.wr fun tm h => (deleteK E c.argTypes.toList).f h ((srcK E x).g tm) ((srcK E y).g tm)) := fun S m h tm ρ w o ho hr hs => by
  obtain ⟨h1, _⟩ := src_ok (E := E) hs x
  obtain ⟨g1, g2⟩ := src_ok (E := E) hs y
  simp only
  generalize (srcK E x).g tm = a at h1
  generalize (srcK E y).g tm = k at g1 g2
  rw [builtin_exec ho hc, args_eq ha]
  unfold deleteK
  cases hts : c.argTypes.toList with
  | nil => exact trivial
  | cons t ts =>
    simp only
    cases hu : E.und t with
    | none => exact trivial
    | some d =>
      cases d <;> try (exact trivial)
      rename_i kt et
      simp only
      cases a <;> try (exact trivial)
      rename_i n
      simp only
      cases hq : (keyOkK E kt).f k k with
      | none => exact trivial
      | some b =>
        simp only
        cases hob : (h.at n).obj <;> try (exact trivial)
        rename_i es cl
        simp only
        cases hf : findA k es 0 with
        | none => exact trivial
        | some r =>
          obtain ⟨hd, m1, m2⟩ := hr.map_at hob
          have hnc : (h.at n).obj.noCells = true := by rw [hob]; rfl
          have hru := ok.run_und hu w
          have hck := fun e => keyOk_run (P := P) (m := m) ok hq e w
          have hfr := find_run (m := m) ok hq w hf
          rw [types_eq hts]
          cases r with
          | none =>
            simp only
            obtain ⟨q1, q2, q3⟩ := hr.noCells_alone (n := n) hnc (.map es cl) (.map ⟨es.map (entG m)⟩ cl) (w' := { w with heap := w.heap.setIfInBounds (m.b n) (.map ⟨es.map (entG m)⟩ cl) }) (by simp) rfl m2 rfl rfl rfl rfl
            refine ⟨m, _, .value (.tuple #[]), ?_, .inl rfl, q1, q2, trivial, rfl⟩
            simp only [List.map_cons, List.map_nil, h1, g1, γ]
            simp [builtin, Builtin.delete_, hru, run_getObj_map m1, hck, hfr, found, run_setObj_map m1]
          | some p =>
            obtain ⟨i, u⟩ := p
            simp only
            obtain ⟨q1, q2, q3⟩ := hr.noCells_alone (n := n) hnc (.map (eraseEnt i es) cl) (.map ⟨(eraseEnt i es).map (entG m)⟩ cl) (w' := { w with heap := w.heap.setIfInBounds (m.b n) (.map ⟨(eraseEnt i es).map (entG m)⟩ cl) })
              (by simp) rfl (fun e he => m2 e (eraseEnt_mem i es e he)) rfl rfl rfl rfl
            refine ⟨m, _, .value (.tuple #[]), ?_, .inl rfl, q1, q2, trivial, rfl⟩
            simp only [List.map_cons, List.map_nil, h1, g1, γ]
            simp [builtin, Builtin.delete_, hru, run_getObj_map m1, hck, hfr, found, run_setObj_map m1, eraseEnt_map]
end
end Go.Ev

namespace Go.Ev
variable [Rho] {S : Nat → Prop}
section
variable {P : Program} {E : Env}

theorem Rep.heap_eq {G : Tabs} {m : Mp} {h : Heap} {w w' : World} (r : Rep G S m h w) (e : w'.heap = w.heap) : Rep G S m h w' :=
  ⟨fun n hn => by rw [e]; exact r.blk n hn, r.fresh, r.apart, r.mem, r.rts, r.ins, fun g l hg => by rw [e]; exact r.glob g l hg, fun n id hn w2 hw2 => r.sem n id hn w2 fun b hb hS hk => by rw [hw2 b (by rw [e]; exact hb) hS hk, e], fun b hb => by rw [e]; exact r.lim b hb⟩
theorem srcLen_spec {x : AVal} {k : Nat → OR} {r : OR} (h : srcLen x .fail k = r) (hr : r ≠ .fail) : ∃ n, (∀ m w, (Builtin.lenOf (γ m x)).run P w = .ok n w) ∧ k n = r ∧ (∀ s, x = .str s → n = s.length) ∧ (x = .slcNil → n = 0) := by
  unfold srcLen at h
  cases x <;> try (exact absurd h.symm hr)
  · rename_i n off l c
    refine ⟨l, fun m w => ?_, h, fun s e => (by cases e), fun e => (by cases e)⟩
    cases c <;> simp [γ, Builtin.lenOf]
  · rename_i s
    change forceN s.length k = r at h
    rw [forceN_spec] at h
    exact ⟨s.length, fun m w => by simp [γ, Builtin.lenOf]; rfl, h, fun s' e => by cases e; rfl, fun e => (by cases e)⟩
  · exact ⟨0, fun m w => by simp [γ, Builtin.lenOf], h, fun s e => (by cases e), fun _ => rfl⟩
/-- The cells of what is appended or copied. -/
theorem srcCells_spec {m : Mp} {h : Heap} {w0 : World} (hr0 : Rep E.gl S m h w0) {size n : Nat} {x : AVal} {l : List AVal} (e : srcCells h size n x = some l) :
    InL (dom h) l ∧ (∀ w, Rep E.gl S m h w → (Builtin.firstCells size n (γ m x)).run P w = .ok ⟨γs m l⟩ w) ∧ ((∀ s, x = .str s → n ≤ s.length) → (x = .slcNil → n = 0) → l.length = n * size) := by
  unfold srcCells at e
  cases x <;> try (cases e; done)
  · rename_i q off len c
    simp only at e
    refine ⟨(hr0.loadN e).2.1, fun w hr => ?_, fun _ _ => (hr0.loadN e).1⟩
    have := hr.run_loadN (P := P) e
    cases c <;> exact this
  · rename_i s
    simp only at e
    obtain ⟨h1, h2⟩ := cond_some' e
    cases h2
    have h1' := beq_iff.1 h1
    refine ⟨InL_byteVals _, fun w _ => ?_, fun hs _ => ?_⟩
    · simp only [γ, Builtin.firstCells, extract_bytes, List.drop_zero, Nat.sub_zero, byteVals_map]
      simp
    · rw [byteVals_length, List.length_take, Nat.min_eq_left (hs s rfl), h1', Nat.mul_one]
  · cases e
    exact ⟨trivial, fun w _ => by simp [γ, Builtin.firstCells, γs], fun _ h0 => by rw [h0 rfl]; simp⟩
omit [Rho] in
theorem roomy_spec {b n : Nat} (h : roomy b n = true) : (8 * n + 4096) * b ≤ 281474976710656 ∧ n ≤ 281474976710656 ∧ 0 < b := by
  unfold roomy at h
  rw [Bool.and_eq_true, Bool.and_eq_true] at h
  exact ⟨ble_iff.1 h.1, ble_iff.1 h.2.1, blt_iff.1 h.2.2⟩
/-- The world behind a growing append. -/
def grownW (w : World) (o : Obj) : World := { w with heap := w.heap.push o, drawn := w.drawn + 1 }
theorem append_grow {m : Mp} {h : Heap} {w : World} (hr : Rep E.gl S m h w) (ok : EnvOk P E) {st xt e : TypeId} {i : TypeInfo} {d : TypeDesc} (hst : E.und st = some (.slice e)) (hxt : E.und xt = some d) (hd : ∀ k, d ≠ .int k)
    (hi : E.ty e = some i) {z : List AVal} (hz : zerosOf E e 0 = some z) (ty : TypeId) {base : Option Addr} {sLen sCap n : Nat} {x : AVal} {old new : List AVal}
    (hlen : (Builtin.lenOf (γ m x)).run P w = .ok n w) (hnew : ∀ w, Rep E.gl S m h w → (Builtin.firstCells i.size n (γ m x)).run P w = .ok ⟨γs m new⟩ w)
    (hold : ∀ w, Rep E.gl S m h w → (Builtin.firstCells i.size sLen (.slice base sLen sCap)).run P w = .ok ⟨γs m old⟩ w)
    (hgt : sCap < sLen + n) (hroom : roomy i.bytes (sLen + n) = true) (hl : (old ++ new).length = (sLen + n) * i.size) :
    ∃ cap rest, sLen + n ≤ cap ∧ (γs m (old ++ new) ++ rest).length = cap * i.size ∧
      (Builtin.append_ #[st, xt] ty #[.slice base sLen sCap, γ m x]).run P w = .ok (.slice (some ⟨w.heap.size, 0, none⟩) (sLen + n) cap) (grownW w (.cells ⟨γs m (old ++ new) ++ rest⟩ e)) := by
  obtain ⟨i', v, i1, i2, i3, i4, _⟩ := zerosOf_spec ok hz
  rw [hi] at i2; cases i2
  obtain ⟨r1, r2, r3⟩ := roomy_spec hroom
  have hcapge : sLen + n ≤ (Question.appendCap (sLen + n) sCap e).cut (w.tape w.drawn (Question.appendCap (sLen + n) sCap e)) := by
    simp only [Question.cut]; omega
  generalize hcv : (Question.appendCap (sLen + n) sCap e).cut (w.tape w.drawn (Question.appendCap (sLen + n) sCap e)) = cap at hcapge
  have hz0 : v.cells.size = i.size := by
    have hzc : v.cells = ⟨γs m (AVal.ofValue v).cells⟩ := by rw [← γ_cells (D := fun _ => False) m (In_ofValue _ v), γ_ofValue]
    rw [hzc]; simp [γs_length, i4]
  refine ⟨cap, (Builtin.zeroCells v.cells (cap - (sLen + n))).toList, hcapge, ?_, ?_⟩
  · rw [List.length_append, γs_length, hl, Array.length_toList, size_zeroCells, hz0, ← Nat.add_mul]; congr 1; omega
  · have hg : Builtin.nextslicecap (sLen + n) sCap * i.bytes ≤ 281474976710656 := growslice_fits hgt (by
      have : (sLen + n) * i.bytes ≤ (8 * (sLen + n) + 4096) * i.bytes / 2 := by
        rw [Nat.le_div_iff_mul_le (by omega)]
        rw [Nat.mul_assoc, Nat.mul_comm i.bytes 2, ← Nat.mul_assoc]
        exact Nat.mul_le_mul_right _ (by omega)
      omega)
    have hforced : (Question.appendCap (sLen + n) sCap e).forced = false := rfl
    have hn : ¬ (sLen + n ≤ sCap) := by omega
    have h63' : ¬ (9223372036854775807 < ((sLen : Int) + (n : Int))) := by omega
    have h48' : ¬ (281474976710656 < Builtin.nextslicecap (sLen + n) sCap * i.bytes) := by omega
    simp [Builtin.append_, run_underlying (ok.und hst), run_underlying (ok.und hxt), Go.sizeOf, typeInfo, zeroValue, i1, i3, hlen, hn, h63', h48', hforced, newRow, hcv]
    rw [hold w.drew (hr.heap_eq rfl)]
    simp only [Result.andThen_ok]
    rw [hnew w.drew (hr.heap_eq rfl)]
    simp only [Result.andThen_ok]
    have e : ((⟨γs m old⟩ : Array Value) ++ ((⟨γs m new⟩ : Array Value) ++ Builtin.zeroCells v.cells (cap - (sLen + n)))) = ⟨γs m (old ++ new) ++ (Builtin.zeroCells v.cells (cap - (sLen + n))).toList⟩ := by
      apply Array.ext'; simp [γs_append]
    rw [e]; rfl
theorem append_room {m : Mp} {h : Heap} {w w' : World} (hr : Rep E.gl S m h w) (ok : EnvOk P E) {st xt e : TypeId} {i : TypeInfo} {d : TypeDesc} (hst : E.und st = some (.slice e)) (hxt : E.und xt = some d) (hd : ∀ k, d ≠ .int k)
    (hi : E.ty e = some i) (ty : TypeId) {b off sLen sCap n : Nat} {x : AVal} {new : List AVal}
    (hlen : (Builtin.lenOf (γ m x)).run P w = .ok n w) (hnew : ∀ w, Rep E.gl S m h w → (Builtin.firstCells i.size n (γ m x)).run P w = .ok ⟨γs m new⟩ w)
    (hle : sLen + n ≤ sCap) (hst' : (storeCells ⟨b, off + sLen * i.size, none⟩ (γs m new)).run P w = .ok () w') :
    (Builtin.append_ #[st, xt] ty #[.slice (some ⟨b, off, none⟩) sLen sCap, γ m x]).run P w = .ok (.slice (some ⟨b, off, none⟩) (sLen + n) sCap) w' := by
  have hn := hnew w hr
  have hadd : (⟨b, off, none⟩ : Addr).add (sLen * i.size) = ⟨b, off + sLen * i.size, none⟩ := add_at _ _ _
  simp [Builtin.append_, run_underlying (ok.und hst), run_underlying (ok.und hxt), Go.sizeOf, typeInfo, ok.ty e i hi, hlen, hle, hn, hadd, hst']
theorem append_nil {m : Mp} {h : Heap} {w : World} (hr : Rep E.gl S m h w) (ok : EnvOk P E) {st xt e : TypeId} {i : TypeInfo} {d : TypeDesc} (hst : E.und st = some (.slice e)) (hxt : E.und xt = some d) (hd : ∀ k, d ≠ .int k)
    (hi : E.ty e = some i) (ty : TypeId) {x : AVal} {new : List AVal}
    (hlen : (Builtin.lenOf (γ m x)).run P w = .ok 0 w) (hnew : ∀ w, Rep E.gl S m h w → (Builtin.firstCells i.size 0 (γ m x)).run P w = .ok ⟨γs m new⟩ w) :
    (Builtin.append_ #[st, xt] ty #[.slice none 0 0, γ m x]).run P w = .ok (.slice none 0 0) w := by
  have hn := hnew w hr
  simp [Builtin.append_, run_underlying (ok.und hst), run_underlying (ok.und hxt), Go.sizeOf, typeInfo, ok.ty e i hi, hlen, hn]
end
end Go.Ev

namespace Go.Ev
variable [Rho] {S : Nat → Prop}
section
variable {P : Program} {E : Env}

omit [Rho] in
theorem capOr_exact {R : Type} (c : Nat) (k m : Nat → R) : capOr (.exact c) k m = k c := rfl
theorem Rep.forgot0 {G : Tabs} {m : Mp} {h : Heap} {w : World} (r : Rep G S m h w) {n : Pos} {x : List AVal} {e s : TypeId} {off : Nat}
    (ho : (h.at n).obj = .cells x e s) (hox : off ≤ x.length) :
    let h' : Heap := ⟨forget off h.nx (n :: h.al.get [] (h.at n).rt) h.t, h.nx, h.al, h.df⟩
    Rep G S m h' w ∧ Goes m h w m h' w ∧ (∀ k, dom h' k ↔ dom h k) ∧ h'.at n = ⟨.cells (x.take off) e s, (h.at n).rt⟩ ∧ (∀ k, (h'.at k).rt = (h.at k).rt) := by
  intro h'
  obtain ⟨_, _, rest, fz, hh, hc, hf⟩ := r.cells ho
  have := r.forgot (vs := []) ho hh hc hf hox (by simp [γs_length]; omega)
  simp only [List.nil_append, List.length_nil, Nat.add_zero, List.take_append_drop] at this
  rw [show (γs m x ++ rest).toArray = (⟨γs m x ++ rest⟩ : Array Value) from rfl, setRow_self w _ _ _ _ hh] at this
  exact this
theorem append_ok (ok : EnvOk P E) {c : Call} {x y : Operand} (hc : c.callee = .builtin .append) (ha : c.args.toList = [x, y]) :
    OpOk P E (.call c) (.wr fun tm h => (appendK E c.argTypes.toList).f h ((srcK E x).g tm) ((srcK E y).g tm)) := fun S m h tm ρ w o ho hr hs => by
  obtain ⟨h1, h2⟩ := src_ok (E := E) hs x
  obtain ⟨g1, g2⟩ := src_ok (E := E) hs y
  simp only
  generalize (srcK E x).g tm = a at h1 h2
  generalize (srcK E y).g tm = b at g1 g2
  rw [builtin_exec ho hc, args_eq ha]
  -- the types
  have key : ∀ st xt, c.argTypes.toList = [st, xt] → ∀ e, E.und st = some (.slice e) → ∀ d, E.und xt = some d → (∀ k, d ≠ .int k) → ∀ i, E.ty e = some i → ∀ z, zerosOf E e 0 = some z →
      ∀ r, (srcLen b .fail fun n => Option.casesOn (srcCells h i.size n b) .fail fun new => appendTo e i.size i.bytes h a n new) = r →
      WrGood P E S m h w (builtin .append c.argTypes o.type (c.args.map fun | .const _ => true | _ => false) ⟨[x, y].map ρ⟩) r := by
    intro st xt hts e hst d hxt hd i hi z hz r hr'
    by_cases hfail : r = .fail
    · subst hfail; exact trivial
    obtain ⟨n, hlen, hk, hstr, hnil⟩ := srcLen_spec hr' hfail
    cases hsc : srcCells h i.size n b with
    | none => rw [hsc] at hk; exact absurd hk.symm hfail
    | some new =>
      rw [hsc] at hk
      simp only at hk
      obtain ⟨n1, n2, n3⟩ := srcCells_spec (P := P) hr hsc
      have n3 := n3 (fun s e => by rw [hstr s e]; exact Nat.le_refl _) hnil
      rw [types_eq hts]
      simp only [List.map_cons, List.map_nil, h1, g1]
      have fin : ∀ {val : Value} {w' : World}, (Builtin.append_ #[st, xt] o.type #[γ m a, γ m b]).run P w = .ok val w' → (builtin .append ⟨[st, xt]⟩ o.type (c.args.map fun | .const _ => true | _ => false) ⟨[γ m a, γ m b]⟩).run P w = .ok (.value val) w' := fun {val w'} hh => by
        show ((do pure (Next.value (← Builtin.append_ #[st, xt] o.type #[γ m a, γ m b])) : Sem Next)).run P w = _
        simp [hh]
      unfold appendTo at hk
      cases a <;> try (exact absurd hk.symm hfail)
      case slcNil =>
        simp only at hk
        cases hn0 : Nat.beq n 0 with
        | true =>
          rw [hn0] at hk
          simp only [cond_true] at hk
          subst hk
          have := beq_iff.1 hn0; subst this
          exact ⟨m, w, _, fin (append_nil hr ok hst hxt hd hi o.type (hlen m w) n2), .inl rfl, hr, Goes.refl m h w, trivial, rfl⟩
        | false =>
          rw [hn0] at hk
          simp only [cond_false] at hk
          cases hro : roomy i.bytes n with
          | false => rw [hro] at hk; exact absurd hk.symm hfail
          | true =>
            rw [hro] at hk
            simp only [cond_true] at hk
            subst hk
            have hn : 0 < n := by
              rcases Nat.eq_zero_or_pos n with h0 | h0
              · subst h0; cases hn0
              · exact h0
            obtain ⟨cap, rest, k1, k2, k3⟩ := append_grow (P := P) hr ok hst hxt hd hi hz o.type (base := none) (sLen := 0) (sCap := 0) (old := []) (new := new) (hlen m w) n2 (fun w' _ => by simp [Builtin.firstCells, γs]) (by omega) (by simpa using hro) (by simpa using n3)
            simp only [List.nil_append, Nat.zero_add] at k1 k2 k3
            obtain ⟨q1, q2, q3⟩ := hr.pushed (ob := .cells new e i.size) (o := .cells ⟨γs m new ++ rest⟩ e) (w' := grownW w (.cells ⟨γs m new ++ rest⟩ e)) (cap := cap) ⟨rfl, rfl, rfl, rfl⟩ (by simp)
              ⟨rest, (0, 0), by rw [γs_fresh (D := dom h) (fun hd => Nat.lt_irrefl _ (hr.fresh _ hd)) n1], by rw [γs_fresh (D := dom h) (fun hd => Nat.lt_irrefl _ (hr.fresh _ hd)) n1, Mp.set_c_same]; exact k2, fun j _ => by simp⟩ n1
            refine ⟨_, _, _, fin k3, .inl ?_, q1, q2, q3, rfl⟩
            simp [γ, Mp.set, Mp.c]
      case slc mm off len cp =>
        simp only [forceN_spec] at hk
        cases cp with
        | exact cc =>
          simp only [capOr] at hk
          cases hle : Nat.ble (Nat.add len n) cc with
          | true =>
            rw [hle] at hk
            simp only [cond_true] at hk
            cases hst2 : h.store mm (Nat.add off (Nat.mul len i.size)) new with
            | none => rw [hst2] at hk; exact absurd hk.symm hfail
            | some h' =>
              rw [hst2] at hk
              simp only at hk
              subst hk
              obtain ⟨w', s1, s2, s3, s4, s5⟩ := hr.store hst2 n1 P
              have ar := append_room (P := P) hr ok hst hxt hd hi o.type (b := m.b mm) (off := off) (sLen := len) (sCap := cc) (hlen m w) n2 (ble_iff.1 hle) s1
              exact ⟨m, w', _, fin ar, .inl rfl, s2, s3, (s5 mm).2 h2, s4⟩
          | false =>
            rw [hle] at hk
            simp only [cond_false] at hk
            cases hro : roomy i.bytes (Nat.add len n) with
            | false => rw [hro] at hk; exact absurd hk.symm hfail
            | true =>
              rw [hro] at hk
              simp only [cond_true] at hk
              cases hl : h.loadN mm off (Nat.mul len i.size) with
              | none => rw [hl] at hk; exact absurd hk.symm hfail
              | some old =>
                rw [hl] at hk
                simp only at hk
                subst hk
                have hgt : cc < len + n := by
                  rcases Nat.lt_or_ge cc (len + n) with h0 | h0
                  · exact h0
                  · have : Nat.ble (Nat.add len n) cc = true := ble_iff.2 h0
                    rw [this] at hle; cases hle
                obtain ⟨l1, l2, _⟩ := hr.loadN hl
                have l1' : old.length = len * i.size := l1
                obtain ⟨cap, rest, k1, k2, k3⟩ := append_grow (P := P) hr ok hst hxt hd hi hz o.type (base := some ⟨m.b mm, off, none⟩) (sLen := len) (sCap := cc) (old := old) (new := new) (hlen m w) n2
                  (fun w' hr' => by simp only [Builtin.firstCells]; exact hr'.run_loadN hl) hgt hro (by rw [List.length_append, l1', n3, Nat.add_mul])
                have hin : InL (dom h) (old ++ new) := (InL_iff _).2 fun v hv => by
                  rcases List.mem_append.1 hv with hv | hv
                  · exact (InL_iff _).1 l2 v hv
                  · exact (InL_iff _).1 n1 v hv
                rw [appA_spec]
                obtain ⟨q1, q2, q3⟩ := hr.pushed (ob := .cells (old ++ new) e i.size) (o := .cells ⟨γs m (old ++ new) ++ rest⟩ e) (w' := grownW w (.cells ⟨γs m (old ++ new) ++ rest⟩ e)) (cap := cap) ⟨rfl, rfl, rfl, rfl⟩ (by simp)
                  ⟨rest, (0, 0), by rw [γs_fresh (D := dom h) (fun hd => Nat.lt_irrefl _ (hr.fresh _ hd)) hin], by rw [γs_fresh (D := dom h) (fun hd => Nat.lt_irrefl _ (hr.fresh _ hd)) hin, Mp.set_c_same]; exact k2, fun j _ => by simp⟩ hin
                refine ⟨_, _, _, fin k3, .inl ?_, q1, q2, q3, rfl⟩
                simp [γ, Mp.set, Mp.c]
        | rest dd =>
          simp only [capOr] at hk
          cases hz2 : (Nat.beq dd 0 && Nat.beq off 0) with
          | false => rw [hz2] at hk; exact absurd hk.symm hfail
          | true =>
            rw [hz2] at hk
            rw [Bool.and_eq_true] at hz2
            have := beq_iff.1 hz2.1; subst this
            have := beq_iff.1 hz2.2; subst this
            simp only [cond_true] at hk
            cases hob : (h.at mm).obj <;> rw [hob] at hk <;> try (exact absurd hk.symm hfail)
            rename_i xs e' s'
            simp only [cellsOf] at hk
            cases hq : (Nat.beq e' e && (Nat.beq s' i.size && Nat.blt 0 i.size)) with
            | false => rw [hq] at hk; exact absurd hk.symm hfail
            | true =>
              rw [hq] at hk
              rw [Bool.and_eq_true, Bool.and_eq_true] at hq
              have := beq_iff.1 hq.1; subst this
              have := beq_iff.1 hq.2.1; subst this
              have hpos := blt_iff.1 hq.2.2
              simp only [cond_true] at hk
              cases ht : takeA (Nat.mul len i.size) xs with
              | none => rw [ht] at hk; exact absurd hk.symm hfail
              | some old =>
                rw [ht] at hk
                simp only at hk
                obtain ⟨t1, t2⟩ := takeA_spec _ _ _ ht
                have t1' : len * i.size ≤ xs.length := t1
                have t2' : old = xs.take (len * i.size) := t2
                obtain ⟨hdm, hix, rst, fz, hh, hlenA, hfz⟩ := hr.cells hob
                have hcap : len ≤ m.c mm := by
                  have h6 : xs.length ≤ m.c mm * i.size := by rw [← hlenA]; simp [γs_length]
                  exact Nat.le_of_mul_le_mul_right (Nat.le_trans t1' h6) hpos
                cases hn0 : Nat.beq n 0 with
                | true =>
                  rw [hn0] at hk
                  simp only [cond_true] at hk
                  subst hk
                  have := beq_iff.1 hn0; subst this
                  have hnew0 : new = [] := by
                    have : new.length = 0 := by rw [n3]; simp
                    exact List.eq_nil_of_length_eq_zero this
                  subst hnew0
                  have ar := append_room (P := P) hr ok hst hxt hd hi o.type (b := m.b mm) (off := 0) (sLen := len) (sCap := m.c mm) (w' := w) (hlen m w) n2 (by simpa using hcap) (by simp [γs, storeCells])
                  refine ⟨m, w, _, fin (by simpa [γ] using ar), .inl rfl, hr, Goes.refl m h w, h2, rfl⟩
                | false =>
                  rw [hn0] at hk
                  simp only [cond_false] at hk
                  cases hro : (roomy i.bytes (Nat.add len n) && flats new) with
                  | false => rw [hro] at hk; exact absurd hk.symm hfail
                  | true =>
                    rw [hro] at hk
                    rw [Bool.and_eq_true] at hro
                    simp only [cond_true] at hk
                    subst hk
                    rw [appA_spec]
                    have hin : InL (dom h) (old ++ new) := (InL_iff _).2 fun v hv => by
                      rcases List.mem_append.1 hv with hv | hv
                      · rw [t2'] at hv; exact (InL_iff _).1 hix v (List.mem_of_mem_take hv)
                      · exact (InL_iff _).1 n1 v hv
                    have holdlen : old.length = len * i.size := by rw [t2', List.length_take, Nat.min_eq_left t1']
                    have hfresh : ¬ dom h h.nx := fun hd => Nat.lt_irrefl _ (hr.fresh _ hd)
                    by_cases hfit : len + n ≤ m.c mm
                    · -- in its place
                      have hle2 : len * i.size + (γs m new).length ≤ (γs m xs ++ rst).length := by
                        rw [hlenA, γs_length, n3, ← Nat.add_mul]; exact Nat.mul_le_mul_right _ hfit
                      have hrun := run_storeCells_nf P (m.b mm) (0 + len * i.size) _ fz (γs m new) 0 ⟨γs m xs ++ rst⟩ w hh hfz (by simpa using hle2) (flats_spec m new hro.2)
                      simp only [Nat.zero_add, Nat.add_zero] at hrun
                      rw [show ((γs m xs ++ rst).take (len * i.size) ++ γs m new ++ (γs m xs ++ rst).drop (len * i.size + (γs m new).length)) = (γs m xs ++ rst).take (len * i.size) ++ (γs m new ++ (γs m xs ++ rst).drop (len * i.size + (γs m new).length)) by simp] at hrun
                      have ar := append_room (P := P) hr ok hst hxt hd hi o.type (b := m.b mm) (off := 0) (sLen := len) (sCap := m.c mm) (hlen m w) n2 hfit (by rw [Nat.zero_add]; exact hrun)
                      obtain ⟨f1, f2, f3, f4, f5⟩ := hr.forgot (vs := γs m new) hob hh hlenA hfz t1' hle2
                      have hA : (γs m xs ++ rst).take (len * i.size) = γs m old := by
                        rw [List.take_append_of_le_length (by rw [γs_length]; exact t1'), t2', γs_map, γs_map, List.map_take]
                      have hself := setRow_heap w (m.b mm) _ ((γs m xs ++ rst).take (len * i.size) ++ (γs m new ++ (γs m xs ++ rst).drop (len * i.size + (γs m new).length))).toArray _ fz hh
                      have hin' : InL (dom (⟨forget (len * i.size) h.nx (mm :: h.al.get [] (h.at mm).rt) h.t, h.nx, h.al, h.df⟩ : Heap)) (old ++ new) := InL_mono (fun k hk => (f3 k).2 hk) _ hin
                      have hfr2 : ¬ dom (⟨forget (len * i.size) h.nx (mm :: h.al.get [] (h.at mm).rt) h.t, h.nx, h.al, h.df⟩ : Heap) h.nx := fun hd => hfresh ((f3 _).1 hd)
                      obtain ⟨q1, q2, q3⟩ := f1.named (n := mm) (y := old ++ new) (e := e') (s := i.size) (cap := m.c mm) (B := m.b mm) (l := h.al.get [] (h.at mm).rt) ((f3 mm).2 hdm) (by rw [f4]; rfl) (by rw [f4]) (.inl rfl) (Nat.le_refl _) hself (fun _ _ => rfl) rfl rfl rfl
                        ⟨(γs m xs ++ rst).drop (len * i.size + (γs m new).length), fz, by
                          have e1 : γs (m.set h.nx (m.b mm) (m.c mm)) (old ++ new) = γs m (old ++ new) := γs_fresh hfr2 hin' _ _
                          have e2 : (γs m xs ++ rst).take (len * i.size) ++ (γs m new ++ (γs m xs ++ rst).drop (len * i.size + (γs m new).length)) = γs m (old ++ new) ++ (γs m xs ++ rst).drop (len * i.size + (γs m new).length) := by
                            rw [hA, γs_append, List.append_assoc]
                          show _ = Obj.cells ⟨γs (m.set h.nx (m.b mm) (m.c mm)) (old ++ new) ++ _⟩ _ _
                          rw [e1, ← e2], by
                          have e1 : γs (m.set h.nx (m.b mm) (m.c mm)) (old ++ new) = γs m (old ++ new) := γs_fresh hfr2 hin' _ _
                          show (γs (m.set h.nx (m.b mm) (m.c mm)) (old ++ new) ++ _).length = _
                          rw [e1, Mp.set_c_same, List.length_append, List.length_drop, hlenA, γs_length, List.length_append, holdlen, γs_length, n3]
                          have : (len + n) * i.size ≤ m.c mm * i.size := Nat.mul_le_mul_right _ hfit
                          rw [Nat.add_mul] at this
                          omega, by
                          have e1 : γs (m.set h.nx (m.b mm) (m.c mm)) (old ++ new) = γs m (old ++ new) := γs_fresh hfr2 hin' _ _
                          show ∀ j, j < (γs (m.set h.nx (m.b mm) (m.c mm)) (old ++ new) ++ _).length → _
                          intro j hj
                          refine hfz j ?_
                          rw [e1, List.length_append, List.length_drop, γs_length, List.length_append, holdlen, γs_length, n3] at hj
                          rw [hlenA] at hj ⊢
                          have : (len + n) * i.size ≤ m.c mm * i.size := Nat.mul_le_mul_right _ hfit
                          rw [Nat.add_mul] at this
                          omega⟩ hin'
                      rw [f5 mm] at q1 q2 q3
                      refine ⟨_, _, _, fin (by simpa [γ] using ar), .inl ?_, q1, Goes.trans hr f1 f2 q2, q3, rfl⟩
                      simp [γ, Mp.set, Mp.c]
                    · -- a new row
                      have hgt : m.c mm < len + n := by omega
                      obtain ⟨cap, rest, k1, k2, k3⟩ := append_grow (P := P) hr ok hst hxt hd hi hz o.type (base := some ⟨m.b mm, 0, none⟩) (sLen := len) (sCap := m.c mm) (old := old) (new := new) (hlen m w) n2
                        (fun w' hr' => by
                          have hl : h.loadN mm 0 (len * i.size) = some old := by
                            unfold Heap.loadN; rw [hob]; simp only [cellsOf, dropA_spec, List.drop_zero]; exact ht
                          simp only [Builtin.firstCells]; exact hr'.run_loadN hl) hgt hro.1 (by rw [List.length_append, holdlen, n3, Nat.add_mul])
                      obtain ⟨f1, f2, f3, f4, f5⟩ := hr.forgot0 hob t1'
                      have hin' : InL (dom (⟨forget (len * i.size) h.nx (mm :: h.al.get [] (h.at mm).rt) h.t, h.nx, h.al, h.df⟩ : Heap)) (old ++ new) := InL_mono (fun k hk => (f3 k).2 hk) _ hin
                      have hfr2 : ¬ dom (⟨forget (len * i.size) h.nx (mm :: h.al.get [] (h.at mm).rt) h.t, h.nx, h.al, h.df⟩ : Heap) h.nx := fun hd => hfresh ((f3 _).1 hd)
                      have e1 : γs (m.set h.nx w.heap.size cap) (old ++ new) = γs m (old ++ new) := γs_fresh hfr2 hin' _ _
                      obtain ⟨q1, q2, q3⟩ := f1.named (n := mm) (y := old ++ new) (e := e') (s := i.size) (cap := cap) (B := w.heap.size) (w' := grownW w (.cells ⟨γs m (old ++ new) ++ rest⟩ e')) (o := .cells ⟨γs m (old ++ new) ++ rest⟩ e') (l := h.al.get [] (h.at mm).rt)
                        ((f3 mm).2 hdm) (by rw [f4]; rfl) (by rw [f4]) (.inr rfl) (by show w.heap.size ≤ (w.heap.push _).size; simp) (by show (w.heap.push _)[w.heap.size]? = some _; simp) (fun b hb => by show (w.heap.push _)[b]? = _; rw [Array.getElem?_push, if_neg (Nat.ne_of_lt hb)]) rfl rfl rfl
                        ⟨rest, (0, 0), by show _ = Obj.cells ⟨γs (m.set h.nx w.heap.size cap) (old ++ new) ++ _⟩ _ _; rw [e1], by show (γs (m.set h.nx w.heap.size cap) (old ++ new) ++ _).length = _; rw [e1, Mp.set_c_same]; exact k2, fun j _ => by simp⟩ hin'
                      rw [f5 mm] at q1 q2 q3
                      refine ⟨_, _, _, fin (by simpa [γ] using k3), .inl ?_, q1, Goes.trans hr f1 f2 q2, q3, rfl⟩
                      simp [γ, Mp.set, Mp.c]
  unfold appendK
  cases hts : c.argTypes.toList with
  | nil => exact trivial
  | cons st ts =>
    cases ts with
    | nil => exact trivial
    | cons xt ts =>
      cases ts with
      | cons _ _ => exact trivial
      | nil =>
        simp only
        cases hst : E.und st with
        | none => exact trivial
        | some d1 =>
          cases d1 <;> try (exact trivial)
          rename_i e
          cases hxt : E.und xt with
          | none => exact trivial
          | some d =>
            by_cases hd : ∃ k, d = .int k
            · obtain ⟨k, rfl⟩ := hd; exact trivial
            · have hd' : ∀ k, d ≠ .int k := fun k e => hd ⟨k, e⟩
              cases d <;> first
                | exact absurd rfl (hd' _)
                | (simp only
                   cases hi : E.ty e with
                   | none => exact trivial
                   | some i =>
                     cases hz : zerosOf E e 0 with
                     | none => exact trivial
                     | some z => exact key st xt hts e hst _ hxt hd' i hi z hz _ rfl)
end
end Go.Ev
