/- The evaluator of closed calls, part Fo: what the program computes on given inputs, read by the kernel; sound in every world (part Gh). -/
import Derived.Test.YtendmajekgmkhaaGreatDoorFn
import Derived.Laws.IdiomStrings
set_option linter.unusedVariables false
set_option linter.unusedSimpArgs false
set_option linter.unnecessarySimpa false
namespace Go.Ev
section
variable {P : Program} {E : Env}

theorem bytes_loop (m : Mp) (F : Value → ByteArray → Sem (ForInStep ByteArray)) (hF : ∀ n r, F (.int .u8 n) r = pure (ForInStep.yield (r.push (UInt8.ofNat n.toNat)))) : ∀ (l : List AVal) (s : List UInt8) (acc : ByteArray) (w : World), bytesOf l = some s →
    (forIn (γs m l) acc F).run P w = .ok ⟨⟨acc.data.toList ++ s⟩⟩ w
  | [], s, acc, w, h => by cases h; simp [γs]
  | v :: l, s, acc, w, h => by
    unfold bytesOf at h
    cases v <;> try (cases h; done)
    rename_i k n
    cases k <;> try (cases h; done)
    cases n <;> try (cases h; done)
    rename_i n
    simp only at h
    cases hb : bytesOf l with
    | none => rw [hb] at h; cases h
    | some r =>
      rw [hb] at h
      simp only [forceN_spec, Option.some.injEq] at h
      subst h
      have ih := bytes_loop m F hF l r (acc.push (UInt8.ofNat n)) w hb
      simp only [γs, γ, List.forIn_cons, hF, Sem.run_bind, Sem.run_pure, Result.andThen_ok]
      rw [show (Int.ofNat n).toNat = n from rfl, ih]
      congr 1
      apply ByteArray.ext
      simp [ByteArray.data_push]
theorem byteVals_map (m : Mp) : ∀ l : List UInt8, γs m (byteVals l) = l.map fun b => .int .u8 b.toNat
  | [] => rfl
  | b :: l => by simp only [byteVals, forceN_spec, γs, γ, byteVals_map m l, List.map_cons]; rfl
theorem InL_byteVals {D : Pos → Prop} : ∀ l : List UInt8, InL D (byteVals l)
  | [] => trivial
  | b :: l => by simp only [byteVals, forceN_spec]; exact ⟨trivial, InL_byteVals l⟩
theorem byteVals_length : ∀ l : List UInt8, (byteVals l).length = l.length
  | [] => rfl
  | b :: l => by simp only [byteVals, forceN_spec, List.length_cons, byteVals_length l]
theorem bytes_row (m : Mp) (l : List UInt8) (cap : Nat) : bytesRow ⟨⟨l⟩⟩ cap = ⟨γs m (byteVals l) ++ List.replicate (cap - l.length) (.int .u8 0)⟩ := by
  apply Array.ext'
  simp [bytesRow, byteVals_map, ByteArray.size]
theorem toBytes_ok (ok : EnvOk P E) {s d e : TypeId} {x : Operand} (h1 : E.und s = some .string) (h2 : E.und d = some (.slice e)) (h3 : E.und e = some (.int .u8)) :
    OpOk P E (.convert s d x) (.wr fun tm h => match (srcK E x).g tm with
      | .str l => forceN l.length fun n => .ok (.slc h.nx 0 n (.rest 0)) (h.new (.cells (byteVals l) e 1))
      | _ => .fail) := by
  intro m h tm ρ w o ho hr hs
  obtain ⟨q1, q2⟩ := src_ok (E := E) hs x
  simp only
  generalize (srcK E x).g tm = u at q1 q2
  cases u <;> try (exact trivial)
  rename_i l
  simp only [forceN_spec]
  have hrun := run_bytes_of_string (P := P) w s d e ⟨⟨l⟩⟩ (ok.und h1) (ok.und h2) (ok.und h3)
  have hsz : (⟨⟨l⟩⟩ : ByteArray).size = l.length := rfl
  rw [hsz] at hrun
  have hcap : l.length ≤ grownCap w l.length 0 e := by simp only [grownCap, Question.cut]; omega
  generalize hg : grownCap w l.length 0 e = cap at hrun hcap
  rw [bytes_row m] at hrun
  have hlen : (γs m (byteVals l) ++ List.replicate (cap - l.length) (Value.int .u8 0)).length = cap := by
    rw [List.length_append, γs_length, byteVals_length, List.length_replicate]; omega
  have hsize : (⟨γs m (byteVals l) ++ List.replicate (cap - l.length) (Value.int .u8 0)⟩ : Array Value).size = cap := hlen
  rw [hsize] at hrun
  have hfr : ¬ dom h h.nx := fun hd => Nat.lt_irrefl _ (hr.fresh _ hd)
  have hbv : ∀ m' : Mp, γs m' (byteVals l) = γs m (byteVals l) := fun m' => by rw [byteVals_map, byteVals_map]
  obtain ⟨p1, p2, p3⟩ := hr.pushed (ob := .cells (byteVals l) e 1) (o := .cells ⟨γs m (byteVals l) ++ List.replicate (cap - l.length) (.int .u8 0)⟩ e (cap, cap + 1))
    (w' := w.drew.alloc (.cells ⟨γs m (byteVals l) ++ List.replicate (cap - l.length) (.int .u8 0)⟩ e (cap, cap + 1))) (cap := cap) ⟨rfl, rfl, rfl, rfl⟩ (by simp)
    ⟨List.replicate (cap - l.length) (.int .u8 0), (cap, cap + 1), by rw [hbv (m.set h.nx w.heap.size cap)], by rw [hbv (m.set h.nx w.heap.size cap), Mp.set_c_same, Nat.mul_one]; exact hlen, fun j hj => by rw [hbv (m.set h.nx w.heap.size cap), hlen] at hj; omega⟩ (InL_byteVals l)
  refine ⟨_, _, .value (.slice (some ⟨w.heap.size, 0, none⟩) l.length cap), ?_, .inl ?_, p1, p2, p3, rfl⟩
  · have : execOp ρ o = (do pure (.value (← convert s d (ρ x)))) := by simp only [execOp, ho]
    rw [this]
    simp only [Sem.run_bind, q1, γ, hrun, Result.andThen_ok, Sem.run_pure]
  · simp [γ, Mp.set]
theorem convert_ok (ok : EnvOk P E) (s d : TypeId) (x : Operand) : OpOk P E (.convert s d x) (opK E (.convert s d x)) := by
  show OpOk P E (.convert s d x) (convertK E s d x)
  have gi : ∀ (ds : TypeDesc) (k : IntKind), E.und s = some ds → E.und d = some (.int k) → OpOk P E (.convert s d x) (on1 E (fun v => match v with
      | .int _ n => intOut k (wrapA k n)
      | _ => none) x) := fun ds k h1 h2 => on1_ok (fun a => convert s d a) (fun ρ o ho => by simp only [execOp, ho]) fun m D u v w hu hv => by
    cases u <;> try (cases hv; done)
    rename_i k' n
    have := intOut_spec hv; subst this
    refine ⟨?_, trivial⟩
    simp only [convert, Sem.run_bind, ok.run_und h1, ok.run_und h2, Result.andThen_ok, γ, wrapA_spec]
    cases ds <;> rfl
  have gs : ∀ (ds : TypeDesc), E.und s = some ds → (∀ e, ds ≠ .slice e) → E.und d = some .string → OpOk P E (.convert s d x) (on1 E (fun v => match v with
      | .int _ n => some (.str (Utf8.encode n).data.toList)
      | .str l => some (.str l)
      | _ => none) x) := fun ds h1 hns h2 => on1_ok (fun a => convert s d a) (fun ρ o ho => by simp only [execOp, ho]) fun m D u v w hu hv => by
    cases u <;> try (cases hv; done)
    · cases hv
      refine ⟨?_, trivial⟩
      simp only [convert, Sem.run_bind, ok.run_und h1, ok.run_und h2, Result.andThen_ok, γ]
      cases ds <;> first | rfl | exact absurd rfl (hns _)
    · cases hv
      refine ⟨?_, trivial⟩
      simp only [convert, Sem.run_bind, ok.run_und h1, ok.run_und h2, Result.andThen_ok, γ]
      cases ds <;> first | rfl | exact absurd rfl (hns _)
  generalize hk : convertK E s d x = K
  unfold convertK at hk
  cases h1 : E.und s with
  | none => rw [h1] at hk; subst hk; exact bad_ok _
  | some ds =>
    cases h2 : E.und d with
    | none => rw [h1, h2] at hk; cases ds <;> (subst hk; exact bad_ok _)
    | some dd =>
      rw [h1, h2] at hk
      cases dd with
      | int k => cases ds <;> (subst hk; exact gi _ k h1 h2)
      | string =>
        cases ds <;> try (subst hk; exact gs _ h1 (fun e he => by cases he) h2)
        rename_i e
        simp only at hk
        cases h3 : E.und e with
        | none => rw [h3] at hk; subst hk; exact bad_ok _
        | some de =>
          rw [h3] at hk
          cases de <;> try (subst hk; exact bad_ok _)
          rename_i k
          cases k <;> try (subst hk; exact bad_ok _)
          subst hk
          intro m h tm ρ v w o ho hr hs hv
          obtain ⟨q1, q2⟩ := src_ok (E := E) hs x
          simp only at hv
          generalize (srcK E x).g tm = a at q1 q2 hv
          have key : (convert s d (ρ x)).run P w = .ok (γ m v) w ∧ In (dom h) v := by
            rw [q1]
            cases a <;> try (cases hv; done)
            · rename_i n off len cap
              simp only at hv
              cases hl : h.loadN n off len with
              | none => rw [hl] at hv; cases hv
              | some l =>
                rw [hl] at hv
                simp only at hv
                cases hb : bytesOf l with
                | none => rw [hb] at hv; cases hv
                | some bs =>
                  rw [hb] at hv; cases hv
                  refine ⟨?_, trivial⟩
                  have hld := hr.run_loadN (P := P) hl
                  have lp := fun F hF => bytes_loop (P := P) m F hF l bs ByteArray.empty w hb
                  have goal : ∀ c, (Conv.bytesToString (.slice (some ⟨m.b n, off, none⟩) len c)).run P w = .ok (γ m (.str bs)) w := fun c => by
                    simp only [Conv.bytesToString, Sem.run_bind, hld, Result.andThen_ok]
                    rw [← Array.forIn_toList]
                    rw [lp _ (fun _ _ => rfl)]
                    rfl
                  cases cap <;> simp only [convert, Sem.run_bind, ok.run_und h1, ok.run_und h2, ok.run_und h3, Result.andThen_ok, γ, goal]
            · cases hv
              exact ⟨by simp only [convert, Sem.run_bind, ok.run_und h1, ok.run_und h2, ok.run_und h3, Result.andThen_ok, γ]; rfl, trivial⟩
          exact ⟨pu_val (s := convert s d (ρ x)) (by simp only [execOp, ho]) key.1, key.2⟩
      | slice e =>
        cases ds <;> try (subst hk; exact bad_ok _)
        simp only at hk
        cases h3 : E.und e with
        | none => rw [h3] at hk; subst hk; exact bad_ok _
        | some de =>
          rw [h3] at hk
          cases de <;> try (subst hk; exact bad_ok _)
          rename_i k
          cases k <;> try (subst hk; exact bad_ok _)
          subst hk
          exact toBytes_ok ok h1 h2 h3
      | _ => cases ds <;> (subst hk; exact bad_ok _)
end
end Go.Ev
