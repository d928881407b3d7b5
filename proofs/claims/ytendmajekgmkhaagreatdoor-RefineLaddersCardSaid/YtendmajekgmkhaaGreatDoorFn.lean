/- The evaluator of closed calls, part Fn: what the program computes on given inputs, read by the kernel; sound in every world (part Gh). -/
import Derived.Test.YtendmajekgmkhaaGreatDoorFm
set_option linter.unusedVariables false
set_option linter.unusedSimpArgs false
set_option linter.unnecessarySimpa false
namespace Go.Ev
section
variable {P : Program} {E : Env}

def BoundIs (d : Nat) (o : Option AVal) (n : Nat) : Prop := (o = none ∧ n = d) ∨ ∃ kd, o = some (.int kd (.ofNat n))
theorem boundOr_spec {d : Nat} {o : Option AVal} {k : Nat → Option AVal} {r : AVal} (h : boundOr d o none k = some r) : ∃ n, BoundIs d o n ∧ k n = some r := by
  cases o with
  | none => exact ⟨d, .inl ⟨rfl, rfl⟩, h⟩
  | some v => obtain ⟨kd, n, rfl, h2⟩ := natOf_spec h; exact ⟨n, .inr ⟨kd, rfl⟩, h2⟩
theorem sliceBound_run (kd : IntKind) {n y : Nat} (h : n ≤ y) (code : BoundsCode) (w : World) : (Instr.sliceBound (.int kd (Int.ofNat n)) y code).run P w = .ok n w := by
  have h1 : (0 : Int) ≤ (n : Int) ∧ (n : Int) ≤ (y : Int) := ⟨by omega, by omega⟩
  simp [Instr.sliceBound, asIntOf, h]
theorem bounds_none {m : Mp} {lo hi : Option AVal} {len cap l r : Nat} (b : Bool) (h1 : BoundIs 0 lo l) (h2 : BoundIs len hi r) (hlr : l ≤ r) (hr : r ≤ cap) (w : World) :
    (Instr.sliceBounds b len cap (lo.map (γ m)) (hi.map (γ m)) none).run P w = .ok (l, r, cap) w := by
  rcases h1 with ⟨rfl, rfl⟩ | ⟨k1, rfl⟩ <;> rcases h2 with ⟨rfl, rfl⟩ | ⟨k2, rfl⟩
  · simp [Instr.sliceBounds]
  · simp only [Instr.sliceBounds, Option.map_some, Option.map_none, γ, Sem.run_bind, Sem.run_pure, Result.andThen_ok, sliceBound_run k2 hr]
  · simp only [Instr.sliceBounds, Option.map_some, Option.map_none, γ, Sem.run_bind, Sem.run_pure, Result.andThen_ok, sliceBound_run k1 hlr]
  · simp only [Instr.sliceBounds, Option.map_some, γ, Sem.run_bind, Sem.run_pure, Result.andThen_ok, sliceBound_run k1 hlr, sliceBound_run k2 hr]
theorem bounds_some {m : Mp} {lo : Option AVal} {len cap l r mm : Nat} {k2 k3 : IntKind} (b : Bool) (h1 : BoundIs 0 lo l) (hlr : l ≤ r) (hr : r ≤ mm) (hm : mm ≤ cap) (w : World) :
    (Instr.sliceBounds b len cap (lo.map (γ m)) (some (.int k2 (.ofNat r))) (some (.int k3 (.ofNat mm)))).run P w = .ok (l, r, mm) w := by
  rcases h1 with ⟨rfl, rfl⟩ | ⟨k1, rfl⟩
  · simp only [Instr.sliceBounds, Option.map_none, Sem.run_bind, Sem.run_pure, Result.andThen_ok, sliceBound_run k2 hr, sliceBound_run k3 hm]
  · simp only [Instr.sliceBounds, Option.map_some, γ, Sem.run_bind, Sem.run_pure, Result.andThen_ok, sliceBound_run k1 hlr, sliceBound_run k2 hr, sliceBound_run k3 hm]
theorem mxOr_spec {v : Option AVal} {k : Option AVal} {f : Nat → Option AVal} {r : AVal} (h : mxOr v none k f = some r) : (v = none ∧ k = some r) ∨ ∃ kd n, v = some (.int kd (.ofNat n)) ∧ f n = some r := by
  cases v with
  | none => exact .inl ⟨rfl, h⟩
  | some v => obtain ⟨kd, n, rfl, h2⟩ := natOf_spec h; exact .inr ⟨kd, n, rfl, h2⟩
theorem nilMx_spec {v : Option AVal} {k : Option AVal} {r : AVal} (h : nilMx v none k = some r) : v = none ∧ k = some r := by
  cases v with
  | none => exact ⟨rfl, h⟩
  | some v => cases h
theorem cond_some {b : Bool} {v r : AVal} (h : cond b (some v) none = some r) : b = true ∧ v = r := by
  cases b <;> simp at h; exact ⟨rfl, h⟩
theorem cond_some' {α : Type} {b : Bool} {o : Option α} {r : α} (h : cond b o none = some r) : b = true ∧ o = some r := by
  cases b <;> simp at h; exact ⟨rfl, h⟩
theorem srcO_map {m : Mp} {D : Pos → Prop} {tm : Tm} {ρ : Operand → Value} (s : Src E.gl m D tm ρ) (o : Option Operand) : o.map ρ = (srcO E o tm).map (γ m) := by
  cases o with
  | none => rfl
  | some x => simp [srcO, (src_ok (E := E) s x).1]
theorem extract_bytes (s : List UInt8) (l r : Nat) : (⟨⟨s⟩⟩ : ByteArray).extract l r = ⟨⟨(s.drop l).take (r - l)⟩⟩ := by
  apply ByteArray.ext
  simp [ByteArray.data_extract, List.extract_eq_take_drop]
theorem slice_ok (ok : EnvOk P E) (t : TypeId) (x : Operand) (lo hi mx : Option Operand) : OpOk P E (.slice t x lo hi mx) (opK E (.slice t x lo hi mx)) := by
  show OpOk P E _ (cond (mx.isNone || hi.isSome) (.rd fun tm h => (sliceK E t).f h ((srcK E x).g tm) (srcO E lo tm) (srcO E hi tm) (srcO E mx tm)) .bad)
  cases hm : (mx.isNone || hi.isSome) with
  | false => exact bad_ok _
  | true =>
  intro m h tm ρ v w o ho hr hs hv
  obtain ⟨h1, h2⟩ := src_ok (E := E) hs x
  simp only at hv
  have e1 := srcO_map (E := E) hs lo
  have e2 := srcO_map (E := E) hs hi
  have e3 := srcO_map (E := E) hs mx
  have hmx : (srcO E mx tm) = none ∨ (srcO E hi tm) ≠ none := by cases mx <;> cases hi <;> simp [srcO] at hm ⊢
  generalize (srcK E x).g tm = a at h1 h2 hv
  generalize srcO E lo tm = lo' at e1 hv
  generalize srcO E hi tm = hi' at e2 hv hmx
  generalize srcO E mx tm = mx' at e3 hv hmx
  have key : (Instr.sliceAt t (ρ x) (lo.map ρ) (hi.map ρ) (mx.map ρ)).run P w = .ok (γ m v) w ∧ In (dom h) v := by
    rw [h1, e1, e2, e3]
    unfold sliceK at hv
    cases hu : E.und t with
    | none => rw [hu] at hv; cases hv
    | some d =>
      rw [hu] at hv
      have hru := ok.run_und hu w
      cases d <;> try (cases hv; done)
      case string =>
        simp only at hv
        cases a <;> try (cases hv; done)
        rename_i s
        simp only at hv
        replace hv := nilMx_spec hv; obtain ⟨rfl, hv⟩ := hv
        replace hv := boundOr_spec hv; obtain ⟨l, hl, hv⟩ := hv
        replace hv := boundOr_spec hv; obtain ⟨r, hr', hv⟩ := hv
        obtain ⟨hc, rfl⟩ := cond_some hv
        rw [Bool.and_eq_true] at hc
        have hlr := ble_iff.1 hc.1
        have hrs := ble_iff.1 hc.2
        refine ⟨?_, trivial⟩
        have sz : (⟨⟨s⟩⟩ : ByteArray).size = s.length := rfl
        have bn := bounds_none (P := P) (m := m) false hl hr' hlr hrs w
        simp only [Instr.sliceAt, Instr.slice, Sem.run_bind, hru, Result.andThen_ok, γ, sz, Option.map_none, Option.isSome_none, Bool.false_eq_true, if_false, bn, extract_bytes, Sem.run_pure]
        rfl
      case slice e =>
        simp only at hv
        cases hsz : E.size e with
        | none => rw [hsz] at hv; cases hv
        | some sz =>
          rw [hsz] at hv
          simp only at hv
          have hz := ok.run_size hsz w
          cases a <;> try (cases hv; done)
          case slcNil =>
            simp only at hv
            replace hv := nilMx_spec hv; obtain ⟨rfl, hv⟩ := hv
            replace hv := boundOr_spec hv; obtain ⟨l, hl, hv⟩ := hv
            replace hv := boundOr_spec hv; obtain ⟨r, hr', hv⟩ := hv
            obtain ⟨hc, rfl⟩ := cond_some hv
            rw [Bool.and_eq_true] at hc
            have hr0 := beq_iff.1 hc.1
            have hl0 := beq_iff.1 hc.2
            subst hr0; subst hl0
            have bn := bounds_none (P := P) (m := m) (len := 0) (cap := 0) true hl hr' (Nat.le_refl _) (Nat.le_refl _) w
            exact ⟨by simp only [Instr.sliceAt, Instr.slice, Sem.run_bind, hru, Result.andThen_ok, γ, Option.map_none, bn, hz, if_true, Sem.run_pure], trivial⟩
          case slc n off len cap =>
            simp only [reslice] at hv
            replace hv := boundOr_spec hv; obtain ⟨l, hl, hv⟩ := hv
            replace hv := boundOr_spec hv; obtain ⟨r, hr', hv⟩ := hv
            have goSlice : ∀ (capv : Nat) (b' : Option Value) (ll rr mm : Nat), (Instr.sliceBounds true len capv (lo'.map (γ m)) (hi'.map (γ m)) b').run P w = .ok (ll, rr, mm) w →
                (Instr.sliceAt t (.slice (some ⟨m.b n, off, none⟩) len capv) (lo'.map (γ m)) (hi'.map (γ m)) b').run P w = .ok (.slice (some (if mm = ll then ⟨m.b n, off, none⟩ else ⟨m.b n, off + ll * sz, none⟩)) (rr - ll) (mm - ll)) w := fun capv b' ll rr mm hb => by
              simp only [Instr.sliceAt, Instr.slice, Sem.run_bind, hru, Result.andThen_ok, hb, hz, Sem.run_pure, Option.map_some, add_at]
              by_cases e : mm = ll <;> simp [e]
            have hiS : ∀ kd nn, mx' = some (.int kd nn) → ∃ k2, hi'.map (γ m) = some (.int k2 (.ofNat r)) := fun kd nn e => by
              rcases hmx with h0 | h0
              · rw [h0] at e; cases e
              · rcases hr' with ⟨h5, _⟩ | ⟨k2, h5⟩
                · exact absurd h5 h0
                · exact ⟨k2, by rw [h5]; rfl⟩
            cases cap with
            | exact c =>
              simp only [capOr] at hv
              replace hv := mxOr_spec hv; rcases hv with ⟨rfl, hv⟩ | ⟨kd, mm, rfl, hv⟩
              · obtain ⟨hc, rfl⟩ := cond_some hv
                rw [Bool.and_eq_true] at hc
                have bn := bounds_none (P := P) (m := m) (len := len) (cap := c) true hl hr' (ble_iff.1 hc.1) (ble_iff.1 hc.2) w
                refine ⟨?_, h2⟩
                have := goSlice c none _ _ _ bn
                simp only [γ, Option.map_none]
                rw [this]
                by_cases e : c = l
                · subst e; simp
                · rw [beq_no e]; simp [e]
              · obtain ⟨hc, rfl⟩ := cond_some hv
                rw [Bool.and_eq_true, Bool.and_eq_true] at hc
                obtain ⟨k2, hk2⟩ := hiS _ _ rfl
                have bn := bounds_some (P := P) (m := m) (len := len) (cap := c) (k2 := k2) (k3 := kd) true hl (ble_iff.1 hc.1) (ble_iff.1 hc.2.1) (ble_iff.1 hc.2.2) w
                rw [← hk2] at bn
                refine ⟨?_, h2⟩
                have := goSlice c (some (.int kd (.ofNat mm))) _ _ _ bn
                simp only [γ, Option.map_some]
                rw [this]
                by_cases e : mm = l
                · subst e; simp
                · rw [beq_no e]; simp [e]
            | rest d =>
              simp only [capOr] at hv
              replace hv := cellsOf_some hv; obtain ⟨xs, xe, esz, hob, hv⟩ := hv
              replace hv := cond_some' hv; obtain ⟨hc, hv⟩ := hv
              rw [Bool.and_eq_true, Bool.and_eq_true] at hc
              have he := beq_iff.1 hc.1; subst he
              have hpos := blt_iff.1 hc.2.1
              have hlr := ble_iff.1 hc.2.2
              obtain ⟨_, _, rest, fz, _, hlen, _⟩ := hr.cells hob
              have hcap : ∀ k, Nat.mul (Nat.add k d) esz ≤ xs.length → k ≤ m.c n - d := fun k hk => by
                have h5 : (k + d) * esz ≤ m.c n * esz := by
                  have : (k + d) * esz ≤ xs.length := hk
                  rw [← hlen]; simp [γs_length]; omega
                have := Nat.le_of_mul_le_mul_right h5 hpos
                omega
              replace hv := mxOr_spec hv; rcases hv with ⟨rfl, hv⟩ | ⟨kd, mm, rfl, hv⟩
              · obtain ⟨hc2, rfl⟩ := cond_some hv
                rw [Bool.and_eq_true] at hc2
                have hr1 := hcap r (ble_iff.1 hc2.1)
                have bn := bounds_none (P := P) (m := m) (len := len) (cap := m.c n - d) true hl hr' hlr hr1 w
                refine ⟨?_, h2⟩
                have := goSlice (m.c n - d) none _ _ _ bn
                simp only [γ, Option.map_none]
                rw [this]
                have hadd : off + l * esz = Nat.add off (Nat.mul l esz) := rfl
                have hsub : m.c n - d - l = m.c n - Nat.add d l := by show _ = m.c n - (d + l); omega
                rw [hsub]
                by_cases e : m.c n - d = l
                · have hl0 : l = 0 := by
                    have hq := hc2.2
                    rw [Bool.or_eq_true] at hq
                    rcases hq with hq | hq
                    · exact beq_iff.1 hq
                    · exfalso
                      have hq2 : (l + d) * esz < xs.length := blt_iff.1 hq
                      have h6 : xs.length ≤ m.c n * esz := by rw [← hlen]; simp [γs_length]
                      have h7 : (l + d) * esz < m.c n * esz := by omega
                      have h8 := Nat.lt_of_mul_lt_mul_right h7
                      omega
                  subst hl0
                  rw [if_pos e]
                  simp
                · rw [if_neg e]
                  rfl
              · obtain ⟨hc2, rfl⟩ := cond_some hv
                rw [Bool.and_eq_true] at hc2
                have hm1 := hcap mm (ble_iff.1 hc2.2)
                obtain ⟨k2, hk2⟩ := hiS _ _ rfl
                have bn := bounds_some (P := P) (m := m) (len := len) (cap := m.c n - d) (k2 := k2) (k3 := kd) true hl hlr (ble_iff.1 hc2.1) hm1 w
                rw [← hk2] at bn
                refine ⟨?_, h2⟩
                have := goSlice (m.c n - d) (some (.int kd (.ofNat mm))) _ _ _ bn
                simp only [γ, Option.map_some]
                rw [this]
                by_cases e : mm = l
                · subst e; simp
                · rw [beq_no e]; simp [e]
      case array len e =>
        simp only at hv
        cases hsz : E.size e with
        | none => rw [hsz] at hv; cases hv
        | some sz =>
          rw [hsz] at hv
          simp only at hv
          have hz := ok.run_size hsz w
          cases a <;> try (cases hv; done)
          rename_i n off
          simp only at hv
          replace hv := nilMx_spec hv; obtain ⟨rfl, hv⟩ := hv
          replace hv := boundOr_spec hv; obtain ⟨l, hl, hv⟩ := hv
          replace hv := boundOr_spec hv; obtain ⟨r, hr', hv⟩ := hv
          obtain ⟨hc, rfl⟩ := cond_some hv
          rw [Bool.and_eq_true] at hc
          have bn := bounds_none (P := P) (m := m) (len := len) (cap := len) false hl hr' (ble_iff.1 hc.1) (ble_iff.1 hc.2) w
          refine ⟨?_, h2⟩
          simp only [Instr.sliceAt, Sem.run_bind, hru, Result.andThen_ok, γ, Instr.sureAddr, Option.map_none, bn, hz, Sem.run_pure, add_at]
          by_cases e : len = l
          · subst e; simp
          · rw [beq_no e]; simp [e]
  exact ⟨pu_val (s := Instr.sliceAt t (ρ x) (lo.map ρ) (hi.map ρ) (mx.map ρ)) (by simp only [execOp, ho]) key.1, key.2⟩
end
end Go.Ev
