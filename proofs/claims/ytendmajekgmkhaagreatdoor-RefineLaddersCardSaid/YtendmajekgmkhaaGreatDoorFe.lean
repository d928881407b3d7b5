/- The evaluator of closed calls, part Fe: what the program computes on given inputs, read by the kernel; sound in every world (part Gh). -/
import Derived.Test.YtendmajekgmkhaaGreatDoorFd
import Derived.Laws.Small
import Derived.Laws.StructEq
import Derived.Laws.IdiomMaps
import Derived.Laws.Strings
set_option linter.unusedVariables false
set_option linter.unusedSimpArgs false
set_option linter.unnecessarySimpa false
namespace Go.Ev

structure EnvOk (P : Program) (E : Env) : Prop where
  ty : ∀ t i, E.ty t = some i → P.info? t = some i
  fn : ∀ f fn, E.fns.get none (pos f) = some fn → P.funcs[f]? = some fn
  gt : ∀ t, E.gt t = true → P.stoodInHeld t = false ∧ P.eqGuardType P.depth t = false
/-- The operands read as the temporaries say. -/
structure Src (G : Tabs) (m : Mp) (D : Pos → Prop) (tm : Tm) (ρ : Operand → Value) : Prop where
  tmp : ∀ t, ρ (.tmp t) = γ m (tget t tm) ∧ In D (tget t tm)
  const : ∀ v, ρ (.const v) = v
  global : ∀ g, ρ (.global g) = .pointer (some ⟨g, 0, none⟩)
  func : ∀ f, ρ (.func f) = .func (.func f) #[] #[]

section
variable {P : Program} {E : Env} {m : Mp} {D : Pos → Prop} {tm : Tm} {ρ : Operand → Value}
theorem EnvOk.und (ok : EnvOk P E) {t : TypeId} {d : TypeDesc} (h : E.und t = some d) : P.underlying t = some d := by
  unfold Env.und at h
  cases ht : E.ty t with
  | none => rw [ht] at h; cases h
  | some i =>
    rw [ht] at h
    have hi := ok.ty t i ht
    unfold Program.underlying
    rw [hi]
    obtain ⟨desc, a1, a2, a3, a4, a5, a6, a7, a8, a9⟩ := i
    cases desc with
    | named nm u =>
      simp only at h ⊢
      cases hu : E.ty u with
      | none => rw [hu] at h; cases h
      | some j => rw [hu] at h; rw [ok.ty u j hu]; simpa using h
    | _ => exact h
theorem EnvOk.size (ok : EnvOk P E) {t : TypeId} {s : Nat} (h : E.size t = some s) : ∃ i, P.info? t = some i ∧ i.size = s := by
  unfold Env.size at h
  cases ht : E.ty t with
  | none => rw [ht] at h; cases h
  | some i => rw [ht] at h; exact ⟨i, ok.ty t i ht, by simpa using h⟩
theorem EnvOk.zero (ok : EnvOk P E) {t : TypeId} {z : AVal} (h : E.zero t = some z) : ∃ i v, P.info? t = some i ∧ i.zero = some v ∧ z = AVal.ofValue v := by
  unfold Env.zero at h
  cases ht : E.ty t with
  | none => rw [ht] at h; cases h
  | some i =>
    rw [ht] at h
    simp only at h
    cases hz : i.zero with
    | none => rw [hz] at h; cases h
    | some v => rw [hz] at h; exact ⟨i, v, ok.ty t i ht, hz, by simpa using h.symm⟩
theorem run_info {t : TypeId} {i : TypeInfo} (h : P.info? t = some i) (w : World) : (typeInfo t).run P w = .ok i w := by simp [typeInfo, h]
theorem run_size {t : TypeId} {i : TypeInfo} (h : P.info? t = some i) (w : World) : (Go.sizeOf t).run P w = .ok i.size w := by simp [Go.sizeOf, typeInfo, h]
theorem run_zero {t : TypeId} {i : TypeInfo} {v : Value} (h : P.info? t = some i) (hz : i.zero = some v) (w : World) : (zeroValue t).run P w = .ok v w := by simp [zeroValue, typeInfo, h, hz]
theorem EnvOk.run_size (ok : EnvOk P E) {t : TypeId} {s : Nat} (h : E.size t = some s) (w : World) : (Go.sizeOf t).run P w = .ok s w := by
  obtain ⟨i, h1, rfl⟩ := ok.size h; exact Go.Ev.run_size h1 w
theorem EnvOk.run_und (ok : EnvOk P E) {t : TypeId} {d : TypeDesc} (h : E.und t = some d) (w : World) : (underlying t).run P w = .ok d w := run_underlying (ok.und h) w
theorem EnvOk.run_agg (ok : EnvOk P E) {t : TypeId} {b : Bool} (h : E.agg? t = some b) (w : World) : (isAgg t).run P w = .ok b w := by
  unfold Env.agg? at h
  cases hu : E.und t with
  | none => rw [hu] at h; cases h
  | some d =>
    rw [hu] at h
    unfold isAgg
    simp only [Sem.run_bind, ok.run_und hu, Result.andThen_ok]
    cases d <;> simp at h <;> subst h <;> rfl
theorem gname_inj {a b : Nat} (h : gname a = gname b) : a = b := pos_inj h
theorem src_ok (s : Src E.gl m D tm ρ) (x : Operand) : ρ x = γ m ((srcK E x).g tm) ∧ In D ((srcK E x).g tm) := by
  cases x with
  | tmp t => exact s.tmp t
  | const v => exact ⟨by rw [s.const]; exact (γ_ofValue m v).symm, In_ofValue D v⟩
  | global g =>
    rw [s.global]
    exact ⟨rfl, by show Value.oneCell' _ = true; rfl⟩
  | func f => exact ⟨by rw [s.func]; rfl, ⟨trivial, trivial⟩⟩
theorem srcs_ok (s : Src E.gl m D tm ρ) : ∀ l : List Operand, l.map ρ = γs m (srcsG (srcsK E l) tm) ∧ InL D (srcsG (srcsK E l) tm)
  | [] => ⟨rfl, trivial⟩
  | x :: l => by
    have h1 := src_ok (E := E) s x
    have h2 := srcs_ok s l
    refine ⟨?_, h1.2, h2.2⟩
    show ρ x :: l.map ρ = γ m ((srcK E x).g tm) :: γs m (srcsG (srcsK E l) tm)
    rw [h1.1, h2.1]

/-! ### Arithmetic -/
theorem intOut_spec {k : IntKind} {n : Int} {v : AVal} (h : intOut k n = some v) : v = .int k n := by
  cases n with
  | ofNat n => cases n <;> (cases h; rfl)
  | negSucc n => cases n <;> (cases h; rfl)
theorem half_le (k : IntKind) : half k ≤ 2 ^ k.bits := by cases k <;> decide
theorem wrap_small (k : IntKind) {a : Nat} (h : a < half k) : k.wrap (Int.ofNat a) = Int.ofNat a := by
  have hb : (a : Int) < (2 ^ k.bits : Int) := by
    have h2 : a < 2 ^ k.bits := Nat.lt_of_lt_of_le h (half_le k)
    exact_mod_cast h2
  have h1 : (a : Int) % (2 ^ k.bits : Int) = a := Int.emod_eq_of_lt (by omega) hb
  show (let m := (a : Int) % (2 ^ k.bits : Int); if k.signed && m ≥ (2 ^ (k.bits - 1) : Int) then m - (2 ^ k.bits : Int) else m) = (a : Int)
  simp only [h1]
  cases k <;> simp [IntKind.signed, IntKind.bits, half] at h ⊢ <;> omega
theorem wrapA_spec (k : IntKind) (n : Int) : wrapA k n = k.wrap n := by
  cases n with
  | ofNat a =>
    show cond (Nat.blt a (half k)) (Int.ofNat a) (k.wrap (Int.ofNat a)) = _
    cases h : Nat.blt a (half k) with
    | true => exact (wrap_small k (blt_iff.1 h)).symm
    | false => rfl
  | negSucc a => rfl
theorem ltA_spec (a b : Int) : ltA a b = decide (a < b) := by
  cases a with
  | ofNat a => cases b with
    | ofNat b =>
      show Nat.blt a b = _
      by_cases h : a < b
      · rw [blt_iff.2 h]; symm; apply decide_eq_true; exact Int.ofNat_lt.2 h
      · rw [blt_no h]; symm; apply decide_eq_false; intro e; exact h (Int.ofNat_lt.1 e)
    | negSucc b => symm; apply decide_eq_false; intro e; have : (0 : Int) ≤ Int.ofNat a := Int.natCast_nonneg a; have h2 := Int.negSucc_lt_zero b; omega
  | negSucc a => cases b with
    | ofNat b => symm; apply decide_eq_true; have : (0 : Int) ≤ Int.ofNat b := Int.natCast_nonneg b; have h2 := Int.negSucc_lt_zero a; omega
    | negSucc b =>
      show Nat.blt b a = _
      have e1 : Int.negSucc a = -(a : Int) - 1 := by omega
      have e2 : Int.negSucc b = -(b : Int) - 1 := by omega
      by_cases h : b < a
      · rw [blt_iff.2 h]; symm; apply decide_eq_true; rw [e1, e2]; omega
      · rw [blt_no h]; symm; apply decide_eq_false; rw [e1, e2]; omega
theorem addA_spec (a b : Int) : addA a b = a + b := by cases a <;> cases b <;> rfl
theorem subA_spec (a b : Int) : subA a b = a - b := by
  cases a with
  | ofNat a => cases b with
    | ofNat b =>
      show cond (Nat.ble b a) (Int.ofNat (Nat.sub a b)) (Int.negSucc (Nat.sub (Nat.sub b a) 1)) = _
      have hs : ∀ x y, Nat.sub x y = x - y := fun _ _ => rfl
      simp only [hs]
      by_cases h : b ≤ a
      · rw [ble_iff.2 h]; show ((a - b : Nat) : Int) = (a : Int) - (b : Int); omega
      · rw [ble_no h]; show Int.negSucc (b - a - 1) = (a : Int) - (b : Int); omega
    | negSucc b => rfl
  | negSucc a => cases b <;> rfl
theorem mulA_spec (a b : Int) : mulA a b = a * b := by cases a <;> cases b <;> rfl
theorem quoA_spec (a b : Int) : quoA a b = a.tdiv b := by cases a <;> cases b <;> rfl
theorem remA_spec (a b : Int) : remA a b = a.tmod b := by cases a <;> cases b <;> rfl
end
end Go.Ev
