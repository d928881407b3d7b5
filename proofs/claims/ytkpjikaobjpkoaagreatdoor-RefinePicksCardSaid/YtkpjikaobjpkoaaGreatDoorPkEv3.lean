/- The evaluator of closed calls, part 3: what the program computes on given inputs, read by the kernel; sound in every world (part 8). -/
import Derived.Test.YtkpjikaobjpkoaaGreatDoorPkEv2
import Derived.Laws.Tables
namespace Go.Ev
variable [Rho] {S : Nat → Prop}
section
variable {P : Program} {E : Env} {m : Mp} {D : Pos → Prop} {tm : Tm} {ρ : Operand → Value}

omit [Rho] in
theorem half_pow (k : IntKind) : half k = 2 ^ (if k.signed then k.bits - 1 else k.bits) := by cases k <;> decide
omit [Rho] in
theorem ofInt_toNat (k : IntKind) {a : Nat} (h : a < half k) : (BitVec.ofInt k.bits (Int.ofNat a)).toNat = a := by
  have h2 : a < 2 ^ k.bits := Nat.lt_of_lt_of_le h (half_le k)
  have : BitVec.ofInt k.bits (Int.ofNat a) = BitVec.ofNat k.bits a := by
    apply BitVec.eq_of_toNat_eq
    rw [BitVec.toNat_ofInt, BitVec.toNat_ofNat]
    rfl
  rw [this, BitVec.toNat_ofNat, Nat.mod_eq_of_lt h2]
omit [Rho] in
theorem bitK_spec {f : Nat → Nat → Nat} {op : BinOp} {k : IntKind} {x y : Int} {v : AVal} (h : (bitK f).f k x y = some v)
    (hop : ∀ a b : Nat, a < half k → b < half k → f a b < half k ∧ (Op.intBits op k (Int.ofNat a) (Int.ofNat b) = (pure (.int k (k.wrap (Int.ofNat (f a b)))) : Sem Value))) :
    ∃ r, v = .int k r ∧ Op.intBits op k x y = (pure (.int k r) : Sem Value) := by
  cases x with
  | negSucc a => cases h
  | ofNat a => cases y with
    | negSucc b => cases h
    | ofNat b =>
      change cond (Nat.blt a (half k)) (cond (Nat.blt b (half k)) (intOut k (.ofNat (f a b))) none) none = some v at h
      cases ha : Nat.blt a (half k) with
      | false => rw [ha] at h; cases h
      | true => cases hb : Nat.blt b (half k) with
        | false => rw [ha, hb] at h; cases h
        | true =>
          rw [ha, hb] at h
          change intOut k (.ofNat (f a b)) = some v at h
          obtain ⟨h1, h2⟩ := hop a b (blt_iff.1 ha) (blt_iff.1 hb)
          exact ⟨_, intOut_spec h, by rw [h2, wrap_small k h1]⟩
omit [Rho] in
theorem and_spec {k : IntKind} {x y : Int} {v : AVal} (h : (bitK Nat.land).f k x y = some v) : ∃ r, v = .int k r ∧ Op.intBits .and k x y = (pure (.int k r) : Sem Value) :=
  bitK_spec h fun a b ha hb => ⟨Nat.lt_of_le_of_lt Nat.and_le_left ha, by
    show (pure (Value.int k (k.wrap ((BitVec.ofInt k.bits (Int.ofNat a) &&& BitVec.ofInt k.bits (Int.ofNat b)).toNat : Int))) : Sem Value) = _
    rw [BitVec.toNat_and, ofInt_toNat k ha, ofInt_toNat k hb]; rfl⟩
omit [Rho] in
theorem or_spec {k : IntKind} {x y : Int} {v : AVal} (h : (bitK Nat.lor).f k x y = some v) : ∃ r, v = .int k r ∧ Op.intBits .or k x y = (pure (.int k r) : Sem Value) :=
  bitK_spec h fun a b ha hb => ⟨by rw [half_pow] at *; exact Nat.or_lt_two_pow ha hb, by
    show (pure (Value.int k (k.wrap ((BitVec.ofInt k.bits (Int.ofNat a) ||| BitVec.ofInt k.bits (Int.ofNat b)).toNat : Int))) : Sem Value) = _
    rw [BitVec.toNat_or, ofInt_toNat k ha, ofInt_toNat k hb]; rfl⟩
omit [Rho] in
theorem xor_spec {k : IntKind} {x y : Int} {v : AVal} (h : (bitK Nat.xor).f k x y = some v) : ∃ r, v = .int k r ∧ Op.intBits .xor k x y = (pure (.int k r) : Sem Value) :=
  bitK_spec h fun a b ha hb => ⟨by rw [half_pow] at *; exact Nat.xor_lt_two_pow ha hb, by
    show (pure (Value.int k (k.wrap ((BitVec.ofInt k.bits (Int.ofNat a) ^^^ BitVec.ofInt k.bits (Int.ofNat b)).toNat : Int))) : Sem Value) = _
    rw [BitVec.toNat_xor, ofInt_toNat k ha, ofInt_toNat k hb]; rfl⟩
omit [Rho] in
theorem andNot_spec {k : IntKind} {x y : Int} {v : AVal} (h : (bitK fun a b => Nat.xor a (Nat.land a b)).f k x y = some v) : ∃ r, v = .int k r ∧ Op.intBits .andNot k x y = (pure (.int k r) : Sem Value) :=
  bitK_spec h fun a b ha hb => ⟨by rw [half_pow] at *; exact Nat.xor_lt_two_pow ha (Nat.lt_of_le_of_lt Nat.and_le_left ha), by
    show (pure (Value.int k (k.wrap ((BitVec.ofInt k.bits (Int.ofNat a) &&& ~~~ BitVec.ofInt k.bits (Int.ofNat b)).toNat : Int))) : Sem Value) = _
    have e : ∀ p q : BitVec k.bits, p &&& ~~~ q = p ^^^ (p &&& q) := fun p q => by
      apply BitVec.eq_of_getLsbD_eq; intro i hi
      simp only [BitVec.getLsbD_and, BitVec.getLsbD_not, BitVec.getLsbD_xor, hi, decide_true, Bool.true_and]
      cases p.getLsbD i <;> cases q.getLsbD i <;> rfl
    rw [e, BitVec.toNat_xor, BitVec.toNat_and, ofInt_toNat k ha, ofInt_toNat k hb]; rfl⟩

/-- The integer operators but for the shifts. -/
theorem intK_spec {op : BinOp} {t : TypeId} {k : IntKind} {a b : Int} {v : AVal} (h : (intK op).f k a b = some v) (w : World) :
    (binOp op t (.int k a) (.int k b)).run P w = .ok (γ m v) w ∧ In D v := by
  cases op
  case add => have := intOut_spec h; subst this; exact ⟨by simp [binOp, Op.intArith, γ, wrapA_spec, addA_spec], trivial⟩
  case sub => have := intOut_spec h; subst this; exact ⟨by simp [binOp, Op.intArith, γ, wrapA_spec, subA_spec], trivial⟩
  case mul => have := intOut_spec h; subst this; exact ⟨by simp [binOp, Op.intArith, γ, wrapA_spec, mulA_spec], trivial⟩
  case quo =>
    change cond (intEqb b 0) none (intOut k (wrapA k (quoA a b))) = some v at h
    rw [intEqb_spec] at h
    by_cases hb : b = 0
    · simp [hb] at h
    · simp [hb] at h; have := intOut_spec h; subst this; exact ⟨by simp [binOp, Op.intDiv, γ, wrapA_spec, quoA_spec, hb], trivial⟩
  case rem =>
    change cond (intEqb b 0) none (intOut k (remA a b)) = some v at h
    rw [intEqb_spec] at h
    by_cases hb : b = 0
    · simp [hb] at h
    · simp [hb] at h; have := intOut_spec h; subst this; exact ⟨by simp [binOp, Op.intDiv, γ, remA_spec, hb], trivial⟩
  case and => obtain ⟨r, rfl, hr⟩ := and_spec h; exact ⟨by simp [binOp, hr, γ], trivial⟩
  case or => obtain ⟨r, rfl, hr⟩ := or_spec h; exact ⟨by simp [binOp, hr, γ], trivial⟩
  case xor => obtain ⟨r, rfl, hr⟩ := xor_spec h; exact ⟨by simp [binOp, hr, γ], trivial⟩
  case andNot => obtain ⟨r, rfl, hr⟩ := andNot_spec h; exact ⟨by simp [binOp, hr, γ], trivial⟩
  case shl => cases h
  case shr => cases h
  case eql => cases h; exact ⟨by simp [binOp, Op.intCmp, γ, intEqb_spec]; by_cases e : a = b <;> simp [e], trivial⟩
  case neq => cases h; exact ⟨by simp [binOp, Op.intCmp, γ, intEqb_spec]; by_cases e : a = b <;> simp [e], trivial⟩
  case lss => cases h; exact ⟨by simp [binOp, Op.intCmp, γ, ltA_spec], trivial⟩
  case leq => cases h; exact ⟨by simp [binOp, Op.intCmp, γ, ltA_spec]; by_cases e : b < a <;> simp [e] <;> omega, trivial⟩
  case gtr => cases h; exact ⟨by simp [binOp, Op.intCmp, γ, ltA_spec], trivial⟩
  case geq => cases h; exact ⟨by simp [binOp, Op.intCmp, γ, ltA_spec]; by_cases e : a < b <;> simp [e] <;> omega, trivial⟩
theorem shl_spec {t : TypeId} {k j : IntKind} {a b : Int} {v : AVal} (h : (shiftK .shl).f k a b = some v) (w : World) :
    (binOp .shl t (.int k a) (.int j b)).run P w = .ok (γ m v) w ∧ In D v := by
  cases b with
  | negSucc b => cases h
  | ofNat b =>
    have := intOut_spec h; subst this
    refine ⟨?_, trivial⟩
    simp [binOp, Op.shift, γ, wrapA_spec, mulA_spec]
    intro hlt; have := Int.natCast_nonneg b; omega
theorem shr_spec {t : TypeId} {k j : IntKind} {a b : Int} {v : AVal} (h : (shiftK .shr).f k a b = some v) (w : World) :
    (binOp .shr t (.int k a) (.int j b)).run P w = .ok (γ m v) w ∧ In D v := by
  cases b with
  | negSucc b => cases h
  | ofNat b =>
    have e : ∀ n : Nat, (Int.ofNat (Nat.pow 2 n)) = (2 : Int) ^ n := fun n => by show ((2 ^ n : Nat) : Int) = _; push_cast; rfl
    cases a with
    | ofNat a =>
      change intOut k (.ofNat (Nat.div a (Nat.pow 2 (Nat.min b k.bits)))) = some v at h
      have := intOut_spec h; subst this
      refine ⟨?_, trivial⟩
      have e2 : ∀ n : Nat, (a : Int).fdiv ((2 : Int) ^ n) = Int.ofNat (Nat.div a (Nat.pow 2 n)) := fun n => by
        rw [← e]; exact (Int.ofNat_fdiv a (Nat.pow 2 n)).symm
      simp [binOp, Op.shift, γ, e2]
      intro hlt; have := Int.natCast_nonneg b; omega
    | negSucc a =>
      change intOut k ((Int.negSucc a).fdiv (.ofNat (Nat.pow 2 (Nat.min b k.bits)))) = some v at h
      have := intOut_spec h; subst this
      refine ⟨?_, trivial⟩
      simp [binOp, Op.shift, γ]
      intro hlt; have := Int.natCast_nonneg b; omega
omit [Rho] in
theorem toList_mk (l : List UInt8) : (⟨⟨l⟩⟩ : ByteArray).toList = l := by rw [ByteArray.toList_eq]
theorem strK_spec {op : BinOp} {t : TypeId} {a b : List UInt8} {v : AVal} (h : (strK op).f a b = some v) (w : World) :
    (binOp op t (.string ⟨⟨a⟩⟩) (.string ⟨⟨b⟩⟩)).run P w = .ok (γ m v) w ∧ In D v := by
  cases op <;> try (cases h; done)
  case add =>
    change cond (Nat.blt (Nat.add a.length b.length) 4294967296) (some (.str (appB a b))) none = some v at h
    cases hb : Nat.blt (Nat.add a.length b.length) 4294967296 with
    | false => rw [hb] at h; cases h
    | true =>
      rw [hb] at h; cases h
      have hlt : a.length + b.length < 4294967296 := blt_iff.1 hb
      refine ⟨?_, trivial⟩
      have e : (⟨⟨a⟩⟩ : ByteArray) ++ (⟨⟨b⟩⟩ : ByteArray) = ⟨⟨a ++ b⟩⟩ := by apply ByteArray.ext; simp [ByteArray.data_append]
      have sz : ∀ l : List UInt8, (⟨⟨l⟩⟩ : ByteArray).size = l.length := fun l => rfl
      simp only [binOp, Op.stringOp, sz, e, γ, appB_spec, IntKind.max_i64]
      rw [if_neg (by omega)]; rfl
  case eql => cases h; exact ⟨by simp [binOp, Op.stringOp, γ, bytesEqb_spec]; by_cases e : a = b <;> simp [e], trivial⟩
  case neq => cases h; exact ⟨by simp [binOp, Op.stringOp, γ, bytesEqb_spec]; by_cases e : a = b <;> simp [e], trivial⟩
  case lss => cases h; exact ⟨by simp [binOp, Op.stringOp, γ, strLess_spec], trivial⟩
  case leq => cases h; exact ⟨by simp [binOp, Op.stringOp, γ, strLess_spec, bytesEqb_spec]; by_cases e : a = b <;> simp [e], trivial⟩
  case gtr => cases h; exact ⟨by simp [binOp, Op.stringOp, γ, strLess_spec, bytesEqb_spec]; by_cases e : a = b <;> cases Op.bytesLess a b <;> simp [e], trivial⟩
  case geq => cases h; exact ⟨by simp [binOp, Op.stringOp, γ, strLess_spec], trivial⟩
end
end Go.Ev

namespace Go.Ev
variable [Rho] {S : Nat → Prop}
section
variable {P : Program} {E : Env} {m : Mp} {D : Pos → Prop} {tm : Tm} {ρ : Operand → Value}

/-- A value of a plain kind and its type. -/
noncomputable def plainAt (E : Env) (t : TypeId) (v : AVal) : Bool := match E.und t, v with
  | some (.int _), .int _ _ => true
  | some .string, .str _ => true
  | some .bool, .bool _ => true
  | _, _ => false
omit [Rho] in
theorem plainFields_cons {k : Nat} {f : Field} {fs : List Field} {v : AVal} {vs : List AVal} (h : plainFields E k (f :: fs) (v :: vs) = true) :
    plainAt E f.type v = true ∧ f.offset = k ∧ f.name ≠ "_" ∧ plainFields E (k + 1) fs vs = true := by
  simp only [plainFields, Bool.and_eq_true] at h
  obtain ⟨h1, ⟨h2, h3⟩, h4⟩ := h
  refine ⟨h1, beq_iff.1 h2, ?_, h4⟩
  intro e; rw [e] at h3; simp at h3
omit [Rho] in
theorem plain_agg {t : TypeId} {v : AVal} (h : plainAt E t v = true) : E.agg? t = some false := by
  unfold plainAt at h; unfold Env.agg?
  cases hu : E.und t with
  | none => rw [hu] at h; cases h
  | some d => rw [hu] at h; cases d <;> cases v <;> first | rfl | cases h
theorem EnvOk.run_part (ok : EnvOk P E) {t : TypeId} (h : E.agg? t = some false) {xs : Array Value} {off : Nat} {v : Value} (hx : xs[off]? = some v) (w : World) : (part t xs off).run P w = .ok v w := by
  simp [part, ok.run_agg h, hx]
theorem plain_eq1 (ok : EnvOk P E) {t : TypeId} {a b : AVal} {r : Bool} (ha : plainAt E t a = true) (hb : plainAt E t b = true) (hr : sameKeyS a b = some r) (d : Nat) (w : World) :
    (Op.equalIn (d + 1) t (γ m a) (γ m b)).run P w = .ok r w := by
  unfold plainAt at ha hb
  cases hu : E.und t with
  | none => rw [hu] at ha; cases ha
  | some ds =>
    rw [hu] at ha hb
    have hP := ok.und hu
    cases ds <;> try (cases a <;> cases ha; done)
    case bool =>
      cases a <;> try (cases ha; done)
      cases b <;> try (cases hb; done)
      rename_i a b
      simp only [sameKeyS, sameKey, Option.some.injEq] at hr
      subst hr
      simp only [γ, boolEqb_spec]; exact run_equalIn_bool' w d t a b hP
    case int k =>
      cases a <;> try (cases ha; done)
      cases b <;> try (cases hb; done)
      rename_i k1 a k2 b
      simp only [sameKeyS, sameKey] at hr
      cases hk : ikEqb k1 k2 with
      | false => rw [hk] at hr; cases hr
      | true =>
        rw [hk] at hr; cases hr
        have := (ikEqb_spec _ _).1 hk; subst this
        simp only [γ, intEqb_spec]; rw [run_equalIn_int w d t k1 k a b hP]
        by_cases e : a = b <;> simp [e]
    case string =>
      cases a <;> try (cases ha; done)
      cases b <;> try (cases hb; done)
      rename_i a b
      simp only [sameKeyS, Option.some.injEq] at hr
      subst hr
      simp only [γ, bytesEqb_spec]; rw [run_equalIn_string w d t _ _ hP, toList_mk, toList_mk]
      by_cases e : a = b <;> simp [e]
omit [Rho] in
theorem plain_like {t : TypeId} {a b : AVal} {r : Bool} (ha : plainAt E t a = true) (hr : sameKeyS a b = some r) : plainAt E t b = true := by
  unfold plainAt at ha ⊢
  cases hu : E.und t with
  | none => rw [hu] at ha; cases ha
  | some ds => rw [hu] at ha; cases ds <;> cases a <;> first | (cases ha; done) | (cases b <;> first | rfl | (cases hr; done))
theorem plain_eqs (ok : EnvOk P E) (d : Nat) (w : World) : ∀ (fs : List Field) (a b : List AVal) (k : Nat) (r : Bool) (xs ys : Array Value), plainFields E k fs a = true → sameKeys a b = some r →
    (∀ i, xs[k + i]? = (a[i]?).map (γ m)) → (∀ i, ys[k + i]? = (b[i]?).map (γ m)) → (Op.eqFields (d + 1) xs ys fs).run P w = .ok r w
  | [], a, b, k, r, xs, ys, ha, hr, _, _ => by
    cases a <;> simp [plainFields] at ha
    cases b with
    | nil => simp [sameKeys] at hr; subst hr; simp [Op.eqFields]
    | cons b bs => simp [sameKeys] at hr
  | f :: fs, a, b, k, r, xs, ys, ha, hr, hx, hy => by
    cases a with
    | nil => simp [plainFields] at ha
    | cons a as =>
      cases b with
      | nil => simp [sameKeys] at hr
      | cons b bs =>
        obtain ⟨a1, a2, a3, a4⟩ := plainFields_cons ha
        have x0 := hx 0
        have y0 := hy 0
        simp only [Nat.add_zero, List.getElem?_cons_zero, Option.map_some] at x0 y0
        simp only [sameKeys] at hr
        cases h1 : sameKeyS a b with
        | none => rw [h1] at hr; cases hr
        | some q =>
          rw [h1] at hr
          have b1 := plain_like a1 h1
          have e1 := plain_eq1 (m := m) ok a1 b1 h1 d w
          have pa := ok.run_part (plain_agg a1) (off := f.offset) (by rw [a2]; exact x0) w
          have pb := ok.run_part (plain_agg b1) (off := f.offset) (by rw [a2]; exact y0) w
          simp only [Op.eqFields, ne_eq, a3, not_false_eq_true, if_true, Sem.run_bind, pa, pb, e1, Result.andThen_ok]
          cases q with
          | false => simp at hr; subst hr; simp
          | true =>
            simp only at hr
            simp only [Bool.not_true, Bool.false_eq_true, if_false]
            exact plain_eqs ok d w fs as bs (k + 1) r xs ys a4 hr (fun i => by have := hx (i + 1); rw [show k + (i + 1) = k + 1 + i by omega] at this; simpa using this)
              (fun i => by have := hy (i + 1); rw [show k + (i + 1) = k + 1 + i by omega] at this; simpa using this)

omit [Rho] in
theorem eql_of {t : TypeId} {x y : Value} {b : Bool} {w : World} (h1 : binOp .eql t x y = (do pure (Value.bool (← Op.equal t x y)))) (h2 : binOp .neq t x y = (do pure (Value.bool (!(← Op.equal t x y)))))
    (h : ∀ d, (Op.equalIn (d + 1) t x y).run P w = .ok b w) : (binOp .eql t x y).run P w = .ok (.bool b) w ∧ (binOp .neq t x y).run P w = .ok (.bool (!b)) w := by
  have e : (Op.equal t x y).run P w = .ok b w := h 9999
  rw [h1, h2]
  simp only [Sem.run_bind, e, Result.andThen_ok]
  exact ⟨rfl, rfl⟩
theorem eqK_spec (ok : EnvOk P E) {t : TypeId} {c : Bool} {x y : AVal} {b : Bool} (h : (eqK E t c).f x y = some b) {xo yo : Operand} (hc : c = (isK xo || isK yo)) (op : BinOp) (w : World) :
    (eqGuard op t xo yo (γ m x) (γ m y)).run P w = .ok () w ∧ (binOp .eql t (γ m x) (γ m y)).run P w = .ok (.bool b) w ∧ (binOp .neq t (γ m x) (γ m y)).run P w = .ok (.bool (!b)) w := by
  unfold eqK at h
  cases hu : E.und t with
  | none => rw [hu] at h; cases h
  | some d =>
    rw [hu] at h
    have hP := ok.und hu
    have hrun := fun w => run_underlying hP w
    cases d <;> try (cases h; done)
    case bool =>
      cases x <;> try (cases h; done)
      cases y <;> try (cases h; done)
      rename_i p q
      simp only [Option.some.injEq, boolEqb_spec] at h
      subst h
      simp only [γ]
      exact ⟨by rw [eqGuard_at_bool]; rfl, run_eql_bool w t p q hP, run_neq_bool w t p q hP⟩
    case pointer e =>
      cases x <;> try (cases h; done)
      all_goals (cases y <;> try (cases h; done))
      all_goals
        simp only [Option.some.injEq] at h
        subst h
        simp only [γ]
        refine ⟨by rw [eqGuard_at_pointer]; rfl, eql_of rfl rfl fun d => ?_⟩; simp only [Op.equalIn, Sem.run_bind, hrun, Result.andThen_ok]; rfl
    case slice e =>
      cases x <;> try (cases h; done)
      all_goals (cases y <;> try (cases h; done))
      all_goals
        simp only [Option.some.injEq] at h
        subst h
      · rename_i n o l cp
        cases cp <;> (simp only [γ]; refine ⟨by rw [eqGuard_at_slice]; rfl, eql_of rfl rfl fun d => ?_⟩; simp only [Op.equalIn, Sem.run_bind, hrun, Result.andThen_ok]; rfl)
      · rename_i n o l cp
        cases cp <;> (simp only [γ]; refine ⟨by rw [eqGuard_at_slice]; rfl, eql_of rfl rfl fun d => ?_⟩; simp only [Op.equalIn, Sem.run_bind, hrun, Result.andThen_ok]; rfl)
      · simp only [γ]; refine ⟨by rw [eqGuard_at_slice]; rfl, eql_of rfl rfl fun d => ?_⟩; simp only [Op.equalIn, Sem.run_bind, hrun, Result.andThen_ok]; rfl
    case map e f =>
      cases x <;> try (cases h; done)
      all_goals (cases y <;> try (cases h; done))
      all_goals
        simp only [Option.some.injEq] at h
        subst h
        simp only [γ]
        refine ⟨by rw [eqGuard_at_map]; rfl, eql_of rfl rfl fun d => ?_⟩; simp only [Op.equalIn, Sem.run_bind, hrun, Result.andThen_ok]; rfl
    case func e f g =>
      cases x <;> try (cases h; done)
      all_goals (cases y <;> try (cases h; done))
      all_goals
        simp only [Option.some.injEq] at h
        subst h
        simp only [γ]
        refine ⟨by cases op <;> rfl, eql_of rfl rfl fun d => ?_⟩; simp only [Op.equalIn, Sem.run_bind, hrun, Result.andThen_ok]; rfl
    case interface ms =>
      cases x <;> try (cases h; done)
      all_goals (cases y <;> try (cases h; done))
      · simp only [Option.some.injEq] at h
        subst h
        simp only [γ]
        refine ⟨by cases op <;> rfl, eql_of rfl rfl fun d => ?_⟩; simp only [Op.equalIn, Sem.run_bind, hrun, Result.andThen_ok]; rfl
      · simp only [Option.some.injEq] at h
        subst h
        simp only [γ]
        refine ⟨by cases op <;> rfl, eql_of rfl rfl fun d => ?_⟩; simp only [Op.equalIn, Sem.run_bind, hrun, Result.andThen_ok]; rfl
      · cases c with
        | false => cases h
        | true =>
          cases h
          simp only [γ]
          refine ⟨?_, eql_of rfl rfl fun d => ?_⟩
          · cases xo <;> cases yo <;> first | (simp [isK] at hc; done) | (cases op <;> rfl)
          · simp only [Op.equalIn, Sem.run_bind, hrun, Result.andThen_ok]; rfl
    case struct fs =>
      cases hg : E.gt t with
      | false => rw [hg] at h; cases h
      | true =>
        rw [hg] at h
        obtain ⟨g1, g2⟩ := ok.gt t hg
        cases x <;> try (cases h; done)
        cases y <;> try (cases h; done)
        rename_i a b'
        simp only [cond_true] at h
        cases hp : (plainFields E 0 fs.toList a && plainFields E 0 fs.toList b') with
        | false => rw [hp] at h; cases h
        | true =>
          rw [hp] at h
          simp only [cond_true] at h
          rw [Bool.and_eq_true] at hp
          have hf : P.fieldsOf t = fs := by unfold Program.fieldsOf; rw [hP]
          have key : (Op.equalIn 10000 t (.agg ⟨γs m a⟩) (.agg ⟨γs m b'⟩)).run P w = .ok b w := by
            rw [run_equalIn_agg w 9999 t _ _ (by rw [hf]; exact hP) g1, hf]
            exact plain_eqs (m := m) ok 9998 w fs.toList a b' 0 b _ _ hp.1 h (fun i => by simp [γs_map]) (fun i => by simp [γs_map])
          simp only [γ]
          exact ⟨run_eqGuard_agg w op t xo yo _ _ g2, by rw [run_eql_struct, key]; rfl, by rw [run_neq_struct, key]; rfl⟩
end
end Go.Ev

namespace Go.Ev
variable [Rho] {S : Nat → Prop}

def PuOk (P : Program) (E : Env) (op : Op) (f : Tm → Option AVal) : Prop :=
  ∀ (m : Mp) (D : Pos → Prop) (tm : Tm) (ρ : Operand → Value) (v : AVal) (w : World) (o : Oper), o.op = op → Src E.gl m D tm ρ → f tm = some v →
    (execOp ρ o).run P w = .ok (.value (γ m v)) w ∧ In D v
def RdOk (P : Program) (E : Env) (op : Op) (f : Tm → Heap → Option AVal) : Prop :=
  ∀ (S : Nat → Prop) (m : Mp) (h : Heap) (tm : Tm) (ρ : Operand → Value) (v : AVal) (w : World) (o : Oper), o.op = op → Rep E.gl S m h w → Src E.gl m (dom h) tm ρ → f tm h = some v →
    (execOp ρ o).run P w = .ok (.value (γ m v)) w ∧ In (dom h) v
def NwOk (P : Program) (E : Env) (op : Op) (f : Tm → Option (AObj × Mk)) : Prop :=
  ∀ (m : Mp) (D : Pos → Prop) (tm : Tm) (ρ : Operand → Value) (ob : AObj) (mk : Mk) (w : World) (o : Oper), o.op = op → Src E.gl m D tm ρ → f tm = some (ob, mk) →
    ∀ n, ¬ D n → ∃ cap obj, (execOp ρ o).run P w = .ok (.value (γ (m.set n w.heap.size cap) (mk.mk n))) { w with heap := w.heap.push obj } ∧
      BlkObj (m.set n w.heap.size cap) n ob obj ∧ InObj D ob ∧ ob.isB = true
def WrGood (P : Program) (E : Env) (S : Nat → Prop) (m : Mp) (h : Heap) (w : World) (s : Sem Next) : OR → Prop
  | .ok v h' => ∃ m' w' r, s.run P w = .ok r w' ∧ (r = .value (γ m' v) ∨ (r = .skip ∧ v = undefA)) ∧ Rep E.gl S m' h' w' ∧ Goes m h w m' h' w' ∧ In (dom h') v ∧ h'.df = h.df
  | .call g args => s.run P w = .ok (.enter g ⟨γs m args⟩) w ∧ InL (dom h) args
  | .fail => True
def WrOk (P : Program) (E : Env) (op : Op) (f : Tm → Heap → OR) : Prop :=
  ∀ (S : Nat → Prop) (m : Mp) (h : Heap) (tm : Tm) (ρ : Operand → Value) (w : World) (o : Oper), o.op = op → Rep E.gl S m h w → Src E.gl m (dom h) tm ρ → WrGood P E S m h w (execOp ρ o) (f tm h)
def OpOk (P : Program) (E : Env) (op : Op) : OpK → Prop
  | .pu f => PuOk P E op f
  | .rd f => RdOk P E op f
  | .nw f => NwOk P E op f
  | .wr f => WrOk P E op f

section
variable {P : Program} {E : Env}
theorem bad_ok (op : Op) : OpOk P E op .bad := fun _ _ _ _ _ _ _ _ _ h => by cases h
omit [Rho] in
theorem pu_val {ρ : Operand → Value} {o : Oper} {s : Sem Value} {w : World} {r : Value} (he : execOp ρ o = (do pure (.value (← s)))) (h : s.run P w = .ok r w) : (execOp ρ o).run P w = .ok (.value r) w := by
  rw [he]; simp [h]
/-- An operation on one operand. -/
theorem on1_ok {op : Op} {f : AVal → Option AVal} {x : Operand} (s : Value → Sem Value)
    (he : ∀ ρ o, o.op = op → execOp ρ o = (do pure (.value (← s (ρ x)))))
    (hf : ∀ (m : Mp) (D : Pos → Prop) u v w, In D u → f u = some v → (s (γ m u)).run P w = .ok (γ m v) w ∧ In D v) : OpOk P E op (on1 E f x) :=
  fun m D tm ρ v w o ho hs hv => by
    obtain ⟨h1, h2⟩ := src_ok (E := E) hs x
    obtain ⟨h3, h4⟩ := hf m D _ v w h2 hv
    exact ⟨pu_val (he ρ o ho) (by rw [h1]; exact h3), h4⟩
theorem on2_ok {op : Op} {f : AVal → AVal → Option AVal} {x y : Operand} (s : Value → Value → Sem Value)
    (he : ∀ ρ o, o.op = op → execOp ρ o = (do pure (.value (← s (ρ x) (ρ y)))))
    (hf : ∀ (m : Mp) (D : Pos → Prop) a b v w, In D a → In D b → f a b = some v → (s (γ m a) (γ m b)).run P w = .ok (γ m v) w ∧ In D v) : OpOk P E op (on2 E f x y) :=
  fun m D tm ρ v w o ho hs hv => by
    obtain ⟨h1, h2⟩ := src_ok (E := E) hs x
    obtain ⟨g1, g2⟩ := src_ok (E := E) hs y
    obtain ⟨h3, h4⟩ := hf m D _ _ v w h2 g2 hv
    exact ⟨pu_val (he ρ o ho) (by rw [h1, g1]; exact h3), h4⟩

theorem move_ok (x : Operand) : OpOk P E (.move x) (opK0 E (.move x)) := fun m D tm ρ v w o ho hs hv => by
  obtain ⟨h1, h2⟩ := src_ok (E := E) hs x
  cases hv
  exact ⟨by simp only [execOp, ho, Sem.run_pure, h1], h2⟩
theorem assign_ok (x : Operand) : OpOk P E (.assign x) (opK0 E (.assign x)) := fun m D tm ρ v w o ho hs hv => by
  obtain ⟨h1, h2⟩ := src_ok (E := E) hs x
  cases hv
  exact ⟨by simp only [execOp, ho, Sem.run_pure, h1], h2⟩
theorem pick_ok (c a b : Operand) : OpOk P E (.pick c a b) (opK0 E (.pick c a b)) := fun m D tm ρ v w o ho hs hv => by
  obtain ⟨h1, h2⟩ := src_ok (E := E) hs c
  obtain ⟨a1, a2⟩ := src_ok (E := E) hs a
  obtain ⟨b1, b2⟩ := src_ok (E := E) hs b
  simp only at hv
  generalize (srcK E c).g tm = u at h1 hv
  cases u <;> try (cases hv; done)
  rename_i q
  cases q <;> cases hv
  · exact ⟨by simp [execOp, ho, h1, γ, asBool, b1], b2⟩
  · exact ⟨by simp [execOp, ho, h1, γ, asBool, a1], a2⟩
theorem nilCheck_ok (x : Operand) : OpOk P E (.nilCheck x) (opK0 E (.nilCheck x)) := fun m D tm ρ v w o ho hs hv => by
  obtain ⟨h1, h2⟩ := src_ok (E := E) hs x
  simp only at hv
  generalize (srcK E x).g tm = u at h1 h2 hv
  cases u <;> try (cases hv; done)
  · cases hv; exact ⟨by simp [execOp, ho, h1, γ], h2⟩
  · rename_i n o l c; cases hv; cases c <;> exact ⟨by simp [execOp, ho, h1, γ], h2⟩
  · rename_i fn a b
    cases fn <;> try (cases hv; done)
    cases hv; exact ⟨by simp [execOp, ho, h1, γ], h2⟩
  · cases hv; exact ⟨by simp [execOp, ho, h1, γ], h2⟩
theorem unOp_ok (op : UnOp) (t : TypeId) (x : Operand) : OpOk P E (.unOp op t x) (opK0 E (.unOp op t x)) :=
  on1_ok (fun a => Op.unary op a) (fun ρ o ho => by simp only [execOp, ho]) fun m D u v w hu hv => by
    cases op <;> cases u <;> try (cases hv; done)
    · have := intOut_spec hv; subst this
      exact ⟨by simp [Op.unary, Op.intArith, γ, wrapA_spec, subA_spec], trivial⟩
    · rename_i k n
      cases n with
      | negSucc n => cases hv
      | ofNat n =>
        have hu : (k = .u8 ∨ k = .u16 ∨ k = .u32 ∨ k = .u64) ∧ cond (Nat.blt n (half k)) (intOut k (.ofNat (Nat.sub (Nat.sub (half k) 1) n))) none = some v := by
          cases k <;> first | (cases hv; done) | exact ⟨by simp, hv⟩
        obtain ⟨hk, hv⟩ := hu
        cases hb : Nat.blt n (half k) with
        | false => rw [hb] at hv; cases hv
        | true =>
          rw [hb] at hv
          have := intOut_spec (k := k) (n := .ofNat (Nat.sub (Nat.sub (half k) 1) n)) hv; subst this
          refine ⟨?_, trivial⟩
          have hlt : n < half k := blt_iff.1 hb
          have hmax : k.max = Int.ofNat (half k - 1) ∧ k.signed = false ∧ half k = 2 ^ k.bits := by rcases hk with rfl | rfl | rfl | rfl <;> decide
          have hm1 : half k - 1 < half k := by omega
          have key : (BitVec.ofInt k.bits (Int.ofNat (half k - 1)) ^^^ BitVec.ofInt k.bits (Int.ofNat n)).toNat = half k - 1 - n := by
            have e : BitVec.ofInt k.bits (Int.ofNat (half k - 1)) = BitVec.allOnes k.bits := by
              apply BitVec.eq_of_toNat_eq; rw [ofInt_toNat k hm1, BitVec.toNat_allOnes, hmax.2.2]
            rw [e, BitVec.allOnes_xor, BitVec.toNat_not, ofInt_toNat k hlt, hmax.2.2]
          have hs : ∀ a b, Nat.sub a b = a - b := fun _ _ => rfl
          simp only [Op.unary, Op.intBits, γ, hmax.2.1, Bool.false_eq_true, if_false, hmax.1, Sem.run_pure, key, hs]
          have := wrap_small k (a := half k - 1 - n) (by omega)
          rw [show ((half k - 1 - n : Nat) : Int) = Int.ofNat (half k - 1 - n) from rfl, this]
    · cases hv
      rename_i b
      exact ⟨by cases b <;> simp [Op.unary, γ], trivial⟩
theorem makeInterface_ok (ok : EnvOk P E) (t : TypeId) (x : Operand) : OpOk P E (.makeInterface t x) (opK0 E (.makeInterface t x)) :=
  on1_ok (fun a => Instr.makeInterface t a) (fun ρ o ho => by simp only [execOp, ho]) fun m D u v w hu hv => by
    unfold makeIfaceK at hv
    cases ht : E.und t with
    | none => rw [ht] at hv; cases hv
    | some d =>
      rw [ht] at hv
      have hr := ok.run_und ht w
      cases d <;> first | (cases hv; done) | (cases hv; exact ⟨by simp [Instr.makeInterface, hr, γ], hu⟩)
theorem extract_ok (t : Operand) (i : Nat) : OpOk P E (.extract t i) (opK0 E (.extract t i)) := fun m D tm ρ v w o ho hs hv => by
  obtain ⟨h1, h2⟩ := src_ok (E := E) hs t
  simp only at hv
  generalize (srcK E t).g tm = u at h1 h2 hv
  cases u <;> try (cases hv; done)
  rename_i l
  simp only [nth_spec] at hv
  exact ⟨by simp [execOp, ho, h1, γ, Instr.extract, γs_map, hv], InL_mem h2 hv⟩
theorem makeFunc_ok (f : FuncId) (a b : Array Operand) : OpOk P E (.makeFunc (.func f) a b) (opK0 E (.makeFunc (.func f) a b)) := fun m D tm ρ v w o ho hs hv => by
  obtain ⟨h1, h2⟩ := srcs_ok (E := E) hs a.toList
  obtain ⟨g1, g2⟩ := srcs_ok (E := E) hs b.toList
  cases hv
  refine ⟨?_, h2, g2⟩
  have e1 : a.map ρ = ⟨a.toList.map ρ⟩ := by apply Array.ext'; simp
  have e2 : b.map ρ = ⟨b.toList.map ρ⟩ := by apply Array.ext'; simp
  simp [execOp, ho, Instr.makeFunc, γ, e1, e2, h1, g1]
theorem binOp_ok (ok : EnvOk P E) (op : BinOp) (t yt : TypeId) (x y : Operand) : OpOk P E (.binOp op t x y yt) (opK0 E (.binOp op t x y yt)) := fun m D tm ρ v w o ho hs hv => by
  obtain ⟨h1, h2⟩ := src_ok (E := E) hs x
  obtain ⟨g1, g2⟩ := src_ok (E := E) hs y
  simp only at hv
  generalize (srcK E x).g tm = a at h1 h2 hv
  generalize (srcK E y).g tm = b at g1 g2 hv
  have key : (eqGuard op t x y (γ m a) (γ m b)).run P w = .ok () w ∧ (binOp op t (γ m a) (γ m b)).run P w = .ok (γ m v) w ∧ In D v := by
    have gi : ∀ k n u, (eqGuard op t x y (γ m (.int k n)) u).run P w = .ok () w := fun k n u => by simp only [γ]; rw [eqGuard_at_int]; rfl
    have gs : ∀ l u, (eqGuard op t x y (γ m (.str l)) u).run P w = .ok () w := fun l u => by simp only [γ]; rw [eqGuard_at_string]; rfl
    unfold binK at hv
    cases op
    case shl => cases a <;> try (cases hv; done)
                cases b <;> try (cases hv; done)
                exact ⟨gi _ _ _, shl_spec hv w⟩
    case shr => cases a <;> try (cases hv; done)
                cases b <;> try (cases hv; done)
                exact ⟨gi _ _ _, shr_spec hv w⟩
    case eql =>
      have other : (Option.casesOn ((eqK E t (isK x || isK y)).f a b) none fun b => some (AVal.bool b)) = some v →
          ((eqGuard .eql t x y (γ m a) (γ m b)).run P w = .ok () w ∧ (binOp .eql t (γ m a) (γ m b)).run P w = .ok (γ m v) w ∧ In D v) := fun hv => by
        cases he : (eqK E t (isK x || isK y)).f a b with
        | none => rw [he] at hv; cases hv
        | some u =>
          rw [he] at hv; cases hv
          obtain ⟨e1, e2, _⟩ := eqK_spec (m := m) ok he rfl .eql w
          exact ⟨e1, e2, trivial⟩
      cases ht : E.und t with
      | none => rw [ht] at hv; exact other hv
      | some d =>
        rw [ht] at hv
        cases d <;> try (exact other hv)
        · cases a <;> try (cases hv; done)
          cases b <;> try (cases hv; done)
          rename_i k1 a k2 b
          simp only at hv
          cases hk : ikEqb k1 k2 with
          | false => rw [hk] at hv; cases hv
          | true => rw [hk] at hv; have := (ikEqb_spec _ _).1 hk; subst this; exact ⟨gi _ _ _, intK_spec hv w⟩
        · cases a <;> try (cases hv; done)
          cases b <;> try (cases hv; done)
          exact ⟨gs _ _, strK_spec hv w⟩
    case neq =>
      have other : (Option.casesOn ((eqK E t (isK x || isK y)).f a b) none fun b => some (AVal.bool (cond b false true))) = some v →
          ((eqGuard .neq t x y (γ m a) (γ m b)).run P w = .ok () w ∧ (binOp .neq t (γ m a) (γ m b)).run P w = .ok (γ m v) w ∧ In D v) := fun hv => by
        cases he : (eqK E t (isK x || isK y)).f a b with
        | none => rw [he] at hv; cases hv
        | some u =>
          rw [he] at hv; cases hv
          obtain ⟨e1, _, e3⟩ := eqK_spec (m := m) ok he rfl .neq w
          exact ⟨e1, by rw [e3]; cases u <;> rfl, trivial⟩
      cases ht : E.und t with
      | none => rw [ht] at hv; exact other hv
      | some d =>
        rw [ht] at hv
        cases d <;> try (exact other hv)
        · cases a <;> try (cases hv; done)
          cases b <;> try (cases hv; done)
          rename_i k1 a k2 b
          simp only at hv
          cases hk : ikEqb k1 k2 with
          | false => rw [hk] at hv; cases hv
          | true => rw [hk] at hv; have := (ikEqb_spec _ _).1 hk; subst this; exact ⟨gi _ _ _, intK_spec hv w⟩
        · cases a <;> try (cases hv; done)
          cases b <;> try (cases hv; done)
          exact ⟨gs _ _, strK_spec hv w⟩
    all_goals
      cases ht : E.und t with
      | none =>
        rw [ht] at hv
        cases a <;> try (cases hv; done)
        cases b <;> try (cases hv; done)
        rename_i k1 a k2 b
        simp only at hv
        cases hk : ikEqb k1 k2 with
        | false => rw [hk] at hv; cases hv
        | true => rw [hk] at hv; have := (ikEqb_spec _ _).1 hk; subst this; exact ⟨gi _ _ _, intK_spec hv w⟩
      | some d =>
        rw [ht] at hv
        cases d <;>
          (cases a <;> try (cases hv; done)) <;>
          (cases b <;> try (cases hv; done)) <;>
          first
          | exact ⟨gs _ _, strK_spec hv w⟩
          | (rename_i k1 a k2 b
             simp only at hv
             cases hk : ikEqb k1 k2 with
             | false => rw [hk] at hv; cases hv
             | true => rw [hk] at hv; have := (ikEqb_spec _ _).1 hk; subst this; exact ⟨gi _ _ _, intK_spec hv w⟩)
  refine ⟨?_, key.2.2⟩
  simp only [execOp, ho, h1, g1, Sem.run_bind, key.1, key.2.1, Result.andThen_ok, Sem.run_pure]
end
end Go.Ev

namespace Go.Ev
variable [Rho] {S : Nat → Prop}
section
variable {P : Program} {E : Env}

omit [Rho] in
theorem extract_mk (l : List Value) (a b : Nat) : (⟨l⟩ : Array Value).extract a b = ⟨(l.drop a).take (b - a)⟩ := by
  apply Array.ext'; simp [List.extract_eq_take_drop]
theorem part_spec (ok : EnvOk P E) {m : Mp} {D : Pos → Prop} {t : TypeId} {off : Nat} {l : List AVal} {v : AVal} (h : (partK E t off).f l = some v) (hl : InL D l) (w : World) :
    (part t ⟨γs m l⟩ off).run P w = .ok (γ m v) w ∧ In D v := by
  unfold partK at h
  cases ha : E.agg? t with
  | none => rw [ha] at h; cases h
  | some b =>
    rw [ha] at h
    have hag := ok.run_agg ha w
    cases b with
    | false =>
      simp only [nth_spec] at h
      exact ⟨by simp [part, hag, γs_map, h], InL_mem hl h⟩
    | true =>
      cases hs : E.size t with
      | none => rw [hs] at h; cases h
      | some k =>
        rw [hs] at h
        simp only at h
        cases ht : takeA k (dropA off l) with
        | none => rw [ht] at h; cases h
        | some r =>
          rw [ht] at h; cases h
          obtain ⟨h1, h2⟩ := takeA_spec _ _ _ ht
          rw [dropA_spec] at h1 h2
          subst h2
          refine ⟨?_, (InL_iff _).2 fun v hv => (InL_iff _).1 hl v (List.mem_of_mem_drop (List.mem_of_mem_take hv))⟩
          have hz := ok.run_size hs w
          simp [part, hag, hz, γ, γs_map, List.map_take, List.map_drop]
omit [Rho] in
theorem zip_set (off : Nat) : ∀ (vs : List Value) (k : Nat) (A : List Value), off + k + vs.length ≤ A.length →
    (vs.zipIdx k).foldl (fun (cs : Array Value) (p : Value × Nat) => cs.setIfInBounds (off + p.2) p.1) ⟨A⟩ = ⟨A.take (off + k) ++ vs ++ A.drop (off + k + vs.length)⟩
  | [], k, A, _ => by simp
  | v :: vs, k, A, h => by
    simp only [List.zipIdx_cons, List.foldl_cons, List.setIfInBounds_toArray]
    have := zip_set off vs (k + 1) (A.set (off + k) v) (by simp at h ⊢; omega)
    rw [show (A.set (off + k) v).toArray = (⟨A.set (off + k) v⟩ : Array Value) from rfl, this, show off + (k + 1) = off + k + 1 from rfl, list_seg_step A (off + k) v vs (by simp at h ⊢; omega)]
    rfl
theorem fill_spec {m : Mp} {D : Pos → Prop} {pl : Nat → Option (Nat × Nat)} {tm : Tm} (hin : ∀ x : Operand, In D ((srcK E x).g tm)) : ∀ (parts : List (Nat × Operand)) (l r : List AVal),
    fillA pl (parts.map fun p => (p.1, srcK E p.2)) tm l = some r → InL D l →
    Instr.fill pl ⟨γs m l⟩ (parts.map fun p => (p.1, γ m ((srcK E p.2).g tm))) = some ⟨γs m r⟩ ∧ InL D r ∧ r.length = l.length
  | [], l, r, h, hl => by cases h; exact ⟨rfl, hl, rfl⟩
  | (i, x) :: parts, l, r, h, hl => by
    simp only [List.map_cons, fillA] at h
    cases hp : pl i with
    | none => rw [hp] at h; cases h
    | some p =>
      obtain ⟨off, size⟩ := p
      rw [hp] at h
      simp only at h
      cases hb : Nat.beq ((srcK E x).g tm).cells.length size with
      | false => rw [hb] at h; cases h
      | true =>
        rw [hb] at h
        simp only [cond_true] at h
        have hsz := beq_iff.1 hb
        cases ho : overA ((srcK E x).g tm).cells off l with
        | none => rw [ho] at h; cases h
        | some l' =>
          rw [ho] at h
          obtain ⟨h1, h2⟩ := overA_spec _ _ _ _ ho
          have hin' : InL D l' := by
            rw [h2]
            refine (InL_iff _).2 fun v hv => ?_
            rcases List.mem_append.1 hv with hv | hv
            · exact (InL_iff _).1 hl v (List.mem_of_mem_take hv)
            · rcases List.mem_append.1 hv with hv | hv
              · exact (InL_iff _).1 (InL_cells (hin x)) v hv
              · exact (InL_iff _).1 hl v (List.mem_of_mem_drop hv)
          obtain ⟨i1, i2, i3⟩ := fill_spec hin parts l' r h hin'
          refine ⟨?_, i2, by rw [i3, h2]; simp; omega⟩
          simp only [List.map_cons, Instr.fill, hp, γ_cells m (hin x)]
          have hl2 : (γs m ((srcK E x).g tm).cells).length = size := by rw [γs_length]; exact hsz
          rw [if_neg (by simp [γs_length]; omega)]
          have key : ((⟨γs m ((srcK E x).g tm).cells⟩ : Array Value).zipIdx.foldl (fun (cs : Array Value) (p : Value × Nat) => cs.setIfInBounds (off + p.2) p.1) ⟨γs m l⟩) = ⟨γs m l'⟩ := by
            rw [← Array.foldl_toList, Array.toList_zipIdx]
            have z := zip_set off (γs m ((srcK E x).g tm).cells) 0 (γs m l) (by simp [γs_length]; omega)
            simp only [Nat.add_zero] at z
            have e : (γs m l).take off ++ γs m ((srcK E x).g tm).cells ++ (γs m l).drop (off + (γs m ((srcK E x).g tm).cells).length) = γs m l' := by
              rw [h2, γs_append, γs_append]; simp [γs_map, List.map_take, List.map_drop]
            rw [← e]; exact z
          rw [key]; exact i1
end
end Go.Ev
