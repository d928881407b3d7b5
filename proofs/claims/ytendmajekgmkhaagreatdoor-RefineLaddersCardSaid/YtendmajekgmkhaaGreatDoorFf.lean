/- The evaluator of closed calls, part Ff: what the program computes on given inputs, read by the kernel; sound in every world (part Gh). -/
import Derived.Test.YtendmajekgmkhaaGreatDoorFe
set_option linter.unusedVariables false
set_option linter.unusedSimpArgs false
set_option linter.unnecessarySimpa false
namespace Go.Ev
section
variable {P : Program} {E : Env} {m : Mp} {D : Pos → Prop} {tm : Tm} {ρ : Operand → Value}

theorem half_pow (k : IntKind) : half k = 2 ^ (if k.signed then k.bits - 1 else k.bits) := by cases k <;> decide
theorem ofInt_toNat (k : IntKind) {a : Nat} (h : a < half k) : (BitVec.ofInt k.bits (Int.ofNat a)).toNat = a := by
  have h2 : a < 2 ^ k.bits := Nat.lt_of_lt_of_le h (half_le k)
  have : BitVec.ofInt k.bits (Int.ofNat a) = BitVec.ofNat k.bits a := by
    apply BitVec.eq_of_toNat_eq
    rw [BitVec.toNat_ofInt, BitVec.toNat_ofNat]
    rfl
  rw [this, BitVec.toNat_ofNat, Nat.mod_eq_of_lt h2]
theorem bitK_spec {f : Nat → Nat → Nat} {op : BinOp} {k : IntKind} {x y : Int} {v : AVal} (h : (bitK f).f k x y = some v)
    (hop : ∀ a b : Nat, a < half k → b < half k → f a b < half k ∧ (Op.intBits op k (Int.ofNat a) (Int.ofNat b) = (pure (.int k (k.wrap (Int.ofNat (f a b)))) : Sem Value))) :
    ∃ r, v = .int k r ∧ Op.intBits op k x y = (pure (.int k r) : Sem Value) := by
  cases x with
  | negSucc a => cases h
  | ofNat a => cases y with
    | negSucc b => cases h
    | ofNat b =>
      change cond (Nat.blt a (half k)) (cond (Nat.blt b (half k)) (intOut k (.ofNat (f a b))) none) none = some v at h
      cases ha : Nat.blt a (half k) with
      | false => rw [ha] at h; cases h
      | true => cases hb : Nat.blt b (half k) with
        | false => rw [ha, hb] at h; cases h
        | true =>
          rw [ha, hb] at h
          change intOut k (.ofNat (f a b)) = some v at h
          obtain ⟨h1, h2⟩ := hop a b (blt_iff.1 ha) (blt_iff.1 hb)
          exact ⟨_, intOut_spec h, by rw [h2, wrap_small k h1]⟩
theorem and_spec {k : IntKind} {x y : Int} {v : AVal} (h : (bitK Nat.land).f k x y = some v) : ∃ r, v = .int k r ∧ Op.intBits .and k x y = (pure (.int k r) : Sem Value) :=
  bitK_spec h fun a b ha hb => ⟨Nat.lt_of_le_of_lt Nat.and_le_left ha, by
    show (pure (Value.int k (k.wrap ((BitVec.ofInt k.bits (Int.ofNat a) &&& BitVec.ofInt k.bits (Int.ofNat b)).toNat : Int))) : Sem Value) = _
    rw [BitVec.toNat_and, ofInt_toNat k ha, ofInt_toNat k hb]; rfl⟩
theorem or_spec {k : IntKind} {x y : Int} {v : AVal} (h : (bitK Nat.lor).f k x y = some v) : ∃ r, v = .int k r ∧ Op.intBits .or k x y = (pure (.int k r) : Sem Value) :=
  bitK_spec h fun a b ha hb => ⟨by rw [half_pow] at *; exact Nat.or_lt_two_pow ha hb, by
    show (pure (Value.int k (k.wrap ((BitVec.ofInt k.bits (Int.ofNat a) ||| BitVec.ofInt k.bits (Int.ofNat b)).toNat : Int))) : Sem Value) = _
    rw [BitVec.toNat_or, ofInt_toNat k ha, ofInt_toNat k hb]; rfl⟩
theorem xor_spec {k : IntKind} {x y : Int} {v : AVal} (h : (bitK Nat.xor).f k x y = some v) : ∃ r, v = .int k r ∧ Op.intBits .xor k x y = (pure (.int k r) : Sem Value) :=
  bitK_spec h fun a b ha hb => ⟨by rw [half_pow] at *; exact Nat.xor_lt_two_pow ha hb, by
    show (pure (Value.int k (k.wrap ((BitVec.ofInt k.bits (Int.ofNat a) ^^^ BitVec.ofInt k.bits (Int.ofNat b)).toNat : Int))) : Sem Value) = _
    rw [BitVec.toNat_xor, ofInt_toNat k ha, ofInt_toNat k hb]; rfl⟩
theorem andNot_spec {k : IntKind} {x y : Int} {v : AVal} (h : (bitK fun a b => Nat.xor a (Nat.land a b)).f k x y = some v) : ∃ r, v = .int k r ∧ Op.intBits .andNot k x y = (pure (.int k r) : Sem Value) :=
  bitK_spec h fun a b ha hb => ⟨by rw [half_pow] at *; exact Nat.xor_lt_two_pow ha (Nat.lt_of_le_of_lt Nat.and_le_left ha), by
    show (pure (Value.int k (k.wrap ((BitVec.ofInt k.bits (Int.ofNat a) &&& ~~~ BitVec.ofInt k.bits (Int.ofNat b)).toNat : Int))) : Sem Value) = _
    have e : ∀ p q : BitVec k.bits, p &&& ~~~ q = p ^^^ (p &&& q) := fun p q => by
      apply BitVec.eq_of_getLsbD_eq; intro i hi
      simp only [BitVec.getLsbD_and, BitVec.getLsbD_not, BitVec.getLsbD_xor, hi, decide_true, Bool.true_and]
      cases p.getLsbD i <;> cases q.getLsbD i <;> rfl
    rw [e, BitVec.toNat_xor, BitVec.toNat_and, ofInt_toNat k ha, ofInt_toNat k hb]; rfl⟩

/-- The integer operators but for the shifts. -/
theorem intK_spec {op : BinOp} {t : TypeId} {k : IntKind} {a b : Int} {v : AVal} (h : (intK op).f k a b = some v) (w : World) :
    (binOp op t (.int k a) (.int k b)).run P w = .ok (γ m v) w ∧ In D v := by
  cases op
  case add => have := intOut_spec h; subst this; exact ⟨by simp [binOp, Op.intArith, γ, wrapA_spec, addA_spec], trivial⟩
  case sub => have := intOut_spec h; subst this; exact ⟨by simp [binOp, Op.intArith, γ, wrapA_spec, subA_spec], trivial⟩
  case mul => have := intOut_spec h; subst this; exact ⟨by simp [binOp, Op.intArith, γ, wrapA_spec, mulA_spec], trivial⟩
  case quo =>
    change cond (intEqb b 0) none (intOut k (wrapA k (quoA a b))) = some v at h
    rw [intEqb_spec] at h
    by_cases hb : b = 0
    · simp [hb] at h
    · simp [hb] at h; have := intOut_spec h; subst this; exact ⟨by simp [binOp, Op.intDiv, γ, wrapA_spec, quoA_spec, hb], trivial⟩
  case rem =>
    change cond (intEqb b 0) none (intOut k (remA a b)) = some v at h
    rw [intEqb_spec] at h
    by_cases hb : b = 0
    · simp [hb] at h
    · simp [hb] at h; have := intOut_spec h; subst this; exact ⟨by simp [binOp, Op.intDiv, γ, remA_spec, hb], trivial⟩
  case and => obtain ⟨r, rfl, hr⟩ := and_spec h; exact ⟨by simp [binOp, hr, γ], trivial⟩
  case or => obtain ⟨r, rfl, hr⟩ := or_spec h; exact ⟨by simp [binOp, hr, γ], trivial⟩
  case xor => obtain ⟨r, rfl, hr⟩ := xor_spec h; exact ⟨by simp [binOp, hr, γ], trivial⟩
  case andNot => obtain ⟨r, rfl, hr⟩ := andNot_spec h; exact ⟨by simp [binOp, hr, γ], trivial⟩
  case shl => cases h
  case shr => cases h
  case eql => cases h; exact ⟨by simp [binOp, Op.intCmp, γ, intEqb_spec]; by_cases e : a = b <;> simp [e], trivial⟩
  case neq => cases h; exact ⟨by simp [binOp, Op.intCmp, γ, intEqb_spec]; by_cases e : a = b <;> simp [e], trivial⟩
  case lss => cases h; exact ⟨by simp [binOp, Op.intCmp, γ, ltA_spec], trivial⟩
  case leq => cases h; exact ⟨by simp [binOp, Op.intCmp, γ, ltA_spec]; by_cases e : b < a <;> simp [e] <;> omega, trivial⟩
  case gtr => cases h; exact ⟨by simp [binOp, Op.intCmp, γ, ltA_spec], trivial⟩
  case geq => cases h; exact ⟨by simp [binOp, Op.intCmp, γ, ltA_spec]; by_cases e : a < b <;> simp [e] <;> omega, trivial⟩
theorem shl_spec {t : TypeId} {k j : IntKind} {a b : Int} {v : AVal} (h : (shiftK .shl).f k a b = some v) (w : World) :
    (binOp .shl t (.int k a) (.int j b)).run P w = .ok (γ m v) w ∧ In D v := by
  cases b with
  | negSucc b => cases h
  | ofNat b =>
    have := intOut_spec h; subst this
    refine ⟨?_, trivial⟩
    simp [binOp, Op.shift, γ, wrapA_spec, mulA_spec]
    intro hlt; have := Int.natCast_nonneg b; omega
theorem shr_spec {t : TypeId} {k j : IntKind} {a b : Int} {v : AVal} (h : (shiftK .shr).f k a b = some v) (w : World) :
    (binOp .shr t (.int k a) (.int j b)).run P w = .ok (γ m v) w ∧ In D v := by
  cases b with
  | negSucc b => cases h
  | ofNat b =>
    have e : ∀ n : Nat, (Int.ofNat (Nat.pow 2 n)) = (2 : Int) ^ n := fun n => by show ((2 ^ n : Nat) : Int) = _; push_cast; rfl
    cases a with
    | ofNat a =>
      change intOut k (.ofNat (Nat.div a (Nat.pow 2 (Nat.min b k.bits)))) = some v at h
      have := intOut_spec h; subst this
      refine ⟨?_, trivial⟩
      have e2 : ∀ n : Nat, (a : Int).fdiv ((2 : Int) ^ n) = Int.ofNat (Nat.div a (Nat.pow 2 n)) := fun n => by
        rw [← e]; exact (Int.ofNat_fdiv a (Nat.pow 2 n)).symm
      simp [binOp, Op.shift, γ, e2]
      intro hlt; have := Int.natCast_nonneg b; omega
    | negSucc a =>
      change intOut k ((Int.negSucc a).fdiv (.ofNat (Nat.pow 2 (Nat.min b k.bits)))) = some v at h
      have := intOut_spec h; subst this
      refine ⟨?_, trivial⟩
      simp [binOp, Op.shift, γ]
      intro hlt; have := Int.natCast_nonneg b; omega
theorem toList_mk (l : List UInt8) : (⟨⟨l⟩⟩ : ByteArray).toList = l := by rw [ByteArray.toList_eq]
theorem strK_spec {op : BinOp} {t : TypeId} {a b : List UInt8} {v : AVal} (h : (strK op).f a b = some v) (w : World) :
    (binOp op t (.string ⟨⟨a⟩⟩) (.string ⟨⟨b⟩⟩)).run P w = .ok (γ m v) w ∧ In D v := by
  cases op <;> try (cases h; done)
  case add =>
    change cond (Nat.blt (Nat.add a.length b.length) 4294967296) (some (.str (appB a b))) none = some v at h
    cases hb : Nat.blt (Nat.add a.length b.length) 4294967296 with
    | false => rw [hb] at h; cases h
    | true =>
      rw [hb] at h; cases h
      have hlt : a.length + b.length < 4294967296 := blt_iff.1 hb
      refine ⟨?_, trivial⟩
      have e : (⟨⟨a⟩⟩ : ByteArray) ++ (⟨⟨b⟩⟩ : ByteArray) = ⟨⟨a ++ b⟩⟩ := by apply ByteArray.ext; simp [ByteArray.data_append]
      have sz : ∀ l : List UInt8, (⟨⟨l⟩⟩ : ByteArray).size = l.length := fun l => rfl
      simp only [binOp, Op.stringOp, sz, e, γ, appB_spec, IntKind.max_i64]
      rw [if_neg (by omega)]; rfl
  case eql => cases h; exact ⟨by simp [binOp, Op.stringOp, γ, bytesEqb_spec]; by_cases e : a = b <;> simp [e], trivial⟩
  case neq => cases h; exact ⟨by simp [binOp, Op.stringOp, γ, bytesEqb_spec]; by_cases e : a = b <;> simp [e], trivial⟩
  case lss => cases h; exact ⟨by simp [binOp, Op.stringOp, γ, strLess_spec], trivial⟩
  case leq => cases h; exact ⟨by simp [binOp, Op.stringOp, γ, strLess_spec, bytesEqb_spec]; by_cases e : a = b <;> simp [e], trivial⟩
  case gtr => cases h; exact ⟨by simp [binOp, Op.stringOp, γ, strLess_spec, bytesEqb_spec]; by_cases e : a = b <;> cases Op.bytesLess a b <;> simp [e], trivial⟩
  case geq => cases h; exact ⟨by simp [binOp, Op.stringOp, γ, strLess_spec], trivial⟩
end
end Go.Ev
