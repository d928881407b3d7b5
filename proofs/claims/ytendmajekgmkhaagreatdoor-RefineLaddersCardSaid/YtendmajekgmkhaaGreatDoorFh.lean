/- The evaluator of closed calls, part Fh: what the program computes on given inputs, read by the kernel; sound in every world (part Gh). -/
import Derived.Test.YtendmajekgmkhaaGreatDoorFg
set_option linter.unusedVariables false
set_option linter.unusedSimpArgs false
set_option linter.unnecessarySimpa false
namespace Go.Ev

def PuOk (P : Program) (E : Env) (op : Op) (f : Tm → Option AVal) : Prop :=
  ∀ (m : Mp) (D : Pos → Prop) (tm : Tm) (ρ : Operand → Value) (v : AVal) (w : World) (o : Oper), o.op = op → Src E.gl m D tm ρ → f tm = some v →
    (execOp ρ o).run P w = .ok (.value (γ m v)) w ∧ In D v
def RdOk (P : Program) (E : Env) (op : Op) (f : Tm → Heap → Option AVal) : Prop :=
  ∀ (m : Mp) (h : Heap) (tm : Tm) (ρ : Operand → Value) (v : AVal) (w : World) (o : Oper), o.op = op → Rep E.gl m h w → Src E.gl m (dom h) tm ρ → f tm h = some v →
    (execOp ρ o).run P w = .ok (.value (γ m v)) w ∧ In (dom h) v
def NwOk (P : Program) (E : Env) (op : Op) (f : Tm → Option (AObj × Mk)) : Prop :=
  ∀ (m : Mp) (D : Pos → Prop) (tm : Tm) (ρ : Operand → Value) (ob : AObj) (mk : Mk) (w : World) (o : Oper), o.op = op → Src E.gl m D tm ρ → f tm = some (ob, mk) →
    ∀ n, ¬ D n → ∃ cap obj, (execOp ρ o).run P w = .ok (.value (γ (m.set n w.heap.size cap) (mk.mk n))) { w with heap := w.heap.push obj } ∧
      BlkObj (m.set n w.heap.size cap) n ob obj ∧ InObj D ob ∧ ob ≠ .free
def WrGood (P : Program) (E : Env) (m : Mp) (h : Heap) (w : World) (s : Sem Next) : OR → Prop
  | .ok v h' => ∃ m' w' r, s.run P w = .ok r w' ∧ (r = .value (γ m' v) ∨ (r = .skip ∧ v = undefA)) ∧ Rep E.gl m' h' w' ∧ Goes m h w m' h' w' ∧ In (dom h') v ∧ h'.df = h.df
  | .call g args => s.run P w = .ok (.enter g ⟨γs m args⟩) w ∧ InL (dom h) args
  | .fail => True
def WrOk (P : Program) (E : Env) (op : Op) (f : Tm → Heap → OR) : Prop :=
  ∀ (m : Mp) (h : Heap) (tm : Tm) (ρ : Operand → Value) (w : World) (o : Oper), o.op = op → Rep E.gl m h w → Src E.gl m (dom h) tm ρ → WrGood P E m h w (execOp ρ o) (f tm h)
def OpOk (P : Program) (E : Env) (op : Op) : OpK → Prop
  | .pu f => PuOk P E op f
  | .rd f => RdOk P E op f
  | .nw f => NwOk P E op f
  | .wr f => WrOk P E op f

section
variable {P : Program} {E : Env}
theorem bad_ok (op : Op) : OpOk P E op .bad := fun _ _ _ _ _ _ _ _ _ h => by cases h
theorem pu_val {ρ : Operand → Value} {o : Oper} {s : Sem Value} {w : World} {r : Value} (he : execOp ρ o = (do pure (.value (← s)))) (h : s.run P w = .ok r w) : (execOp ρ o).run P w = .ok (.value r) w := by
  rw [he]; simp [h]
/-- An operation on one operand. -/
theorem on1_ok {op : Op} {f : AVal → Option AVal} {x : Operand} (s : Value → Sem Value)
    (he : ∀ ρ o, o.op = op → execOp ρ o = (do pure (.value (← s (ρ x)))))
    (hf : ∀ (m : Mp) (D : Pos → Prop) u v w, In D u → f u = some v → (s (γ m u)).run P w = .ok (γ m v) w ∧ In D v) : OpOk P E op (on1 E f x) :=
  fun m D tm ρ v w o ho hs hv => by
    obtain ⟨h1, h2⟩ := src_ok (E := E) hs x
    obtain ⟨h3, h4⟩ := hf m D _ v w h2 hv
    exact ⟨pu_val (he ρ o ho) (by rw [h1]; exact h3), h4⟩
theorem on2_ok {op : Op} {f : AVal → AVal → Option AVal} {x y : Operand} (s : Value → Value → Sem Value)
    (he : ∀ ρ o, o.op = op → execOp ρ o = (do pure (.value (← s (ρ x) (ρ y)))))
    (hf : ∀ (m : Mp) (D : Pos → Prop) a b v w, In D a → In D b → f a b = some v → (s (γ m a) (γ m b)).run P w = .ok (γ m v) w ∧ In D v) : OpOk P E op (on2 E f x y) :=
  fun m D tm ρ v w o ho hs hv => by
    obtain ⟨h1, h2⟩ := src_ok (E := E) hs x
    obtain ⟨g1, g2⟩ := src_ok (E := E) hs y
    obtain ⟨h3, h4⟩ := hf m D _ _ v w h2 g2 hv
    exact ⟨pu_val (he ρ o ho) (by rw [h1, g1]; exact h3), h4⟩

theorem move_ok (x : Operand) : OpOk P E (.move x) (opK E (.move x)) := fun m D tm ρ v w o ho hs hv => by
  obtain ⟨h1, h2⟩ := src_ok (E := E) hs x
  cases hv
  exact ⟨by simp only [execOp, ho, Sem.run_pure, h1], h2⟩
theorem assign_ok (x : Operand) : OpOk P E (.assign x) (opK E (.assign x)) := fun m D tm ρ v w o ho hs hv => by
  obtain ⟨h1, h2⟩ := src_ok (E := E) hs x
  cases hv
  exact ⟨by simp only [execOp, ho, Sem.run_pure, h1], h2⟩
theorem pick_ok (c a b : Operand) : OpOk P E (.pick c a b) (opK E (.pick c a b)) := fun m D tm ρ v w o ho hs hv => by
  obtain ⟨h1, h2⟩ := src_ok (E := E) hs c
  obtain ⟨a1, a2⟩ := src_ok (E := E) hs a
  obtain ⟨b1, b2⟩ := src_ok (E := E) hs b
  simp only at hv
  generalize (srcK E c).g tm = u at h1 hv
  cases u <;> try (cases hv; done)
  rename_i q
  cases q <;> cases hv
  · exact ⟨by simp [execOp, ho, h1, γ, asBool, b1], b2⟩
  · exact ⟨by simp [execOp, ho, h1, γ, asBool, a1], a2⟩
theorem nilCheck_ok (x : Operand) : OpOk P E (.nilCheck x) (opK E (.nilCheck x)) := fun m D tm ρ v w o ho hs hv => by
  obtain ⟨h1, h2⟩ := src_ok (E := E) hs x
  simp only at hv
  generalize (srcK E x).g tm = u at h1 h2 hv
  cases u <;> try (cases hv; done)
  · cases hv; exact ⟨by simp [execOp, ho, h1, γ], h2⟩
  · rename_i n o l c; cases hv; cases c <;> exact ⟨by simp [execOp, ho, h1, γ], h2⟩
  · rename_i fn a b
    cases fn <;> try (cases hv; done)
    cases hv; exact ⟨by simp [execOp, ho, h1, γ], h2⟩
  · cases hv; exact ⟨by simp [execOp, ho, h1, γ], h2⟩
theorem unOp_ok (op : UnOp) (t : TypeId) (x : Operand) : OpOk P E (.unOp op t x) (opK E (.unOp op t x)) :=
  on1_ok (fun a => Op.unary op a) (fun ρ o ho => by simp only [execOp, ho]) fun m D u v w hu hv => by
    cases op <;> cases u <;> try (cases hv; done)
    · have := intOut_spec hv; subst this
      exact ⟨by simp [Op.unary, Op.intArith, γ, wrapA_spec, subA_spec], trivial⟩
    · rename_i k n
      cases n with
      | negSucc n => cases hv
      | ofNat n =>
        have hu : (k = .u8 ∨ k = .u16 ∨ k = .u32 ∨ k = .u64) ∧ cond (Nat.blt n (half k)) (intOut k (.ofNat (Nat.sub (Nat.sub (half k) 1) n))) none = some v := by
          cases k <;> first | (cases hv; done) | exact ⟨by simp, hv⟩
        obtain ⟨hk, hv⟩ := hu
        cases hb : Nat.blt n (half k) with
        | false => rw [hb] at hv; cases hv
        | true =>
          rw [hb] at hv
          have := intOut_spec (k := k) (n := .ofNat (Nat.sub (Nat.sub (half k) 1) n)) hv; subst this
          refine ⟨?_, trivial⟩
          have hlt : n < half k := blt_iff.1 hb
          have hmax : k.max = Int.ofNat (half k - 1) ∧ k.signed = false ∧ half k = 2 ^ k.bits := by rcases hk with rfl | rfl | rfl | rfl <;> decide
          have hm1 : half k - 1 < half k := by omega
          have key : (BitVec.ofInt k.bits (Int.ofNat (half k - 1)) ^^^ BitVec.ofInt k.bits (Int.ofNat n)).toNat = half k - 1 - n := by
            have e : BitVec.ofInt k.bits (Int.ofNat (half k - 1)) = BitVec.allOnes k.bits := by
              apply BitVec.eq_of_toNat_eq; rw [ofInt_toNat k hm1, BitVec.toNat_allOnes, hmax.2.2]
            rw [e, BitVec.allOnes_xor, BitVec.toNat_not, ofInt_toNat k hlt, hmax.2.2]
          have hs : ∀ a b, Nat.sub a b = a - b := fun _ _ => rfl
          simp only [Op.unary, Op.intBits, γ, hmax.2.1, Bool.false_eq_true, if_false, hmax.1, Sem.run_pure, key, hs]
          have := wrap_small k (a := half k - 1 - n) (by omega)
          rw [show ((half k - 1 - n : Nat) : Int) = Int.ofNat (half k - 1 - n) from rfl, this]
    · cases hv
      rename_i b
      exact ⟨by cases b <;> simp [Op.unary, γ], trivial⟩
theorem makeInterface_ok (ok : EnvOk P E) (t : TypeId) (x : Operand) : OpOk P E (.makeInterface t x) (opK E (.makeInterface t x)) :=
  on1_ok (fun a => Instr.makeInterface t a) (fun ρ o ho => by simp only [execOp, ho]) fun m D u v w hu hv => by
    unfold makeIfaceK at hv
    cases ht : E.und t with
    | none => rw [ht] at hv; cases hv
    | some d =>
      rw [ht] at hv
      have hr := ok.run_und ht w
      cases d <;> first | (cases hv; done) | (cases hv; exact ⟨by simp [Instr.makeInterface, hr, γ], hu⟩)
theorem extract_ok (t : Operand) (i : Nat) : OpOk P E (.extract t i) (opK E (.extract t i)) := fun m D tm ρ v w o ho hs hv => by
  obtain ⟨h1, h2⟩ := src_ok (E := E) hs t
  simp only at hv
  generalize (srcK E t).g tm = u at h1 h2 hv
  cases u <;> try (cases hv; done)
  rename_i l
  simp only [nth_spec] at hv
  exact ⟨by simp [execOp, ho, h1, γ, Instr.extract, γs_map, hv], InL_mem h2 hv⟩
theorem makeFunc_ok (f : FuncId) (a b : Array Operand) : OpOk P E (.makeFunc (.func f) a b) (opK E (.makeFunc (.func f) a b)) := fun m D tm ρ v w o ho hs hv => by
  obtain ⟨h1, h2⟩ := srcs_ok (E := E) hs a.toList
  obtain ⟨g1, g2⟩ := srcs_ok (E := E) hs b.toList
  cases hv
  refine ⟨?_, h2, g2⟩
  have e1 : a.map ρ = ⟨a.toList.map ρ⟩ := by apply Array.ext'; simp
  have e2 : b.map ρ = ⟨b.toList.map ρ⟩ := by apply Array.ext'; simp
  simp [execOp, ho, Instr.makeFunc, γ, e1, e2, h1, g1]
theorem binOp_ok (ok : EnvOk P E) (op : BinOp) (t yt : TypeId) (x y : Operand) : OpOk P E (.binOp op t x y yt) (opK E (.binOp op t x y yt)) := fun m D tm ρ v w o ho hs hv => by
  obtain ⟨h1, h2⟩ := src_ok (E := E) hs x
  obtain ⟨g1, g2⟩ := src_ok (E := E) hs y
  simp only at hv
  generalize (srcK E x).g tm = a at h1 h2 hv
  generalize (srcK E y).g tm = b at g1 g2 hv
  have key : (eqGuard op t x y (γ m a) (γ m b)).run P w = .ok () w ∧ (binOp op t (γ m a) (γ m b)).run P w = .ok (γ m v) w ∧ In D v := by
    have gi : ∀ k n u, (eqGuard op t x y (γ m (.int k n)) u).run P w = .ok () w := fun k n u => by simp only [γ]; rw [eqGuard_at_int]; rfl
    have gs : ∀ l u, (eqGuard op t x y (γ m (.str l)) u).run P w = .ok () w := fun l u => by simp only [γ]; rw [eqGuard_at_string]; rfl
    unfold binK at hv
    cases op
    case shl => cases a <;> try (cases hv; done)
                cases b <;> try (cases hv; done)
                exact ⟨gi _ _ _, shl_spec hv w⟩
    case shr => cases a <;> try (cases hv; done)
                cases b <;> try (cases hv; done)
                exact ⟨gi _ _ _, shr_spec hv w⟩
    case eql =>
      have other : (Option.casesOn ((eqK E t (isK x || isK y)).f a b) none fun b => some (AVal.bool b)) = some v →
          ((eqGuard .eql t x y (γ m a) (γ m b)).run P w = .ok () w ∧ (binOp .eql t (γ m a) (γ m b)).run P w = .ok (γ m v) w ∧ In D v) := fun hv => by
        cases he : (eqK E t (isK x || isK y)).f a b with
        | none => rw [he] at hv; cases hv
        | some u =>
          rw [he] at hv; cases hv
          obtain ⟨e1, e2, _⟩ := eqK_spec (m := m) ok he rfl .eql w
          exact ⟨e1, e2, trivial⟩
      cases ht : E.und t with
      | none => rw [ht] at hv; exact other hv
      | some d =>
        rw [ht] at hv
        cases d <;> try (exact other hv)
        · cases a <;> try (cases hv; done)
          cases b <;> try (cases hv; done)
          rename_i k1 a k2 b
          simp only at hv
          cases hk : ikEqb k1 k2 with
          | false => rw [hk] at hv; cases hv
          | true => rw [hk] at hv; have := (ikEqb_spec _ _).1 hk; subst this; exact ⟨gi _ _ _, intK_spec hv w⟩
        · cases a <;> try (cases hv; done)
          cases b <;> try (cases hv; done)
          exact ⟨gs _ _, strK_spec hv w⟩
    case neq =>
      have other : (Option.casesOn ((eqK E t (isK x || isK y)).f a b) none fun b => some (AVal.bool (cond b false true))) = some v →
          ((eqGuard .neq t x y (γ m a) (γ m b)).run P w = .ok () w ∧ (binOp .neq t (γ m a) (γ m b)).run P w = .ok (γ m v) w ∧ In D v) := fun hv => by
        cases he : (eqK E t (isK x || isK y)).f a b with
        | none => rw [he] at hv; cases hv
        | some u =>
          rw [he] at hv; cases hv
          obtain ⟨e1, _, e3⟩ := eqK_spec (m := m) ok he rfl .neq w
          exact ⟨e1, by rw [e3]; cases u <;> rfl, trivial⟩
      cases ht : E.und t with
      | none => rw [ht] at hv; exact other hv
      | some d =>
        rw [ht] at hv
        cases d <;> try (exact other hv)
        · cases a <;> try (cases hv; done)
          cases b <;> try (cases hv; done)
          rename_i k1 a k2 b
          simp only at hv
          cases hk : ikEqb k1 k2 with
          | false => rw [hk] at hv; cases hv
          | true => rw [hk] at hv; have := (ikEqb_spec _ _).1 hk; subst this; exact ⟨gi _ _ _, intK_spec hv w⟩
        · cases a <;> try (cases hv; done)
          cases b <;> try (cases hv; done)
          exact ⟨gs _ _, strK_spec hv w⟩
    all_goals
      cases ht : E.und t with
      | none =>
        rw [ht] at hv
        cases a <;> try (cases hv; done)
        cases b <;> try (cases hv; done)
        rename_i k1 a k2 b
        simp only at hv
        cases hk : ikEqb k1 k2 with
        | false => rw [hk] at hv; cases hv
        | true => rw [hk] at hv; have := (ikEqb_spec _ _).1 hk; subst this; exact ⟨gi _ _ _, intK_spec hv w⟩
      | some d =>
        rw [ht] at hv
        cases d <;>
          (cases a <;> try (cases hv; done)) <;>
          (cases b <;> try (cases hv; done)) <;>
          first
          | exact ⟨gs _ _, strK_spec hv w⟩
          | (rename_i k1 a k2 b
             simp only at hv
             cases hk : ikEqb k1 k2 with
             | false => rw [hk] at hv; cases hv
             | true => rw [hk] at hv; have := (ikEqb_spec _ _).1 hk; subst this; exact ⟨gi _ _ _, intK_spec hv w⟩)
  refine ⟨?_, key.2.2⟩
  simp only [execOp, ho, h1, g1, Sem.run_bind, key.1, key.2.1, Result.andThen_ok, Sem.run_pure]
end
end Go.Ev
