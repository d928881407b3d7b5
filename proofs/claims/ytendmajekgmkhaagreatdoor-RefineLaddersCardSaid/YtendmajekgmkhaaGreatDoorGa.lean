/- The evaluator of closed calls, part Ga: what the program computes on given inputs, read by the kernel; sound in every world (part Gh). -/
import Derived.Test.YtendmajekgmkhaaGreatDoorFy
set_option linter.unusedVariables false
set_option linter.unusedSimpArgs false
set_option linter.unnecessarySimpa false
namespace Go.Ev
section
variable {P : Program} {E : Env}
def OpK.same (k : OpK) (tm tm' : Tm) : Prop := match k with
  | .pu f => f tm = f tm'
  | .rd f => ∀ h, f tm h = f tm' h
  | .nw f => f tm = f tm'
  | .wr f => ∀ h, f tm h = f tm' h
theorem same_bad {tm tm' : Tm} : OpK.bad.same tm tm' := rfl
theorem srcs_congr {tm tm' : Tm} : ∀ l : List Operand, (∀ x ∈ l, (srcK E x).g tm = (srcK E x).g tm') → srcsG (srcsK E l) tm = srcsG (srcsK E l) tm'
  | [], _ => rfl
  | x :: l, h => by
    show (srcK E x).g tm :: srcsG (srcsK E l) tm = (srcK E x).g tm' :: srcsG (srcsK E l) tm'
    rw [h x (by simp), srcs_congr l fun y hy => h y (by simp [hy])]
theorem fillA_congr {tm tm' : Tm} (pl : Nat → Option (Nat × Nat)) : ∀ (ps : List (Nat × Operand)) (l : List AVal), (∀ p ∈ ps, (srcK E p.2).g tm = (srcK E p.2).g tm') →
    fillA pl (ps.map fun p => (p.1, srcK E p.2)) tm l = fillA pl (ps.map fun p => (p.1, srcK E p.2)) tm' l
  | [], l, _ => rfl
  | p :: ps, l, h => by
    simp only [List.map_cons, fillA]
    rw [h p (by simp)]
    cases pl p.1 with
    | none => rfl
    | some q =>
      simp only
      congr 1
      cases overA ((srcK E p.2).g tm').cells q.1 l with
      | none => rfl
      | some l => exact fillA_congr pl ps l fun q hq => h q (by simp [hq])
theorem srcO_congr {tm tm' : Tm} (o : Option Operand) (h : ∀ x, o = some x → (srcK E x).g tm = (srcK E x).g tm') : srcO E o tm = srcO E o tm' := by
  cases o with
  | none => rfl
  | some x => simp only [srcO]; rw [h x rfl]
theorem on1_same {tm tm' : Tm} {f : AVal → Option AVal} {x : Operand} (h : (srcK E x).g tm = (srcK E x).g tm') : (on1 E f x).same tm tm' := by
  show f _ = f _
  rw [h]
theorem on2_same {tm tm' : Tm} {f : AVal → AVal → Option AVal} {x y : Operand} (h : (srcK E x).g tm = (srcK E x).g tm') (h' : (srcK E y).g tm = (srcK E y).g tm') : (on2 E f x y).same tm tm' := by
  show f _ _ = f _ _
  rw [h, h']
theorem cond_same {tm tm' : Tm} {b : Bool} {k k' : OpK} (h : k.same tm tm') (h' : k'.same tm tm') : (cond b k k').same tm tm' := by
  cases b
  · exact h'
  · exact h
theorem builtin_same {tm tm' : Tm} (b : Builtin) (args : List Operand) (ts : List TypeId) (h : ∀ x ∈ args, (srcK E x).g tm = (srcK E x).g tm') : (builtinK E b args ts).same tm tm' := by
  unfold builtinK
  split <;> (try split) <;> (try split) <;> first
    | exact same_bad
    | exact on1_same (h _ (by simp))
    | (intro hp; simp only; rw [h _ (by simp)]; done)
    | (intro hp; simp only; rw [h _ (List.mem_cons_self ..), h _ (List.mem_cons_of_mem _ (List.mem_cons_self ..))]; done)
    | (show mnmx _ _ _ = mnmx _ _ _; rw [h _ (List.mem_cons_self ..), srcs_congr _ fun y hy => h y (List.mem_cons_of_mem _ hy)]; done)
theorem call_same {tm tm' : Tm} (c : Call) (h : ∀ x ∈ c.operands, (srcK E x).g tm = (srcK E x).g tm') : (callK E c).same tm tm' := by
  have ha : ∀ x ∈ c.args.toList, (srcK E x).g tm = (srcK E x).g tm' := fun x hx => h x (by unfold Call.operands; simp; exact .inr (by simpa using hx))
  unfold callK
  split
  · intro hp; simp only; rw [srcs_congr _ ha]
  · rename_i x _ hc
    have hx := h x (by unfold Call.operands; rw [hc]; simp)
    intro hp; simp only; rw [srcs_congr _ ha, hx]
  · rename_i r name hc
    have hx := h r (by unfold Call.operands; rw [hc]; simp)
    intro hp; simp only; rw [srcs_congr _ ha, hx]
  · exact builtin_same _ _ _ ha
theorem nw_same {f : Tm → Option (AObj × Mk)} {tm tm' : Tm} (h : f tm = f tm') : (OpK.nw f).same tm tm' := h
theorem wr_same {f : Tm → Heap → OR} {tm tm' : Tm} (h : ∀ hp, f tm hp = f tm' hp) : (OpK.wr f).same tm tm' := h
theorem convert_same {tm tm' : Tm} (s d : TypeId) (x : Operand) (h : (srcK E x).g tm = (srcK E x).g tm') : (convertK E s d x).same tm tm' := by
  unfold convertK
  split
  · split
    · intro hp; simp only; rw [h]
    · exact same_bad
  · split
    · intro hp; simp only; rw [h]
    · exact same_bad
  · exact on1_same h
  · exact on1_same h
  · exact same_bad
theorem build_same {tm tm' : Tm} (t : TypeId) (parts : Array (Nat × Operand)) (h : ∀ p ∈ parts.toList, (srcK E p.2).g tm = (srcK E p.2).g tm') : (buildK E t parts).f tm = (buildK E t parts).f tm' := by
  unfold buildK partsK
  split
  · rename_i fs _ _
    cases (fs.toList.all fun f => (E.size f.type).isSome)
    · rfl
    · simp only [cond_true]; rw [fillA_congr _ _ _ h]
  · split
    · simp only; rw [fillA_congr _ _ _ h]
    · rfl
  · rfl
theorem opK_congr {tm tm' : Tm} (o : Op) (h : ∀ x ∈ o.operands, (srcK E x).g tm = (srcK E x).g tm') : (opK E o).same tm tm' := by
  unfold opK
  split
  all_goals simp only [Op.operands] at h
  all_goals try (exact on1_same (h _ (by simp)))
  all_goals try (exact on2_same (h _ (by simp)) (h _ (by simp)))
  all_goals try (exact same_bad)
  case h_4 => exact build_same _ _ fun p hp => h p.2 (by simp; exact ⟨p.1, by simpa using hp⟩)
  case h_8 => exact convert_same _ _ _ (h _ (by simp))
  case h_10 a b =>
    show some _ = some _
    rw [srcs_congr _ fun x hx => h x (by simp at hx ⊢; exact .inl hx), srcs_congr _ fun x hx => h x (by simp at hx ⊢; exact .inr hx)]
  case h_19 =>
    refine cond_same ?_ same_bad
    · intro hp
      simp only
      rw [h _ (by simp), srcO_congr _ fun x hx => h x (by simp [hx]), srcO_congr _ fun x hx => h x (by simp [hx]), srcO_congr _ fun x hx => h x (by simp [hx])]
  case h_22 =>
    rename_i parts
    have hp : ∀ p ∈ parts.toList, (srcK E p.2).g tm = (srcK E p.2).g tm' := fun p hp => h p.2 (by simp; exact ⟨p.1, by simpa using hp⟩)
    split
    · split
      · refine cond_same ?_ same_bad
        apply nw_same
        simp only [partsK]
        rw [fillA_congr _ _ _ hp]
      · exact same_bad
    · exact same_bad
  all_goals try (exact call_same _ h)
  all_goals try simp only [List.mem_toArray, List.mem_cons, forall_eq_or_imp, List.not_mem_nil, false_implies, implies_true, and_true] at h
  all_goals try (simp [OpK.same, h]; done)
  all_goals try (split <;> (try split) <;> first | exact same_bad | (simp [OpK.same, h]; done))
  all_goals (apply wr_same; intro hp; simp only; rw [h])
end
end Go.Ev
