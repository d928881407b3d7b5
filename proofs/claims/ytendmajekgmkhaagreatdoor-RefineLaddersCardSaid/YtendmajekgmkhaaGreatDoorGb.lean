/- The evaluator of closed calls, part Gb: what the program computes on given inputs, read by the kernel; sound in every world (part Gh). -/
import Derived.Test.YtendmajekgmkhaaGreatDoorGa
set_option linter.unusedVariables false
set_option linter.unusedSimpArgs false
set_option linter.unnecessarySimpa false
namespace Go.Ev

/-! ### Masks -/
theorem testBit_lor (a b j : Nat) : Nat.testBit (Nat.lor a b) j = (Nat.testBit a j || Nat.testBit b j) := Nat.testBit_or a b j
theorem testBit_land (a b j : Nat) : Nat.testBit (Nat.land a b) j = (Nat.testBit a j && Nat.testBit b j) := Nat.testBit_and a b j
theorem testBit_pow (a j : Nat) : Nat.testBit (Nat.pow 2 a) j = decide (a = j) := Nat.testBit_two_pow
theorem fold_edges (acc : List Nat) (j : Nat) : ∀ (l : List Edge) (s : Nat), Nat.testBit (l.foldl (edgeMask acc) s) j = true ↔ (Nat.testBit s j = true ∨ ∃ e ∈ l, binding e = true ∧ (e.on = j ∨ Nat.testBit (acc.getD e.on 0) j = true))
  | [], s => by simp
  | e :: l, s => by
    rw [List.foldl_cons, fold_edges acc j l]
    have he : Nat.testBit (edgeMask acc s e) j = true ↔ (Nat.testBit s j = true ∨ (binding e = true ∧ (e.on = j ∨ Nat.testBit (acc.getD e.on 0) j = true))) := by
      unfold edgeMask
      cases hb : binding e with
      | true => simp only [cond_true, testBit_lor, testBit_pow, Bool.or_eq_true, decide_eq_true_eq, true_and]
      | false => simp
    rw [he]
    constructor
    · rintro ((h | h) | ⟨x, hx, h⟩)
      · exact .inl h
      · exact .inr ⟨e, by simp, h⟩
      · exact .inr ⟨x, by simp [hx], h⟩
    · rintro (h | ⟨x, hx, h⟩)
      · exact .inl (.inl h)
      · rcases List.mem_cons.1 hx with rfl | hx
        · exact .inl (.inr h)
        · exact .inr ⟨x, hx, h⟩
theorem beforesFrom_spec : ∀ (l : List Oper) (acc : List Nat), (beforesFrom l acc).length = acc.length + l.length ∧ (∀ i, i < acc.length → (beforesFrom l acc).getD i 0 = acc.getD i 0) ∧
    ∀ k o, l[k]? = some o → ∀ j, Nat.testBit ((beforesFrom l acc).getD (acc.length + k) 0) j = true ↔ ∃ e ∈ o.after.toList, binding e = true ∧ (e.on = j ∨ (e.on < acc.length + k ∧ Nat.testBit ((beforesFrom l acc).getD e.on 0) j = true))
  | [], acc => ⟨rfl, fun _ _ => rfl, fun k o h => by cases h⟩
  | o :: l, acc => by
    obtain ⟨h1, h2, h3⟩ := beforesFrom_spec l (acc ++ [o.after.toList.foldl (edgeMask acc) 0])
    simp only [beforesFrom]
    generalize hM : beforesFrom l (acc ++ [o.after.toList.foldl (edgeMask acc) 0]) = M at h1 h2 h3
    have hpre : ∀ i, i < acc.length → M.getD i 0 = acc.getD i 0 := fun i hi => by
      rw [h2 i (by simp; omega)]
      simp [List.getD_eq_getElem?_getD, List.getElem?_append_left hi]
    refine ⟨by simp at h1 ⊢; omega, hpre, fun k o' hk j => ?_⟩
    cases k with
    | zero =>
      simp at hk
      subst hk
      rw [Nat.add_zero, h2 acc.length (by simp)]
      rw [show (acc ++ [o.after.toList.foldl (edgeMask acc) 0]).getD acc.length 0 = o.after.toList.foldl (edgeMask acc) 0 by simp [List.getD_eq_getElem?_getD]]
      rw [fold_edges]
      simp only [Nat.zero_testBit, Bool.false_eq_true, false_or]
      constructor
      · rintro ⟨e, he, hb, h | h⟩
        · exact ⟨e, he, hb, .inl h⟩
        · by_cases hlt : e.on < acc.length
          · exact ⟨e, he, hb, .inr ⟨hlt, by rw [hpre _ hlt]; exact h⟩⟩
          · rw [List.getD_eq_getElem?_getD, List.getElem?_eq_none (by omega)] at h
            simp at h
      · rintro ⟨e, he, hb, h | ⟨hlt, h⟩⟩
        · exact ⟨e, he, hb, .inl h⟩
        · exact ⟨e, he, hb, .inr (by rw [← hpre _ hlt]; exact h)⟩
    | succ k =>
      have := h3 k o' (by simpa using hk) j
      rw [show (acc ++ [o.after.toList.foldl (edgeMask acc) 0]).length + k = acc.length + (k + 1) by simp; omega] at this
      exact this
def preOf (all : List Oper) (i : Nat) : Nat := (befores all).getD i 0
theorem befores_length (all : List Oper) : (befores all).length = all.length := by
  have := (beforesFrom_spec all []).1
  unfold befores
  simpa using this
theorem pre_iff {all : List Oper} {i : Nat} {o : Oper} (h : all[i]? = some o) (j : Nat) : Nat.testBit (preOf all i) j = true ↔ ∃ e ∈ o.after.toList, binding e = true ∧ (e.on = j ∨ (e.on < i ∧ Nat.testBit (preOf all e.on) j = true)) := by
  have := (beforesFrom_spec all []).2.2 i o h j
  simpa [preOf, befores] using this
theorem pre_none {all : List Oper} {i : Nat} (h : all[i]? = none) (j : Nat) : Nat.testBit (preOf all i) j = false := by
  unfold preOf
  rw [List.getD_eq_getElem?_getD, List.getElem?_eq_none (by rw [befores_length]; simpa using h)]
  simp
/-- What comes before what comes before comes before. -/
theorem pre_trans {all : List Oper} : ∀ (i : Nat) (j k : Nat), (∀ i, ∀ j, Nat.testBit (preOf all i) j = true → j < i) → Nat.testBit (preOf all i) j = true → Nat.testBit (preOf all j) k = true → Nat.testBit (preOf all i) k = true := by
  intro i
  induction i using Nat.strongRecOn with
  | _ i ih =>
    intro j k hlt h1 h2
    cases ho : all[i]? with
    | none => rw [pre_none ho] at h1; cases h1
    | some o =>
      obtain ⟨e, he, hb, h | ⟨hl, h⟩⟩ := (pre_iff ho j).1 h1
      · subst h
        exact (pre_iff ho k).2 ⟨e, he, hb, .inr ⟨hlt i e.on h1, h2⟩⟩
      · exact (pre_iff ho k).2 ⟨e, he, hb, .inr ⟨hl, ih e.on hl j k hlt h h2⟩⟩

/-! ### Temporaries -/
theorem tmask_spec (x : Operand) (t : Nat) : Nat.testBit (tmask x) t = true ↔ x = .tmp t := by
  cases x with
  | tmp d => show Nat.testBit (Nat.pow 2 d) t = true ↔ _; rw [testBit_pow]; simp
  | _ => simp [tmask]
theorem dstMask_spec (d : Option Tmp) (t : Nat) : Nat.testBit (dstMask d) t = true ↔ d = some t := by
  cases d with
  | some d => show Nat.testBit (Nat.pow 2 d) t = true ↔ _; rw [testBit_pow]; simp
  | none => simp [dstMask]
theorem readsMask_spec (t : Nat) : ∀ (l : List Operand) (s : Nat), Nat.testBit (readsMask l s) t = true ↔ (Nat.testBit s t = true ∨ .tmp t ∈ l)
  | [], s => by simp [readsMask]
  | x :: l, s => by
    simp only [readsMask]
    rw [readsMask_spec t l, testBit_lor, Bool.or_eq_true, tmask_spec, List.mem_cons]
    constructor
    · rintro ((h | h) | h)
      · exact .inl h
      · exact .inr (.inl h.symm)
      · exact .inr (.inr h)
    · rintro (h | h | h)
      · exact .inl (.inl h)
      · exact .inl (.inr h.symm)
      · exact .inr h
/-- The operation looks at a temporary. -/
def Looks (all : List Oper) (o : Oper) (t : Tmp) : Prop := .tmp t ∈ o.op.operands.toList ∨ ∃ j b oj, o.guard = some (j, b) ∧ all[j]? = some oj ∧ oj.dst = some t
theorem guardMask_spec (all : List Oper) (g : Option (Nat × Bool)) (t : Nat) : Nat.testBit (guardMask all g) t = true ↔ ∃ j b oj, g = some (j, b) ∧ all[j]? = some oj ∧ oj.dst = some t := by
  unfold guardMask
  split
  · rename_i j b
    cases h : all[j]? with
    | none =>
      constructor
      · intro h; simp at h
      · rintro ⟨j', b', oj, h1, h2, h3⟩; cases h1; rw [h] at h2; cases h2
    | some oj =>
      simp only
      rw [dstMask_spec]
      constructor
      · exact fun h3 => ⟨j, b, oj, rfl, h, h3⟩
      · rintro ⟨j', b', oj', h1, h2, h3⟩; cases h1; rw [h] at h2; cases h2; exact h3
  · constructor
    · intro h; simp at h
    · rintro ⟨j', b', oj, h1, h2, h3⟩; cases h1
theorem looks_iff (all : List Oper) (o : Oper) (t : Tmp) : Nat.testBit (readsMask o.op.operands.toList (guardMask all o.guard)) t = true ↔ Looks all o t := by
  rw [readsMask_spec, guardMask_spec]
  exact Or.comm
def Clash (all : List Oper) (x y : Oper) : Prop := ∃ t, (x.dst = some t ∧ (Looks all y t ∨ y.dst = some t)) ∨ (y.dst = some t ∧ Looks all x t)
theorem apartFrom_spec {all : List Oper} {y : Oper} {pre : Nat} : ∀ (l : List RW), apartFrom (readsMask y.op.operands.toList (guardMask all y.guard)) (dstMask y.dst) pre l = true →
    ∀ r ∈ l, ∀ x, r.rd = readsMask x.op.operands.toList (guardMask all x.guard) → r.wr = dstMask x.dst → Clash all x y → Nat.testBit pre r.ix = true
  | [], _, r, hr => by cases hr
  | q :: l, h, r, hr => by
    simp only [apartFrom] at h
    intro x h1 h2 ⟨t, hc⟩
    rcases List.mem_cons.1 hr with rfl | hr
    · have hne : Nat.beq (Nat.lor (Nat.land r.wr (Nat.lor (readsMask y.op.operands.toList (guardMask all y.guard)) (dstMask y.dst))) (Nat.land (dstMask y.dst) r.rd)) 0 = false := by
        cases hb : Nat.beq _ 0 with
        | false => rfl
        | true =>
          have h0 := Nat.eq_of_beq_eq_true hb
          have ht : Nat.testBit (Nat.lor (Nat.land r.wr (Nat.lor (readsMask y.op.operands.toList (guardMask all y.guard)) (dstMask y.dst))) (Nat.land (dstMask y.dst) r.rd)) t = true := by
            rw [testBit_lor, testBit_land, testBit_lor, testBit_land, h1, h2]
            rcases hc with ⟨a, b | b⟩ | ⟨a, b⟩
            · rw [(dstMask_spec _ _).2 a, (looks_iff all y t).2 b]; simp
            · rw [(dstMask_spec _ _).2 a, (dstMask_spec _ _).2 b]; simp
            · rw [(dstMask_spec _ _).2 a, (looks_iff all x t).2 b]; simp
          rw [h0] at ht
          simp at ht
      rw [hne] at h
      simp only [cond_false, Bool.and_eq_true] at h
      exact h.1
    · have h' : apartFrom (readsMask y.op.operands.toList (guardMask all y.guard)) (dstMask y.dst) pre l = true := by
        cases hb : Nat.beq (Nat.lor (Nat.land q.wr (Nat.lor (readsMask y.op.operands.toList (guardMask all y.guard)) (dstMask y.dst))) (Nat.land (dstMask y.dst) q.rd)) 0 with
        | true => rw [hb] at h; exact h
        | false => rw [hb] at h; simp only [cond_false, Bool.and_eq_true] at h; exact h.2
      exact apartFrom_spec l h' r hr x h1 h2 ⟨t, hc⟩
theorem tempsOk_spec {all : List Oper} : ∀ (l : List Oper) (ps : List Nat) (i : Nat) (acc : List RW), tempsOk all l ps i acc = true →
    (∀ k o, l[k]? = some o → ps.getD k 0 < 2 ^ (i + k)) ∧
    (∀ k o, l[k]? = some o → ∀ r ∈ acc, ∀ x, r.rd = readsMask x.op.operands.toList (guardMask all x.guard) → r.wr = dstMask x.dst → Clash all x o → Nat.testBit (ps.getD k 0) r.ix = true) ∧
    (∀ k k' x o, k' < k → l[k']? = some x → l[k]? = some o → Clash all x o → Nat.testBit (ps.getD k 0) (i + k') = true)
  | [], [], i, acc, _ => ⟨fun k o h => (by cases h), fun k o h => (by cases h), fun k k' x o _ _ h => (by cases h)⟩
  | o :: l, pre :: ps, i, acc, h => by
    simp only [tempsOk, Bool.and_eq_true] at h
    obtain ⟨h1, h2, h3⟩ := h
    obtain ⟨i1, i2, i3⟩ := tempsOk_spec l ps (i + 1) _ h3
    refine ⟨fun k o' hk => ?_, fun k o' hk r hr x e1 e2 hc => ?_, fun k k' x o' hlt hk' hk hc => ?_⟩
    · cases k with
      | zero => simpa using blt_iff.1 h1
      | succ k => have := i1 k o' (by simpa using hk); simpa [Nat.add_assoc, Nat.add_comm 1] using this
    · cases k with
      | zero => simp at hk; subst hk; simpa using apartFrom_spec acc h2 r hr x e1 e2 hc
      | succ k => simpa using i2 k o' (by simpa using hk) r (List.mem_cons_of_mem _ hr) x e1 e2 hc
    · cases k with
      | zero => omega
      | succ k =>
        cases k' with
        | zero =>
          simp at hk'
          subst hk'
          simpa using i2 k o' (by simpa using hk) _ (List.mem_cons_self ..) o rfl rfl hc
        | succ k' =>
          have := i3 k k' x o' (by omega) (by simpa using hk') (by simpa using hk) hc
          rw [show i + 1 + k' = i + (k' + 1) by omega] at this
          simpa using this
  | [], _ :: _, i, acc, h => by simp [tempsOk] at h
  | _ :: _, [], i, acc, h => by simp [tempsOk] at h
structure Ordered (all : List Oper) : Prop where
  lt : ∀ i j, Nat.testBit (preOf all i) j = true → j < i
  clash : ∀ j i x y, j < i → all[j]? = some x → all[i]? = some y → Clash all x y → Nat.testBit (preOf all i) j = true
theorem ordered_of {all : List Oper} (h : tempsOk all all (befores all) 0 [] = true) : Ordered all where
  lt := fun i j hj => by
    cases ho : all[i]? with
    | none => rw [pre_none ho] at hj; cases hj
    | some o =>
      have := (tempsOk_spec _ _ _ _ h).1 i o ho
      rw [Nat.zero_add] at this
      have h2 := Nat.testBit_lt_two_pow (x := (befores all).getD i 0) (i := j)
      rcases Nat.lt_or_ge j i with h3 | h3
      · exact h3
      · exact absurd hj (by
          rw [show preOf all i = (befores all).getD i 0 from rfl, Nat.testBit_lt_two_pow (Nat.lt_of_lt_of_le this (Nat.pow_le_pow_right (by omega) h3))]
          simp)
  clash := fun j i x y hlt hx hy hc => by
    have := (tempsOk_spec _ _ _ _ h).2.2 i j x y hlt hx hy hc
    simpa [preOf] using this
theorem Ordered.trans {all : List Oper} (o : Ordered all) {i j k : Nat} (h1 : Nat.testBit (preOf all i) j = true) (h2 : Nat.testBit (preOf all j) k = true) : Nat.testBit (preOf all i) k = true := pre_trans i j k o.lt h1 h2
end Go.Ev
