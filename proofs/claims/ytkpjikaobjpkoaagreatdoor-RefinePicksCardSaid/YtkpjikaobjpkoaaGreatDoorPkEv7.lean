/- The evaluator of closed calls, part 7: what the program computes on given inputs, read by the kernel; sound in every world (part 8). -/
import Derived.Test.YtkpjikaobjpkoaaGreatDoorPkEv6
namespace Go.Ev
variable [Rho] {S : Nat → Prop}
section
variable {P : Program} {E : Env}
def OpK.same (k : OpK) (tm tm' : Tm) : Prop := match k with
  | .pu f => f tm = f tm'
  | .rd f => ∀ h, f tm h = f tm' h
  | .nw f => f tm = f tm'
  | .wr f => ∀ h, f tm h = f tm' h
omit [Rho] in
theorem same_bad {tm tm' : Tm} : OpK.bad.same tm tm' := rfl
omit [Rho] in
theorem srcs_congr {tm tm' : Tm} : ∀ l : List Operand, (∀ x ∈ l, (srcK E x).g tm = (srcK E x).g tm') → srcsG (srcsK E l) tm = srcsG (srcsK E l) tm'
  | [], _ => rfl
  | x :: l, h => by
    show (srcK E x).g tm :: srcsG (srcsK E l) tm = (srcK E x).g tm' :: srcsG (srcsK E l) tm'
    rw [h x (by simp), srcs_congr l fun y hy => h y (by simp [hy])]
omit [Rho] in
theorem fillA_congr {tm tm' : Tm} (pl : Nat → Option (Nat × Nat)) : ∀ (ps : List (Nat × Operand)) (l : List AVal), (∀ p ∈ ps, (srcK E p.2).g tm = (srcK E p.2).g tm') →
    fillA pl (ps.map fun p => (p.1, srcK E p.2)) tm l = fillA pl (ps.map fun p => (p.1, srcK E p.2)) tm' l
  | [], l, _ => rfl
  | p :: ps, l, h => by
    simp only [List.map_cons, fillA]
    rw [h p (by simp)]
    cases pl p.1 with
    | none => rfl
    | some q =>
      simp only
      congr 1
      cases overA ((srcK E p.2).g tm').cells q.1 l with
      | none => rfl
      | some l => exact fillA_congr pl ps l fun q hq => h q (by simp [hq])
omit [Rho] in
theorem srcO_congr {tm tm' : Tm} (o : Option Operand) (h : ∀ x, o = some x → (srcK E x).g tm = (srcK E x).g tm') : srcO E o tm = srcO E o tm' := by
  cases o with
  | none => rfl
  | some x => simp only [srcO]; rw [h x rfl]
omit [Rho] in
theorem on1_same {tm tm' : Tm} {f : AVal → Option AVal} {x : Operand} (h : (srcK E x).g tm = (srcK E x).g tm') : (on1 E f x).same tm tm' := by
  show f _ = f _
  rw [h]
omit [Rho] in
theorem on2_same {tm tm' : Tm} {f : AVal → AVal → Option AVal} {x y : Operand} (h : (srcK E x).g tm = (srcK E x).g tm') (h' : (srcK E y).g tm = (srcK E y).g tm') : (on2 E f x y).same tm tm' := by
  show f _ _ = f _ _
  rw [h, h']
omit [Rho] in
theorem cond_same {tm tm' : Tm} {b : Bool} {k k' : OpK} (h : k.same tm tm') (h' : k'.same tm tm') : (cond b k k').same tm tm' := by
  cases b
  · exact h'
  · exact h
omit [Rho] in
theorem builtin_same {tm tm' : Tm} (b : Builtin) (args : List Operand) (ts : List TypeId) (h : ∀ x ∈ args, (srcK E x).g tm = (srcK E x).g tm') : (builtinK E b args ts).same tm tm' := by
  unfold builtinK
  split <;> (try split) <;> (try split) <;> first
    | exact same_bad
    | exact on1_same (h _ (by simp))
    | (intro hp; simp only; rw [h _ (by simp)]; done)
    | (intro hp; simp only; rw [h _ (List.mem_cons_self ..), h _ (List.mem_cons_of_mem _ (List.mem_cons_self ..))]; done)
    | (show mnmx _ _ _ = mnmx _ _ _; rw [h _ (List.mem_cons_self ..), srcs_congr _ fun y hy => h y (List.mem_cons_of_mem _ hy)]; done)
omit [Rho] in
theorem call_same {tm tm' : Tm} (c : Call) (h : ∀ x ∈ c.operands, (srcK E x).g tm = (srcK E x).g tm') : (callK E c).same tm tm' := by
  have ha : ∀ x ∈ c.args.toList, (srcK E x).g tm = (srcK E x).g tm' := fun x hx => h x (by unfold Call.operands; simp; exact .inr (by simpa using hx))
  unfold callK
  split
  · intro hp; simp only; rw [srcs_congr _ ha]
  · rename_i x _ hc
    have hx := h x (by unfold Call.operands; rw [hc]; simp)
    intro hp; simp only; rw [srcs_congr _ ha, hx]
  · rename_i r name hc
    have hx := h r (by unfold Call.operands; rw [hc]; simp)
    intro hp; simp only; rw [srcs_congr _ ha, hx]
  · exact builtin_same _ _ _ ha
omit [Rho] in
theorem nw_same {f : Tm → Option (AObj × Mk)} {tm tm' : Tm} (h : f tm = f tm') : (OpK.nw f).same tm tm' := h
omit [Rho] in
theorem wr_same {f : Tm → Heap → OR} {tm tm' : Tm} (h : ∀ hp, f tm hp = f tm' hp) : (OpK.wr f).same tm tm' := h
omit [Rho] in
theorem convert_same {tm tm' : Tm} (s d : TypeId) (x : Operand) (h : (srcK E x).g tm = (srcK E x).g tm') : (convertK E s d x).same tm tm' := by
  unfold convertK
  split
  · split
    · intro hp; simp only; rw [h]
    · exact same_bad
  · split
    · intro hp; simp only; rw [h]
    · exact same_bad
  · exact on1_same h
  · exact on1_same h
  · exact same_bad
omit [Rho] in
theorem build_same {tm tm' : Tm} (t : TypeId) (parts : Array (Nat × Operand)) (h : ∀ p ∈ parts.toList, (srcK E p.2).g tm = (srcK E p.2).g tm') : (buildK E t parts).f tm = (buildK E t parts).f tm' := by
  unfold buildK partsK
  split
  · rename_i fs _ _
    cases (fs.toList.all fun f => (E.size f.type).isSome)
    · rfl
    · simp only [cond_true]; rw [fillA_congr _ _ _ h]
  · split
    · simp only; rw [fillA_congr _ _ _ h]
    · rfl
  · rfl
omit [Rho] in
theorem opK0_congr {tm tm' : Tm} (o : Op) (h : ∀ x ∈ o.operands, (srcK E x).g tm = (srcK E x).g tm') : (opK0 E o).same tm tm' := by
  unfold opK0
  split
  all_goals simp only [Op.operands] at h
  all_goals try (exact on1_same (h _ (by simp)))
  all_goals try (exact on2_same (h _ (by simp)) (h _ (by simp)))
  all_goals try (exact same_bad)
  case h_4 => exact build_same _ _ fun p hp => h p.2 (by simp; exact ⟨p.1, by simpa using hp⟩)
  case h_8 => exact convert_same _ _ _ (h _ (by simp))
  case h_10 a b =>
    show some _ = some _
    rw [srcs_congr _ fun x hx => h x (by simp at hx ⊢; exact .inl hx), srcs_congr _ fun x hx => h x (by simp at hx ⊢; exact .inr hx)]
  case h_19 =>
    refine cond_same ?_ same_bad
    · intro hp
      simp only
      rw [h _ (by simp), srcO_congr _ fun x hx => h x (by simp [hx]), srcO_congr _ fun x hx => h x (by simp [hx]), srcO_congr _ fun x hx => h x (by simp [hx])]
  case h_22 =>
    rename_i parts
    have hp : ∀ p ∈ parts.toList, (srcK E p.2).g tm = (srcK E p.2).g tm' := fun p hp => h p.2 (by simp; exact ⟨p.1, by simpa using hp⟩)
    split
    · split
      · refine cond_same ?_ same_bad
        apply nw_same
        simp only [partsK]
        rw [fillA_congr _ _ _ hp]
      · exact same_bad
    · exact same_bad
  all_goals try (exact call_same _ h)
  all_goals try simp only [List.mem_toArray, List.mem_cons, forall_eq_or_imp, List.not_mem_nil, false_implies, implies_true, and_true] at h
  all_goals try (simp [OpK.same, h]; done)
  all_goals try (split <;> (try split) <;> first | exact same_bad | (simp [OpK.same, h]; done))
  all_goals (apply wr_same; intro hp; simp only; rw [h])
omit [Rho] in
theorem opK_congr {tm tm' : Tm} (o : Op) (h : ∀ x ∈ o.operands, (srcK E x).g tm = (srcK E x).g tm') : (opK E o).same tm tm' := by
  unfold opK
  split
  · exact opK0_congr o h
  · have h0 := opK0_congr (E := E) o h
    cases hk : opK0 E o with
    | pu f =>
      rw [hk] at h0
      unfold augK
      have h0' : f tm = f tm' := h0
      have hx : ∀ c x y, fkey E o = some (c, x, y) → x ∈ o.operands ∧ y ∈ o.operands := fun c x y hf => by
        unfold fkey at hf
        split at hf
        · cases hf; simp [Op.operands]
        · cases hf; simp [Op.operands]
        · split at hf <;> cases hf; simp [Op.operands]
        · rename_i c'
          have key : c'.args.toList = [x, y] → x ∈ (Op.call c').operands ∧ y ∈ (Op.call c').operands := fun ha => by
            have ha' : c'.args = #[x, y] := by apply Array.ext'; rw [ha]
            simp [Op.operands, Call.operands, ha']
          split at hf
          · rename_i hcal ha; cases hf; exact key ha
          · rename_i hcal ha; cases hf; exact key ha
          · cases hf
        · cases hf
      cases hf : fkey E o with
      | some cxy =>
        obtain ⟨c, x, y⟩ := cxy
        obtain ⟨h1, h2⟩ := hx c x y hf
        show (fun tm => _) tm = (fun tm => _) tm'
        simp only [h0', h x h1, h y h2]
      | none =>
        simp only
        cases hl : lkey E o with
        | none => exact h0
        | some x =>
          have hxm : x ∈ o.operands := by
            unfold lkey at hl
            split at hl
            · rename_i c'
              split at hl
              · rename_i x' t ts hcal ha ht
                have ha' : c'.args = #[x'] := by apply Array.ext'; rw [ha]
                split at hl <;> cases hl
                simp [Op.operands, Call.operands, ha']
              · cases hl
            · cases hl
          intro hp
          simp only [h0', h x hxm]
    | rd f => rw [hk] at h0; exact h0
    | nw f => rw [hk] at h0; exact h0
    | wr f => rw [hk] at h0; exact h0

end
end Go.Ev

namespace Go.Ev
variable [Rho] {S : Nat → Prop}

/-! ### Masks -/
omit [Rho] in
theorem testBit_lor (a b j : Nat) : Nat.testBit (Nat.lor a b) j = (Nat.testBit a j || Nat.testBit b j) := Nat.testBit_or a b j
omit [Rho] in
theorem testBit_land (a b j : Nat) : Nat.testBit (Nat.land a b) j = (Nat.testBit a j && Nat.testBit b j) := Nat.testBit_and a b j
omit [Rho] in
theorem testBit_pow (a j : Nat) : Nat.testBit (Nat.pow 2 a) j = decide (a = j) := Nat.testBit_two_pow
omit [Rho] in
theorem fold_edges (acc : List Nat) (j : Nat) : ∀ (l : List Edge) (s : Nat), Nat.testBit (l.foldl (edgeMask acc) s) j = true ↔ (Nat.testBit s j = true ∨ ∃ e ∈ l, binding e = true ∧ (e.on = j ∨ Nat.testBit (acc.getD e.on 0) j = true))
  | [], s => by simp
  | e :: l, s => by
    rw [List.foldl_cons, fold_edges acc j l]
    have he : Nat.testBit (edgeMask acc s e) j = true ↔ (Nat.testBit s j = true ∨ (binding e = true ∧ (e.on = j ∨ Nat.testBit (acc.getD e.on 0) j = true))) := by
      unfold edgeMask
      cases hb : binding e with
      | true => simp only [cond_true, testBit_lor, testBit_pow, Bool.or_eq_true, decide_eq_true_eq, true_and]
      | false => simp
    rw [he]
    constructor
    · rintro ((h | h) | ⟨x, hx, h⟩)
      · exact .inl h
      · exact .inr ⟨e, by simp, h⟩
      · exact .inr ⟨x, by simp [hx], h⟩
    · rintro (h | ⟨x, hx, h⟩)
      · exact .inl (.inl h)
      · rcases List.mem_cons.1 hx with rfl | hx
        · exact .inl (.inr h)
        · exact .inr ⟨x, hx, h⟩
omit [Rho] in
theorem beforesFrom_spec : ∀ (l : List Oper) (acc : List Nat), (beforesFrom l acc).length = acc.length + l.length ∧ (∀ i, i < acc.length → (beforesFrom l acc).getD i 0 = acc.getD i 0) ∧
    ∀ k o, l[k]? = some o → ∀ j, Nat.testBit ((beforesFrom l acc).getD (acc.length + k) 0) j = true ↔ ∃ e ∈ o.after.toList, binding e = true ∧ (e.on = j ∨ (e.on < acc.length + k ∧ Nat.testBit ((beforesFrom l acc).getD e.on 0) j = true))
  | [], acc => ⟨rfl, fun _ _ => rfl, fun k o h => by cases h⟩
  | o :: l, acc => by
    obtain ⟨h1, h2, h3⟩ := beforesFrom_spec l (acc ++ [o.after.toList.foldl (edgeMask acc) 0])
    simp only [beforesFrom]
    generalize hM : beforesFrom l (acc ++ [o.after.toList.foldl (edgeMask acc) 0]) = M at h1 h2 h3
    have hpre : ∀ i, i < acc.length → M.getD i 0 = acc.getD i 0 := fun i hi => by
      rw [h2 i (by simp; omega)]
      simp [List.getD_eq_getElem?_getD, List.getElem?_append_left hi]
    refine ⟨by simp at h1 ⊢; omega, hpre, fun k o' hk j => ?_⟩
    cases k with
    | zero =>
      simp at hk
      subst hk
      rw [Nat.add_zero, h2 acc.length (by simp)]
      rw [show (acc ++ [o.after.toList.foldl (edgeMask acc) 0]).getD acc.length 0 = o.after.toList.foldl (edgeMask acc) 0 by simp [List.getD_eq_getElem?_getD]]
      rw [fold_edges]
      simp only [Nat.zero_testBit, Bool.false_eq_true, false_or]
      constructor
      · rintro ⟨e, he, hb, h | h⟩
        · exact ⟨e, he, hb, .inl h⟩
        · by_cases hlt : e.on < acc.length
          · exact ⟨e, he, hb, .inr ⟨hlt, by rw [hpre _ hlt]; exact h⟩⟩
          · rw [List.getD_eq_getElem?_getD, List.getElem?_eq_none (by omega)] at h
            simp at h
      · rintro ⟨e, he, hb, h | ⟨hlt, h⟩⟩
        · exact ⟨e, he, hb, .inl h⟩
        · exact ⟨e, he, hb, .inr (by rw [← hpre _ hlt]; exact h)⟩
    | succ k =>
      have := h3 k o' (by simpa using hk) j
      rw [show (acc ++ [o.after.toList.foldl (edgeMask acc) 0]).length + k = acc.length + (k + 1) by simp; omega] at this
      exact this
def preOf (all : List Oper) (i : Nat) : Nat := (befores all).getD i 0
omit [Rho] in
theorem befores_length (all : List Oper) : (befores all).length = all.length := by
  have := (beforesFrom_spec all []).1
  unfold befores
  simpa using this
omit [Rho] in
theorem pre_iff {all : List Oper} {i : Nat} {o : Oper} (h : all[i]? = some o) (j : Nat) : Nat.testBit (preOf all i) j = true ↔ ∃ e ∈ o.after.toList, binding e = true ∧ (e.on = j ∨ (e.on < i ∧ Nat.testBit (preOf all e.on) j = true)) := by
  have := (beforesFrom_spec all []).2.2 i o h j
  simpa [preOf, befores] using this
omit [Rho] in
theorem pre_none {all : List Oper} {i : Nat} (h : all[i]? = none) (j : Nat) : Nat.testBit (preOf all i) j = false := by
  unfold preOf
  rw [List.getD_eq_getElem?_getD, List.getElem?_eq_none (by rw [befores_length]; simpa using h)]
  simp
omit [Rho] in
/-- What comes before what comes before comes before. -/
theorem pre_trans {all : List Oper} : ∀ (i : Nat) (j k : Nat), (∀ i, ∀ j, Nat.testBit (preOf all i) j = true → j < i) → Nat.testBit (preOf all i) j = true → Nat.testBit (preOf all j) k = true → Nat.testBit (preOf all i) k = true := by
  intro i
  induction i using Nat.strongRecOn with
  | _ i ih =>
    intro j k hlt h1 h2
    cases ho : all[i]? with
    | none => rw [pre_none ho] at h1; cases h1
    | some o =>
      obtain ⟨e, he, hb, h | ⟨hl, h⟩⟩ := (pre_iff ho j).1 h1
      · subst h
        exact (pre_iff ho k).2 ⟨e, he, hb, .inr ⟨hlt i e.on h1, h2⟩⟩
      · exact (pre_iff ho k).2 ⟨e, he, hb, .inr ⟨hl, ih e.on hl j k hlt h h2⟩⟩

/-! ### Temporaries -/
omit [Rho] in
theorem tmask_spec (x : Operand) (t : Nat) : Nat.testBit (tmask x) t = true ↔ x = .tmp t := by
  cases x with
  | tmp d => show Nat.testBit (Nat.pow 2 d) t = true ↔ _; rw [testBit_pow]; simp
  | _ => simp [tmask]
omit [Rho] in
theorem dstMask_spec (d : Option Tmp) (t : Nat) : Nat.testBit (dstMask d) t = true ↔ d = some t := by
  cases d with
  | some d => show Nat.testBit (Nat.pow 2 d) t = true ↔ _; rw [testBit_pow]; simp
  | none => simp [dstMask]
omit [Rho] in
theorem readsMask_spec (t : Nat) : ∀ (l : List Operand) (s : Nat), Nat.testBit (readsMask l s) t = true ↔ (Nat.testBit s t = true ∨ .tmp t ∈ l)
  | [], s => by simp [readsMask]
  | x :: l, s => by
    simp only [readsMask]
    rw [readsMask_spec t l, testBit_lor, Bool.or_eq_true, tmask_spec, List.mem_cons]
    constructor
    · rintro ((h | h) | h)
      · exact .inl h
      · exact .inr (.inl h.symm)
      · exact .inr (.inr h)
    · rintro (h | h | h)
      · exact .inl (.inl h)
      · exact .inl (.inr h.symm)
      · exact .inr h
/-- The operation looks at a temporary. -/
def Looks (all : List Oper) (o : Oper) (t : Tmp) : Prop := .tmp t ∈ o.op.operands.toList ∨ ∃ j b oj, o.guard = some (j, b) ∧ all[j]? = some oj ∧ oj.dst = some t
omit [Rho] in
theorem guardMask_spec (all : List Oper) (g : Option (Nat × Bool)) (t : Nat) : Nat.testBit (guardMask all g) t = true ↔ ∃ j b oj, g = some (j, b) ∧ all[j]? = some oj ∧ oj.dst = some t := by
  unfold guardMask
  split
  · rename_i j b
    cases h : all[j]? with
    | none =>
      constructor
      · intro h; simp at h
      · rintro ⟨j', b', oj, h1, h2, h3⟩; cases h1; rw [h] at h2; cases h2
    | some oj =>
      simp only
      rw [dstMask_spec]
      constructor
      · exact fun h3 => ⟨j, b, oj, rfl, h, h3⟩
      · rintro ⟨j', b', oj', h1, h2, h3⟩; cases h1; rw [h] at h2; cases h2; exact h3
  · constructor
    · intro h; simp at h
    · rintro ⟨j', b', oj, h1, h2, h3⟩; cases h1
omit [Rho] in
theorem looks_iff (all : List Oper) (o : Oper) (t : Tmp) : Nat.testBit (readsMask o.op.operands.toList (guardMask all o.guard)) t = true ↔ Looks all o t := by
  rw [readsMask_spec, guardMask_spec]
  exact Or.comm
def Clash (all : List Oper) (x y : Oper) : Prop := ∃ t, (x.dst = some t ∧ (Looks all y t ∨ y.dst = some t)) ∨ (y.dst = some t ∧ Looks all x t)
omit [Rho] in
theorem apartFrom_spec {all : List Oper} {y : Oper} {pre : Nat} : ∀ (l : List RW), apartFrom (readsMask y.op.operands.toList (guardMask all y.guard)) (dstMask y.dst) pre l = true →
    ∀ r ∈ l, ∀ x, r.rd = readsMask x.op.operands.toList (guardMask all x.guard) → r.wr = dstMask x.dst → Clash all x y → Nat.testBit pre r.ix = true
  | [], _, r, hr => by cases hr
  | q :: l, h, r, hr => by
    simp only [apartFrom] at h
    intro x h1 h2 ⟨t, hc⟩
    rcases List.mem_cons.1 hr with rfl | hr
    · have hne : Nat.beq (Nat.lor (Nat.land r.wr (Nat.lor (readsMask y.op.operands.toList (guardMask all y.guard)) (dstMask y.dst))) (Nat.land (dstMask y.dst) r.rd)) 0 = false := by
        cases hb : Nat.beq _ 0 with
        | false => rfl
        | true =>
          have h0 := Nat.eq_of_beq_eq_true hb
          have ht : Nat.testBit (Nat.lor (Nat.land r.wr (Nat.lor (readsMask y.op.operands.toList (guardMask all y.guard)) (dstMask y.dst))) (Nat.land (dstMask y.dst) r.rd)) t = true := by
            rw [testBit_lor, testBit_land, testBit_lor, testBit_land, h1, h2]
            rcases hc with ⟨a, b | b⟩ | ⟨a, b⟩
            · rw [(dstMask_spec _ _).2 a, (looks_iff all y t).2 b]; simp
            · rw [(dstMask_spec _ _).2 a, (dstMask_spec _ _).2 b]; simp
            · rw [(dstMask_spec _ _).2 a, (looks_iff all x t).2 b]; simp
          rw [h0] at ht
          simp at ht
      rw [hne] at h
      simp only [cond_false, Bool.and_eq_true] at h
      exact h.1
    · have h' : apartFrom (readsMask y.op.operands.toList (guardMask all y.guard)) (dstMask y.dst) pre l = true := by
        cases hb : Nat.beq (Nat.lor (Nat.land q.wr (Nat.lor (readsMask y.op.operands.toList (guardMask all y.guard)) (dstMask y.dst))) (Nat.land (dstMask y.dst) q.rd)) 0 with
        | true => rw [hb] at h; exact h
        | false => rw [hb] at h; simp only [cond_false, Bool.and_eq_true] at h; exact h.2
      exact apartFrom_spec l h' r hr x h1 h2 ⟨t, hc⟩
omit [Rho] in
theorem tempsOk_spec {all : List Oper} : ∀ (l : List Oper) (ps : List Nat) (i : Nat) (acc : List RW), tempsOk all l ps i acc = true →
    (∀ k o, l[k]? = some o → ps.getD k 0 < 2 ^ (i + k)) ∧
    (∀ k o, l[k]? = some o → ∀ r ∈ acc, ∀ x, r.rd = readsMask x.op.operands.toList (guardMask all x.guard) → r.wr = dstMask x.dst → Clash all x o → Nat.testBit (ps.getD k 0) r.ix = true) ∧
    (∀ k k' x o, k' < k → l[k']? = some x → l[k]? = some o → Clash all x o → Nat.testBit (ps.getD k 0) (i + k') = true)
  | [], [], i, acc, _ => ⟨fun k o h => (by cases h), fun k o h => (by cases h), fun k k' x o _ _ h => (by cases h)⟩
  | o :: l, pre :: ps, i, acc, h => by
    simp only [tempsOk, Bool.and_eq_true] at h
    obtain ⟨h1, h2, h3⟩ := h
    obtain ⟨i1, i2, i3⟩ := tempsOk_spec l ps (i + 1) _ h3
    refine ⟨fun k o' hk => ?_, fun k o' hk r hr x e1 e2 hc => ?_, fun k k' x o' hlt hk' hk hc => ?_⟩
    · cases k with
      | zero => simpa using blt_iff.1 h1
      | succ k => have := i1 k o' (by simpa using hk); simpa [Nat.add_assoc, Nat.add_comm 1] using this
    · cases k with
      | zero => simp at hk; subst hk; simpa using apartFrom_spec acc h2 r hr x e1 e2 hc
      | succ k => simpa using i2 k o' (by simpa using hk) r (List.mem_cons_of_mem _ hr) x e1 e2 hc
    · cases k with
      | zero => omega
      | succ k =>
        cases k' with
        | zero =>
          simp at hk'
          subst hk'
          simpa using i2 k o' (by simpa using hk) _ (List.mem_cons_self ..) o rfl rfl hc
        | succ k' =>
          have := i3 k k' x o' (by omega) (by simpa using hk') (by simpa using hk) hc
          rw [show i + 1 + k' = i + (k' + 1) by omega] at this
          simpa using this
  | [], _ :: _, i, acc, h => by simp [tempsOk] at h
  | _ :: _, [], i, acc, h => by simp [tempsOk] at h
structure Ordered (all : List Oper) : Prop where
  lt : ∀ i j, Nat.testBit (preOf all i) j = true → j < i
  clash : ∀ j i x y, j < i → all[j]? = some x → all[i]? = some y → Clash all x y → Nat.testBit (preOf all i) j = true
omit [Rho] in
theorem ordered_of {all : List Oper} (h : tempsOk all all (befores all) 0 [] = true) : Ordered all where
  lt := fun i j hj => by
    cases ho : all[i]? with
    | none => rw [pre_none ho] at hj; cases hj
    | some o =>
      have := (tempsOk_spec _ _ _ _ h).1 i o ho
      rw [Nat.zero_add] at this
      have h2 := Nat.testBit_lt_two_pow (x := (befores all).getD i 0) (i := j)
      rcases Nat.lt_or_ge j i with h3 | h3
      · exact h3
      · exact absurd hj (by
          rw [show preOf all i = (befores all).getD i 0 from rfl, Nat.testBit_lt_two_pow (Nat.lt_of_lt_of_le this (Nat.pow_le_pow_right (by omega) h3))]
          simp)
  clash := fun j i x y hlt hx hy hc => by
    have := (tempsOk_spec _ _ _ _ h).2.2 i j x y hlt hx hy hc
    simpa [preOf] using this
omit [Rho] in
theorem Ordered.trans {all : List Oper} (o : Ordered all) {i j k : Nat} (h1 : Nat.testBit (preOf all i) j = true) (h2 : Nat.testBit (preOf all j) k = true) : Nat.testBit (preOf all i) k = true := pre_trans i j k o.lt h1 h2
end Go.Ev

namespace Go.Ev
variable [Rho] {S : Nat → Prop}

omit [Rho] in
theorem num_n : ∀ p : Pos, p.num = p.n
  | .one => rfl
  | .o p => by show Nat.mul 2 p.num = _; rw [num_n p]; rfl
  | .i p => by show Nat.succ (Nat.mul 2 p.num) = _; rw [num_n p]; rfl
omit [Rho] in
theorem layK_eq {R : Type} (pre : Nat) (k : Heap → R) : ∀ (l : List Pend) (h : Heap), layK pre k l h = k (layFrees pre l h)
  | [], h => rfl
  | p :: l, h => by
    simp only [layK, layFrees]
    cases Nat.testBit pre p.ix <;> simp only [cond_true, cond_false] <;> exact layK_eq pre k l _
omit [Rho] in
theorem lay_free {h : Heap} {p : Pend} (hf : (h.at p.n).obj = .free) (n : Pos) : (h.lay p).at n = if p.n = n then ⟨p.ob, p.n⟩ else h.at n := by
  unfold Heap.lay
  rw [hf]
  exact DTree.get_set _ _ _ _
omit [Rho] in
theorem lay_not {h : Heap} {p : Pend} (hf : (h.at p.n).obj ≠ .free) : h.lay p = h := by
  unfold Heap.lay
  cases ho : (h.at p.n).obj <;> first | exact absurd ho hf | rfl
omit [Rho] in
theorem lay_fields (h : Heap) (p : Pend) : (h.lay p).nx = h.nx ∧ (h.lay p).al = h.al ∧ (h.lay p).df = h.df := by
  unfold Heap.lay
  split <;> exact ⟨rfl, rfl, rfl⟩
omit [Rho] in
theorem layFrees_fields (pre : Nat) : ∀ (l : List Pend) (h : Heap), (layFrees pre l h).nx = h.nx ∧ (layFrees pre l h).al = h.al ∧ (layFrees pre l h).df = h.df
  | [], h => ⟨rfl, rfl, rfl⟩
  | p :: l, h => by
    simp only [layFrees]
    cases Nat.testBit pre p.ix <;> simp only [cond_true, cond_false]
    · exact layFrees_fields pre l h
    · obtain ⟨a, b, c⟩ := layFrees_fields pre l (h.lay p)
      obtain ⟨a', b', c'⟩ := lay_fields h p
      exact ⟨a.trans a', b.trans b', c.trans c'⟩
omit [Rho] in
theorem layFrees_at (pre : Nat) : ∀ (l : List Pend) (h : Heap), (∀ p ∈ l, Nat.testBit pre p.ix = true → p.ob.isB = true) → ∀ n,
    (layFrees pre l h).at n = h.at n ∨ ((h.at n).obj = .free ∧ ∃ p ∈ l, Nat.testBit pre p.ix = true ∧ p.n = n ∧ (layFrees pre l h).at n = ⟨p.ob, n⟩)
  | [], h, _, n => .inl rfl
  | p :: l, h, hob, n => by
    simp only [layFrees]
    have hl := fun q hq => hob q (List.mem_cons_of_mem _ hq)
    cases ht : Nat.testBit pre p.ix with
    | false =>
      simp only [cond_false]
      rcases layFrees_at pre l h hl n with e | ⟨a, q, hq, b⟩
      · exact .inl e
      · exact .inr ⟨a, q, List.mem_cons_of_mem _ hq, b⟩
    | true =>
      simp only [cond_true]
      by_cases hf : (h.at p.n).obj = .free
      · have hat := lay_free hf n
        rcases layFrees_at pre l (h.lay p) hl n with e | ⟨a, q, hq, b⟩
        · rw [hat] at e
          by_cases hn : p.n = n
          · rw [if_pos hn] at e
            subst hn
            exact .inr ⟨hf, p, by simp, ht, rfl, e⟩
          · rw [if_neg hn] at e; exact .inl e
        · rw [hat] at a
          by_cases hn : p.n = n
          · rw [if_pos hn] at a; exact absurd a (isB_ne (hob p (by simp) ht))
          · rw [if_neg hn] at a; exact .inr ⟨a, q, List.mem_cons_of_mem _ hq, b⟩
      · rw [lay_not hf]
        rcases layFrees_at pre l h hl n with e | ⟨a, q, hq, b⟩
        · exact .inl e
        · exact .inr ⟨a, q, List.mem_cons_of_mem _ hq, b⟩
omit [Rho] in
theorem layFrees_old {pre : Nat} {l : List Pend} {h : Heap} (hob : ∀ p ∈ l, Nat.testBit pre p.ix = true → p.ob.isB = true) {n : Pos} (hd : dom h n) : (layFrees pre l h).at n = h.at n := by
  rcases layFrees_at pre l h hob n with e | ⟨a, _⟩
  · exact e
  · exact absurd a hd
omit [Rho] in
theorem layFrees_dom {pre : Nat} {l : List Pend} {h : Heap} (hob : ∀ p ∈ l, Nat.testBit pre p.ix = true → p.ob.isB = true) {n : Pos} (hd : dom h n) : dom (layFrees pre l h) n := by
  unfold dom; rw [layFrees_old hob hd]; exact hd
omit [Rho] in
theorem layFrees_laid {pre : Nat} : ∀ (l : List Pend) (h : Heap), (∀ p ∈ l, Nat.testBit pre p.ix = true → p.ob.isB = true) → ∀ p ∈ l, Nat.testBit pre p.ix = true → dom (layFrees pre l h) p.n
  | q :: l, h, hob, p, hp, ht => by
    have hl := fun q hq => hob q (List.mem_cons_of_mem _ hq)
    simp only [layFrees]
    rcases List.mem_cons.1 hp with rfl | hp
    · rw [ht]
      simp only [cond_true]
      apply layFrees_dom hl
      by_cases hf : (h.at p.n).obj = .free
      · unfold dom; rw [lay_free hf, if_pos rfl]; exact isB_ne (hob p (by simp) ht)
      · rw [lay_not hf]; exact hf
    · cases Nat.testBit pre q.ix <;> simp only [cond_true, cond_false] <;> exact layFrees_laid l _ hl p hp ht
omit [Rho] in
theorem layFrees_doms {pre : Nat} {l : List Pend} {h : Heap} (hob : ∀ p ∈ l, Nat.testBit pre p.ix = true → p.ob.isB = true) (n : Pos) : dom (layFrees pre l h) n ↔ (dom h n ∨ ∃ p ∈ l, Nat.testBit pre p.ix = true ∧ p.n = n) := by
  constructor
  · intro hd
    rcases layFrees_at pre l h hob n with e | ⟨_, p, hp, a, b, _⟩
    · unfold dom at hd ⊢; rw [e] at hd; exact .inl hd
    · exact .inr ⟨p, hp, a, b⟩
  · rintro (hd | ⟨p, hp, a, rfl⟩)
    · exact layFrees_dom hob hd
    · exact layFrees_laid l h hob p hp a

section
variable {G : Tabs} {m m' : Mp} {h h' : Heap} {w w' : World}
omit [Rho] in
theorem dom_ext (ht : h'.t = h.t) (n : Pos) : dom h' n ↔ dom h n := by unfold dom Heap.at; rw [ht]
omit [Rho] in
theorem at_ext (ht : h'.t = h.t) (n : Pos) : h'.at n = h.at n := by unfold Heap.at; rw [ht]
omit [Rho] in
theorem bk_ext (ht : h'.t = h.t) (n : Pos) : bk h' n ↔ bk h n := by unfold bk Heap.at; rw [ht]
omit [Rho] in
theorem layFrees_bk {pre : Nat} {l : List Pend} (hob : ∀ p ∈ l, Nat.testBit pre p.ix = true → p.ob.isB = true) {n : Pos} (hd : bk h n) : bk (layFrees pre l h) n := by
  unfold bk; rw [layFrees_old hob hd.dom]; exact hd
omit [Rho] in
/-- What has a block behind the laying. -/
theorem layFrees_bks {pre : Nat} {l : List Pend} (hob : ∀ p ∈ l, Nat.testBit pre p.ix = true → p.ob.isB = true) {n : Pos} (hd : bk (layFrees pre l h) n) : bk h n ∨ ((h.at n).obj = .free ∧ ∃ p ∈ l, Nat.testBit pre p.ix = true ∧ p.n = n) := by
  rcases layFrees_at pre l h hob n with e | ⟨a, p, hp, b, c, _⟩
  · unfold bk at hd ⊢; rw [e] at hd; exact .inl hd
  · exact .inr ⟨a, p, hp, b, c⟩
omit [Rho] in
theorem layFrees_vat {pre : Nat} {l : List Pend} (hob : ∀ p ∈ l, Nat.testBit pre p.ix = true → p.ob.isB = true) {n : Pos} {id : Nat} : ((layFrees pre l h).at n).obj = .vat id ↔ (h.at n).obj = .vat id := by
  constructor
  · intro e
    rcases layFrees_at pre l h hob n with e' | ⟨a, p, hp, b, c, d⟩
    · rw [e'] at e; exact e
    · rw [d] at e; have := hob p hp b; simp only at e; rw [e] at this; cases this
  · intro e
    rw [layFrees_old hob (fun e' => by rw [e'] at e; cases e)]; exact e
theorem Rep.ext (r : Rep G S m h w) (ht : h'.t = h.t) (ha : h'.al = h.al) (hn : ∀ n, dom h n → n.n < h'.nx.n) : Rep G S m h' w := by
  obtain ⟨t', nx', al', df'⟩ := h'
  simp only at ht ha
  subst ht; subst ha
  exact ⟨r.blk, fun n hd => hn n hd, r.apart, r.mem, fun n hd => ⟨hn _ (r.rts n hd).2, (r.rts n hd).2⟩, r.ins, r.glob, r.sem, r.lim⟩
theorem Rep.lt (r : Rep G S m h w) {n : Pos} (hd : bk h n) : m.b n < w.heap.size := by
  obtain ⟨o, h1, _⟩ := r.blk n hd; exact (Array.getElem?_eq_some_iff.1 h1).1
theorem Rep.shrink {S' : Nat → Prop} (r : Rep G S m h w) (hS : ∀ b, S' b → S b) : Rep G S' m h w :=
  ⟨r.blk, r.fresh, r.apart, r.mem, r.rts, r.ins, r.glob, fun n id hn w2 hw2 => r.sem n id hn w2 fun b hb hS' hk => hw2 b hb (fun e => hS' (hS b e)) hk, fun b hb => r.lim b (hS b hb)⟩
theorem Rep.congr {S' : Nat → Prop} (r : Rep G S m h w) (hm : ∀ n, dom h n → m'.b n = m.b n ∧ m'.cv n = m.cv n) (hw : ∀ b, b < w.heap.size → w'.heap[b]? = w.heap[b]?) (hsz : w.heap.size ≤ w'.heap.size) (hSS : ∀ b, b < w.heap.size → S' b → S b) (hlim : ∀ b, S' b → b < w'.heap.size) : Rep G S' m' h w' where
  lim := hlim
  blk := fun n hd => by
    obtain ⟨o, h1, h2⟩ := r.blk n hd
    exact ⟨o, by rw [(hm n hd.dom).1, hw _ (r.lt hd)]; exact h1, BlkObj_congr hm (r.ins n) (hm n hd.dom).2 h2⟩
  fresh := r.fresh
  apart := fun n k a b c => by rw [(hm n a.dom).1, (hm k b.dom).1]; exact r.apart n k a b c
  mem := r.mem
  rts := r.rts
  ins := r.ins
  glob := fun g l hg => by
    obtain ⟨⟨rest, e, fz, h1⟩, h2⟩ := r.glob g l hg
    exact ⟨⟨rest, e, fz, by rw [hw _ (Array.getElem?_eq_some_iff.1 h1).1]; exact h1⟩, fun n hd => by rw [(hm n hd.dom).1]; exact h2 n hd⟩
  sem := fun n id hn w2 hw2 => by
    have hd : dom h n := fun e => by rw [e] at hn; cases hn
    have e : m'.v n = m.v n := by unfold Mp.v; rw [(hm n hd).2]
    rw [e]
    exact r.sem n id hn w2 fun b hb hS hk => by rw [hw2 b (Nat.lt_of_lt_of_le hb hsz) (fun e => hS (hSS b hb e)) fun k hk' => by rw [(hm k hk'.dom).1]; exact hk k hk', hw b hb]
/-- New objects that lie in their blocks already. -/
theorem Rep.layAll (r : Rep G S m h w) {pre : Nat} {l : List Pend} (hob : ∀ p ∈ l, Nat.testBit pre p.ix = true → p.ob.isB = true)
    (hblk : ∀ p ∈ l, Nat.testBit pre p.ix = true → (h.at p.n).obj = .free → (∃ o, w.heap[m.b p.n]? = some o ∧ BlkObj m p.n p.ob o) ∧ p.n.n < h.nx.n ∧ (∀ k, bk h k → m.b k ≠ m.b p.n) ∧
      InObj (dom (layFrees pre l h)) p.ob ∧ ∀ g x, G.g g = some x → m.b p.n ≠ g)
    (hne : ∀ p ∈ l, ∀ q ∈ l, Nat.testBit pre p.ix = true → Nat.testBit pre q.ix = true → (h.at p.n).obj = .free → (h.at q.n).obj = .free → p.n ≠ q.n → m.b p.n ≠ m.b q.n)
    (hnewS : ∀ p ∈ l, Nat.testBit pre p.ix = true → (h.at p.n).obj = .free → S (m.b p.n)) : Rep G S m (layFrees pre l h) w := by
  obtain ⟨f1, f2, f3⟩ := layFrees_fields pre l h
  have hcase : ∀ n, dom (layFrees pre l h) n → (dom h n ∧ (layFrees pre l h).at n = h.at n) ∨ ((h.at n).obj = .free ∧ ∃ p ∈ l, Nat.testBit pre p.ix = true ∧ p.n = n ∧ (layFrees pre l h).at n = ⟨p.ob, n⟩) := fun n hd => by
    rcases layFrees_at pre l h hob n with e | e
    · unfold dom at hd; rw [e] at hd; exact .inl ⟨hd, e⟩
    · exact .inr e
  have hbcase : ∀ n, bk (layFrees pre l h) n → (bk h n ∧ (layFrees pre l h).at n = h.at n) ∨ ((h.at n).obj = .free ∧ ∃ p ∈ l, Nat.testBit pre p.ix = true ∧ p.n = n ∧ (layFrees pre l h).at n = ⟨p.ob, n⟩) := fun n hd => by
    rcases layFrees_at pre l h hob n with e | e
    · unfold bk at hd; rw [e] at hd; exact .inl ⟨hd, e⟩
    · exact .inr e
  refine ⟨fun n hd => ?_, fun n hd => ?_, fun n k hn hk hr => ?_, fun n k hn hk hr hne' => ?_, fun n hd => ?_, fun n => ?_, fun g x hg => ⟨(r.glob g x hg).1, fun n hd => ?_⟩, fun n id hn w2 hw2 => r.sem n id ((layFrees_vat hob).1 hn) w2 fun b hb hS hk => hw2 b hb hS fun k hk' => ?_, r.lim⟩
  · rcases hbcase n hd with ⟨a, e⟩ | ⟨a, p, hp, ht, rfl, e⟩
    · rw [e]; exact r.blk n a
    · rw [e]; exact (hblk p hp ht a).1
  · rw [f1]
    rcases hcase n hd with ⟨a, e⟩ | ⟨a, p, hp, ht, rfl, e⟩
    · exact r.fresh n a
    · exact (hblk p hp ht a).2.1
  · rcases hbcase n hn with ⟨a, e⟩ | ⟨a, p, hp, ht, rfl, e⟩ <;> rcases hbcase k hk with ⟨a', e'⟩ | ⟨a', p', hp', ht', rfl, e'⟩
    · rw [e, e'] at hr; exact r.apart n k a a' hr
    · exact (hblk p' hp' ht' a').2.2.1 n a
    · exact Ne.symm ((hblk p hp ht a).2.2.1 k a')
    · rw [e, e'] at hr; exact hne p hp p' hp' ht ht' a a' hr
  · rcases hcase n hn with ⟨a, e⟩ | ⟨a, p, hp, ht, rfl, e⟩ <;> rcases hcase k hk with ⟨a', e'⟩ | ⟨a', p', hp', ht', rfl, e'⟩
    · rw [e, e'] at hr; rw [e, f2]; exact r.mem n k a a' hr hne'
    · rw [e, e'] at hr; have := (r.rts n a).2; rw [hr] at this; exact absurd a' this
    · rw [e, e'] at hr; have := (r.rts k a').2; rw [← hr] at this; exact absurd a this
    · rw [e, e'] at hr; exact absurd hr hne'
  · rw [f1]
    rcases hcase n hd with ⟨a, e⟩ | ⟨a, p, hp, ht, rfl, e⟩
    · rw [e]; exact ⟨(r.rts n a).1, layFrees_dom hob (r.rts n a).2⟩
    · rw [e]; exact ⟨(hblk p hp ht a).2.1, hd⟩
  · rcases layFrees_at pre l h hob n with e | ⟨a, p, hp, ht, rfl, e⟩
    · rw [e]; exact InObj_mono (fun k hk => layFrees_dom hob hk) (r.ins n)
    · rw [e]; exact (hblk p hp ht a).2.2.2.1
  · rcases hbcase n hd with ⟨a, e⟩ | ⟨a, p, hp, ht, rfl, e⟩
    · exact (r.glob g x hg).2 n a
    · exact (hblk p hp ht a).2.2.2.2 g x hg
  · rcases hbcase k hk' with ⟨a, _⟩ | ⟨a, p, hp, ht, rfl, _⟩
    · exact hk k a
    · exact fun e => hS (e ▸ hnewS p hp ht a)
omit [Rho] in
/-- The names that are not there may go on meaning what they meant. -/
theorem Goes.remap {m2 : Mp} (g : Goes m h w m' h' w') (h1 : ∀ n, dom h' n → m2.b n = m'.b n ∧ m2.cv n = m'.cv n) (h2 : ∀ n, n.n < h.nx.n → m2.b n = m.b n ∧ m2.cv n = m.cv n) : Goes m h w m2 h' w' :=
  ⟨g.tape, g.os, g.output, g.size, g.keep, h2, g.nx, g.newd, fun n a b => by rw [(h1 n a.dom).1]; exact g.newb n a b, g.old, g.bold, g.vats⟩
omit [Rho] in
/-- What goes on, and names that are new. -/
theorem Goes.lay {h2 : Heap} (g : Goes m h w m' h' w') (hn : h'.nx.n ≤ h2.nx.n) (hold : ∀ n, dom h' n → dom h2 n)
    (hnew : ∀ n, dom h2 n → dom h' n ∨ h.nx.n ≤ n.n) (hbold : ∀ n, bk h' n → bk h2 n) (hbnew : ∀ n, bk h2 n → bk h' n ∨ w.heap.size ≤ m'.b n) (hvat : ∀ n id, (h'.at n).obj = .vat id → (h2.at n).obj = .vat id) : Goes m h w m' h2 w' :=
  ⟨g.tape, g.os, g.output, g.size, g.keep, g.agree, Nat.le_trans g.nx hn,
    fun n h0 => by rcases hnew n h0 with a | a; exact g.newd n a; exact .inr a,
    fun n h0 h1 => by rcases hbnew n h0 with a | a; exact g.newb n a h1; exact .inl a, fun n h0 => hold n (g.old n h0), fun n h0 => hbold n (g.bold n h0), fun n id h0 => hvat n id (g.vats n id h0)⟩
end

/-! ### Some temporaries alone -/
noncomputable def only (tm : Tm) : List Nat → Tm
  | [] => tm0
  | t :: l => (setK t).f (tget t tm) (only tm l)
omit [Rho] in
theorem tget_only (tm : Tm) : ∀ (l : List Nat) (t : Nat), tget t (only tm l) = if t ∈ l then tget t tm else undefA
  | [], t => by simp [only, tget_leaf]
  | x :: l, t => by
    simp only [only]
    rw [tget_set, tget_only tm l]
    by_cases e : x = t
    · subst e; simp
    · have : (t ∈ x :: l) ↔ t ∈ l := by simp [Ne.symm e]
      simp only [if_neg e, this]
end Go.Ev

namespace Go.Ev
variable [Rho] {S : Nat → Prop}

/-! ### The run in the order of the text -/
inductive Kd where
  | skip | pu | rd | nw (ob : AObj) (mk : Mk) | wr
def WantT (all : List Oper) (o : Oper) (tm : Tm) : Prop := wantK all o.guard = none ∨ ∃ wk, wantK all o.guard = some wk ∧ wk.f tm = some true
def StepF (E : Env) (all : List Oper) (cf : (FuncId → List AVal → Heap → VR)) (i : Nat) (k : Kd) (v : AVal) (s s' : DS) (o : Oper) : Prop :=
  match k with
  | .skip => v = undefA ∧ (∃ wk, wantK all o.guard = some wk ∧ wk.f s.tm = some false) ∧ s'.h = s.h ∧ s'.hist = s.hist ∧ s'.chain = s.chain ∧ s'.held = s.held ∧ s'.fls = s.fls
  | .pu => WantT all o s.tm ∧ (∃ f, opK E o.op = .pu f ∧ f s.tm = some v) ∧ s'.h = s.h ∧ s'.hist = s.hist ∧ s'.chain = s.chain ∧ s'.held = s.held ∧ s'.fls = s.fls
  | .rd => WantT all o s.tm ∧ (∃ f, opK E o.op = .rd f ∧ f s.tm (layFrees (preOf all i) s.fls s.h) = some v ∧
      backHeld (preOf all i) s.h.nx (fun h => f s.tm (layFrees (preOf all i) s.fls h)) v s.hist = true ∧ s'.held = ⟨i, fun h => f s.tm (layFrees (preOf all i) s.fls h), v⟩ :: s.held) ∧
      s'.h = s.h ∧ s'.hist = s.hist ∧ s'.chain = s.chain ∧ s'.fls = s.fls
  | .nw ob mk => WantT all o s.tm ∧ (∃ f, opK E o.op = .nw f ∧ f s.tm = some (ob, mk)) ∧ v = mk.mk s.h.nx ∧ s'.h = ⟨s.h.t, s.h.nx.succ, s.h.al, s.h.df⟩ ∧ s'.hist = s.hist ∧ s'.chain = s.chain ∧ s'.held = s.held ∧ s'.fls = ⟨i, s.h.nx, ob⟩ :: s.fls
  | .wr => WantT all o s.tm ∧ (∃ f, opK E o.op = .wr f ∧ (f s.tm (layFrees (preOf all i) s.fls s.h) = .ok v s'.h ∨
      ∃ g args, f s.tm (layFrees (preOf all i) s.fls s.h) = .call g args ∧ cf g args (layFrees (preOf all i) s.fls s.h) = .ok v s'.h)) ∧
      (Nat.land s.chain (preOf all i) = s.chain) ∧ stillHeld (preOf all i) s'.h s.held = true ∧ s.h.nx.n ≤ s'.h.nx.n ∧
      s'.hist = (i, s.h) :: s.hist ∧ s'.chain = Nat.lor s.chain (Nat.pow 2 i) ∧ s'.held = s.held ∧ s'.fls = s.fls

omit [Rho] in
theorem cond_none {α : Type} {b : Bool} {o : Option α} {r : α} (h : cond b o none = some r) : b = true ∧ o = some r := by
  cases b with
  | true => exact ⟨rfl, h⟩
  | false => cases h
omit [Rho] in
theorem drawGo_spec {E : Env} {all : List Oper} {cf : (FuncId → List AVal → Heap → VR)} {i : Nat} {o : Oper} {p : PutK} {s s' : DS} (hw : WantT all o s.tm)
    (e : drawGo i (preOf all i) (opK E o.op) p cf s = some s') : ∃ k v, StepF E all cf i k v s s' o ∧ s'.tm = p.f v s.tm := by
  unfold drawGo at e
  cases hk : opK E o.op with
  | pu f =>
    rw [hk] at e
    simp only at e
    cases hv : f s.tm with
    | none => rw [hv] at e; cases e
    | some v => rw [hv] at e; cases e; exact ⟨.pu, v, ⟨hw, ⟨f, hk, hv⟩, rfl, rfl, rfl, rfl, rfl⟩, rfl⟩
  | nw f =>
    rw [hk] at e
    simp only at e
    cases hv : f s.tm with
    | none => rw [hv] at e; cases e
    | some q => rw [hv] at e; cases e; exact ⟨.nw q.1 q.2, q.2.mk s.h.nx, ⟨hw, ⟨f, hk, hv⟩, rfl, rfl, rfl, rfl, rfl, rfl⟩, rfl⟩
  | rd f =>
    rw [hk] at e
    simp only at e
    have hg : layK (preOf all i) (f s.tm) s.fls = fun h => f s.tm (layFrees (preOf all i) s.fls h) := funext fun h => layK_eq _ _ _ _
    rw [hg] at e
    dsimp only at e
    cases hv : f s.tm (layFrees (preOf all i) s.fls s.h) with
    | none => rw [hv] at e; cases e
    | some v =>
      rw [hv] at e
      simp only at e
      obtain ⟨h1, h2⟩ := cond_none e
      cases h2
      exact ⟨.rd, v, ⟨hw, ⟨f, hk, hv, h1, rfl⟩, rfl, rfl, rfl, rfl⟩, rfl⟩
  | wr f =>
    rw [hk] at e
    simp only at e
    obtain ⟨h1, h2⟩ := cond_none e
    rw [layK_eq] at h2
    have h1' := Nat.eq_of_beq_eq_true h1
    have fin : ∀ v h', cond (stillHeld (preOf all i) h' s.held && Nat.ble (layFrees (preOf all i) s.fls s.h).nx.num h'.nx.num) (some (DS.mk (p.f v s.tm) h' ((i, s.h) :: s.hist) (Nat.lor s.chain (Nat.pow 2 i)) s.held s.fls)) none = some s' →
        (f s.tm (layFrees (preOf all i) s.fls s.h) = .ok v h' ∨ ∃ g args, f s.tm (layFrees (preOf all i) s.fls s.h) = .call g args ∧ cf g args (layFrees (preOf all i) s.fls s.h) = .ok v h') →
        ∃ k v, StepF E all cf i k v s s' o ∧ s'.tm = p.f v s.tm := fun v h' h3 h4 => by
      obtain ⟨h5, h6⟩ := cond_none h3
      rw [Bool.and_eq_true, num_n, num_n, (layFrees_fields _ _ _).1] at h5
      cases h6
      exact ⟨.wr, v, ⟨hw, ⟨f, hk, h4⟩, h1', h5.1, Nat.le_of_ble_eq_true h5.2, rfl, rfl, rfl, rfl⟩, rfl⟩
    cases hv : f s.tm (layFrees (preOf all i) s.fls s.h) with
    | fail => rw [hv] at h2; cases h2
    | ok v h' => rw [hv] at h2; exact fin v h' h2 (.inl hv)
    | call g args =>
      rw [hv] at h2
      simp only at h2
      cases hc : cf g args (layFrees (preOf all i) s.fls s.h) with
      | fail => rw [hc] at h2; cases h2
      | ok v h' => rw [hc] at h2; exact fin v h' h2 (.inr ⟨g, args, hv, hc⟩)
omit [Rho] in
theorem drawK_spec {E : Env} {all : List Oper} {cf : (FuncId → List AVal → Heap → VR)} {i : Nat} {o : Oper} {p : PutK} {s s' : DS}
    (e : (drawK i (preOf all i) (wantK all o.guard) (opK E o.op) p).f cf s = some s') : ∃ k v, StepF E all cf i k v s s' o ∧ s'.tm = p.f v s.tm := by
  unfold drawK at e
  cases hw : wantK all o.guard with
  | none => rw [hw] at e; exact drawGo_spec (.inl hw) e
  | some wk =>
    rw [hw] at e
    simp only at e
    cases hb : wk.f s.tm with
    | none => rw [hb] at e; cases e
    | some b =>
      rw [hb] at e
      cases b with
      | true => exact drawGo_spec (.inr ⟨wk, hw, hb⟩) e
      | false => cases e; exact ⟨.skip, undefA, ⟨rfl, ⟨wk, hw, hb⟩, rfl, rfl, rfl, rfl, rfl⟩, rfl⟩
/-- The whole run. -/
structure Run (E : Env) (nt : Nat) (all : List Oper) (cf : (FuncId → List AVal → Heap → VR)) (s0 sN : DS) (st : Nat → DS) (K : Nat → Kd) (v : Nat → AVal) : Prop where
  first : st 0 = s0
  last : st all.length = sN
  step : ∀ i o, all[i]? = some o → ∃ p, putK nt o.dst = some p ∧ (st (i + 1)).tm = p.f (v i) (st i).tm ∧ StepF E all cf i (K i) (v i) (st i) (st (i + 1)) o
omit [Rho] in
theorem drawOps_run {E : Env} {nt : Nat} {all : List Oper} {cf : (FuncId → List AVal → Heap → VR)} : ∀ (l : List Oper) (i : Nat) (s sN : DS), all.drop i = l → (drawOpsK E nt all l ((befores all).drop i) i).f cf s = some sN →
    ∃ (st : Nat → DS) (K : Nat → Kd) (v : Nat → AVal), st i = s ∧ st (i + l.length) = sN ∧
      ∀ j o, i ≤ j → all[j]? = some o → ∃ p, putK nt o.dst = some p ∧ (st (j + 1)).tm = p.f (v j) (st j).tm ∧ StepF E all cf j (K j) (v j) (st j) (st (j + 1)) o
  | [], i, s, sN, hl, e => by
    have hlen : all.length ≤ i := by
      have := congrArg List.length hl; simp at this; omega
    cases hb : (befores all).drop i with
    | cons x y => have := congrArg List.length hb; simp [befores_length] at this; omega
    | nil =>
      rw [hb] at e
      simp only [drawOpsK] at e
      cases e
      exact ⟨fun _ => s, fun _ => .skip, fun _ => undefA, rfl, rfl, fun j o hj ho => by
        have := (List.getElem?_eq_some_iff.1 ho).1; omega⟩
  | o :: l, i, s, sN, hl, e => by
    have ho : all[i]? = some o := by
      have : (all.drop i)[0]? = some o := by rw [hl]; rfl
      simpa using this
    have hl' : all.drop (i + 1) = l := by rw [← List.drop_drop, hl]; rfl
    have hb : (befores all).drop i = preOf all i :: (befores all).drop (i + 1) := by
      have hlt : i < (befores all).length := by rw [befores_length]; exact (List.getElem?_eq_some_iff.1 ho).1
      rw [List.drop_eq_getElem_cons hlt]
      congr 1
      simp [preOf, hlt]
    rw [hb] at e
    simp only [drawOpsK] at e
    cases hp : putK nt o.dst with
    | none => rw [hp] at e; cases e
    | some p =>
      rw [hp] at e
      simp only at e
      cases ha : (drawK i (preOf all i) (wantK all o.guard) (opK E o.op) p).f cf s with
      | none => rw [ha] at e; cases e
      | some s1 =>
        rw [ha] at e
        obtain ⟨k, v, h1, h2⟩ := drawK_spec ha
        obtain ⟨st, K, V, a1, a2, a3⟩ := drawOps_run l (i + 1) s1 sN hl' e
        refine ⟨fun j => if j ≤ i then s else st j, fun j => if j ≤ i then k else K j, fun j => if j ≤ i then v else V j, by simp, ?_, fun j o' hj hoj => ?_⟩
        · show (if i + (o :: l).length ≤ i then s else st (i + (o :: l).length)) = sN
          rw [if_neg (by simp only [List.length_cons]; omega)]
          rw [show i + (o :: l).length = i + 1 + l.length by simp only [List.length_cons]; omega]; exact a2
        · by_cases e1 : j = i
          · subst e1
            rw [ho] at hoj; cases hoj
            have hn : ¬ j + 1 ≤ j := by omega
            refine ⟨p, hp, ?_, ?_⟩
            · simp only [if_neg hn, if_pos (Nat.le_refl j), a1]; exact h2
            · simp only [if_neg hn, if_pos (Nat.le_refl j), a1]; exact h1
          · have h3 : ¬ j ≤ i := by omega
            have h4 : ¬ j + 1 ≤ i := by omega
            simp only [if_neg h3, if_neg h4]
            exact a3 j o' (by omega) hoj
omit [Rho] in
theorem run_of {E : Env} {nt : Nat} {all : List Oper} {cf : (FuncId → List AVal → Heap → VR)} {s sN : DS} (e : (drawOpsK E nt all all (befores all) 0).f cf s = some sN) : ∃ st K v, Run E nt all cf s sN st K v := by
  obtain ⟨st, K, v, a, b, c⟩ := drawOps_run (E := E) (nt := nt) (all := all) (cf := cf) all 0 s sN rfl e
  exact ⟨st, K, v, a, by simpa using b, fun i o ho => c i o (Nat.zero_le _) ho⟩

section
variable {E : Env} {nt : Nat} {all : List Oper} {cf : (FuncId → List AVal → Heap → VR)} {s0 sN : DS} {st : Nat → DS} {K : Nat → Kd} {v : Nat → AVal}
omit [Rho] in
theorem Run.get (r : Run E nt all cf s0 sN st K v) {i : Nat} (hi : i < all.length) : ∃ o p, all[i]? = some o ∧ putK nt o.dst = some p ∧ (st (i + 1)).tm = p.f (v i) (st i).tm ∧ StepF E all cf i (K i) (v i) (st i) (st (i + 1)) o := by
  have ho : all[i]? = some all[i] := List.getElem?_eq_getElem hi
  obtain ⟨p, h⟩ := r.step i _ ho
  exact ⟨_, p, ho, h⟩
omit [Rho] in
theorem Run.mono1 (r : Run E nt all cf s0 sN st K v) {i : Nat} (hi : i < all.length) : (st i).h.nx.n ≤ (st (i + 1)).h.nx.n := by
  obtain ⟨o, p, _, _, _, hs⟩ := r.get hi
  cases hk : K i <;> rw [hk] at hs <;> simp only [StepF] at hs
  · rw [hs.2.2.1]; exact Nat.le_refl _
  · rw [hs.2.2.1]; exact Nat.le_refl _
  · rw [hs.2.2.1]; exact Nat.le_refl _
  · rw [hs.2.2.2.1]; show _ ≤ (st i).h.nx.succ.n; rw [Pos.n_succ]; omega
  · exact hs.2.2.2.2.1
omit [Rho] in
theorem Run.mono (r : Run E nt all cf s0 sN st K v) {i : Nat} : ∀ {j : Nat}, i ≤ j → j ≤ all.length → (st i).h.nx.n ≤ (st j).h.nx.n
  | 0, h, _ => by rw [show i = 0 by omega]; exact Nat.le_refl _
  | j + 1, h, hj => by
    by_cases e : i = j + 1
    · subst e; exact Nat.le_refl _
    · exact Nat.le_trans (r.mono (by omega) (by omega)) (r.mono1 (by omega))
omit [Rho] in
theorem Run.quiet1 (r : Run E nt all cf s0 sN st K v) {i : Nat} (hi : i < all.length) (hk : K i ≠ .wr) : (st (i + 1)).h.t = (st i).h.t ∧ (st (i + 1)).h.al = (st i).h.al ∧ (st (i + 1)).h.df = (st i).h.df := by
  obtain ⟨o, p, _, _, _, hs⟩ := r.get hi
  cases hk' : K i <;> rw [hk'] at hs <;> simp only [StepF] at hs
  · rw [hs.2.2.1]; exact ⟨rfl, rfl, rfl⟩
  · rw [hs.2.2.1]; exact ⟨rfl, rfl, rfl⟩
  · rw [hs.2.2.1]; exact ⟨rfl, rfl, rfl⟩
  · rw [hs.2.2.2.1]; exact ⟨rfl, rfl, rfl⟩
  · exact absurd hk' hk
omit [Rho] in
theorem Run.quiet (r : Run E nt all cf s0 sN st K v) {i : Nat} : ∀ {j : Nat}, i ≤ j → j ≤ all.length → (∀ c, i ≤ c → c < j → K c ≠ .wr) → (st j).h.t = (st i).h.t ∧ (st j).h.al = (st i).h.al ∧ (st j).h.df = (st i).h.df
  | 0, h, _, _ => by rw [show i = 0 by omega]; exact ⟨rfl, rfl, rfl⟩
  | j + 1, h, hj, hc => by
    by_cases e : i = j + 1
    · subst e; exact ⟨rfl, rfl, rfl⟩
    · obtain ⟨a, b, c⟩ := r.quiet (i := i) (j := j) (by omega) (by omega) (fun c h1 h2 => hc c h1 (by omega))
      obtain ⟨a', b', c'⟩ := r.quiet1 (i := j) (by omega) (hc j (by omega) (by omega))
      exact ⟨a'.trans a, b'.trans b, c'.trans c⟩
omit [Rho] in
theorem Run.chain (r : Run E nt all cf s0 sN st K v) (h0 : s0.chain = 0) (j : Nat) : ∀ {k : Nat}, k ≤ all.length → (Nat.testBit (st k).chain j = true ↔ (j < k ∧ K j = .wr))
  | 0, _ => by rw [r.first, h0]; simp
  | k + 1, hk => by
    obtain ⟨o, p, _, _, _, hs⟩ := r.get (i := k) (by omega)
    have ih := r.chain h0 j (k := k) (by omega)
    have same : (st (k + 1)).chain = (st k).chain → K k ≠ .wr → (Nat.testBit (st (k + 1)).chain j = true ↔ (j < k + 1 ∧ K j = .wr)) := fun e hne => by
      rw [e, ih]
      constructor
      · exact fun h => ⟨by omega, h.2⟩
      · rintro ⟨h1, h2⟩
        refine ⟨?_, h2⟩
        by_cases e : j = k
        · subst e; exact absurd h2 hne
        · omega
    cases hk' : K k <;> rw [hk'] at hs <;> simp only [StepF] at hs
    · exact same hs.2.2.2.2.1 (by rw [hk']; simp)
    · exact same hs.2.2.2.2.1 (by rw [hk']; simp)
    · exact same hs.2.2.2.2.1 (by rw [hk']; simp)
    · exact same hs.2.2.2.2.2.1 (by rw [hk']; simp)
    · obtain ⟨_, _, _, _, _, _, hc, _⟩ := hs
      rw [hc, testBit_lor, testBit_pow, Bool.or_eq_true, ih, decide_eq_true_eq]
      constructor
      · rintro (h | h)
        · exact ⟨by omega, h.2⟩
        · subst h; exact ⟨by omega, hk'⟩
      · rintro ⟨h1, h2⟩
        by_cases e : j = k
        · exact .inr e.symm
        · exact .inl ⟨by omega, h2⟩
omit [Rho] in
theorem Run.ordered (r : Run E nt all cf s0 sN st K v) (h0 : s0.chain = 0) {c c' : Nat} (hlt : c < c') (hc' : c' < all.length) (h1 : K c = .wr) (h2 : K c' = .wr) : Nat.testBit (preOf all c') c = true := by
  obtain ⟨o, p, _, _, _, hs⟩ := r.get hc'
  rw [h2] at hs
  simp only [StepF] at hs
  have := (r.chain h0 c (k := c') (by omega)).2 ⟨hlt, h1⟩
  rw [← hs.2.2.1, testBit_land, Bool.and_eq_true] at this
  exact this.2
omit [Rho] in
theorem Run.fls (r : Run E nt all cf s0 sN st K v) (h0 : s0.fls = []) (x : Pend) : ∀ {k : Nat}, k ≤ all.length → (x ∈ (st k).fls ↔ ∃ mk, x.ix < k ∧ K x.ix = .nw x.ob mk ∧ x.n = (st x.ix).h.nx)
  | 0, _ => by rw [r.first, h0]; simp
  | k + 1, hk => by
    obtain ⟨o, p, _, _, _, hs⟩ := r.get (i := k) (by omega)
    have ih := r.fls h0 x (k := k) (by omega)
    have same : (st (k + 1)).fls = (st k).fls → (∀ ob mk, K k ≠ .nw ob mk) → (x ∈ (st (k + 1)).fls ↔ ∃ mk, x.ix < k + 1 ∧ K x.ix = .nw x.ob mk ∧ x.n = (st x.ix).h.nx) := fun e hne => by
      rw [e, ih]
      constructor
      · rintro ⟨mk, a, b⟩; exact ⟨mk, by omega, b⟩
      · rintro ⟨mk, a, b, c⟩
        refine ⟨mk, ?_, b, c⟩
        by_cases e : x.ix = k
        · rw [e] at b; exact absurd b (hne _ _)
        · omega
    cases hk' : K k <;> rw [hk'] at hs <;> simp only [StepF] at hs
    · exact same hs.2.2.2.2.2.2 (by rw [hk']; simp)
    · exact same hs.2.2.2.2.2.2 (by rw [hk']; simp)
    · exact same hs.2.2.2.2.2 (by rw [hk']; simp)
    · rename_i ob mk
      obtain ⟨_, _, _, _, _, _, _, hf⟩ := hs
      rw [hf, List.mem_cons, ih]
      constructor
      · rintro (rfl | ⟨mk', a, b⟩)
        · exact ⟨mk, by simp, hk', rfl⟩
        · exact ⟨mk', by omega, b⟩
      · rintro ⟨mk', a, b, c⟩
        by_cases e : x.ix = k
        · rw [e, hk'] at b
          cases b
          left
          obtain ⟨ix, n, ob⟩ := x
          simp only at e c
          subst e; rw [c]
        · exact .inr ⟨mk', by omega, b, c⟩
    · exact same hs.2.2.2.2.2.2.2.2 (by rw [hk']; simp)
omit [Rho] in
theorem Run.held (r : Run E nt all cf s0 sN st K v) {x : Held} {i : Nat} (hx : x ∈ (st i).held) : ∀ {k : Nat}, i ≤ k → k ≤ all.length → x ∈ (st k).held
  | 0, h, _ => by rw [show i = 0 by omega] at hx; exact hx
  | k + 1, h, hk => by
    by_cases e : i = k + 1
    · subst e; exact hx
    · obtain ⟨o, p, _, _, _, hs⟩ := r.get (i := k) (by omega)
      have ih := r.held hx (k := k) (by omega) (by omega)
      cases hk' : K k <;> rw [hk'] at hs <;> simp only [StepF] at hs
      · rw [hs.2.2.2.2.2.1]; exact ih
      · rw [hs.2.2.2.2.2.1]; exact ih
      · obtain ⟨_, ⟨_, _, _, _, he⟩, _⟩ := hs; rw [he]; exact List.mem_cons_of_mem _ ih
      · rw [hs.2.2.2.2.2.2.1]; exact ih
      · rw [hs.2.2.2.2.2.2.2.1]; exact ih
omit [Rho] in
theorem same?_spec {o : Option AVal} {v : AVal} (h : same? o v = true) : o = some v := by
  cases o with
  | none => cases h
  | some u => rw [AVal.eqb_spec u v h]
omit [Rho] in
theorem Run.back (r : Run E nt all cf s0 sN st K v) (h0 : s0.hist = []) (h0c : s0.chain = 0) {pre : Nat} {nx : Pos} {f : Heap → Option AVal} {u : AVal} (htr : ∀ c c', Nat.testBit pre c' = true → Nat.testBit (preOf all c') c = true → Nat.testBit pre c = true) :
    ∀ {k : Nat}, k ≤ all.length → backHeld pre nx f u (st k).hist = true → ∀ c, c < k → K c = .wr → Nat.testBit pre c = false → f ⟨(st c).h.t, nx, (st c).h.al, (st c).h.df⟩ = some u
  | 0, _, _, c, hc, _, _ => by omega
  | k + 1, hk, hb, c, hc, hw, hp => by
    obtain ⟨o, p, _, _, _, hs⟩ := r.get (i := k) (by omega)
    have same : (st (k + 1)).hist = (st k).hist → K k ≠ .wr → f ⟨(st c).h.t, nx, (st c).h.al, (st c).h.df⟩ = some u := fun e hne => by
      rw [e] at hb
      refine r.back h0 h0c htr (k := k) (by omega) hb c ?_ hw hp
      by_cases e : c = k
      · subst e; exact absurd hw hne
      · omega
    cases hk' : K k <;> rw [hk'] at hs <;> simp only [StepF] at hs
    · exact same hs.2.2.2.1 (by rw [hk']; simp)
    · exact same hs.2.2.2.1 (by rw [hk']; simp)
    · exact same hs.2.2.2.1 (by rw [hk']; simp)
    · exact same hs.2.2.2.2.1 (by rw [hk']; simp)
    · obtain ⟨_, _, _, _, _, hh, _⟩ := hs
      rw [hh] at hb
      simp only [backHeld] at hb
      cases ht : Nat.testBit pre k with
      | true =>
        by_cases e : c = k
        · subst e; rw [ht] at hp; cases hp
        · have := htr c k ht (r.ordered h0c (by omega) (by omega) hw hk')
          rw [this] at hp; cases hp
      | false =>
        rw [ht] at hb
        simp only [cond_false, Bool.and_eq_true] at hb
        by_cases e : c = k
        · subst e; exact same?_spec hb.1
        · exact r.back h0 h0c htr (k := k) (by omega) hb.2 c (by omega) hw hp
omit [Rho] in
theorem still_spec {pre : Nat} {h : Heap} : ∀ {l : List Held}, stillHeld pre h l = true → ∀ x ∈ l, Nat.testBit pre x.ix = false → x.f h = some x.v
  | y :: l, hs, x, hx, hp => by
    simp only [stillHeld, Bool.and_eq_true] at hs
    rcases List.mem_cons.1 hx with rfl | hx
    · rw [hp] at hs; exact same?_spec hs.1
    · exact still_spec hs.2 x hx hp
end
end Go.Ev
