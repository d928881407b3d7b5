/- The evaluator of closed calls, part Gd: what the program computes on given inputs, read by the kernel; sound in every world (part Gh). -/
import Derived.Test.YtendmajekgmkhaaGreatDoorGc
set_option linter.unusedVariables false
set_option linter.unusedSimpArgs false
set_option linter.unnecessarySimpa false
namespace Go.Ev

/-! ### The run in the order of the text -/
inductive Kd where
  | skip | pu | rd | nw (ob : AObj) (mk : Mk) | wr
def WantT (all : List Oper) (o : Oper) (tm : Tm) : Prop := wantK all o.guard = none ∨ ∃ wk, wantK all o.guard = some wk ∧ wk.f tm = some true
def StepF (E : Env) (all : List Oper) (cf : CF) (i : Nat) (k : Kd) (v : AVal) (s s' : DS) (o : Oper) : Prop :=
  match k with
  | .skip => v = undefA ∧ (∃ wk, wantK all o.guard = some wk ∧ wk.f s.tm = some false) ∧ s'.h = s.h ∧ s'.hist = s.hist ∧ s'.chain = s.chain ∧ s'.held = s.held ∧ s'.fls = s.fls
  | .pu => WantT all o s.tm ∧ (∃ f, opK E o.op = .pu f ∧ f s.tm = some v) ∧ s'.h = s.h ∧ s'.hist = s.hist ∧ s'.chain = s.chain ∧ s'.held = s.held ∧ s'.fls = s.fls
  | .rd => WantT all o s.tm ∧ (∃ f, opK E o.op = .rd f ∧ f s.tm (layFrees (preOf all i) s.fls s.h) = some v ∧
      backHeld (preOf all i) s.h.nx (fun h => f s.tm (layFrees (preOf all i) s.fls h)) v s.hist = true ∧ s'.held = ⟨i, fun h => f s.tm (layFrees (preOf all i) s.fls h), v⟩ :: s.held) ∧
      s'.h = s.h ∧ s'.hist = s.hist ∧ s'.chain = s.chain ∧ s'.fls = s.fls
  | .nw ob mk => WantT all o s.tm ∧ (∃ f, opK E o.op = .nw f ∧ f s.tm = some (ob, mk)) ∧ v = mk.mk s.h.nx ∧ s'.h = ⟨s.h.t, s.h.nx.succ, s.h.al, s.h.df⟩ ∧ s'.hist = s.hist ∧ s'.chain = s.chain ∧ s'.held = s.held ∧ s'.fls = ⟨i, s.h.nx, ob⟩ :: s.fls
  | .wr => WantT all o s.tm ∧ (∃ f, opK E o.op = .wr f ∧ (f s.tm (layFrees (preOf all i) s.fls s.h) = .ok v s'.h ∨
      ∃ g args, f s.tm (layFrees (preOf all i) s.fls s.h) = .call g args ∧ cf g args (layFrees (preOf all i) s.fls s.h) = .ok v s'.h)) ∧
      (Nat.land s.chain (preOf all i) = s.chain) ∧ stillHeld (preOf all i) s'.h s.held = true ∧ s.h.nx.n ≤ s'.h.nx.n ∧
      s'.hist = (i, s.h) :: s.hist ∧ s'.chain = Nat.lor s.chain (Nat.pow 2 i) ∧ s'.held = s.held ∧ s'.fls = s.fls

theorem cond_none {α : Type} {b : Bool} {o : Option α} {r : α} (h : cond b o none = some r) : b = true ∧ o = some r := by
  cases b with
  | true => exact ⟨rfl, h⟩
  | false => cases h
theorem drawGo_spec {E : Env} {all : List Oper} {cf : CF} {i : Nat} {o : Oper} {p : PutK} {s s' : DS} (hw : WantT all o s.tm)
    (e : drawGo i (preOf all i) (opK E o.op) p cf s = some s') : ∃ k v, StepF E all cf i k v s s' o ∧ s'.tm = p.f v s.tm := by
  unfold drawGo at e
  cases hk : opK E o.op with
  | pu f =>
    rw [hk] at e
    simp only at e
    cases hv : f s.tm with
    | none => rw [hv] at e; cases e
    | some v => rw [hv] at e; cases e; exact ⟨.pu, v, ⟨hw, ⟨f, hk, hv⟩, rfl, rfl, rfl, rfl, rfl⟩, rfl⟩
  | nw f =>
    rw [hk] at e
    simp only at e
    cases hv : f s.tm with
    | none => rw [hv] at e; cases e
    | some q => rw [hv] at e; cases e; exact ⟨.nw q.1 q.2, q.2.mk s.h.nx, ⟨hw, ⟨f, hk, hv⟩, rfl, rfl, rfl, rfl, rfl, rfl⟩, rfl⟩
  | rd f =>
    rw [hk] at e
    simp only at e
    have hg : layK (preOf all i) (f s.tm) s.fls = fun h => f s.tm (layFrees (preOf all i) s.fls h) := funext fun h => layK_eq _ _ _ _
    rw [hg] at e
    dsimp only at e
    cases hv : f s.tm (layFrees (preOf all i) s.fls s.h) with
    | none => rw [hv] at e; cases e
    | some v =>
      rw [hv] at e
      simp only at e
      obtain ⟨h1, h2⟩ := cond_none e
      cases h2
      exact ⟨.rd, v, ⟨hw, ⟨f, hk, hv, h1, rfl⟩, rfl, rfl, rfl, rfl⟩, rfl⟩
  | wr f =>
    rw [hk] at e
    simp only at e
    obtain ⟨h1, h2⟩ := cond_none e
    rw [layK_eq] at h2
    have h1' := Nat.eq_of_beq_eq_true h1
    have fin : ∀ v h', cond (stillHeld (preOf all i) h' s.held && Nat.ble (layFrees (preOf all i) s.fls s.h).nx.num h'.nx.num) (some (DS.mk (p.f v s.tm) h' ((i, s.h) :: s.hist) (Nat.lor s.chain (Nat.pow 2 i)) s.held s.fls)) none = some s' →
        (f s.tm (layFrees (preOf all i) s.fls s.h) = .ok v h' ∨ ∃ g args, f s.tm (layFrees (preOf all i) s.fls s.h) = .call g args ∧ cf g args (layFrees (preOf all i) s.fls s.h) = .ok v h') →
        ∃ k v, StepF E all cf i k v s s' o ∧ s'.tm = p.f v s.tm := fun v h' h3 h4 => by
      obtain ⟨h5, h6⟩ := cond_none h3
      rw [Bool.and_eq_true, num_n, num_n, (layFrees_fields _ _ _).1] at h5
      cases h6
      exact ⟨.wr, v, ⟨hw, ⟨f, hk, h4⟩, h1', h5.1, Nat.le_of_ble_eq_true h5.2, rfl, rfl, rfl, rfl⟩, rfl⟩
    cases hv : f s.tm (layFrees (preOf all i) s.fls s.h) with
    | fail => rw [hv] at h2; cases h2
    | ok v h' => rw [hv] at h2; exact fin v h' h2 (.inl hv)
    | call g args =>
      rw [hv] at h2
      simp only at h2
      cases hc : cf g args (layFrees (preOf all i) s.fls s.h) with
      | fail => rw [hc] at h2; cases h2
      | ok v h' => rw [hc] at h2; exact fin v h' h2 (.inr ⟨g, args, hv, hc⟩)
theorem drawK_spec {E : Env} {all : List Oper} {cf : CF} {i : Nat} {o : Oper} {p : PutK} {s s' : DS}
    (e : (drawK i (preOf all i) (wantK all o.guard) (opK E o.op) p).f cf s = some s') : ∃ k v, StepF E all cf i k v s s' o ∧ s'.tm = p.f v s.tm := by
  unfold drawK at e
  cases hw : wantK all o.guard with
  | none => rw [hw] at e; exact drawGo_spec (.inl hw) e
  | some wk =>
    rw [hw] at e
    simp only at e
    cases hb : wk.f s.tm with
    | none => rw [hb] at e; cases e
    | some b =>
      rw [hb] at e
      cases b with
      | true => exact drawGo_spec (.inr ⟨wk, hw, hb⟩) e
      | false => cases e; exact ⟨.skip, undefA, ⟨rfl, ⟨wk, hw, hb⟩, rfl, rfl, rfl, rfl, rfl⟩, rfl⟩
/-- The whole run. -/
structure Run (E : Env) (nt : Nat) (all : List Oper) (cf : CF) (s0 sN : DS) (st : Nat → DS) (K : Nat → Kd) (v : Nat → AVal) : Prop where
  first : st 0 = s0
  last : st all.length = sN
  step : ∀ i o, all[i]? = some o → ∃ p, putK nt o.dst = some p ∧ (st (i + 1)).tm = p.f (v i) (st i).tm ∧ StepF E all cf i (K i) (v i) (st i) (st (i + 1)) o
theorem drawOps_run {E : Env} {nt : Nat} {all : List Oper} {cf : CF} : ∀ (l : List Oper) (i : Nat) (s sN : DS), all.drop i = l → (drawOpsK E nt all l ((befores all).drop i) i).f cf s = some sN →
    ∃ (st : Nat → DS) (K : Nat → Kd) (v : Nat → AVal), st i = s ∧ st (i + l.length) = sN ∧
      ∀ j o, i ≤ j → all[j]? = some o → ∃ p, putK nt o.dst = some p ∧ (st (j + 1)).tm = p.f (v j) (st j).tm ∧ StepF E all cf j (K j) (v j) (st j) (st (j + 1)) o
  | [], i, s, sN, hl, e => by
    have hlen : all.length ≤ i := by
      have := congrArg List.length hl; simp at this; omega
    cases hb : (befores all).drop i with
    | cons x y => have := congrArg List.length hb; simp [befores_length] at this; omega
    | nil =>
      rw [hb] at e
      simp only [drawOpsK] at e
      cases e
      exact ⟨fun _ => s, fun _ => .skip, fun _ => undefA, rfl, rfl, fun j o hj ho => by
        have := (List.getElem?_eq_some_iff.1 ho).1; omega⟩
  | o :: l, i, s, sN, hl, e => by
    have ho : all[i]? = some o := by
      have : (all.drop i)[0]? = some o := by rw [hl]; rfl
      simpa using this
    have hl' : all.drop (i + 1) = l := by rw [← List.drop_drop, hl]; rfl
    have hb : (befores all).drop i = preOf all i :: (befores all).drop (i + 1) := by
      have hlt : i < (befores all).length := by rw [befores_length]; exact (List.getElem?_eq_some_iff.1 ho).1
      rw [List.drop_eq_getElem_cons hlt]
      congr 1
      simp [preOf, hlt]
    rw [hb] at e
    simp only [drawOpsK] at e
    cases hp : putK nt o.dst with
    | none => rw [hp] at e; cases e
    | some p =>
      rw [hp] at e
      simp only at e
      cases ha : (drawK i (preOf all i) (wantK all o.guard) (opK E o.op) p).f cf s with
      | none => rw [ha] at e; cases e
      | some s1 =>
        rw [ha] at e
        obtain ⟨k, v, h1, h2⟩ := drawK_spec ha
        obtain ⟨st, K, V, a1, a2, a3⟩ := drawOps_run l (i + 1) s1 sN hl' e
        refine ⟨fun j => if j ≤ i then s else st j, fun j => if j ≤ i then k else K j, fun j => if j ≤ i then v else V j, by simp, ?_, fun j o' hj hoj => ?_⟩
        · show (if i + (o :: l).length ≤ i then s else st (i + (o :: l).length)) = sN
          rw [if_neg (by simp only [List.length_cons]; omega)]
          rw [show i + (o :: l).length = i + 1 + l.length by simp only [List.length_cons]; omega]; exact a2
        · by_cases e1 : j = i
          · subst e1
            rw [ho] at hoj; cases hoj
            have hn : ¬ j + 1 ≤ j := by omega
            refine ⟨p, hp, ?_, ?_⟩
            · simp only [if_neg hn, if_pos (Nat.le_refl j), a1]; exact h2
            · simp only [if_neg hn, if_pos (Nat.le_refl j), a1]; exact h1
          · have h3 : ¬ j ≤ i := by omega
            have h4 : ¬ j + 1 ≤ i := by omega
            simp only [if_neg h3, if_neg h4]
            exact a3 j o' (by omega) hoj
theorem run_of {E : Env} {nt : Nat} {all : List Oper} {cf : CF} {s sN : DS} (e : (drawOpsK E nt all all (befores all) 0).f cf s = some sN) : ∃ st K v, Run E nt all cf s sN st K v := by
  obtain ⟨st, K, v, a, b, c⟩ := drawOps_run (E := E) (nt := nt) (all := all) (cf := cf) all 0 s sN rfl e
  exact ⟨st, K, v, a, by simpa using b, fun i o ho => c i o (Nat.zero_le _) ho⟩

section
variable {E : Env} {nt : Nat} {all : List Oper} {cf : CF} {s0 sN : DS} {st : Nat → DS} {K : Nat → Kd} {v : Nat → AVal}
theorem Run.get (r : Run E nt all cf s0 sN st K v) {i : Nat} (hi : i < all.length) : ∃ o p, all[i]? = some o ∧ putK nt o.dst = some p ∧ (st (i + 1)).tm = p.f (v i) (st i).tm ∧ StepF E all cf i (K i) (v i) (st i) (st (i + 1)) o := by
  have ho : all[i]? = some all[i] := List.getElem?_eq_getElem hi
  obtain ⟨p, h⟩ := r.step i _ ho
  exact ⟨_, p, ho, h⟩
theorem Run.mono1 (r : Run E nt all cf s0 sN st K v) {i : Nat} (hi : i < all.length) : (st i).h.nx.n ≤ (st (i + 1)).h.nx.n := by
  obtain ⟨o, p, _, _, _, hs⟩ := r.get hi
  cases hk : K i <;> rw [hk] at hs <;> simp only [StepF] at hs
  · rw [hs.2.2.1]; exact Nat.le_refl _
  · rw [hs.2.2.1]; exact Nat.le_refl _
  · rw [hs.2.2.1]; exact Nat.le_refl _
  · rw [hs.2.2.2.1]; show _ ≤ (st i).h.nx.succ.n; rw [Pos.n_succ]; omega
  · exact hs.2.2.2.2.1
theorem Run.mono (r : Run E nt all cf s0 sN st K v) {i : Nat} : ∀ {j : Nat}, i ≤ j → j ≤ all.length → (st i).h.nx.n ≤ (st j).h.nx.n
  | 0, h, _ => by rw [show i = 0 by omega]; exact Nat.le_refl _
  | j + 1, h, hj => by
    by_cases e : i = j + 1
    · subst e; exact Nat.le_refl _
    · exact Nat.le_trans (r.mono (by omega) (by omega)) (r.mono1 (by omega))
theorem Run.quiet1 (r : Run E nt all cf s0 sN st K v) {i : Nat} (hi : i < all.length) (hk : K i ≠ .wr) : (st (i + 1)).h.t = (st i).h.t ∧ (st (i + 1)).h.al = (st i).h.al ∧ (st (i + 1)).h.df = (st i).h.df := by
  obtain ⟨o, p, _, _, _, hs⟩ := r.get hi
  cases hk' : K i <;> rw [hk'] at hs <;> simp only [StepF] at hs
  · rw [hs.2.2.1]; exact ⟨rfl, rfl, rfl⟩
  · rw [hs.2.2.1]; exact ⟨rfl, rfl, rfl⟩
  · rw [hs.2.2.1]; exact ⟨rfl, rfl, rfl⟩
  · rw [hs.2.2.2.1]; exact ⟨rfl, rfl, rfl⟩
  · exact absurd hk' hk
theorem Run.quiet (r : Run E nt all cf s0 sN st K v) {i : Nat} : ∀ {j : Nat}, i ≤ j → j ≤ all.length → (∀ c, i ≤ c → c < j → K c ≠ .wr) → (st j).h.t = (st i).h.t ∧ (st j).h.al = (st i).h.al ∧ (st j).h.df = (st i).h.df
  | 0, h, _, _ => by rw [show i = 0 by omega]; exact ⟨rfl, rfl, rfl⟩
  | j + 1, h, hj, hc => by
    by_cases e : i = j + 1
    · subst e; exact ⟨rfl, rfl, rfl⟩
    · obtain ⟨a, b, c⟩ := r.quiet (i := i) (j := j) (by omega) (by omega) (fun c h1 h2 => hc c h1 (by omega))
      obtain ⟨a', b', c'⟩ := r.quiet1 (i := j) (by omega) (hc j (by omega) (by omega))
      exact ⟨a'.trans a, b'.trans b, c'.trans c⟩
theorem Run.chain (r : Run E nt all cf s0 sN st K v) (h0 : s0.chain = 0) (j : Nat) : ∀ {k : Nat}, k ≤ all.length → (Nat.testBit (st k).chain j = true ↔ (j < k ∧ K j = .wr))
  | 0, _ => by rw [r.first, h0]; simp
  | k + 1, hk => by
    obtain ⟨o, p, _, _, _, hs⟩ := r.get (i := k) (by omega)
    have ih := r.chain h0 j (k := k) (by omega)
    have same : (st (k + 1)).chain = (st k).chain → K k ≠ .wr → (Nat.testBit (st (k + 1)).chain j = true ↔ (j < k + 1 ∧ K j = .wr)) := fun e hne => by
      rw [e, ih]
      constructor
      · exact fun h => ⟨by omega, h.2⟩
      · rintro ⟨h1, h2⟩
        refine ⟨?_, h2⟩
        by_cases e : j = k
        · subst e; exact absurd h2 hne
        · omega
    cases hk' : K k <;> rw [hk'] at hs <;> simp only [StepF] at hs
    · exact same hs.2.2.2.2.1 (by rw [hk']; simp)
    · exact same hs.2.2.2.2.1 (by rw [hk']; simp)
    · exact same hs.2.2.2.2.1 (by rw [hk']; simp)
    · exact same hs.2.2.2.2.2.1 (by rw [hk']; simp)
    · obtain ⟨_, _, _, _, _, _, hc, _⟩ := hs
      rw [hc, testBit_lor, testBit_pow, Bool.or_eq_true, ih, decide_eq_true_eq]
      constructor
      · rintro (h | h)
        · exact ⟨by omega, h.2⟩
        · subst h; exact ⟨by omega, hk'⟩
      · rintro ⟨h1, h2⟩
        by_cases e : j = k
        · exact .inr e.symm
        · exact .inl ⟨by omega, h2⟩
theorem Run.ordered (r : Run E nt all cf s0 sN st K v) (h0 : s0.chain = 0) {c c' : Nat} (hlt : c < c') (hc' : c' < all.length) (h1 : K c = .wr) (h2 : K c' = .wr) : Nat.testBit (preOf all c') c = true := by
  obtain ⟨o, p, _, _, _, hs⟩ := r.get hc'
  rw [h2] at hs
  simp only [StepF] at hs
  have := (r.chain h0 c (k := c') (by omega)).2 ⟨hlt, h1⟩
  rw [← hs.2.2.1, testBit_land, Bool.and_eq_true] at this
  exact this.2
theorem Run.fls (r : Run E nt all cf s0 sN st K v) (h0 : s0.fls = []) (x : Pend) : ∀ {k : Nat}, k ≤ all.length → (x ∈ (st k).fls ↔ ∃ mk, x.ix < k ∧ K x.ix = .nw x.ob mk ∧ x.n = (st x.ix).h.nx)
  | 0, _ => by rw [r.first, h0]; simp
  | k + 1, hk => by
    obtain ⟨o, p, _, _, _, hs⟩ := r.get (i := k) (by omega)
    have ih := r.fls h0 x (k := k) (by omega)
    have same : (st (k + 1)).fls = (st k).fls → (∀ ob mk, K k ≠ .nw ob mk) → (x ∈ (st (k + 1)).fls ↔ ∃ mk, x.ix < k + 1 ∧ K x.ix = .nw x.ob mk ∧ x.n = (st x.ix).h.nx) := fun e hne => by
      rw [e, ih]
      constructor
      · rintro ⟨mk, a, b⟩; exact ⟨mk, by omega, b⟩
      · rintro ⟨mk, a, b, c⟩
        refine ⟨mk, ?_, b, c⟩
        by_cases e : x.ix = k
        · rw [e] at b; exact absurd b (hne _ _)
        · omega
    cases hk' : K k <;> rw [hk'] at hs <;> simp only [StepF] at hs
    · exact same hs.2.2.2.2.2.2 (by rw [hk']; simp)
    · exact same hs.2.2.2.2.2.2 (by rw [hk']; simp)
    · exact same hs.2.2.2.2.2 (by rw [hk']; simp)
    · rename_i ob mk
      obtain ⟨_, _, _, _, _, _, _, hf⟩ := hs
      rw [hf, List.mem_cons, ih]
      constructor
      · rintro (rfl | ⟨mk', a, b⟩)
        · exact ⟨mk, by simp, hk', rfl⟩
        · exact ⟨mk', by omega, b⟩
      · rintro ⟨mk', a, b, c⟩
        by_cases e : x.ix = k
        · rw [e, hk'] at b
          cases b
          left
          obtain ⟨ix, n, ob⟩ := x
          simp only at e c
          subst e; rw [c]
        · exact .inr ⟨mk', by omega, b, c⟩
    · exact same hs.2.2.2.2.2.2.2.2 (by rw [hk']; simp)
theorem Run.held (r : Run E nt all cf s0 sN st K v) {x : Held} {i : Nat} (hx : x ∈ (st i).held) : ∀ {k : Nat}, i ≤ k → k ≤ all.length → x ∈ (st k).held
  | 0, h, _ => by rw [show i = 0 by omega] at hx; exact hx
  | k + 1, h, hk => by
    by_cases e : i = k + 1
    · subst e; exact hx
    · obtain ⟨o, p, _, _, _, hs⟩ := r.get (i := k) (by omega)
      have ih := r.held hx (k := k) (by omega) (by omega)
      cases hk' : K k <;> rw [hk'] at hs <;> simp only [StepF] at hs
      · rw [hs.2.2.2.2.2.1]; exact ih
      · rw [hs.2.2.2.2.2.1]; exact ih
      · obtain ⟨_, ⟨_, _, _, _, he⟩, _⟩ := hs; rw [he]; exact List.mem_cons_of_mem _ ih
      · rw [hs.2.2.2.2.2.2.1]; exact ih
      · rw [hs.2.2.2.2.2.2.2.1]; exact ih
theorem same?_spec {o : Option AVal} {v : AVal} (h : same? o v = true) : o = some v := by
  cases o with
  | none => cases h
  | some u => rw [AVal.eqb_spec u v h]
theorem Run.back (r : Run E nt all cf s0 sN st K v) (h0 : s0.hist = []) (h0c : s0.chain = 0) {pre : Nat} {nx : Pos} {f : Heap → Option AVal} {u : AVal} (htr : ∀ c c', Nat.testBit pre c' = true → Nat.testBit (preOf all c') c = true → Nat.testBit pre c = true) :
    ∀ {k : Nat}, k ≤ all.length → backHeld pre nx f u (st k).hist = true → ∀ c, c < k → K c = .wr → Nat.testBit pre c = false → f ⟨(st c).h.t, nx, (st c).h.al, (st c).h.df⟩ = some u
  | 0, _, _, c, hc, _, _ => by omega
  | k + 1, hk, hb, c, hc, hw, hp => by
    obtain ⟨o, p, _, _, _, hs⟩ := r.get (i := k) (by omega)
    have same : (st (k + 1)).hist = (st k).hist → K k ≠ .wr → f ⟨(st c).h.t, nx, (st c).h.al, (st c).h.df⟩ = some u := fun e hne => by
      rw [e] at hb
      refine r.back h0 h0c htr (k := k) (by omega) hb c ?_ hw hp
      by_cases e : c = k
      · subst e; exact absurd hw hne
      · omega
    cases hk' : K k <;> rw [hk'] at hs <;> simp only [StepF] at hs
    · exact same hs.2.2.2.1 (by rw [hk']; simp)
    · exact same hs.2.2.2.1 (by rw [hk']; simp)
    · exact same hs.2.2.2.1 (by rw [hk']; simp)
    · exact same hs.2.2.2.2.1 (by rw [hk']; simp)
    · obtain ⟨_, _, _, _, _, hh, _⟩ := hs
      rw [hh] at hb
      simp only [backHeld] at hb
      cases ht : Nat.testBit pre k with
      | true =>
        by_cases e : c = k
        · subst e; rw [ht] at hp; cases hp
        · have := htr c k ht (r.ordered h0c (by omega) (by omega) hw hk')
          rw [this] at hp; cases hp
      | false =>
        rw [ht] at hb
        simp only [cond_false, Bool.and_eq_true] at hb
        by_cases e : c = k
        · subst e; exact same?_spec hb.1
        · exact r.back h0 h0c htr (k := k) (by omega) hb.2 c (by omega) hw hp
theorem still_spec {pre : Nat} {h : Heap} : ∀ {l : List Held}, stillHeld pre h l = true → ∀ x ∈ l, Nat.testBit pre x.ix = false → x.f h = some x.v
  | y :: l, hs, x, hx, hp => by
    simp only [stillHeld, Bool.and_eq_true] at hs
    rcases List.mem_cons.1 hx with rfl | hx
    · rw [hp] at hs; exact same?_spec hs.1
    · exact still_spec hs.2 x hx hp
end
end Go.Ev
