/- The evaluator of closed calls, part Fw: what the program computes on given inputs, read by the kernel; sound in every world (part Gh). -/
import Derived.Test.YtendmajekgmkhaaGreatDoorFv
set_option linter.unusedVariables false
set_option linter.unusedSimpArgs false
set_option linter.unnecessarySimpa false
namespace Go.Ev
section
variable {P : Program} {E : Env}

def collected (m : Mp) (d : Pos) : Deferred := { target := .collected (m.b d), args := #[] }
/-- The frame reads as the temporaries say. -/
structure TR (m : Mp) (h : Heap) (nt : Nat) (tm : Tm) (a : Act) : Prop where
  size : nt ≤ a.tmps.size
  val : ∀ t, a.tmps.getD t undef = γ m (tget t tm)
  ins : ∀ t, In (dom h) (tget t tm)
  defs : a.defers = h.df.map (collected m)
  ddom : ∀ d ∈ h.df, dom h d
theorem TR.src {G : Tabs} {m : Mp} {h : Heap} {w : World} {nt : Nat} {tm : Tm} {a : Act} (t : TR m h nt tm a) (r : Rep G m h w) : Src G m (dom h) tm a.eval :=
  ⟨fun x => ⟨t.val x, t.ins x⟩, fun _ => rfl, fun _ => rfl, fun _ => rfl⟩
theorem TR.step {G : Tabs} {m m' : Mp} {h h' : Heap} {w w' : World} {nt : Nat} {tm : Tm} {a : Act} (t : TR m h nt tm a) (r : Rep G m h w) (g : Goes m h w m' h' w') (hd : h'.df = h.df) : TR m' h' nt tm a where
  size := t.size
  val := fun x => by rw [t.val, γ_congr (D := dom h) (fun n hn => g.agree n (r.fresh n hn)) _ (t.ins x)]
  ins := fun x => In_mono g.old _ (t.ins x)
  defs := by
    rw [t.defs, hd]
    apply List.map_congr_left
    intro d hm
    simp only [collected]
    rw [(g.agree d (r.fresh d (t.ddom d hm))).1]
  ddom := fun d hm => g.old d (t.ddom d (by rw [← hd]; exact hm))
theorem tget_set {tm : Tm} {d : Nat} {v : AVal} (t : Nat) : tget t (tm.set undefA v (pos d)) = if d = t then v else tget t tm := by
  unfold tget
  rw [DTree.get_set]
  by_cases e : d = t
  · subst e; simp
  · rw [if_neg (fun h => e (pos_inj h)), if_neg e]
theorem put_getD (a : Act) (d : Nat) (v : Value) (t : Nat) (hd : d < a.tmps.size) : (a.put (some d) v).tmps.getD t undef = if d = t then v else a.tmps.getD t undef := by
  simp only [Act.put]
  by_cases e : d = t
  · subst e; simp [hd]
  · simp [e, Array.getElem?_setIfInBounds_ne e]
theorem TR.put {m : Mp} {h : Heap} {nt : Nat} {tm : Tm} {a : Act} (t : TR m h nt tm a) {d : Option Tmp} {p : PutK} (hp : putK nt d = some p) {v : AVal} (hv : In (dom h) v) : TR m h nt (p.f v tm) (a.put d (γ m v)) := by
  unfold putK at hp
  cases d with
  | none => cases hp; exact t
  | some d =>
    simp only at hp
    obtain ⟨h1, h2⟩ := cond_some' hp
    cases h2
    have hlt := blt_iff.1 h1
    have hd : d < a.tmps.size := Nat.lt_of_lt_of_le hlt t.size
    refine ⟨by simp [Act.put]; exact t.size, fun x => ?_, fun x => ?_, t.defs, t.ddom⟩
    · rw [put_getD a d _ x hd, tget_set]
      by_cases e : d = x
      · simp [e]
      · simp [e]; simpa using t.val x
    · rw [tget_set]
      by_cases e : d = x
      · rw [if_pos e]; exact hv
      · rw [if_neg e]; exact t.ins x

def CFOk (P : Program) (E : Env) (cf : CF) : Prop :=
  ∀ f args h v h', cf f args h = .ok v h' → h'.df = h.df ∧ ∀ m w, Rep E.gl m h w → InL (dom h) args → (∀ d ∈ h.df, dom h d) →
    Calls P f ⟨γs m args⟩ w fun e w' => ∃ m', e = .returned (γ m' v) ∧ Rep E.gl m' h' w' ∧ Goes m h w m' h' w' ∧ In (dom h') v
/-- One operation. -/
def StepOk (P : Program) (E : Env) (o : Oper) (tm : Tm) (h : Heap) (v : AVal) (h1 : Heap) : Prop :=
  ∀ (m : Mp) (a : Act) (w : World) (Q : Exit → Act → World → Prop) (K : Act → World → Prop), Rep E.gl m h w → Src E.gl m (dom h) tm a.eval → (∀ d ∈ h.df, dom h d) →
    (∀ m1 w1, Rep E.gl m1 h1 w1 → Goes m h w m1 h1 w1 → In (dom h1) v → K (a.put o.dst (γ m1 v)) w1) → o.wp P a w K Q
theorem wr_step {o : Oper} {f : Tm → Heap → OR} (hw : WrOk P E o.op f) {cf : CF} (hcf : CFOk P E cf) {tm : Tm} {h h1 : Heap} {v : AVal}
    (e : (f tm h = .ok v h1) ∨ ∃ g args, f tm h = .call g args ∧ cf g args h = .ok v h1) : StepOk P E o tm h v h1 ∧ (∀ m w (a : Act), Rep E.gl m h w → Src E.gl m (dom h) tm a.eval → h1.df = h.df) := by
  rcases e with e | ⟨g, args, e, ec⟩
  · constructor
    · intro m a w Q K hr hs _ hK
      have hg := hw m h tm a.eval w o rfl hr hs
      rw [e] at hg
      obtain ⟨m', w', r, h2, h3, h4, h5, h6, _⟩ := hg
      unfold Oper.wp
      rw [h2]
      rcases h3 with rfl | ⟨rfl, rfl⟩
      · exact hK m' w' h4 h5 h6
      · exact hK m' w' h4 h5 h6
    · intro m w a hr hs
      have hg := hw m h tm a.eval w o rfl hr hs
      rw [e] at hg
      obtain ⟨_, _, _, _, _, _, _, _, h7⟩ := hg
      exact h7
  · constructor
    · intro m a w Q K hr hs hdd hK
      have hg := hw m h tm a.eval w o rfl hr hs
      rw [e] at hg
      obtain ⟨h2, h3⟩ := hg
      unfold Oper.wp
      rw [h2]
      show Calls P g ⟨γs m args⟩ w _
      refine ((hcf g args h v h1 ec).2 m w hr h3 hdd).mono fun en w' ⟨m', he, h4, h5, h6⟩ => ?_
      subst he
      exact hK m' w' h4 h5 h6
    · intro _ _ _ _ _; exact (hcf g args h v h1 ec).1
theorem nw_step {o : Oper} {f : Tm → Option (AObj × Mk)} (hw : NwOk P E o.op f) {tm : Tm} {h : Heap} {p : AObj × Mk} (e : f tm = some p) : StepOk P E o tm h (p.2.mk h.nx) (h.new p.1) := by
  intro m a w Q K hr hs _ hK
  obtain ⟨ob, mk⟩ := p
  have hfr : ¬ dom h h.nx := fun hd => Nat.lt_irrefl _ (hr.fresh _ hd)
  obtain ⟨cap, obj, h1, h2, h3, h4⟩ := hw m (dom h) tm a.eval ob mk w o rfl hs e h.nx hfr
  obtain ⟨q1, q2, q3⟩ := hr.pushed (ob := ob) (o := obj) (w' := { w with heap := w.heap.push obj }) (cap := cap) ⟨rfl, rfl, rfl, rfl⟩ h4 h2 h3
  unfold Oper.wp
  rw [h1]
  exact hK _ _ q1 q2 (by cases mk <;> exact q3)
/-- What 'carry' does. -/
theorem carry_ok (ok : EnvOk P E) {cf : CF} (hcf : CFOk P E cf) {o : Oper} {tm : Tm} {h : Heap} {next : AVal → Heap → CR} {out : Out} {tm' : Tm} {h' : Heap}
    (e : carry (opK E o.op) cf tm h next = .ok out tm' h') : ∃ v h1, next v h1 = .ok out tm' h' ∧ StepOk P E o tm h v h1 ∧ (∀ m w (a : Act), Rep E.gl m h w → Src E.gl m (dom h) tm a.eval → h1.df = h.df) := by
  have hop := opK_ok ok o.op
  cases hk : opK E o.op with
  | pu f =>
    rw [hk] at e hop
    simp only [carry] at e
    cases hv : f tm with
    | none => rw [hv] at e; cases e
    | some v =>
      rw [hv] at e
      refine ⟨v, h, e, fun m a w Q K hr hs _ hK => ?_, fun _ _ _ _ _ => rfl⟩
      obtain ⟨h1, h2⟩ := hop m (dom h) tm a.eval v w o rfl hs hv
      unfold Oper.wp
      rw [h1]
      exact hK m w hr (Goes.refl m h w) h2
  | rd f =>
    rw [hk] at e hop
    simp only [carry] at e
    cases hv : f tm h with
    | none => rw [hv] at e; cases e
    | some v =>
      rw [hv] at e
      refine ⟨v, h, e, fun m a w Q K hr hs _ hK => ?_, fun _ _ _ _ _ => rfl⟩
      obtain ⟨h1, h2⟩ := hop m h tm a.eval v w o rfl hr hs hv
      unfold Oper.wp
      rw [h1]
      exact hK m w hr (Goes.refl m h w) h2
  | nw f =>
    rw [hk] at e hop
    simp only [carry] at e
    cases hv : f tm with
    | none => rw [hv] at e; cases e
    | some p =>
      rw [hv] at e
      exact ⟨_, _, e, nw_step hop hv, fun _ _ _ _ _ => rfl⟩
  | wr f =>
    rw [hk] at e hop
    simp only [carry] at e
    cases hv : f tm h with
    | fail => rw [hv] at e; cases e
    | ok v h1 =>
      rw [hv] at e
      obtain ⟨s1, s2⟩ := wr_step hop hcf (.inl hv)
      exact ⟨v, h1, e, s1, s2⟩
    | call g args =>
      rw [hv] at e
      simp only at e
      cases hc : cf g args h with
      | fail => rw [hc] at e; cases e
      | ok v h1 =>
        rw [hc] at e
        obtain ⟨s1, s2⟩ := wr_step hop hcf (.inr ⟨g, args, hv, hc⟩)
        exact ⟨v, h1, e, s1, s2⟩
theorem stepK_eq (w : Option WantK) (k : OpK) (p : PutK) (rest : CK) (cf : CF) (tm : Tm) (h : Heap) :
    (stepK w k p rest).f cf tm h = match w with
      | none => carry k cf tm h fun v h => rest.f cf (p.f v tm) h
      | some w => Option.casesOn (motive := fun _ => CR) (w.f tm) .fail fun b => cond b (carry k cf tm h fun v h => rest.f cf (p.f v tm) h) (rest.f cf (p.f undefA tm) h) := by
  cases w <;> cases k <;> rfl
/-- The guard. -/
theorem want_gen {all : List Oper} {o : Oper} {m : Mp} {tm : Tm} {a : Act} (t : ∀ j b oj d, o.guard = some (j, b) → all[j]? = some oj → oj.dst = some d → a.tmps.getD d undef = γ m (tget d tm)) :
    (wantK all o.guard = none → Region.wanted o (yielded all.toArray a.tmps) = true) ∧
    (∀ wk b, wantK all o.guard = some wk → wk.f tm = some b → Region.wanted o (yielded all.toArray a.tmps) = b) := by
  unfold wantK Region.wanted
  cases hg : o.guard with
  | none => exact ⟨fun _ => rfl, fun wk b h => by cases h⟩
  | some jb =>
    obtain ⟨j, b⟩ := jb
    simp only
    cases hj : all[j]? with
    | none => exact ⟨(fun h => by cases h), fun wk c h1 h2 => by cases h1; cases h2⟩
    | some oj =>
      simp only
      cases hd : oj.dst with
      | none => exact ⟨(fun h => by cases h), fun wk c h1 h2 => by cases h1; cases h2⟩
      | some d =>
        refine ⟨(fun h => by cases h), fun wk c h1 h2 => ?_⟩
        cases h1
        simp only at h2
        have hv := t j b oj d hg hj hd
        have hy : yielded all.toArray a.tmps j = match a.tmps[d]? with | some (.bool b) => some b | _ => none := by
          simp [yielded, hj, hd]; rfl
        cases hu : tget d tm <;> rw [hu] at h2 hv <;> try (cases h2; done)
        · rename_i c'
          simp only [Option.some.injEq] at h2
          subst h2
          simp only [γ] at hv
          have : a.tmps[d]? = some (.bool c') := by
            cases hq : a.tmps[d]? with
            | none => simp [Array.getD_eq_getD_getElem?, hq, undef] at hv
            | some q => simp [Array.getD_eq_getD_getElem?, hq] at hv; rw [hv]
          rw [hy, this]
          simp [boolEqb_spec]
        · rename_i l
          cases h2
          simp only [γ] at hv
          have : (match a.tmps[d]? with | some (.bool b) => some b | _ => none) = none := by
            cases hq : a.tmps[d]? with
            | none => rfl
            | some q => simp [Array.getD_eq_getD_getElem?, hq] at hv; rw [hv]
          rw [hy, this]
          rfl
theorem want_ok {all : List Oper} {o : Oper} {m : Mp} {h : Heap} {nt : Nat} {tm : Tm} {a : Act} (t : TR m h nt tm a) :
    (wantK all o.guard = none → Region.wanted o (yielded all.toArray a.tmps) = true) ∧
    (∀ wk b, wantK all o.guard = some wk → wk.f tm = some b → Region.wanted o (yielded all.toArray a.tmps) = b) := want_gen fun _ _ _ d _ _ _ => t.val d
theorem opsK_ok (ok : EnvOk P E) {cf : CF} (hcf : CFOk P E cf) (nt : Nat) (all : List Oper) : ∀ (rest : List Oper) (i : Nat), all.drop i = rest → ∀ (tm : Tm) (h : Heap) (out : Out) (tm' : Tm) (h' : Heap),
    (opsK E nt all rest).f cf tm h = .ok out tm' h' → out = .normal ∧ ∀ m a w Q, Rep E.gl m h w → TR m h nt tm a →
      (∀ m' a' w', Rep E.gl m' h' w' → TR m' h' nt tm' a' → Goes m h w m' h' w' → Q .normal a' w') → wpOps P all.toArray Q (List.range' i rest.length) a w
  | [], i, hi, tm, h, out, tm', h', e => by
    simp only [opsK] at e
    cases e
    exact ⟨rfl, fun m a w Q hr ht hQ => hQ m a w hr ht (Goes.refl m h w)⟩
  | o :: rest, i, hi, tm, h, out, tm', h', e => by
    simp only [opsK] at e
    cases hp : putK nt o.dst with
    | none => rw [hp] at e; cases e
    | some p =>
      rw [hp] at e
      simp only at e
      rw [stepK_eq] at e
      have hi' : all.drop (i + 1) = rest := by rw [← List.drop_drop, hi]; rfl
      have hat : all.toArray[i]? = some o := by
        have : (all.drop i)[0]? = some o := by rw [hi]; rfl
        simpa using this
      -- a step
      have step : ∀ {v h1}, (opsK E nt all rest).f cf (p.f v tm) h1 = .ok out tm' h' → StepOk P E o tm h v h1 → (∀ m w (a : Act), Rep E.gl m h w → Src E.gl m (dom h) tm a.eval → h1.df = h.df) →
          out = .normal ∧ ∀ m a w Q, Rep E.gl m h w → TR m h nt tm a → (∀ m' a' w', Rep E.gl m' h' w' → TR m' h' nt tm' a' → Goes m h w m' h' w' → Q .normal a' w') → o.wp P a w (wpOps P all.toArray Q (List.range' (i + 1) rest.length)) Q := fun {v h1} e2 s1 s2 => by
        obtain ⟨i1, i2⟩ := opsK_ok ok hcf nt all rest (i + 1) hi' _ _ _ _ _ e2
        refine ⟨i1, fun m a w Q hr ht hQ => ?_⟩
        refine s1 m a w Q _ hr (ht.src hr) ht.ddom fun m1 w1 r1 g1 in1 => ?_
        exact i2 m1 _ w1 Q r1 ((ht.step hr g1 (s2 m w a hr (ht.src hr))).put hp in1) fun m' a' w' r' t' g' => hQ m' a' w' r' t' (Goes.trans hr r1 g1 g')
      cases hwk : wantK all o.guard with
      | none =>
        rw [hwk] at e
        simp only at e
        obtain ⟨v, h1, e2, s1, s2⟩ := carry_ok ok hcf e
        obtain ⟨i1, i2⟩ := step e2 s1 s2
        refine ⟨i1, fun m a w Q hr ht hQ => ?_⟩
        rw [show List.range' i (o :: rest).length = i :: List.range' (i + 1) rest.length from rfl]
        simp only [wpOps, hat, (want_ok (all := all) (o := o) ht).1 hwk, if_true]
        exact .inl (i2 m a w Q hr ht hQ)
      | some wk =>
        rw [hwk] at e
        simp only at e
        cases hb : wk.f tm with
        | none => rw [hb] at e; cases e
        | some b =>
          rw [hb] at e
          simp only at e
          cases b with
          | true =>
            simp only [cond_true] at e
            obtain ⟨v, h1, e2, s1, s2⟩ := carry_ok ok hcf e
            obtain ⟨i1, i2⟩ := step e2 s1 s2
            refine ⟨i1, fun m a w Q hr ht hQ => ?_⟩
            rw [show List.range' i (o :: rest).length = i :: List.range' (i + 1) rest.length from rfl]
            simp only [wpOps, hat, (want_ok (all := all) (o := o) ht).2 wk true hwk hb, if_true]
            exact .inl (i2 m a w Q hr ht hQ)
          | false =>
            simp only [cond_false] at e
            obtain ⟨i1, i2⟩ := opsK_ok ok hcf nt all rest (i + 1) hi' _ _ _ _ _ e
            refine ⟨i1, fun m a w Q hr ht hQ => ?_⟩
            rw [show List.range' i (o :: rest).length = i :: List.range' (i + 1) rest.length from rfl]
            simp only [wpOps, hat, (want_ok (all := all) (o := o) ht).2 wk false hwk hb, Bool.false_eq_true, if_false]
            exact i2 m _ w Q hr (ht.put (v := undefA) hp trivial) hQ
end
end Go.Ev
