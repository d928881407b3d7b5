/- The evaluator of closed calls, part 9: what the program computes on given inputs, read by the kernel; sound in every world (part 8). -/
import Derived.Test.YtkpjikaobjpkoaaGreatDoorPkEv8
namespace Go.Ev
variable [Rho]

/-! ### Patterns: values whose atoms are named by their kinds -/
mutual
noncomputable def fits (h : Heap) : AVal → AVal → Bool
  | .atom p, v => match v with
    | .atom n => match (h.at n).obj with
      | .vat id => Nat.beq id p.num
      | _ => false
    | _ => false
  | .agg l, v => match v with
    | .agg l' => fitsL h l l'
    | _ => false
  | .tup l, v => match v with
    | .tup l' => fitsL h l l'
    | _ => false
  | p, v => p.eqb v
noncomputable def fitsL (h : Heap) : List AVal → List AVal → Bool
  | [], l => match l with
    | [] => true
    | _ :: _ => false
  | p :: l, l' => match l' with
    | [] => false
    | v :: l' => cond (fits h p v) (fitsL h l l') false
end
mutual
/-- New names for the atoms of a pattern. -/
noncomputable def layP : AVal → Heap → AVal × Heap
  | .atom p, h => (.atom h.nx, h.new (.vat p.num))
  | .agg l, h => (.agg (layPs l h).1, (layPs l h).2)
  | .tup l, h => (.tup (layPs l h).1, (layPs l h).2)
  | v, h => (v, h)
noncomputable def layPs : List AVal → Heap → List AVal × Heap
  | [], h => ([], h)
  | p :: l, h => ((layP p h).1 :: (layPs l (layP p h).2).1, (layPs l (layP p h).2).2)
end
mutual
/-- What may stand in a pattern. -/
def okP : AVal → Bool
  | .atom _ => true
  | .sym _ => true
  | .int _ _ => true
  | .bool _ => true
  | .str _ => true
  | .slcNil => true
  | .ptrNil => true
  | .nilFunc => true
  | .agg l => okPs l
  | .tup l => okPs l
  | _ => false
def okPs : List AVal → Bool
  | [] => true
  | p :: l => okP p && okPs l
end
def mpN : Mp := ⟨fun _ => 0, fun _ => ⟨0, default⟩⟩
mutual
/-- A value is as the pattern says. -/
def Mt (G : Tabs) (w : World) : AVal → Value → Prop
  | .atom p, v => v.oneCell' = true ∧ G.sem p.num w v
  | .agg l, v => ∃ vs, v = .agg ⟨vs⟩ ∧ Mts G w l vs
  | .tup l, v => ∃ vs, v = .tuple ⟨vs⟩ ∧ Mts G w l vs
  | p, v => v = γ mpN p
def Mts (G : Tabs) (w : World) : List AVal → List Value → Prop
  | [], vs => vs = []
  | p :: l, vs => ∃ v vs', vs = v :: vs' ∧ Mt G w p v ∧ Mts G w l vs'
end
/-- It holds as long as the blocks that are there stay, but for those of S. -/
def Stay (S : Nat → Prop) (w : World) (Φ : World → Prop) : Prop := ∀ w', (∀ b, b < w.heap.size → ¬ S b → w'.heap[b]? = w.heap[b]?) → Φ w'
/-- A call: what its arguments are, and its result. -/
structure Ent where
  f : FuncId
  args : List AVal
  res : AVal
def EntOk (P : Program) (G : Tabs) (e : Ent) : Prop := ∀ (S : Nat → Prop) (w : World) (vals : List Value), (∀ b, S b → b < w.heap.size) → Stay S w (fun w' => ∀ v, G.sem 0 w' v) → Stay S w (fun w' => Mts G w' e.args vals) →
  Calls P e.f ⟨vals⟩ w fun en w' => ∃ x, en = .returned x ∧ Stay S w' (fun w2 => Mt G w2 e.res x) ∧ RowKit.Below w.heap.size w w'
noncomputable def ambB (h : Heap) : Bool := match (h.at (pos 1)).obj with
  | .vat 0 => true
  | _ => false
noncomputable def cfT (T : List Ent) : (FuncId → List AVal → Heap → VR) := fun f args h => List.rec VR.fail (fun e _ ih => cond (Nat.beq e.f f) (cond (fitsL h e.args args) (cond (ambB h && okP e.res) (VR.ok (layP e.res h).1 (layP e.res h).2) .fail) ih) ih) T

section
variable {P : Program} {G : Tabs} {S : Nat → Prop} {m : Mp} {h : Heap} {w w' : World}
/-- What an atom goes on being. -/
def Keeps (S : Nat → Prop) (m : Mp) (h : Heap) (w : World) (Φ : World → Prop) : Prop := ∀ w', (∀ b, b < w.heap.size → ¬ S b → (∀ k, bk h k → m.b k ≠ b) → w'.heap[b]? = w.heap[b]?) → Φ w'
theorem Rep.stays (r : Rep G S m h w) (hb : RowKit.Below w.heap.size w w') : Rep G S m h w' where
  blk := fun n hn => by
    obtain ⟨o, ho, hb'⟩ := r.blk n hn
    exact ⟨o, (hb.block _ (r.blk_lt hn)).trans ho, hb'⟩
  fresh := r.fresh
  apart := r.apart
  mem := r.mem
  rts := r.rts
  ins := r.ins
  glob := fun g l hgl => by
    obtain ⟨⟨rest, e, fz, h1⟩, h2⟩ := r.glob g l hgl
    exact ⟨⟨rest, e, fz, (hb.block _ (r.glob_lt hgl)).trans h1⟩, h2⟩
  sem := fun n id hn w2 hw2 => r.sem n id hn w2 fun b hb' hS hk => (hw2 b (Nat.lt_of_lt_of_le hb' hb.size) hS hk).trans (hb.block b hb')
  lim := fun b hb' => Nat.lt_of_lt_of_le (r.lim b hb') hb.size
omit [Rho] in
theorem goes_below (hb : RowKit.Below w.heap.size w w') : Goes m h w m h w' :=
  ⟨hb.tape, hb.os, hb.output, hb.size, fun b hb' _ => hb.block b hb', fun _ _ => ⟨rfl, rfl⟩, Nat.le_refl _, fun _ h => .inl h, fun _ a b => absurd a b, fun _ h => h, fun _ h => h, fun _ _ h => h⟩
/-- A new atom. -/
theorem Rep.vat (r : Rep G S m h w) {id : Nat} {x : Value} (h1 : x.oneCell' = true) (hs : Keeps S m h w fun w' => G.sem id w' x) :
    ∃ m', γ m' (.atom h.nx) = x ∧ Rep G S m' (h.new (.vat id)) w ∧ Goes m h w m' (h.new (.vat id)) w ∧ dom (h.new (.vat id)) h.nx ∧ (∀ n, bk (h.new (.vat id)) n ↔ bk h n) := by
  have hat := Heap.at_new h (.vat id)
  have hne' : ∀ k, dom h k → k ≠ h.nx := fun k hk e => by have := r.fresh k hk; rw [e] at this; exact Nat.lt_irrefl _ this
  let m' : Mp := ⟨m.b, fun k => if k = h.nx then ⟨0, ⟨x, h1⟩⟩ else m.cv k⟩
  have hag : ∀ k, k ≠ h.nx → m'.b k = m.b k ∧ m'.cv k = m.cv k := fun k hk => ⟨rfl, by simp [m', hk]⟩
  have hself : m'.v h.nx = ⟨x, h1⟩ := by simp [m', Mp.v]
  have hato : ∀ k, k ≠ h.nx → (h.new (.vat id)).at k = h.at k := fun k hk => by rw [hat, if_neg (Ne.symm hk)]
  have hatn : (h.new (.vat id)).at h.nx = ⟨.vat id, h.nx⟩ := by rw [hat, if_pos rfl]
  have hbk : ∀ n, bk (h.new (.vat id)) n ↔ bk h n := fun n => by
    unfold bk
    by_cases e : n = h.nx
    · subst e; rw [hatn]
      refine ⟨fun h => (by cases h), fun hb => ?_⟩
      exact absurd rfl (hne' _ (bk.dom hb))
    · rw [hato n e]
  have hdn : dom (h.new (.vat id)) h.nx := by unfold dom; rw [hatn]; simp
  have hold : ∀ k, dom h k → dom (h.new (.vat id)) k := fun k hk => by unfold dom; rw [hato k (hne' k hk)]; exact hk
  have hcase : ∀ k, dom (h.new (.vat id)) k → k = h.nx ∨ (k ≠ h.nx ∧ dom h k) := fun k hk => by
    by_cases e : k = h.nx
    · exact .inl e
    · refine .inr ⟨e, ?_⟩; unfold dom at hk; rw [hato k e] at hk; exact hk
  have hnx : (h.new (.vat id)).nx.n = h.nx.n + 1 := Pos.n_succ _
  have hvold : ∀ n i, (h.at n).obj = .vat i → ((h.new (.vat id)).at n).obj = .vat i := fun n i hn => by
    rw [hato n (hne' n fun e => by rw [e] at hn; cases hn)]; exact hn
  refine ⟨m', by simp [γ, hself], ⟨fun k hk => ?_, fun k hk => ?_, fun a b ha hb hr => ?_, fun a b ha hb hr hab => ?_, fun k hk => ?_, fun k => ?_, fun g l hg => ?_, fun n i hn w2 hw2 => ?_, r.lim⟩,
    ⟨rfl, rfl, rfl, Nat.le_refl _, fun _ _ _ => rfl, fun k hk => hag k (fun e => by rw [e] at hk; exact Nat.lt_irrefl _ hk), by rw [hnx]; omega,
      fun k hk => by rcases hcase k hk with rfl | ⟨_, h1⟩; exact .inr (Nat.le_refl _); exact .inl h1,
      fun k hk hk' => absurd ((hbk k).1 hk) hk', hold, fun k hk => (hbk k).2 hk, hvold⟩, hdn, hbk⟩
  · have hk0 := (hbk k).1 hk
    have hkn := hne' k hk0.dom
    obtain ⟨o, h2, h3⟩ := r.blk k hk0
    refine ⟨o, h2, ?_⟩
    rw [hato k hkn]
    exact BlkObj_congr (fun n hn => hag n (hne' n hn)) (r.ins k) (hag k hkn).2 h3
  · rw [hnx]
    rcases hcase k hk with rfl | ⟨_, h2⟩
    · omega
    · have := r.fresh k h2; omega
  · have ha0 := (hbk a).1 ha
    have hb0 := (hbk b).1 hb
    rw [hato a (hne' a ha0.dom), hato b (hne' b hb0.dom)] at hr
    exact r.apart a b ha0 hb0 hr
  · show a ∈ h.al.get [] _ ∧ _
    rcases hcase a ha with rfl | ⟨han, h2⟩ <;> rcases hcase b hb with rfl | ⟨hbn, h3⟩
    · exact absurd rfl hab
    · rw [hatn, hato b hbn] at hr; have := (r.rts b h3).1; rw [← hr] at this; exact absurd this (Nat.lt_irrefl _)
    · rw [hatn, hato a han] at hr; have := (r.rts a h2).1; rw [hr] at this; exact absurd this (Nat.lt_irrefl _)
    · rw [hato a han] at hr ⊢; rw [hato b hbn] at hr; exact r.mem a b h2 h3 hr hab
  · rw [hnx]
    rcases hcase k hk with rfl | ⟨hkn, h2⟩
    · rw [hatn]; exact ⟨Nat.lt_succ_self _, hdn⟩
    · rw [hato k hkn]; have := r.rts k h2; exact ⟨Nat.lt_succ_of_lt this.1, hold _ this.2⟩
  · by_cases hkn : k = h.nx
    · subst hkn; rw [hatn]; exact trivial
    · rw [hato k hkn]; exact InObj_mono hold (r.ins k)
  · obtain ⟨h2, h3⟩ := r.glob g l hg
    exact ⟨h2, fun n hn => h3 n ((hbk n).1 hn)⟩
  · by_cases e : n = h.nx
    · subst e
      rw [hatn] at hn
      cases hn
      rw [hself]
      exact hs w2 fun b hb hS hk => hw2 b hb hS fun k hk' => hk k ((hbk k).1 hk')
    · rw [hato n e] at hn
      have : m'.v n = m.v n := by unfold Mp.v; rw [(hag n e).2]
      rw [this]
      exact r.sem n i hn w2 fun b hb hS hk => hw2 b hb hS fun k hk' => hk k ((hbk k).1 hk')
omit [Rho] in
theorem Keeps.mono {m1 : Mp} {h1 : Heap} {Φ : World → Prop} (hk : Keeps S m h w Φ) (hb : ∀ n, bk h1 n ↔ bk h n) (hm : ∀ n, bk h n → m1.b n = m.b n) : Keeps S m1 h1 w Φ := fun w' hw' => hk w' fun b hb' hS hn => hw' b hb' hS fun k hk' => by rw [hm k ((hb k).1 hk')]; exact hn k ((hb k).1 hk')
mutual
theorem okP_in : ∀ (p : AVal), okP p = true → (∀ q, p ≠ .atom q) → (∀ l, p ≠ .agg l) → (∀ l, p ≠ .tup l) → (∀ D, In D p) ∧ ∀ m, γ m p = γ mpN p
  | .atom q, _, h, _, _ => absurd rfl (h q)
  | .agg l, _, _, h, _ => absurd rfl (h l)
  | .tup l, _, _, _, h => absurd rfl (h l)
  | .sym _, _, _, _, _ => ⟨fun _ => trivial, fun _ => rfl⟩
  | .int _ _, _, _, _, _ => ⟨fun _ => trivial, fun _ => rfl⟩
  | .bool _, _, _, _, _ => ⟨fun _ => trivial, fun _ => rfl⟩
  | .str _, _, _, _, _ => ⟨fun _ => trivial, fun _ => rfl⟩
  | .slcNil, _, _, _, _ => ⟨fun _ => trivial, fun _ => rfl⟩
  | .ptrNil, _, _, _, _ => ⟨fun _ => trivial, fun _ => rfl⟩
  | .nilFunc, _, _, _, _ => ⟨fun _ => trivial, fun _ => rfl⟩
  | .ptr _ _, h, _, _, _ => by cases h
  | .slc _ _ _ _, h, _, _, _ => by cases h
  | .mapNil, h, _, _, _ => by cases h
  | .map _, h, _, _, _ => by cases h
  | .func _ _ _, h, _, _, _ => by cases h
  | .iface _ _, h, _, _, _ => by cases h
  | .nilIface, h, _, _, _ => by cases h
  | .yld _, h, _, _, _ => by cases h
  | .opq _, h, _, _, _ => by cases h
end
/-- What is laid. -/
structure Laid (G : Tabs) (S : Nat → Prop) (m : Mp) (h : Heap) (w : World) (m' : Mp) (h' : Heap) : Prop where
  rep : Rep G S m' h' w
  goes : Goes m h w m' h' w
  bks : ∀ n, bk h' n ↔ bk h n
  df : h'.df = h.df
theorem Laid.refl (r : Rep G S m h w) : Laid G S m h w m h := ⟨r, Goes.refl .., fun _ => Iff.rfl, rfl⟩
theorem Laid.trans {m1 m2 : Mp} {h1 h2 : Heap} (r : Rep G S m h w) (a : Laid G S m h w m1 h1) (b : Laid G S m1 h1 w m2 h2) : Laid G S m h w m2 h2 :=
  ⟨b.rep, Goes.trans r a.rep a.goes b.goes, fun n => (b.bks n).trans (a.bks n), b.df.trans a.df⟩
theorem Laid.keeps {m1 : Mp} {h1 : Heap} {Φ : World → Prop} (r : Rep G S m h w) (a : Laid G S m h w m1 h1) (hk : Keeps S m h w Φ) : Keeps S m1 h1 w Φ :=
  hk.mono a.bks fun n hn => (a.goes.agree n (r.fresh n hn.dom)).1
mutual
theorem lay_ok : ∀ (p : AVal) (x : Value) (m : Mp) (h : Heap) (_ : Rep G S m h w), okP p = true → Keeps S m h w (fun w' => Mt G w' p x) → ∃ m', γ m' (layP p h).1 = x ∧ In (dom (layP p h).2) (layP p h).1 ∧ Laid G S m h w m' (layP p h).2
  | .atom q, x, m, h, r, _, hk => by
    have h1 : x.oneCell' = true := (hk w fun _ _ _ _ => rfl).1
    obtain ⟨m', a1, a2, a3, a4, a5⟩ := r.vat h1 (id := q.num) fun w' hw' => (hk w' hw').2
    exact ⟨m', a1, a4, a2, a3, a5, rfl⟩
  | .agg l, x, m, h, r, ho, hk => by
    obtain ⟨vs, rfl, _⟩ : ∃ vs, x = .agg ⟨vs⟩ ∧ Mts G w l vs := hk w fun _ _ _ _ => rfl
    obtain ⟨m', a1, a2, a3⟩ := lays_ok l vs m h r ho fun w' hw' => by
      obtain ⟨vs', e, q⟩ := hk w' hw'
      cases e; exact q
    exact ⟨m', by simp only [layP, γ, a1], a2, a3⟩
  | .tup l, x, m, h, r, ho, hk => by
    obtain ⟨vs, rfl, _⟩ : ∃ vs, x = .tuple ⟨vs⟩ ∧ Mts G w l vs := hk w fun _ _ _ _ => rfl
    obtain ⟨m', a1, a2, a3⟩ := lays_ok l vs m h r ho fun w' hw' => by
      obtain ⟨vs', e, q⟩ := hk w' hw'
      cases e; exact q
    exact ⟨m', by simp only [layP, γ, a1], a2, a3⟩
  | .sym _, x, m, h, r, ho, hk => ⟨m, (hk w fun _ _ _ _ => rfl).symm, trivial, .refl r⟩
  | .int _ _, x, m, h, r, ho, hk => ⟨m, (hk w fun _ _ _ _ => rfl).symm, trivial, .refl r⟩
  | .bool _, x, m, h, r, ho, hk => ⟨m, (hk w fun _ _ _ _ => rfl).symm, trivial, .refl r⟩
  | .str _, x, m, h, r, ho, hk => ⟨m, (hk w fun _ _ _ _ => rfl).symm, trivial, .refl r⟩
  | .slcNil, x, m, h, r, ho, hk => ⟨m, (hk w fun _ _ _ _ => rfl).symm, trivial, .refl r⟩
  | .ptrNil, x, m, h, r, ho, hk => ⟨m, (hk w fun _ _ _ _ => rfl).symm, trivial, .refl r⟩
  | .nilFunc, x, m, h, r, ho, hk => ⟨m, (hk w fun _ _ _ _ => rfl).symm, trivial, .refl r⟩
  | .ptr _ _, _, _, _, _, h, _ => by cases h
  | .slc _ _ _ _, _, _, _, _, h, _ => by cases h
  | .mapNil, _, _, _, _, h, _ => by cases h
  | .map _, _, _, _, _, h, _ => by cases h
  | .func _ _ _, _, _, _, _, h, _ => by cases h
  | .iface _ _, _, _, _, _, h, _ => by cases h
  | .nilIface, _, _, _, _, h, _ => by cases h
  | .yld _, _, _, _, _, h, _ => by cases h
  | .opq _, _, _, _, _, h, _ => by cases h
theorem lays_ok : ∀ (l : List AVal) (vs : List Value) (m : Mp) (h : Heap) (_ : Rep G S m h w), okPs l = true → Keeps S m h w (fun w' => Mts G w' l vs) → ∃ m', γs m' (layPs l h).1 = vs ∧ InL (dom (layPs l h).2) (layPs l h).1 ∧ Laid G S m h w m' (layPs l h).2
  | [], vs, m, h, r, _, hk => by
    have e : vs = [] := hk w fun _ _ _ _ => rfl
    subst e
    exact ⟨m, rfl, trivial, .refl r⟩
  | p :: l, vs, m, h, r, ho, hk => by
    have ho' : okP p = true ∧ okPs l = true := by simpa [okPs] using ho
    obtain ⟨v, vs', rfl, _, _⟩ := hk w fun _ _ _ _ => rfl
    obtain ⟨m1, a1, a2, a3⟩ := lay_ok p v m h r ho'.1 fun w' hw' => by
      obtain ⟨_, _, e, q, _⟩ := hk w' hw'
      cases e; exact q
    obtain ⟨m2, b1, b2, b3⟩ := lays_ok l vs' m1 (layP p h).2 a3.rep ho'.2 (a3.keeps r fun w' hw' => by
      obtain ⟨_, _, e, _, q⟩ := hk w' hw'
      cases e; exact q)
    refine ⟨m2, ?_, ⟨In_mono b3.goes.old _ a2, b2⟩, a3.trans r b3⟩
    simp only [layPs, γs]
    rw [b1, γ_congr (D := dom (layP p h).2) (fun n hn => b3.goes.agree n (a3.rep.fresh n hn)) _ a2, a1]
end
mutual
theorem fits_ok (r : Rep G S m h w) : ∀ (p v : AVal), okP p = true → In (dom h) v → fits h p v = true → Keeps S m h w fun w' => Mt G w' p (γ m v)
  | .atom q, v, _, hi, hf => by
    cases v <;> try (cases hf; done)
    rename_i n
    have hf' : (match (h.at n).obj with | .vat id => Nat.beq id q.num | _ => false) = true := hf
    cases ho : (h.at n).obj <;> rw [ho] at hf' <;> try (cases hf'; done)
    rename_i id
    have e := Nat.eq_of_beq_eq_true hf'
    intro w' hw'
    exact ⟨(m.v n).one, by rw [← e]; exact r.sem n id ho w' hw'⟩
  | .agg l, v, ho, hi, hf => by
    cases v <;> try (cases hf; done)
    rename_i l'
    intro w' hw'
    exact ⟨_, rfl, fitsL_ok r l l' ho hi hf w' hw'⟩
  | .tup l, v, ho, hi, hf => by
    cases v <;> try (cases hf; done)
    rename_i l'
    intro w' hw'
    exact ⟨_, rfl, fitsL_ok r l l' ho hi hf w' hw'⟩
  | .sym i, v, _, _, hf => fun _ _ => by have := AVal.eqb_spec (.sym i) v hf; subst this; rfl
  | .int k z, v, _, _, hf => fun _ _ => by have := AVal.eqb_spec (.int k z) v hf; subst this; rfl
  | .bool b, v, _, _, hf => fun _ _ => by have := AVal.eqb_spec (.bool b) v hf; subst this; rfl
  | .str s, v, _, _, hf => fun _ _ => by have := AVal.eqb_spec (.str s) v hf; subst this; rfl
  | .slcNil, v, _, _, hf => fun _ _ => by have := AVal.eqb_spec .slcNil v hf; subst this; rfl
  | .ptrNil, v, _, _, hf => fun _ _ => by have := AVal.eqb_spec .ptrNil v hf; subst this; rfl
  | .nilFunc, v, _, _, hf => fun _ _ => by have := AVal.eqb_spec .nilFunc v hf; subst this; rfl
  | .ptr _ _, _, h, _, _ => by cases h
  | .slc _ _ _ _, _, h, _, _ => by cases h
  | .mapNil, _, h, _, _ => by cases h
  | .map _, _, h, _, _ => by cases h
  | .func _ _ _, _, h, _, _ => by cases h
  | .iface _ _, _, h, _, _ => by cases h
  | .nilIface, _, h, _, _ => by cases h
  | .yld _, _, h, _, _ => by cases h
  | .opq _, _, h, _, _ => by cases h
theorem fitsL_ok (r : Rep G S m h w) : ∀ (l l' : List AVal), okPs l = true → InL (dom h) l' → fitsL h l l' = true → Keeps S m h w fun w' => Mts G w' l (γs m l')
  | [], l', _, _, hf => by
    cases l' with
    | nil => exact fun _ _ => rfl
    | cons _ _ => cases hf
  | p :: l, l', ho, hi, hf => by
    cases l' with
    | nil => cases hf
    | cons v l' =>
      have ho' : okP p = true ∧ okPs l = true := by simpa [okPs] using ho
      have hf' : cond (fits h p v) (fitsL h l l') false = true := hf
      cases hp : fits h p v with
      | false => rw [hp] at hf'; cases hf'
      | true =>
        rw [hp] at hf'
        exact fun w' hw' => ⟨_, _, rfl, fits_ok r p v ho'.1 hi.1 hp w' hw', fitsL_ok r l l' ho'.2 hi.2 hf' w' hw'⟩
end
/-- The table of calls is right. -/
theorem cfT_ok {E : Env} {T : List Ent} (hA : ∀ w v v', E.gl.sem 0 w v → E.gl.sem 0 w v') (hT : ∀ e ∈ T, EntOk P E.gl e ∧ okPs e.args = true) : CFOk P E (cfT T) := by
  have dfs : ∀ p h, (layP p h).2.df = h.df := by
    intro p
    exact AVal.rec (motive_1 := fun p => ∀ h, (layP p h).2.df = h.df) (motive_2 := fun l => ∀ h, (layPs l h).2.df = h.df)
      (fun _ _ _ => rfl) (fun _ _ => rfl) (fun _ _ _ => rfl) (fun _ _ _ _ _ => rfl) (fun _ _ => rfl) (fun l ih h => ih h) (fun l ih h => ih h) (fun _ => rfl) (fun _ => rfl) (fun _ => rfl) (fun _ _ => rfl)
      (fun _ _ _ _ _ _ => rfl) (fun _ => rfl) (fun _ _ _ _ => rfl) (fun _ => rfl) (fun _ _ => rfl) (fun _ _ => rfl) (fun _ _ => rfl) (fun _ _ => rfl)
      (fun _ => rfl) (fun p l ihp ihl h => (ihl _).trans (ihp h)) p
  intro f args h v h' e
  induction T with
  | nil => cases e
  | cons en T ih =>
    have e' : cond (Nat.beq en.f f) (cond (fitsL h en.args args) (cond (ambB h && okP en.res) (VR.ok (layP en.res h).1 (layP en.res h).2) .fail) (cfT T f args h)) (cfT T f args h) = .ok v h' := e
    have hT' : ∀ e ∈ T, EntOk P E.gl e ∧ okPs e.args = true := fun x hx => hT x (List.mem_cons_of_mem _ hx)
    cases hf : Nat.beq en.f f with
    | false => rw [hf] at e'; exact ih hT' e'
    | true =>
      rw [hf] at e'
      cases hfi : fitsL h en.args args with
      | false => rw [hfi] at e'; exact ih hT' e'
      | true =>
        rw [hfi] at e'
        simp only [cond_true] at e'
        cases hab : (ambB h && okP en.res) with
        | false => rw [hab] at e'; cases e'
        | true =>
          rw [hab] at e'
          simp only [cond_true] at e'
          cases e'
          have hf' := Nat.eq_of_beq_eq_true hf
          subst hf'
          obtain ⟨hok, hop⟩ := hT en (List.mem_cons_self ..)
          simp only [Bool.and_eq_true] at hab
          refine ⟨dfs _ _, fun S m w r hin hdd => ?_⟩
          have hamb : (h.at (pos 1)).obj = .vat 0 := by
            have := hab.1
            unfold ambB at this
            split at this
            · assumption
            · cases this
          have hlt : ∀ k, bk h k → m.b k < w.heap.size := fun k hk => r.blk_lt hk
          have hS : ∀ b, ¬ (b < w.heap.size ∧ (S b ∨ ∃ k, bk h k ∧ m.b k = b)) → b < w.heap.size → ¬ S b ∧ ∀ k, bk h k → m.b k ≠ b := fun b hb hlt =>
            ⟨fun h => hb ⟨hlt, .inl h⟩, fun k hk e => hb ⟨hlt, .inr ⟨k, hk, e⟩⟩⟩
          refine (hok (fun b => b < w.heap.size ∧ (S b ∨ ∃ k, bk h k ∧ m.b k = b)) w (γs m args) (fun b hb => hb.1) (fun w' hw' v => hA _ _ _ (r.sem _ _ hamb w' fun b hb h1 h2 => ?_)) (fun w' hw' => fitsL_ok r _ _ hop hin hfi w' fun b hb h1 h2 => ?_)).mono fun ex w' ⟨x, hx, hst, hbel⟩ => ?_
          · exact hw' b hb fun ⟨_, h3⟩ => by rcases h3 with h3 | ⟨k, hk, h3⟩; exact h1 h3; exact h2 k hk h3
          · exact hw' b hb fun ⟨_, h3⟩ => by rcases h3 with h3 | ⟨k, hk, h3⟩; exact h1 h3; exact h2 k hk h3
          · have r' := r.stays hbel
            obtain ⟨m', a1, a2, a3⟩ := lay_ok en.res x m h r' hab.2 fun w2 hw2 => hst w2 fun b hb hn => hw2 b hb
              (fun hs => hn ⟨r.lim b hs, .inl hs⟩) fun k hk e => hn ⟨by rw [← e]; exact hlt k hk, .inr ⟨k, hk, e⟩⟩
            exact ⟨m', by rw [a1]; exact hx, a3.rep, Goes.trans r r' (goes_below hbel) a3.goes, a2⟩
/-! ### A function carried out on symbols -/
noncomputable def heapA : Heap := (emptyHeap 1).new (.vat 0)
noncomputable def symR (E : Env) (T : List Ent) (f : FuncId) (pats : List AVal) : VR := (funK E f).f (cfT T) (layPs pats heapA).1 (layPs pats heapA).2
noncomputable def symB (E : Env) (T : List Ent) (f : FuncId) (pats : List AVal) (res : AVal) : Bool := VR.casesOn (symR E T f pats) (fun v h => fits h res v) false
theorem sym_ok (hmix : P.follows .mixedOrders = true) {F : List Fact} {T : List Ent} (hA : ∀ w v v', G.sem 0 w v → G.sem 0 w v') (hg : G.g = fun _ => none) (hF : ∀ f ∈ F, FactOk f) (hL : LenOk G)
    (hT : ∀ e ∈ T, EntOk P G e ∧ okPs e.args = true) {f : FuncId} {pats : List AVal} {res : AVal} (hp : okPs pats = true) (hr : okP res = true)
    (h : symB (Env.sy P G F) T f pats res = true) : EntOk P G ⟨f, pats, res⟩ := by
  intro S w vals hlim hamb hargs
  have ok := envOk P G F hF hL
  have hcf : CFOk P (Env.sy P G F) (cfT T) := cfT_ok hA hT
  have hfun := funK_ok ok (draw_ok hmix ok) hcf
  unfold symB at h
  cases hs : symR (Env.sy P G F) T f pats with
  | fail => rw [hs] at h; cases h
  | ok v h2 =>
    rw [hs] at h
    have h' : fits h2 res v = true := h
    have r0 : Rep G S mpN (emptyHeap 1) w :=
      { blk := fun n hn => absurd hn (emptyHeap_bk 1 n)
        fresh := fun n hn => absurd hn (emptyHeap_dom 1 n)
        apart := fun n k hn => absurd hn (emptyHeap_bk 1 n)
        mem := fun n k hn => absurd hn (emptyHeap_dom 1 n)
        rts := fun n hn => absurd hn (emptyHeap_dom 1 n)
        ins := fun n => by rw [emptyHeap_at]; exact trivial
        glob := fun g l hl => by rw [hg] at hl; cases hl
        sem := fun n id hn => by rw [emptyHeap_at] at hn; cases hn
        lim := hlim }
    obtain ⟨m1, _, r1, g1, _, b1⟩ := r0.vat (id := 0) (x := .nilFunc) rfl fun w' hw' => hamb w' (fun b hb hS => hw' b hb hS fun k hk => absurd hk (emptyHeap_bk 1 k)) _
    have nob1 : ∀ k, ¬ bk heapA k := fun k hk => emptyHeap_bk 1 k ((b1 k).1 hk)
    obtain ⟨m2, a1, a2, a3⟩ := lays_ok pats vals m1 heapA r1 hp fun w' hw' => hargs w' fun b hb hS => hw' b hb hS fun k hk => absurd hk (nob1 k)
    have nob2 : ∀ k, ¬ bk (layPs pats heapA).2 k := fun k hk => nob1 k ((a3.bks k).1 hk)
    have hdf : (layPs pats heapA).2.df = [] := a3.df
    have := (hfun f _ _ v h2 hs).2 S m2 w a3.rep a2 (fun d hd => by rw [hdf] at hd; cases hd)
    rw [a1] at this
    refine this.mono fun en w' ⟨m', he, r', g', hin⟩ => ⟨_, he, fun w2 hw2 => ?_, ⟨g'.os, g'.tape, g'.output, g'.size, fun b hb => g'.keep b hb fun n hn => absurd hn (nob2 n)⟩⟩
    exact fits_ok r' res v hr hin h' w2 fun b hb hS _ => hw2 b hb hS
end
end Go.Ev

namespace Go.Ev
variable {ri : Rho}

/-! ### Contracts -/
/-- It holds as long as the blocks from base on stay. -/
def Own (base : Nat) (w : World) (Φ : World → Prop) : Prop := ∀ w', (∀ b, base ≤ b → b < w.heap.size → w'.heap[b]? = w.heap[b]?) → Φ w'
def All2 : List (World → Value → Prop) → World → List Value → Prop
  | [], _, vs => vs = []
  | R :: Rs, w, vs => ∃ v vs', vs = v :: vs' ∧ R w v ∧ All2 Rs w vs'
/-- The contract of a function: what its arguments are, and its result; nothing that was there is changed. -/
def Con (P : Program) (A : World → Prop) (f : FuncId) (Rs : List (World → Value → Prop)) (R : World → Value → Prop) : Prop :=
  ∀ (S : Nat → Prop) (w : World) (vals : List Value), (∀ b, S b → b < w.heap.size) → Stay S w A → Stay S w (fun w' => All2 Rs w' vals) →
    Calls P f ⟨vals⟩ w fun en w' => ∃ x, en = .returned x ∧ Stay S w' (fun w2 => R w2 x) ∧ RowKit.Below w.heap.size w w'
def nthR : List (World → Value → Prop) → Nat → World → Value → Prop
  | [], _ => fun _ _ => False
  | R :: _, 0 => R
  | _ :: l, n + 1 => nthR l n
def nthL : List (Option AVal) → Nat → Option AVal
  | [], _ => none
  | a :: _, 0 => a
  | _ :: l, n + 1 => nthL l n
def semS (A : World → Prop) (sems : List (World → Value → Prop)) : Nat → World → Value → Prop
  | 0 => fun w _ => A w
  | k + 1 => nthR sems k
def lenS (lens : List (Option AVal)) : Nat → Option AVal
  | 0 => none
  | k + 1 => nthL lens k
/-- Kinds of atoms: 0 is what the world is known to hold, then those of the list. -/
def tabsS (A : World → Prop) (sems : List (World → Value → Prop)) (lens : List (Option AVal)) : Tabs := ⟨fun _ => none, semS A sems, lenS lens⟩
theorem semS_zero (A : World → Prop) (sems : List (World → Value → Prop)) (w : World) (v v' : Value) (h : semS A sems 0 w v) : semS A sems 0 w v' := h
/-- An atom of kind k. -/
noncomputable def at_ (k : Nat) : AVal := .atom (pos (k - 1))
section
variable {P : Program} {A : World → Prop} {sems : List (World → Value → Prop)} {lens : List (Option AVal)}
theorem stay_self {S : Nat → Prop} {w : World} {Φ : World → Prop} (h : Stay S w Φ) : Φ w := h w fun _ _ _ => rfl
/-- A function carried out on symbols. -/
theorem sym_con (hmix : P.follows .mixedOrders = true) {F : List Fact} {T : List Ent} {f : FuncId} {pats : List AVal} {res : AVal} {Rs : List (World → Value → Prop)} {R : World → Value → Prop}
    (hF : ∀ f ∈ F, FactOk f) (hL : LenOk (tabsS A sems lens)) (hT : ∀ e ∈ T, EntOk P (tabsS A sems lens) e ∧ okPs e.args = true) (hp : (okPs pats && okP res) = true)
    (h : symB (Env.sy P (tabsS A sems lens) F) T f pats res = true) (hin : ∀ w vs, All2 Rs w vs → Mts (tabsS A sems lens) w pats vs) (hout : ∀ w v, Mt (tabsS A sems lens) w res v → R w v) : Con P A f Rs R := fun S w vals hlim hA hargs => by
  simp only [Bool.and_eq_true] at hp
  have e := sym_ok hmix (G := tabsS A sems lens) (fun _ _ _ h => h) rfl hF hL hT hp.1 hp.2 h
  refine (e S w vals hlim (fun w' hw' v => hA w' hw') fun w' hw' => hin _ _ (hargs w' hw')).mono ?_
  rintro en w' ⟨x, h1, h2, h3⟩
  exact ⟨x, h1, fun w2 hw2 => hout _ _ (h2 w2 hw2), h3⟩
/-- A contract as a row of the table of calls. -/
theorem ent_con {f : FuncId} {pats : List AVal} {res : AVal} {Rs : List (World → Value → Prop)} {R : World → Value → Prop} (h : Con P A f Rs R)
    (hin : ∀ w vs, Mts (tabsS A sems lens) w pats vs → All2 Rs w vs) (hout : ∀ w v, R w v → Mt (tabsS A sems lens) w res v) : EntOk P (tabsS A sems lens) ⟨f, pats, res⟩ := fun S w vals hlim hA hargs => by
  refine (h S w vals hlim (fun w' hw' => hA w' hw' .nilFunc) fun w' hw' => hin _ _ (hargs w' hw')).mono ?_
  rintro en w' ⟨x, h1, h2, h3⟩
  exact ⟨x, h1, fun w2 hw2 => hout _ _ (h2 w2 hw2), h3⟩
/-- From a contract whose result lies in blocks of its own. -/
theorem con_own {f : FuncId} {Rs : List (World → Value → Prop)} {R : World → Value → Prop}
    (h : ∀ w vals, All2 Rs w vals → A w → Calls P f ⟨vals⟩ w fun en w' => ∃ x, en = .returned x ∧ Own w.heap.size w' (fun w2 => R w2 x) ∧ RowKit.Below w.heap.size w w') : Con P A f Rs R := fun S w vals hlim hA hargs => by
  refine (h w vals (stay_self hargs) (stay_self hA)).mono ?_
  rintro en w' ⟨x, h1, h2, h3⟩
  exact ⟨x, h1, fun w2 hw2 => h2 w2 fun b hb hb' => hw2 b hb' fun hs => Nat.lt_irrefl _ (Nat.lt_of_lt_of_le (hlim b hs) hb), h3⟩
/-- A contract in a walk: what it says of a result at the place. -/
theorem Con.calls {f : FuncId} {Rs : List (World → Value → Prop)} {R : World → Value → Prop} (h : Con P A f Rs R) {w : World} {vals : List Value} (hA : ∀ w', (∀ b, b < w.heap.size → w'.heap[b]? = w.heap[b]?) → A w')
    (hargs : ∀ w', (∀ b, b < w.heap.size → w'.heap[b]? = w.heap[b]?) → All2 Rs w' vals) : Calls P f ⟨vals⟩ w fun en w' => ∃ x, en = .returned x ∧ R w' x ∧ RowKit.Below w.heap.size w w' := by
  refine (h (fun _ => False) w vals (fun _ h => h.elim) (fun w' hw' => hA w' fun b hb => hw' b hb id) fun w' hw' => hargs w' fun b hb => hw' b hb id).mono ?_
  rintro en w' ⟨x, h1, h2, h3⟩
  exact ⟨x, h1, stay_self h2, h3⟩
variable {G : Tabs} {p1 p2 p3 p4 : AVal} {R1 R2 R3 R4 : World → Value → Prop}
/-- A pattern takes in what a relation says; a pattern says what a relation says. -/
def Into [Rho] (G : Tabs) (R : World → Value → Prop) (p : AVal) : Prop := ∀ w v, R w v → Mt G w p v
def Outo [Rho] (G : Tabs) (p : AVal) (R : World → Value → Prop) : Prop := ∀ w v, Mt G w p v → R w v
theorem in0 : ∀ w vs, All2 [] w vs → Mts G w [] vs := fun _ _ h => h
theorem inC {p : AVal} {R : World → Value → Prop} {ps : List AVal} {Rs : List (World → Value → Prop)} (h : Into G R p) (hs : ∀ w vs, All2 Rs w vs → Mts G w ps vs) : ∀ w vs, All2 (R :: Rs) w vs → Mts G w (p :: ps) vs := by
  rintro w vs ⟨v, vs', rfl, h1, h2⟩
  exact ⟨v, vs', rfl, h w v h1, hs w vs' h2⟩
theorem out0 : ∀ w vs, Mts G w [] vs → All2 [] w vs := fun _ _ h => h
theorem outC {p : AVal} {R : World → Value → Prop} {ps : List AVal} {Rs : List (World → Value → Prop)} (h : Outo G p R) (hs : ∀ w vs, Mts G w ps vs → All2 Rs w vs) : ∀ w vs, Mts G w (p :: ps) vs → All2 (R :: Rs) w vs := by
  rintro w vs ⟨v, vs', rfl, h1, h2⟩
  exact ⟨v, vs', rfl, h w v h1, hs w vs' h2⟩
/-- A value of its own: a symbol or a literal. -/
def IsV (x : Value) : World → Value → Prop := fun _ v => v = x
theorem into_sym {i : Nat} {x : Value} (h : (Rho.ρ i).v = x) : Into G (IsV x) (.sym i) := fun _ _ e => e.trans h.symm
theorem outo_sym {i : Nat} {x : Value} (h : (Rho.ρ i).v = x) : Outo G (.sym i) (IsV x) := fun _ _ e => (show _ = _ from e).trans h
theorem into_int {k : IntKind} {z : Int} : Into G (IsV (.int k z)) (.int k z) := fun _ _ e => e
theorem outo_int {k : IntKind} {z : Int} : Outo G (.int k z) (IsV (.int k z)) := fun _ _ e => e
theorem into_bool {b : Bool} : Into G (IsV (.bool b)) (.bool b) := fun _ _ e => e
theorem outo_bool {b : Bool} : Outo G (.bool b) (IsV (.bool b)) := fun _ _ e => e
/-- Two results. -/
def Two_ (R1 R2 : World → Value → Prop) : World → Value → Prop := fun w v => ∃ a b, v = .tuple #[a, b] ∧ R1 w a ∧ R2 w b
theorem into_two (h1 : Into G R1 p1) (h2 : Into G R2 p2) : Into G (Two_ R1 R2) (.tup [p1, p2]) := by
  rintro w v ⟨a, b, rfl, ha, hb⟩
  exact ⟨[a, b], rfl, a, [b], rfl, h1 w a ha, b, [], rfl, h2 w b hb, rfl⟩
theorem outo_two (h1 : Outo G p1 R1) (h2 : Outo G p2 R2) : Outo G (.tup [p1, p2]) (Two_ R1 R2) := by
  rintro w v ⟨vs, rfl, a, vs', rfl, ha, b, vs2, rfl, hb, rfl⟩
  exact ⟨a, b, rfl, h1 w a ha, h2 w b hb⟩
/-- Three results. -/
def Three_ (R1 R2 R3 : World → Value → Prop) : World → Value → Prop := fun w v => ∃ a b c, v = .tuple #[a, b, c] ∧ R1 w a ∧ R2 w b ∧ R3 w c
theorem into_three (h1 : Into G R1 p1) (h2 : Into G R2 p2) (h3 : Into G R3 p3) : Into G (Three_ R1 R2 R3) (.tup [p1, p2, p3]) := by
  rintro w v ⟨a, b, c, rfl, ha, hb, hc⟩
  exact ⟨[a, b, c], rfl, a, [b, c], rfl, h1 w a ha, b, [c], rfl, h2 w b hb, c, [], rfl, h3 w c hc, rfl⟩
theorem outo_three (h1 : Outo G p1 R1) (h2 : Outo G p2 R2) (h3 : Outo G p3 R3) : Outo G (.tup [p1, p2, p3]) (Three_ R1 R2 R3) := by
  rintro w v ⟨vs, rfl, a, vs', rfl, ha, b, vs2, rfl, hb, c, vs3, rfl, hc, rfl⟩
  exact ⟨a, b, c, rfl, h1 w a ha, h2 w b hb, h3 w c hc⟩
/-- An atom. -/
theorem into_atom {q : Pos} {R : World → Value → Prop} (h : G.sem q.num = R) (h1 : ∀ w v, R w v → v.oneCell' = true) : Into G R (.atom q) := fun w v hv => ⟨h1 w v hv, by rw [h]; exact hv⟩
theorem outo_atom {q : Pos} {R : World → Value → Prop} (h : G.sem q.num = R) : Outo G (.atom q) R := fun w v hv => by rw [← h]; exact hv.2
/-! ### Facts -/
variable {a b c : AVal} {x y z : Int} {k : IntKind}
theorem intOut_any (k : IntKind) (n : Int) : intOut k n = some (.int k n) := by
  cases n with
  | ofNat m => cases m <;> rfl
  | negSucc m => cases m <;> rfl
theorem factI {op : BinOp} (hc : plainR c = true) (ha : ∀ m, γ m a = .int k x) (hb : ∀ m, γ m b = .int k y) (hz : ∀ m, γ m c = .int k z) (hv : factVal (.bin op) k k x y = some (.int k z)) : FactOk ⟨.bin op, a, b, c⟩ :=
  ⟨hc, k, k, x, y, _, ha, hb, hv, hz⟩
theorem ikSelf (k : IntKind) : ikEqb k k = true := (ikEqb_spec k k).2 rfl
theorem fact_add (hc : plainR c = true) (ha : ∀ m, γ m a = .int k x) (hb : ∀ m, γ m b = .int k y) (hz : ∀ m, γ m c = .int k z) (hv : k.wrap (x + y) = z) : FactOk ⟨.bin .add, a, b, c⟩ :=
  factI hc ha hb hz (by simp only [factVal, ikSelf, cond_true, intK]; rw [intOut_any, wrapA_spec, addA_spec, hv])
theorem fact_sub (hc : plainR c = true) (ha : ∀ m, γ m a = .int k x) (hb : ∀ m, γ m b = .int k y) (hz : ∀ m, γ m c = .int k z) (hv : k.wrap (x - y) = z) : FactOk ⟨.bin .sub, a, b, c⟩ :=
  factI hc ha hb hz (by simp only [factVal, ikSelf, cond_true, intK]; rw [intOut_any, wrapA_spec, subA_spec, hv])
theorem fact_mul (hc : plainR c = true) (ha : ∀ m, γ m a = .int k x) (hb : ∀ m, γ m b = .int k y) (hz : ∀ m, γ m c = .int k z) (hv : k.wrap (x * y) = z) : FactOk ⟨.bin .mul, a, b, c⟩ :=
  factI hc ha hb hz (by simp only [factVal, ikSelf, cond_true, intK]; rw [intOut_any, wrapA_spec, mulA_spec, hv])
theorem fact_rem (hc : plainR c = true) (ha : ∀ m, γ m a = .int k x) (hb : ∀ m, γ m b = .int k y) (hz : ∀ m, γ m c = .int k z) (h0 : y ≠ 0) (hv : x.tmod y = z) : FactOk ⟨.bin .rem, a, b, c⟩ :=
  factI hc ha hb hz (by simp only [factVal, ikSelf, cond_true, intK]; rw [intEqb_spec, decide_eq_false h0, cond_false, intOut_any, remA_spec, hv])
theorem fact_quo (hc : plainR c = true) (ha : ∀ m, γ m a = .int k x) (hb : ∀ m, γ m b = .int k y) (hz : ∀ m, γ m c = .int k z) (h0 : y ≠ 0) (hv : k.wrap (x.tdiv y) = z) : FactOk ⟨.bin .quo, a, b, c⟩ :=
  factI hc ha hb hz (by simp only [factVal, ikSelf, cond_true, intK]; rw [intEqb_spec, decide_eq_false h0, cond_false, intOut_any, wrapA_spec, quoA_spec, hv])
theorem fact_neg (hc : plainR c = true) (ha : ∀ m, γ m a = .int k x) (hz : ∀ m, γ m c = .int k z) (hv : k.wrap (-x) = z) : FactOk ⟨.neg, a, a, c⟩ :=
  ⟨hc, k, k, x, x, .int k z, ha, ha, by simp only [factVal]; rw [intOut_any, wrapA_spec, subA_spec, Int.zero_sub, hv], hz⟩
theorem fact_conv {j : IntKind} (hc : plainR c = true) (ha : ∀ m, γ m a = .int k x) (hz : ∀ m, γ m c = .int j z) (hv : j.wrap x = z) : FactOk ⟨.conv j, a, a, c⟩ :=
  ⟨hc, k, k, x, x, .int j z, ha, ha, by simp only [factVal]; rw [intOut_any, wrapA_spec, hv], hz⟩
theorem fact_max (hc : plainR c = true) (ha : ∀ m, γ m a = .int k x) (hb : ∀ m, γ m b = .int k y) (hz : ∀ m, γ m c = .int k z) (hv : max x y = z) : FactOk ⟨.mx true, a, b, c⟩ :=
  ⟨hc, k, k, x, y, .int k z, ha, hb, by
    simp only [factVal, ikSelf, cond_true, ltA_spec]
    by_cases e : x < y
    · rw [decide_eq_true e, cond_true, ← hv]; congr 2; omega
    · rw [decide_eq_false e, cond_false, ← hv]; congr 2; omega, hz⟩
theorem fact_min (hc : plainR c = true) (ha : ∀ m, γ m a = .int k x) (hb : ∀ m, γ m b = .int k y) (hz : ∀ m, γ m c = .int k z) (hv : min x y = z) : FactOk ⟨.mx false, a, b, c⟩ :=
  ⟨hc, k, k, x, y, .int k z, ha, hb, by
    simp only [factVal, ikSelf, cond_true, cond_false, ltA_spec]
    by_cases e : y < x
    · rw [decide_eq_true e, cond_true, ← hv]; congr 2; omega
    · rw [decide_eq_false e, cond_false, ← hv]; congr 2; omega, hz⟩
variable {r : Bool}
theorem fact_lss (ha : ∀ m, γ m a = .int k x) (hb : ∀ m, γ m b = .int k y) (hr : decide (x < y) = r) : FactOk ⟨.bin .lss, a, b, .bool r⟩ :=
  ⟨rfl, k, k, x, y, .bool r, ha, hb, by simp only [factVal, ikSelf, cond_true, intK]; rw [ltA_spec, hr], fun _ => rfl⟩
theorem fact_gtr (ha : ∀ m, γ m a = .int k x) (hb : ∀ m, γ m b = .int k y) (hr : decide (y < x) = r) : FactOk ⟨.bin .gtr, a, b, .bool r⟩ :=
  ⟨rfl, k, k, x, y, .bool r, ha, hb, by simp only [factVal, ikSelf, cond_true, intK]; rw [ltA_spec, hr], fun _ => rfl⟩
theorem fact_leq (ha : ∀ m, γ m a = .int k x) (hb : ∀ m, γ m b = .int k y) (hr : decide (x ≤ y) = r) : FactOk ⟨.bin .leq, a, b, .bool r⟩ :=
  ⟨rfl, k, k, x, y, .bool r, ha, hb, by
    simp only [factVal, ikSelf, cond_true, intK]; rw [ltA_spec, ← hr]
    by_cases e : y < x
    · rw [decide_eq_true e, decide_eq_false (by omega)]; rfl
    · rw [decide_eq_false e, decide_eq_true (by omega)]; rfl, fun _ => rfl⟩
theorem fact_geq (ha : ∀ m, γ m a = .int k x) (hb : ∀ m, γ m b = .int k y) (hr : decide (y ≤ x) = r) : FactOk ⟨.bin .geq, a, b, .bool r⟩ :=
  ⟨rfl, k, k, x, y, .bool r, ha, hb, by
    simp only [factVal, ikSelf, cond_true, intK]; rw [ltA_spec, ← hr]
    by_cases e : x < y
    · rw [decide_eq_true e, decide_eq_false (by omega)]; rfl
    · rw [decide_eq_false e, decide_eq_true (by omega)]; rfl, fun _ => rfl⟩
theorem fact_eql (ha : ∀ m, γ m a = .int k x) (hb : ∀ m, γ m b = .int k y) (hr : decide (x = y) = r) : FactOk ⟨.bin .eql, a, b, .bool r⟩ :=
  ⟨rfl, k, k, x, y, .bool r, ha, hb, by simp only [factVal, ikSelf, cond_true, intK]; rw [intEqb_spec, hr], fun _ => rfl⟩
theorem fact_neq (ha : ∀ m, γ m a = .int k x) (hb : ∀ m, γ m b = .int k y) (hr : decide (x ≠ y) = r) : FactOk ⟨.bin .neq, a, b, .bool r⟩ :=
  ⟨rfl, k, k, x, y, .bool r, ha, hb, by
    simp only [factVal, ikSelf, cond_true, intK]; rw [intEqb_spec, ← hr]
    by_cases e : x = y <;> simp [e], fun _ => rfl⟩
theorem fnil : ∀ f ∈ ([] : List Fact), FactOk f := fun _ h => by cases h
theorem fcons {f : Fact} {l : List Fact} (h : FactOk f) (hl : ∀ f ∈ l, FactOk f) : ∀ g ∈ f :: l, FactOk g := fun g hg => by
  rcases List.mem_cons.1 hg with rfl | h'
  · exact h
  · exact hl g h'
theorem enil : ∀ e ∈ ([] : List Ent), EntOk P G e ∧ okPs e.args = true := fun _ h => by cases h
theorem econs {e : Ent} {l : List Ent} (h : EntOk P G e) (ho : okPs e.args = true) (hl : ∀ e ∈ l, EntOk P G e ∧ okPs e.args = true) : ∀ g ∈ e :: l, EntOk P G g ∧ okPs g.args = true := fun g hg => by
  rcases List.mem_cons.1 hg with rfl | h'
  · exact ⟨h, ho⟩
  · exact hl g h'
/-- No lengths are asked for. -/
theorem len_nil : LenOk (tabsS A sems []) := fun id a h => by
  cases id with
  | zero => cases h
  | succ n => cases h
end
/-! ### Slots: an atom and three symbols each -/
structure Slot where
  sem : World → Value → Prop
  one : ∀ w v, sem w v → v.oneCell' = true
  v0 : OneVal
  v1 : OneVal
  v2 : OneVal
  len : Bool
  hl : len = true → ∀ w v, sem w v → ∃ ad k c, v = .slice ad k c ∧ v2.v = .int .i64 (k : Nat)
def noSlot : Slot := ⟨fun _ _ => False, fun _ _ h => h.elim, default, default, default, false, fun h => by cases h⟩
def nthS : List Slot → Nat → Slot
  | [], _ => noSlot
  | s :: _, 0 => s
  | _ :: l, n + 1 => nthS l n
def rhoS (L : List Slot) : Nat → OneVal := fun i => match i % 3 with
  | 0 => (nthS L (i / 3)).v0
  | 1 => (nthS L (i / 3)).v1
  | _ => (nthS L (i / 3)).v2
def semL (A : World → Prop) (L : List Slot) : Nat → World → Value → Prop
  | 0 => fun w _ => A w
  | k + 1 => (nthS L k).sem
def lenL (L : List Slot) : Nat → Option AVal
  | 0 => none
  | k + 1 => cond (nthS L k).len (some (.sym (3 * k + 2))) none
def tabsL (A : World → Prop) (L : List Slot) : Tabs := ⟨fun _ => none, semL A L, lenL L⟩
/-- The atom of a slot, and its symbols. -/
noncomputable def sA (j : Nat) : AVal := .atom (pos j)
def s0 (j : Nat) : AVal := .sym (3 * j)
def s1 (j : Nat) : AVal := .sym (3 * j + 1)
def s2 (j : Nat) : AVal := .sym (3 * j + 2)
theorem pos_num (j : Nat) : (pos j).num = j + 1 := by rw [num_n, pos_n]
section
variable {L : List Slot} {A : World → Prop} {P : Program}
theorem rho0_at (j : Nat) : rhoS L (3 * j) = (nthS L j).v0 := by
  unfold rhoS
  rw [show 3 * j % 3 = 0 by omega, show 3 * j / 3 = j by omega]
  rfl
theorem rho1_at (j : Nat) : rhoS L (3 * j + 1) = (nthS L j).v1 := by
  unfold rhoS
  rw [show (3 * j + 1) % 3 = 1 by omega, show (3 * j + 1) / 3 = j by omega]
  rfl
theorem rho2_at (j : Nat) : rhoS L (3 * j + 2) = (nthS L j).v2 := by
  unfold rhoS
  rw [show (3 * j + 2) % 3 = 2 by omega, show (3 * j + 2) / 3 = j by omega]
  rfl
theorem sem_at (j : Nat) : (tabsL A L).sem (pos j).num = (nthS L j).sem := by rw [pos_num]; rfl
theorem lenL_ok : @LenOk ⟨rhoS L⟩ (tabsL A L) := fun id a h => by
  cases id with
  | zero => cases h
  | succ k =>
    have h' : cond (nthS L k).len (some (AVal.sym (3 * k + 2))) none = some a := h
    cases hb : (nthS L k).len with
    | false => rw [hb] at h'; cases h'
    | true =>
      rw [hb] at h'
      cases h'
      refine ⟨rfl, fun w v hv => ?_⟩
      obtain ⟨ad, n, c, e1, e2⟩ := (nthS L k).hl hb w v hv
      exact ⟨ad, n, c, e1, fun m => by show (rhoS L (3 * k + 2)).v = _; rw [rho2_at]; exact e2⟩
/-- A function carried out on slots. -/
theorem slots_con (L : List Slot) (hmix : P.follows .mixedOrders = true) {F : List Fact} {T : List Ent} {f : FuncId} {pats : List AVal} {res : AVal} {Rs : List (World → Value → Prop)} {R : World → Value → Prop}
    (h : symB (Env.sy P (tabsL A L) F) T f pats res = true) (hF : ∀ f ∈ F, @FactOk ⟨rhoS L⟩ f) (hT : ∀ e ∈ T, @EntOk ⟨rhoS L⟩ P (tabsL A L) e ∧ okPs e.args = true) (hp : (okPs pats && okP res) = true)
    (hin : ∀ w vs, All2 Rs w vs → @Mts ⟨rhoS L⟩ (tabsL A L) w pats vs) (hout : ∀ w v, @Mt ⟨rhoS L⟩ (tabsL A L) w res v → R w v) : Con P A f Rs R := fun S w vals hlim hA hargs => by
  simp only [Bool.and_eq_true] at hp
  have e := @sym_ok ⟨rhoS L⟩ P (tabsL A L) hmix F T (fun _ _ _ h => h) rfl hF lenL_ok hT f pats res hp.1 hp.2 h
  refine (e S w vals hlim (fun w' hw' v => hA w' hw') fun w' hw' => hin _ _ (hargs w' hw')).mono ?_
  rintro en w' ⟨x, h1, h2, h3⟩
  exact ⟨x, h1, fun w2 hw2 => hout _ _ (h2 w2 hw2), h3⟩
/-- A contract as a row of the table of calls. -/
theorem slots_ent {f : FuncId} {pats : List AVal} {res : AVal} {Rs : List (World → Value → Prop)} {R : World → Value → Prop} (h : Con P A f Rs R)
    (hin : ∀ w vs, @Mts ⟨rhoS L⟩ (tabsL A L) w pats vs → All2 Rs w vs) (hout : ∀ w v, R w v → @Mt ⟨rhoS L⟩ (tabsL A L) w res v) : @EntOk ⟨rhoS L⟩ P (tabsL A L) ⟨f, pats, res⟩ := fun S w vals hlim hA hargs => by
  refine (h S w vals hlim (fun w' hw' => hA w' hw' .nilFunc) fun w' hw' => hin _ _ (hargs w' hw')).mono ?_
  rintro en w' ⟨x, h1, h2, h3⟩
  exact ⟨x, h1, fun w2 hw2 => hout _ _ (h2 w2 hw2), h3⟩
/-- A slot that is a value alone. -/
def valS (v : OneVal) : Slot := ⟨fun _ _ => False, fun _ _ h => h.elim, v, default, default, false, fun h => by cases h⟩
def intV (k : IntKind) (z : Int) : OneVal := ⟨.int k z, rfl⟩
def boolV (b : Bool) : OneVal := ⟨.bool b, rfl⟩
theorem gam0 {j : Nat} {x : Value} (h : (nthS L j).v0.v = x) : ∀ m : Mp, @γ ⟨rhoS L⟩ m (s0 j) = x := fun m => by
  show (rhoS L (3 * j)).v = x
  rw [rho0_at]; exact h
theorem gam1 {j : Nat} {x : Value} (h : (nthS L j).v1.v = x) : ∀ m : Mp, @γ ⟨rhoS L⟩ m (s1 j) = x := fun m => by
  show (rhoS L (3 * j + 1)).v = x
  rw [rho1_at]; exact h
theorem gam2 {j : Nat} {x : Value} (h : (nthS L j).v2.v = x) : ∀ m : Mp, @γ ⟨rhoS L⟩ m (s2 j) = x := fun m => by
  show (rhoS L (3 * j + 2)).v = x
  rw [rho2_at]; exact h
theorem into0 {j : Nat} {x : Value} (h : (nthS L j).v0.v = x) : @Into ⟨rhoS L⟩ (tabsL A L) (IsV x) (s0 j) := fun w v e => by
  show v = (rhoS L (3 * j)).v
  rw [rho0_at, h]; exact e
theorem outo0 {j : Nat} {x : Value} (h : (nthS L j).v0.v = x) : @Outo ⟨rhoS L⟩ (tabsL A L) (s0 j) (IsV x) := fun w v e => by
  have e' : v = (rhoS L (3 * j)).v := e
  rw [rho0_at, h] at e'; exact e'
theorem into1 {j : Nat} {x : Value} (h : (nthS L j).v1.v = x) : @Into ⟨rhoS L⟩ (tabsL A L) (IsV x) (s1 j) := fun w v e => by
  show v = (rhoS L (3 * j + 1)).v
  rw [rho1_at, h]; exact e
theorem outo1 {j : Nat} {x : Value} (h : (nthS L j).v1.v = x) : @Outo ⟨rhoS L⟩ (tabsL A L) (s1 j) (IsV x) := fun w v e => by
  have e' : v = (rhoS L (3 * j + 1)).v := e
  rw [rho1_at, h] at e'; exact e'
theorem intoA {j : Nat} {R : World → Value → Prop} (h : (nthS L j).sem = R) : @Into ⟨rhoS L⟩ (tabsL A L) R (sA j) := fun w v e =>
  ⟨(nthS L j).one w v (by rw [h]; exact e), by rw [sem_at, h]; exact e⟩
theorem outoA {j : Nat} {R : World → Value → Prop} (h : (nthS L j).sem = R) : @Outo ⟨rhoS L⟩ (tabsL A L) (sA j) R := fun w v e => by
  have := e.2
  rw [sem_at, h] at this; exact this
/-- A struct of two cells, of three. -/
def Agg2 (R1 R2 : World → Value → Prop) : World → Value → Prop := fun w v => ∃ a b, v = .agg #[a, b] ∧ R1 w a ∧ R2 w b
def Agg3 (R1 R2 R3 : World → Value → Prop) : World → Value → Prop := fun w v => ∃ a b c, v = .agg #[a, b, c] ∧ R1 w a ∧ R2 w b ∧ R3 w c
variable {ri : Rho} {G : Tabs} {p1 p2 p3 : AVal} {R1 R2 R3 R R' : World → Value → Prop}
theorem into_agg2 (h1 : Into G R1 p1) (h2 : Into G R2 p2) : Into G (Agg2 R1 R2) (.agg [p1, p2]) := by
  rintro w v ⟨a, b, rfl, ha, hb⟩
  exact ⟨[a, b], rfl, a, [b], rfl, h1 w a ha, b, [], rfl, h2 w b hb, rfl⟩
theorem outo_agg2 (h1 : Outo G p1 R1) (h2 : Outo G p2 R2) : Outo G (.agg [p1, p2]) (Agg2 R1 R2) := by
  rintro w v ⟨vs, rfl, a, vs', rfl, ha, b, vs2, rfl, hb, rfl⟩
  exact ⟨a, b, rfl, h1 w a ha, h2 w b hb⟩
theorem into_agg3 (h1 : Into G R1 p1) (h2 : Into G R2 p2) (h3 : Into G R3 p3) : Into G (Agg3 R1 R2 R3) (.agg [p1, p2, p3]) := by
  rintro w v ⟨a, b, c, rfl, ha, hb, hc⟩
  exact ⟨[a, b, c], rfl, a, [b, c], rfl, h1 w a ha, b, [c], rfl, h2 w b hb, c, [], rfl, h3 w c hc, rfl⟩
theorem outo_agg3 (h1 : Outo G p1 R1) (h2 : Outo G p2 R2) (h3 : Outo G p3 R3) : Outo G (.agg [p1, p2, p3]) (Agg3 R1 R2 R3) := by
  rintro w v ⟨vs, rfl, a, vs', rfl, ha, b, vs2, rfl, hb, c, vs3, rfl, hc, rfl⟩
  exact ⟨a, b, c, rfl, h1 w a ha, h2 w b hb, h3 w c hc⟩
theorem Into.of {p : AVal} (h : Into G R p) (hr : ∀ w v, R' w v → R w v) : Into G R' p := fun w v e => h w v (hr w v e)
theorem Outo.to {p : AVal} (h : Outo G p R) (hr : ∀ w v, R w v → R' w v) : Outo G p R' := fun w v e => hr w v (h w v e)
end
end Go.Ev
