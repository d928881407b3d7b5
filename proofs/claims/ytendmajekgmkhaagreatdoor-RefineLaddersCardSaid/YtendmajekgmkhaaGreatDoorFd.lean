/- The evaluator of closed calls, part Fd: what the program computes on given inputs, read by the kernel; sound in every world (part Gh). -/
import Derived.Test.YtendmajekgmkhaaGreatDoorFc
set_option linter.unusedVariables false
set_option linter.unusedSimpArgs false
set_option linter.unnecessarySimpa false
namespace Go.Ev

theorem seg_take {α : Type} (A vs : List α) (off t : Nat) (h : off + vs.length ≤ A.length) (ht : t ≤ off) : (A.take off ++ (vs ++ A.drop (off + vs.length))).take t = A.take t := by
  rw [List.take_append_of_le_length (by simp; omega), List.take_take, Nat.min_eq_left ht]
theorem seg_length {α : Type} (A vs : List α) (off : Nat) (h : off + vs.length ≤ A.length) : (A.take off ++ (vs ++ A.drop (off + vs.length))).length = A.length := by
  simp; omega
/-- The obj of an alias, weakened, over a row that was written at or behind 'off'. -/
theorem alias_kept {m : Mp} {k : Pos} {l : List AVal} {e s : TypeId} {A A' : List Value} {e' : TypeId} {fz : Nat × Nat} {off : Nat}
    (hb : BlkObj m k (.cells l e s) (.cells ⟨A⟩ e' fz)) (hlen : A'.length = A.length) (ht : ∀ t, t ≤ off → A'.take t = A.take t) :
    BlkObj m k (.cells (l.take off) e s) (.cells ⟨A'⟩ e' fz) := by
  obtain ⟨rest, fz', h1, h2, h3⟩ := hb
  simp only [Obj.cells.injEq, Array.mk.injEq] at h1
  obtain ⟨rfl, rfl, rfl⟩ := h1
  have hl : (γs m (l.take off)).length = min off l.length := by simp [γs_length]
  have e1 : γs m (l.take off) = A'.take (min off l.length) := by
    rw [ht _ (Nat.min_le_left _ _), List.take_append_of_le_length (by rw [γs_length]; exact Nat.min_le_right _ _), γs_map, γs_map, ← List.map_take]
    congr 1
    rcases Nat.le_total off l.length with h | h
    · rw [Nat.min_eq_left h]
    · rw [Nat.min_eq_right h, List.take_of_length_le h, List.take_of_length_le (Nat.le_refl _)]
  have e2 : γs m (l.take off) ++ A'.drop (min off l.length) = A' := by rw [e1, List.take_append_drop]
  exact ⟨A'.drop (min off l.length), fz, by rw [e2], by rw [e2, hlen]; exact h2, by rw [e2, hlen]; exact h3⟩

section
variable {G : Tabs} {m : Mp} {h : Heap} {w : World}
/-- The memory behind a write to the row of n: its fellows may have forgotten. -/
theorem Rep.wrote (r : Rep G m h w) {n : Pos} {x y : List AVal} {e s : TypeId} {off : Nat} {vs : List Value} {rest : List Value} {fz : Nat × Nat} {h' : Heap}
    (ho : (h.at n).obj = .cells x e s) (hh : w.heap[m.b n]? = some (.cells ⟨γs m x ++ rest⟩ e fz)) (hc : (γs m x ++ rest).length = m.c n * s)
    (hf : ∀ j, j < (γs m x ++ rest).length → ¬ (fz.1 ≤ j ∧ j < fz.2))
    (hle : off + vs.length ≤ (γs m x ++ rest).length)
    (hy : ∃ rest', γs m y ++ rest' = (γs m x ++ rest).take off ++ (vs ++ (γs m x ++ rest).drop (off + vs.length))) (hin : InL (dom h) y)
    (h1 : (h'.at n) = ⟨.cells y e s, (h.at n).rt⟩)
    (h2 : ∀ k, k ≠ n → (h'.at k).rt = (h.at k).rt ∧ ((h'.at k).obj = (h.at k).obj ∨ ∃ x e s, (h.at k).obj = .cells x e s ∧ (h'.at k).obj = .cells (x.take off) e s))
    (h3 : ∀ k, k ≠ n → dom h k → (h.at k).rt = (h.at n).rt → ∀ x e s, (h.at k).obj = .cells x e s → (h'.at k).obj = .cells (x.take off) e s)
    (hnx : h'.nx = h.nx) (hal : h'.al = h.al) :
    let w' := w.setRow (m.b n) ((γs m x ++ rest).take off ++ (vs ++ (γs m x ++ rest).drop (off + vs.length))).toArray
    Rep G m h' w' ∧ Goes m h w m h' w' ∧ ∀ k, dom h' k ↔ dom h k := by
  intro w'
  have hdn : dom h n := by unfold dom; rw [ho]; simp
  have hdom : ∀ k, dom h' k ↔ dom h k := fun k => by
    by_cases hk : k = n
    · subst hk; unfold dom; rw [h1, ho]; simp
    · unfold dom
      rcases (h2 k hk).2 with h4 | ⟨x, e, s, h4, h5⟩
      · rw [h4]
      · rw [h4, h5]; simp
  have hrt : ∀ k, (h'.at k).rt = (h.at k).rt := fun k => by
    by_cases hk : k = n
    · subst hk; rw [h1]
    · exact (h2 k hk).1
  have hself : w'.heap[m.b n]? = some (.cells ((γs m x ++ rest).take off ++ (vs ++ (γs m x ++ rest).drop (off + vs.length))).toArray e fz) := setRow_heap w _ _ _ e fz hh
  have hother : ∀ b, b ≠ m.b n → w'.heap[b]? = w.heap[b]? := fun b hb => setRow_other w _ b _ hb
  refine ⟨⟨fun k hk => ?_, fun k hk => ?_, fun a b ha hb hne => ?_, fun a b ha hb he hne => ?_, fun k hk => ?_, fun k => ?_, ?_⟩, ⟨rfl, rfl, rfl, by simp [w'], fun b _ hn => hother b (fun e => hn n hdn e.symm), fun _ _ => ⟨rfl, rfl⟩, by rw [hnx]; exact Nat.le_refl _, fun k hk => .inl ((hdom k).1 hk), fun k hk hk' => absurd ((hdom k).1 hk) hk', fun k hk => (hdom k).2 hk⟩, hdom⟩
  · have hk0 := (hdom k).1 hk
    by_cases hkn : k = n
    · subst hkn
      refine ⟨_, hself, ?_⟩
      rw [h1]
      obtain ⟨rest', hr⟩ := hy
      have hl := seg_length (γs m x ++ rest) vs off hle
      exact ⟨rest', fz, by rw [hr], by rw [hr, hl]; exact hc, by rw [hr, hl]; exact hf⟩
    · obtain ⟨o, hb1, hb2⟩ := r.blk k hk0
      by_cases hbb : m.b k = m.b n
      · have hrr : (h.at k).rt = (h.at n).rt := by
          cases Classical.em ((h.at k).rt = (h.at n).rt) with
          | inl h => exact h
          | inr hne => exact absurd hbb (r.apart k n hk0 hdn hne)
        rw [hbb] at hb1 ⊢
        rw [hh] at hb1
        cases hb1
        refine ⟨_, hself, ?_⟩
        cases hok : (h.at k).obj with
        | cells xk ek sk =>
          rw [h3 k hkn hk0 hrr xk ek sk hok]
          rw [hok] at hb2
          exact alias_kept hb2 (seg_length _ vs off hle) (fun t ht => seg_take _ vs off t hle ht)
        | other =>
          rcases (h2 k hkn).2 with h4 | ⟨x, e, s, h4, h5⟩
          · rw [h4, hok]; trivial
          · rw [hok] at h4; cases h4
        | free => exact absurd hok hk0
        | map es cl => rw [hok] at hb2; cases hb2
        | sit _ _ => rw [hok] at hb2; cases hb2
        | mit o => cases o with
          | none => rw [hok] at hb2; cases hb2
          | some q => rw [hok] at hb2; obtain ⟨_, _, hb2⟩ := hb2; cases hb2
        | loopR => rw [hok] at hb2; obtain ⟨_, hb2, _⟩ := hb2; cases hb2
        | defN => rw [hok] at hb2; cases hb2
      · refine ⟨o, by rw [hother _ hbb]; exact hb1, ?_⟩
        rcases (h2 k hkn).2 with h4 | ⟨x, e, s, h4, h5⟩
        · rw [h4]; exact hb2
        · rw [h5]; rw [h4] at hb2; exact BlkObj_take off hb2
  · rw [hnx]; exact r.fresh k ((hdom k).1 hk)
  · rw [hrt, hrt] at hne; exact r.apart a b ((hdom a).1 ha) ((hdom b).1 hb) hne
  · rw [hrt, hrt] at he; rw [hrt, hal]
    obtain ⟨e1, e2⟩ := r.mem a b ((hdom a).1 ha) ((hdom b).1 hb) he hne
    refine ⟨e1, ?_⟩
    by_cases hkn : a = n
    · subst hkn; rw [h1]; rfl
    · rcases (h2 a hkn).2 with h4 | ⟨x, e, s, h4, h5⟩
      · rw [h4]; exact e2
      · rw [h5]; rfl
  · rw [hnx, hrt]; exact ⟨(r.rts k ((hdom k).1 hk)).1, (hdom _).2 (r.rts k ((hdom k).1 hk)).2⟩
  · have mono : ∀ n, dom h n → dom h' n := fun n hn => (hdom n).2 hn
    by_cases hkn : k = n
    · subst hkn; rw [h1]; exact InL_mono mono _ hin
    · rcases (h2 k hkn).2 with h4 | ⟨x, e, s, h4, h5⟩
      · rw [h4]; exact InObj_mono mono (r.ins k)
      · rw [h5]
        have := r.ins k
        rw [h4] at this
        exact InL_mono mono _ ((InL_iff _).2 fun v hv => (InL_iff _).1 this v (List.mem_of_mem_take hv))
  · exact glob_kept r.glob (fun b _ hn => hother b (fun e => hn n hdn e.symm)) fun k hk => .inl ⟨k, (hdom k).1 hk, rfl⟩

theorem Rep.store (r : Rep G m h w) {n : Pos} {off : Nat} {vs : List AVal} {h' : Heap} (hs : h.store n off vs = some h') (hin : InL (dom h) vs) (P : Program) :
    ∃ w', (storeCells ⟨m.b n, off, none⟩ (γs m vs)).run P w = .ok () w' ∧ Rep G m h' w' ∧ Goes m h w m h' w' ∧ h'.df = h.df ∧ ∀ k, dom h' k ↔ dom h k := by
  unfold Heap.store at hs
  obtain ⟨x, e, s, ho, hk⟩ := cellsOf_some hs
  cases hfl : flats vs with
  | false => rw [hfl] at hk; cases hk
  | true =>
    rw [hfl] at hk
    simp only [cond_true] at hk
    cases hov : overA vs off x with
    | none => rw [hov] at hk; cases hk
    | some y =>
      rw [hov] at hk
      simp only at hk
      obtain ⟨hle, hy⟩ := overA_spec vs off x y hov
      obtain ⟨hd, hix, rest, fz, hh, hc, hf⟩ := r.cells ho
      have hle' : off + (γs m vs).length ≤ (γs m x ++ rest).length := by simp [γs_length]; omega
      have hyy : γs m y ++ rest = (γs m x ++ rest).take off ++ (γs m vs ++ (γs m x ++ rest).drop (off + (γs m vs).length)) := by
        rw [hy, γs_append, γs_append, List.take_append_of_le_length (by rw [γs_length]; omega), List.drop_append_of_le_length (by rw [γs_length, γs_length]; omega)]
        simp only [γs_map, List.map_take, List.map_drop, List.length_map, List.append_assoc]
      have hiny : InL (dom h) y := by
        rw [hy]
        refine (InL_iff _).2 fun v hv => ?_
        rcases List.mem_append.1 hv with hv | hv
        · exact (InL_iff _).1 hix v (List.mem_of_mem_take hv)
        · rcases List.mem_append.1 hv with hv | hv
          · exact (InL_iff _).1 hin v hv
          · exact (InL_iff _).1 hix v (List.mem_of_mem_drop hv)
      have hrun := run_storeCells_nf P (m.b n) off e fz (γs m vs) 0 ⟨γs m x ++ rest⟩ w hh hf (by simpa using hle') (flats_spec m vs hfl)
      refine ⟨_, hrun, ?_⟩
      simp only [Nat.add_zero]
      rw [show ((γs m x ++ rest).take off ++ γs m vs ++ (γs m x ++ rest).drop (off + (γs m vs).length)) = (γs m x ++ rest).take off ++ (γs m vs ++ (γs m x ++ rest).drop (off + (γs m vs).length)) by simp]
      cases hal : h.al.get [] (h.at n).rt with
      | nil =>
        rw [hal] at hk
        simp only [Option.some.injEq] at hk
        subst hk
        have hat : ∀ k, (Heap.at ⟨h.put n ⟨.cells y e s, (h.at n).rt⟩, h.nx, h.al, h.df⟩ k) = if n = k then ⟨.cells y e s, (h.at n).rt⟩ else h.at k := fun k => DTree.get_set _ _ _ _
        obtain ⟨a, b, c⟩ := r.wrote (h' := ⟨h.put n ⟨.cells y e s, (h.at n).rt⟩, h.nx, h.al, h.df⟩) ho hh hc hf hle' ⟨rest, hyy⟩ hiny (by rw [hat, if_pos rfl]) (fun k hk => by rw [hat, if_neg (Ne.symm hk)]; exact ⟨rfl, .inl rfl⟩)
          (fun k hk hdk hr => by have := (r.mem n k hd hdk hr.symm (Ne.symm hk)).1; rw [hal] at this; cases this) rfl rfl
        exact ⟨a, b, rfl, c⟩
      | cons q l =>
        rw [hal] at hk
        simp only [Option.some.injEq] at hk
        subst hk
        have hat : ∀ k, (h.put n ⟨.cells y e s, (h.at n).rt⟩).get noCell k = if n = k then ⟨.cells y e s, (h.at n).rt⟩ else h.at k := fun k => DTree.get_set _ _ _ _
        have fa := fun k => forget_at off n (q :: l) (h.put n ⟨.cells y e s, (h.at n).rt⟩) k
        obtain ⟨a, b, c⟩ := r.wrote (h' := ⟨forget off n (q :: l) (h.put n ⟨.cells y e s, (h.at n).rt⟩), h.nx, h.al, h.df⟩) ho hh hc hf hle' ⟨rest, hyy⟩ hiny
          (by
            have f := fa n
            rw [hat, if_pos rfl] at f
            show (forget off n (q :: l) (h.put n ⟨.cells y e s, (h.at n).rt⟩)).get noCell n = _
            generalize (forget off n (q :: l) (h.put n ⟨.cells y e s, (h.at n).rt⟩)).get noCell n = c at f ⊢
            obtain ⟨f1, _, _, f4⟩ := f
            cases c; simp_all)
          (fun k hk => by have f := fa k; rw [hat, if_neg (Ne.symm hk)] at f; exact ⟨f.1, f.2.1⟩)
          (fun k hk hdk hr x' e' s' hx => by
            have f := fa k
            rw [hat, if_neg (Ne.symm hk)] at f
            have hm := (r.mem k n hdk hd hr hk).1
            rw [hr, hal] at hm
            exact f.2.2.1 hm hk x' e' s' hx) rfl rfl
        exact ⟨a, b, rfl, c⟩

/-! ### New memory -/
theorem Heap.at_new (h : Heap) (o : AObj) (k : Pos) : (h.new o).at k = if h.nx = k then ⟨o, h.nx⟩ else h.at k := DTree.get_set _ _ _ _
theorem Rep.nx_free (r : Rep G m h w) : (h.at h.nx).obj = .free := by
  cases Classical.em (dom h h.nx) with
  | inl hd => exact absurd (r.fresh _ hd) (Nat.lt_irrefl _)
  | inr hd => exact Classical.not_not.1 hd
theorem Mp.set_b_same (m : Mp) (n : Pos) (a b : Nat) : (m.set n a b).b n = a := by simp [Mp.set]
theorem Mp.set_c_same (m : Mp) (n : Pos) (a b : Nat) : (m.set n a b).c n = b := by simp [Mp.set]
theorem Mp.set_other (m : Mp) {n k : Pos} (a b : Nat) (h : k ≠ n) : (m.set n a b).b k = m.b k ∧ (m.set n a b).c k = m.c k := by simp [Mp.set, h]
/-- A world with one block more. -/
def Pushed (w : World) (o : Obj) (w' : World) : Prop := w'.heap = w.heap.push o ∧ w'.tape = w.tape ∧ w'.os = w.os ∧ w'.output = w.output
theorem Rep.pushed (r : Rep G m h w) {ob : AObj} {o : Obj} {w' : World} {cap : Nat} (hp : Pushed w o w') (hne : ob ≠ .free)
    (hb : BlkObj (m.set h.nx w.heap.size cap) h.nx ob o) (hi : InObj (dom h) ob) :
    Rep G (m.set h.nx w.heap.size cap) (h.new ob) w' ∧ Goes m h w (m.set h.nx w.heap.size cap) (h.new ob) w' ∧ dom (h.new ob) h.nx := by
  obtain ⟨hp1, hp2, hp3, hp4⟩ := hp
  have hat := Heap.at_new h ob
  have hlt : ∀ k, dom h k → m.b k < w.heap.size := fun k hk => by obtain ⟨o, h1, _⟩ := r.blk k hk; exact (Array.getElem?_eq_some_iff.1 h1).1
  have hne' : ∀ k, dom h k → k ≠ h.nx := fun k hk e => by have := r.fresh k hk; rw [e] at this; exact Nat.lt_irrefl _ this
  have hag : ∀ k, dom h k → (m.set h.nx w.heap.size cap).b k = m.b k ∧ (m.set h.nx w.heap.size cap).c k = m.c k := fun k hk => Mp.set_other m _ _ (hne' k hk)
  have hdn : dom (h.new ob) h.nx := by unfold dom; rw [hat, if_pos rfl]; exact hne
  have hold : ∀ k, dom h k → dom (h.new ob) k := fun k hk => by unfold dom; rw [hat, if_neg (fun e => hne' k hk e.symm)]; exact hk
  have hcase : ∀ k, dom (h.new ob) k → k = h.nx ∨ (k ≠ h.nx ∧ dom h k) := fun k hk => by
    by_cases e : k = h.nx
    · exact .inl e
    · refine .inr ⟨e, ?_⟩; unfold dom at hk; rw [hat, if_neg (Ne.symm e)] at hk; exact hk
  have hatn : (h.new ob).at h.nx = ⟨ob, h.nx⟩ := by rw [hat, if_pos rfl]
  have hato : ∀ k, k ≠ h.nx → (h.new ob).at k = h.at k := fun k hk => by rw [hat, if_neg (Ne.symm hk)]
  have hnx : (h.new ob).nx.n = h.nx.n + 1 := Pos.n_succ _
  refine ⟨⟨fun k hk => ?_, fun k hk => ?_, fun a b ha hb' hr => ?_, fun a b ha hb' hr hab => ?_, fun k hk => ?_, fun k => ?_, ?_⟩,
    ⟨hp2, hp3, hp4, by rw [hp1]; simp, fun b hb' _ => by rw [hp1, Array.getElem?_push, if_neg (Nat.ne_of_lt hb')], fun k hk => Mp.set_other m _ _ (fun e => by rw [e] at hk; exact Nat.lt_irrefl _ hk), by rw [hnx]; omega,
      fun k hk => by rcases hcase k hk with rfl | ⟨_, h1⟩; exact .inr (Nat.le_refl _); exact .inl h1,
      fun k hk hk' => by rcases hcase k hk with rfl | ⟨_, h1⟩; exact .inl (by rw [Mp.set_b_same]; exact Nat.le_refl _); exact absurd h1 hk', hold⟩, hdn⟩
  · rcases hcase k hk with rfl | ⟨hkn, h1⟩
    · refine ⟨o, by rw [Mp.set_b_same, hp1]; simp, ?_⟩
      rw [hatn]; exact hb
    · obtain ⟨o', h2, h3⟩ := r.blk k h1
      refine ⟨o', by rw [(hag k h1).1, hp1, Array.getElem?_push, if_neg (Nat.ne_of_lt (hlt k h1))]; exact h2, ?_⟩
      rw [hato k hkn]
      exact BlkObj_congr hag (r.ins k) (hag k h1).2 h3
  · rw [hnx]
    rcases hcase k hk with rfl | ⟨_, h1⟩
    · omega
    · have := r.fresh k h1; omega
  · rcases hcase a ha with rfl | ⟨han, h1⟩ <;> rcases hcase b hb' with rfl | ⟨hbn, h2⟩
    · exact absurd rfl hr
    · rw [Mp.set_b_same, (hag b h2).1]; have := hlt b h2; omega
    · rw [Mp.set_b_same, (hag a h1).1]; have := hlt a h1; omega
    · rw [(hag a h1).1, (hag b h2).1]; rw [hato a han, hato b hbn] at hr; exact r.apart a b h1 h2 hr
  · show a ∈ h.al.get [] _ ∧ _
    rcases hcase a ha with rfl | ⟨han, h1⟩ <;> rcases hcase b hb' with rfl | ⟨hbn, h2⟩
    · exact absurd rfl hab
    · rw [hatn, hato b hbn] at hr; have := (r.rts b h2).1; rw [← hr] at this; exact absurd this (Nat.lt_irrefl _)
    · rw [hatn, hato a han] at hr; have := (r.rts a h1).1; rw [hr] at this; exact absurd this (Nat.lt_irrefl _)
    · rw [hato a han] at hr ⊢; rw [hato b hbn] at hr; exact r.mem a b h1 h2 hr hab
  · rw [hnx]
    rcases hcase k hk with rfl | ⟨hkn, h1⟩
    · rw [hatn]; exact ⟨Nat.lt_succ_self _, hdn⟩
    · rw [hato k hkn]; have := r.rts k h1; exact ⟨Nat.lt_succ_of_lt this.1, hold _ this.2⟩
  · by_cases hkn : k = h.nx
    · subst hkn; rw [hatn]; exact InObj_mono hold hi
    · rw [hato k hkn]; exact InObj_mono hold (r.ins k)
  · exact glob_kept r.glob (fun b hb' _ => by rw [hp1, Array.getElem?_push, if_neg (Nat.ne_of_lt hb')]) fun k hk => by
      rcases hcase k hk with rfl | ⟨_, h1⟩
      · exact .inr (by rw [Mp.set_b_same]; exact Nat.le_refl _)
      · exact .inl ⟨k, h1, (hag k h1).1⟩

/-! ### Other objects are changed -/
theorem Heap.at_setObj (h : Heap) (n : Pos) (o : AObj) (k : Pos) : (h.setObj n o).at k = if n = k then ⟨o, (h.at n).rt⟩ else h.at k := DTree.get_set _ _ _ _
/-- No cells, and no fellow. -/
def AObj.noCells : AObj → Bool
  | .cells .. => false
  | .free => false
  | .other => false
  | _ => true
theorem isC_noCells {o : AObj} (h1 : o.isC = true) (h2 : o.noCells = true) : False := by cases o <;> simp [AObj.isC, AObj.noCells] at h1 h2
theorem Rep.noCells_alone (r : Rep G m h w) {n : Pos} (hn : (h.at n).obj.noCells = true) (ob : AObj) (o : Obj) {w' : World}
    (hne : ob ≠ .free) (hb : BlkObj m n ob o) (hi : InObj (dom h) ob)
    (hw : w'.heap = w.heap.setIfInBounds (m.b n) o) (ht : w'.tape = w.tape) (hos : w'.os = w.os) (hout : w'.output = w.output) :
    Rep G m (h.setObj n ob) w' ∧ Goes m h w m (h.setObj n ob) w' ∧ ∀ k, dom (h.setObj n ob) k ↔ dom h k := by
  have hdn : dom h n := by unfold dom; intro e; rw [e] at hn; cases hn
  have hat := Heap.at_setObj h n ob
  have hone : ∀ k, dom h k → k ≠ n → m.b k ≠ m.b n := fun k hk hkn e => by
    cases Classical.em ((h.at n).rt = (h.at k).rt) with
    | inl h0 => exact isC_noCells (r.mem n k hdn hk h0 (Ne.symm hkn)).2 hn
    | inr h0 => exact r.apart n k hdn hk h0 e.symm
  have hdom : ∀ k, dom (h.setObj n ob) k ↔ dom h k := fun k => by
    unfold dom; rw [hat]
    by_cases e : n = k
    · subst e; rw [if_pos rfl]; exact ⟨fun _ => hdn, fun _ => hne⟩
    · rw [if_neg e]
  have hrt : ∀ k, ((h.setObj n ob).at k).rt = (h.at k).rt := fun k => by
    rw [hat]; by_cases e : n = k
    · subst e; rw [if_pos rfl]
    · rw [if_neg e]
  have hlt : m.b n < w.heap.size := by obtain ⟨o, h1, _⟩ := r.blk n hdn; exact (Array.getElem?_eq_some_iff.1 h1).1
  have hoth : ∀ b, b ≠ m.b n → w'.heap[b]? = w.heap[b]? := fun b hb => by rw [hw, Array.getElem?_setIfInBounds_ne (Ne.symm hb)]
  refine ⟨⟨fun k hk => ?_, fun k hk => r.fresh k ((hdom k).1 hk), fun a b ha hb' hr => ?_, fun a b ha hb' hr hab => ?_, fun k hk => ?_, fun k => ?_, glob_kept r.glob (fun b _ hn' => hoth b (fun e => hn' n hdn e.symm)) fun k hk => .inl ⟨k, (hdom k).1 hk, rfl⟩⟩,
    ⟨ht, hos, hout, by rw [hw]; simp, fun b _ hn' => hoth b (fun e => hn' n hdn e.symm), fun _ _ => ⟨rfl, rfl⟩, Nat.le_refl _, fun k hk => .inl ((hdom k).1 hk), fun k hk hk' => absurd ((hdom k).1 hk) hk', fun k hk => (hdom k).2 hk⟩, hdom⟩
  · by_cases e : k = n
    · subst e; refine ⟨o, by rw [hw]; simp [hlt], ?_⟩; rw [hat, if_pos rfl]; exact hb
    · obtain ⟨o', h1, h2⟩ := r.blk k ((hdom k).1 hk)
      refine ⟨o', by rw [hoth _ (hone k ((hdom k).1 hk) e)]; exact h1, ?_⟩
      rw [hat, if_neg (Ne.symm e)]; exact h2
  · rw [hrt, hrt] at hr; exact r.apart a b ((hdom a).1 ha) ((hdom b).1 hb') hr
  · rw [hrt, hrt] at hr; rw [hrt]
    obtain ⟨e1, e2⟩ := r.mem a b ((hdom a).1 ha) ((hdom b).1 hb') hr hab
    refine ⟨e1, ?_⟩
    rw [hat]
    by_cases e : n = a
    · subst e; exact (isC_noCells e2 hn).elim
    · rw [if_neg e]; exact e2
  · rw [hrt]; exact ⟨(r.rts k ((hdom k).1 hk)).1, (hdom _).2 (r.rts k ((hdom k).1 hk)).2⟩
  · rw [hat]
    by_cases e : n = k
    · subst e; rw [if_pos rfl]; exact InObj_mono (fun k hk => (hdom k).2 hk) hi
    · rw [if_neg e]; exact InObj_mono (fun k hk => (hdom k).2 hk) (r.ins k)

/-! ### A new name in a class -/
theorem Heap.at_again (h : Heap) (n : Pos) (off : Nat) (y : List AVal) (e s : Nat) (k : Pos) :
    (h.again n off y e s).at k = if h.nx = k then ⟨.cells y e s, (h.at n).rt⟩ else (forget off h.nx (n :: h.al.get [] (h.at n).rt) h.t).get noCell k := DTree.get_set _ _ _ _
/-- The fellows of n have forgotten what lies at or behind 'off'; there 'vs' may have been written. -/
theorem Rep.forgot (r : Rep G m h w) {n : Pos} {x : List AVal} {e s : TypeId} {off : Nat} {vs : List Value} {rest : List Value} {fz : Nat × Nat}
    (ho : (h.at n).obj = .cells x e s) (hh : w.heap[m.b n]? = some (.cells ⟨γs m x ++ rest⟩ e fz)) (hc : (γs m x ++ rest).length = m.c n * s)
    (hf : ∀ j, j < (γs m x ++ rest).length → ¬ (fz.1 ≤ j ∧ j < fz.2))
    (hox : off ≤ x.length) (hle : off + vs.length ≤ (γs m x ++ rest).length) :
    let w' := w.setRow (m.b n) ((γs m x ++ rest).take off ++ (vs ++ (γs m x ++ rest).drop (off + vs.length))).toArray
    let h' : Heap := ⟨forget off h.nx (n :: h.al.get [] (h.at n).rt) h.t, h.nx, h.al, h.df⟩
    Rep G m h' w' ∧ Goes m h w m h' w' ∧ (∀ k, dom h' k ↔ dom h k) ∧ h'.at n = ⟨.cells (x.take off) e s, (h.at n).rt⟩ ∧ (∀ k, (h'.at k).rt = (h.at k).rt) := by
  intro w' h'
  have hd : dom h n := (r.cells ho).1
  have hix := (r.cells ho).2.1
  have fa := fun k => forget_at off h.nx (n :: h.al.get [] (h.at n).rt) h.t k
  have hnn : n ≠ h.nx := fun e => by have := r.fresh n hd; rw [e] at this; exact Nat.lt_irrefl _ this
  have e1 : h'.at n = ⟨.cells (x.take off) e s, (h.at n).rt⟩ := by
    obtain ⟨f1, _, f3, _⟩ := fa n
    have f4 := f3 (List.mem_cons_self ..) hnn x e s ho
    show (forget off h.nx (n :: h.al.get [] (h.at n).rt) h.t).get noCell n = _
    have f1' : ((forget off h.nx (n :: h.al.get [] (h.at n).rt) h.t).get noCell n).rt = (h.at n).rt := f1
    generalize (forget off h.nx (n :: h.al.get [] (h.at n).rt) h.t).get noCell n = c at f1' f4 ⊢
    cases c; simp_all
  obtain ⟨a, b, c⟩ := r.wrote (h' := h') (y := x.take off) ho hh hc hf hle
    ⟨((γs m x ++ rest).take off ++ (vs ++ (γs m x ++ rest).drop (off + vs.length))).drop off, by
      have : γs m (x.take off) = ((γs m x ++ rest).take off ++ (vs ++ (γs m x ++ rest).drop (off + vs.length))).take off := by
        rw [seg_take _ _ _ _ hle (Nat.le_refl _), List.take_append_of_le_length (by rw [γs_length]; exact hox), γs_map, γs_map, List.map_take]
      rw [this, List.take_append_drop]⟩
    ((InL_iff _).2 fun v hv => (InL_iff _).1 hix v (List.mem_of_mem_take hv)) e1
    (fun k hk => ⟨(fa k).1, (fa k).2.1⟩)
    (fun k hk hdk hr x' e' s' hx => by
      have hm := (r.mem k n hdk hd hr hk).1
      rw [hr] at hm
      exact (fa k).2.2.1 (List.mem_cons_of_mem _ hm) (fun e => by have := r.fresh k hdk; rw [e] at this; exact Nat.lt_irrefl _ this) x' e' s' hx) rfl rfl
  exact ⟨a, b, c, e1, fun k => (fa k).1⟩
/-- A name more in the class of n: at the block of n, or at a new one. -/
theorem Rep.named (r : Rep G m h w) {n : Pos} {y : List AVal} {e s : TypeId} {w' : World} {B cap : Nat} {o : Obj} {l : List Pos}
    (hd : dom h n) (hcn : (h.at n).obj.isC = true) (hl : l = h.al.get [] (h.at n).rt)
    (hB : B = m.b n ∨ B = w.heap.size) (hsz : w.heap.size ≤ w'.heap.size) (hBo : w'.heap[B]? = some o) (hkeep : ∀ b, b < w.heap.size → w'.heap[b]? = w.heap[b]?)
    (ht : w'.tape = w.tape) (hos : w'.os = w.os) (hout : w'.output = w.output)
    (hb : BlkObj (m.set h.nx B cap) h.nx (.cells y e s) o) (hi : InL (dom h) y) :
    let h' : Heap := ⟨h.t.set noCell ⟨.cells y e s, (h.at n).rt⟩ h.nx, h.nx.succ, h.al.set [] (h.nx :: n :: l) (h.at n).rt, h.df⟩
    Rep G (m.set h.nx B cap) h' w' ∧ Goes m h w (m.set h.nx B cap) h' w' ∧ dom h' h.nx := by
  intro h'
  have hat : ∀ k, h'.at k = if h.nx = k then ⟨.cells y e s, (h.at n).rt⟩ else h.at k := fun k => DTree.get_set _ _ _ _
  have halat : ∀ k, h'.al.get [] k = if (h.at n).rt = k then h.nx :: n :: l else h.al.get [] k := fun k => DTree.get_set _ _ _ _
  have hlt : ∀ k, dom h k → m.b k < w.heap.size := fun k hk => by obtain ⟨o, h1, _⟩ := r.blk k hk; exact (Array.getElem?_eq_some_iff.1 h1).1
  have hne' : ∀ k, dom h k → k ≠ h.nx := fun k hk e => by have := r.fresh k hk; rw [e] at this; exact Nat.lt_irrefl _ this
  have hag : ∀ k, dom h k → (m.set h.nx B cap).b k = m.b k ∧ (m.set h.nx B cap).c k = m.c k := fun k hk => Mp.set_other m _ _ (hne' k hk)
  have hatn : h'.at h.nx = ⟨.cells y e s, (h.at n).rt⟩ := by rw [hat, if_pos rfl]
  have hato : ∀ k, k ≠ h.nx → h'.at k = h.at k := fun k hk => by rw [hat, if_neg (Ne.symm hk)]
  have hdn : dom h' h.nx := by unfold dom; rw [hatn]; simp
  have hold : ∀ k, dom h k → dom h' k := fun k hk => by unfold dom; rw [hato k (hne' k hk)]; exact hk
  have hcase : ∀ k, dom h' k → k = h.nx ∨ (k ≠ h.nx ∧ dom h k) := fun k hk => by
    by_cases e : k = h.nx
    · exact .inl e
    · refine .inr ⟨e, ?_⟩; unfold dom at hk; rw [hato k e] at hk; exact hk
  have hnx : h'.nx.n = h.nx.n + 1 := Pos.n_succ _
  have hbB : ∀ k, dom h k → (h.at k).rt ≠ (h.at n).rt → m.b k ≠ B := fun k hk hr => by
    rcases hB with rfl | rfl
    · exact r.apart k n hk hd hr
    · exact Nat.ne_of_lt (hlt k hk)
  have hin : ∀ k, dom h k → (h.at k).rt = (h.at n).rt → k ∈ n :: l ∧ (h.at k).obj.isC = true := fun k hk hr => by
    by_cases e : k = n
    · subst e; exact ⟨List.mem_cons_self .., hcn⟩
    · have := r.mem k n hk hd hr e
      rw [hr, ← hl] at this
      exact ⟨List.mem_cons_of_mem _ this.1, this.2⟩
  refine ⟨⟨fun k hk => ?_, fun k hk => ?_, fun a b ha hb' hr => ?_, fun a b ha hb' hr hab => ?_, fun k hk => ?_, fun k => ?_, ?_⟩,
    ⟨ht, hos, hout, hsz, fun b hb' _ => hkeep b hb', fun k hk => Mp.set_other m _ _ (fun e => by rw [e] at hk; exact Nat.lt_irrefl _ hk), by rw [hnx]; omega,
      fun k hk => by rcases hcase k hk with rfl | ⟨_, h1⟩; exact .inr (Nat.le_refl _); exact .inl h1,
      fun k hk hk' => by
        rcases hcase k hk with rfl | ⟨_, h1⟩
        · rw [Mp.set_b_same]; rcases hB with rfl | rfl; exact .inr ⟨n, hd, rfl⟩; exact .inl (Nat.le_refl _)
        · exact absurd h1 hk', hold⟩, hdn⟩
  · rcases hcase k hk with rfl | ⟨hkn, h1⟩
    · refine ⟨o, by rw [Mp.set_b_same]; exact hBo, ?_⟩
      rw [hatn]; exact hb
    · obtain ⟨o', h2, h3⟩ := r.blk k h1
      refine ⟨o', by rw [(hag k h1).1, hkeep _ (hlt k h1)]; exact h2, ?_⟩
      rw [hato k hkn]
      exact BlkObj_congr hag (r.ins k) (hag k h1).2 h3
  · rw [hnx]
    rcases hcase k hk with rfl | ⟨_, h1⟩
    · omega
    · have := r.fresh k h1; omega
  · rcases hcase a ha with rfl | ⟨han, h1⟩ <;> rcases hcase b hb' with rfl | ⟨hbn, h2⟩
    · exact absurd rfl hr
    · rw [hatn, hato b hbn] at hr; rw [Mp.set_b_same, (hag b h2).1]; exact fun e => hbB b h2 (Ne.symm hr) e.symm
    · rw [hatn, hato a han] at hr; rw [Mp.set_b_same, (hag a h1).1]; exact hbB a h1 hr
    · rw [(hag a h1).1, (hag b h2).1]; rw [hato a han, hato b hbn] at hr; exact r.apart a b h1 h2 hr
  · rcases hcase a ha with rfl | ⟨han, h1⟩ <;> rcases hcase b hb' with rfl | ⟨hbn, h2⟩
    · exact absurd rfl hab
    · rw [hatn, halat, if_pos rfl]; exact ⟨List.mem_cons_self .., rfl⟩
    · rw [hatn, hato a han] at hr; rw [hato a han, halat, if_pos hr.symm]
      have := hin a h1 hr
      exact ⟨List.mem_cons_of_mem _ this.1, this.2⟩
    · rw [hato a han] at hr ⊢; rw [hato b hbn] at hr; rw [halat]
      by_cases e : (h.at n).rt = (h.at a).rt
      · rw [if_pos e]; have := hin a h1 e.symm; exact ⟨List.mem_cons_of_mem _ this.1, this.2⟩
      · rw [if_neg e]; exact r.mem a b h1 h2 hr hab
  · rw [hnx]
    rcases hcase k hk with rfl | ⟨hkn, h1⟩
    · rw [hatn]; have := r.rts n hd; exact ⟨Nat.lt_succ_of_lt this.1, hold _ this.2⟩
    · rw [hato k hkn]; have := r.rts k h1; exact ⟨Nat.lt_succ_of_lt this.1, hold _ this.2⟩
  · by_cases hkn : k = h.nx
    · subst hkn; rw [hatn]; exact InL_mono hold _ hi
    · rw [hato k hkn]; exact InObj_mono hold (r.ins k)
  · exact glob_kept r.glob (fun b hb' _ => hkeep b hb') fun k hk => by
      rcases hcase k hk with rfl | ⟨_, h1⟩
      · rw [Mp.set_b_same]; rcases hB with rfl | rfl
        · exact .inl ⟨n, hd, rfl⟩
        · exact .inr (Nat.le_refl _)
      · exact .inl ⟨k, h1, (hag k h1).1⟩
end
end Go.Ev
