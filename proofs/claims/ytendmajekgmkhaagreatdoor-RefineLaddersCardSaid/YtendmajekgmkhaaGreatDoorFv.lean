/- The evaluator of closed calls, part Fv: what the program computes on given inputs, read by the kernel; sound in every world (part Gh). -/
import Derived.Test.YtendmajekgmkhaaGreatDoorFu
set_option linter.unusedVariables false
set_option linter.unusedSimpArgs false
set_option linter.unnecessarySimpa false
namespace Go.Ev
section
variable {P : Program} {E : Env}

theorem run_getObj_of {w : World} {r : Nat} {o : Obj} (h : w.heap[r]? = some o) (hc : ∀ c e f, o ≠ .cells c e f) : (getObj r).run P w = .ok o w := by
  cases o <;> first | exact absurd rfl (hc _ _ _) | simp [getObj, Sem.run, h]
theorem run_setObj_of {w : World} {r : Nat} {o : Obj} (h : w.heap[r]? = some o) (hc : ∀ c e f, o ≠ .cells c e f) (o' : Obj) : (setObj r o').run P w = .ok () { w with heap := w.heap.setIfInBounds r o' } := by
  cases o <;> first | exact absurd rfl (hc _ _ _) | simp [setObj, Sem.run, h]
theorem range_new {m : Mp} {h : Heap} {w : World} (hr : Rep E.gl m h w) {t : TypeId} {x : Value} {ob : AObj} {o : Obj} {ρ : Operand → Value} {or : Oper} {y : Operand} (ho : or.op = .range t y) (hx : ρ y = x)
    (hrun : (Instr.range t x).run P w = .ok (.pointer (some ⟨w.heap.size, 0, none⟩)) { w with heap := w.heap.push o }) (hne : ob ≠ .free)
    (hb : ∀ m', (∀ n, dom h n → m'.b n = m.b n) → BlkObj m' h.nx ob o) (hi : InObj (dom h) ob) :
    WrGood P E m h w (execOp ρ or) (.ok (.ptr h.nx 0) (h.new ob)) := by
  have hne' : ∀ k, dom h k → k ≠ h.nx := fun k hk e => by have := hr.fresh k hk; rw [e] at this; exact Nat.lt_irrefl _ this
  obtain ⟨q1, q2, q3⟩ := hr.pushed (ob := ob) (o := o) (w' := { w with heap := w.heap.push o }) (cap := 0) ⟨rfl, rfl, rfl, rfl⟩ hne (hb _ (fun n hn => (Mp.set_other m _ _ (hne' n hn)).1)) hi
  refine ⟨_, _, .value (.pointer (some ⟨w.heap.size, 0, none⟩)), ?_, .inl ?_, q1, q2, q3, rfl⟩
  · simp only [execOp, ho, Sem.run_bind, hx, hrun, Result.andThen_ok, Sem.run_pure]
  · simp [γ, Mp.set]
theorem range_ok (ok : EnvOk P E) (t : TypeId) (x : Operand) : OpOk P E (.range t x) (opK E (.range t x)) := by
  show OpOk P E (.range t x) (match E.und t with
    | some (.map _ _) => .wr fun tm h => match (srcK E x).g tm with
      | .mapNil => .ok (.ptr h.nx 0) (h.new (.mit none))
      | .map n => match (h.at n).obj with
        | .map _ _ => .ok (.ptr h.nx 0) (h.new (.mit (some n)))
        | _ => .fail
      | _ => .fail
    | some .string => .wr fun tm h => match (srcK E x).g tm with
      | .str l => .ok (.ptr h.nx 0) (h.new (.sit l 0))
      | _ => .fail
    | _ => .bad)
  cases hu : E.und t with
  | none => exact bad_ok _
  | some d =>
    cases d <;> try (exact bad_ok _)
    · intro m h tm ρ w o ho hr hs
      obtain ⟨h1, h2⟩ := src_ok (E := E) hs x
      have hru := ok.run_und hu w
      simp only
      generalize (srcK E x).g tm = u at h1 h2
      cases u <;> try (exact trivial)
      rename_i l
      exact range_new hr ho h1 (o := .stringIter ⟨⟨l⟩⟩ 0) (by simp [Instr.range, hru, γ]) (by simp) (fun _ _ => rfl) trivial
    · intro m h tm ρ w o ho hr hs
      obtain ⟨h1, h2⟩ := src_ok (E := E) hs x
      have hru := ok.run_und hu w
      simp only
      generalize (srcK E x).g tm = u at h1 h2
      cases u <;> try (exact trivial)
      · exact range_new hr ho h1 (o := .mapIter none 0 #[] 0) (by simp [Instr.range, hru, γ]) (by simp) (fun _ _ => rfl) trivial
      · rename_i n
        simp only
        cases hob : (h.at n).obj <;> try (exact trivial)
        rename_i es cl
        obtain ⟨hd, m1, _⟩ := hr.map_at hob
        exact range_new hr ho h1 (o := .mapIter (some (m.b n)) cl #[] cl) (by simp [Instr.range, hru, γ, run_getObj_map m1]) (by simp) (fun m' hm => ⟨cl, cl, by rw [hm n hd]⟩) hd
theorem next_map_ok (it : Operand) : OpOk P E (.next it false) (opK E (.next it false)) := by
  intro m h tm ρ w o ho hr hs
  obtain ⟨h1, h2⟩ := src_ok (E := E) hs it
  simp only
  generalize (srcK E it).g tm = u at h1 h2
  cases u <;> try (exact trivial)
  rename_i n off
  cases off with
  | succ _ => exact trivial
  | zero =>
    simp only
    cases hob : (h.at n).obj <;> try (exact trivial)
    rename_i mo
    have hd : dom h n := by unfold dom; rw [hob]; simp
    obtain ⟨ob, b1, b2⟩ := hr.blk n hd
    rw [hob] at b2
    cases mo with
    | none =>
      simp only
      have b2' : ob = .mapIter none 0 #[] 0 := b2
      subst b2'
      have hg := run_getObj_of (P := P) b1 (fun _ _ _ e => by cases e)
      refine ⟨m, w, .value (.tuple #[.bool false]), ?_, .inl rfl, hr, Goes.refl m h w, ⟨trivial, trivial⟩, rfl⟩
      simp only [execOp, ho, h1, γ, Instr.next, Sem.run_bind, hg, Result.andThen_ok, Sem.run_pure]
    | some k =>
      simp only
      cases hok : (h.at k).obj <;> try (exact trivial)
      rename_i es cl
      cases es with
      | cons _ _ => exact trivial
      | nil =>
        simp only
        obtain ⟨c1, c2, b2'⟩ := b2
        subst b2'
        have hg := run_getObj_of (P := P) b1 (fun _ _ _ e => by cases e)
        obtain ⟨_, m1, _⟩ := hr.map_at hok
        have hg2 : (getObj (m.b k)).run P w = .ok (.map #[] cl) w := run_getObj_map (P := P) m1
        have f0 : ∀ (f : MapEntry → Bool), (#[] : Array MapEntry).filter f = #[] := fun f => rfl
        refine ⟨m, w, .value (.tuple #[.bool false]), ?_, .inl rfl, hr, Goes.refl m h w, ⟨trivial, trivial⟩, rfl⟩
        simp only [execOp, ho, h1, γ, Instr.next, Sem.run_bind, hg, Result.andThen_ok, hg2, f0]
        simp [Question.forced]
theorem decode_ascii {l : List UInt8} {p : Nat} {b : UInt8} (h : l[p]? = some b) (hb : b.toNat < 128) : Utf8.decode ⟨⟨l⟩⟩ p = (b.toNat, 1) := by
  have hlt := (List.getElem?_eq_some_iff.1 h).1
  have hget : (⟨⟨l⟩⟩ : ByteArray).get! (p + 0) = b := by
    show (⟨l⟩ : Array UInt8)[p + 0]! = b
    rw [Nat.add_zero]
    simp [getElem!_pos, hlt, (List.getElem?_eq_some_iff.1 h).2]
  unfold Utf8.decode
  simp only [hget]
  rw [if_pos hb]
theorem next_str_ok (it : Operand) : OpOk P E (.next it true) (opK E (.next it true)) := by
  intro m h tm ρ w o ho hr hs
  obtain ⟨h1, h2⟩ := src_ok (E := E) hs it
  simp only
  generalize (srcK E it).g tm = u at h1 h2
  cases u <;> try (exact trivial)
  rename_i n off
  cases off with
  | succ _ => exact trivial
  | zero =>
    simp only
    cases hob : (h.at n).obj <;> try (exact trivial)
    rename_i l p
    have hd : dom h n := by unfold dom; rw [hob]; simp
    obtain ⟨ob, b1, b2⟩ := hr.blk n hd
    rw [hob] at b2
    have b2' : ob = .stringIter ⟨⟨l⟩⟩ p := b2
    subst b2'
    have hg := run_getObj_of (P := P) b1 (fun _ _ _ e => by cases e)
    have sz : (⟨⟨l⟩⟩ : ByteArray).size = l.length := rfl
    simp only [nthB_spec]
    cases hl : l[p]? with
    | none =>
      simp only
      have hnlt : ¬ p < l.length := fun hlt => by rw [List.getElem?_eq_getElem hlt] at hl; cases hl
      refine ⟨m, w, .value (.tuple #[.bool false]), ?_, .inl rfl, hr, Goes.refl m h w, ⟨trivial, trivial⟩, rfl⟩
      simp only [execOp, ho, h1, γ, Instr.next, Sem.run_bind, hg, Result.andThen_ok, Sem.run_pure, sz, if_neg hnlt]
    | some b =>
      simp only [forceN_spec]
      cases hb : Nat.blt b.toNat 128 with
      | false => exact trivial
      | true =>
        simp only [cond_true]
        have hlt := (List.getElem?_eq_some_iff.1 hl).1
        have hdec := decode_ascii hl (blt_iff.1 hb)
        have hnc : (h.at n).obj.noCells = true := by rw [hob]; rfl
        obtain ⟨q1, q2, q3⟩ := hr.noCells_alone (n := n) hnc (.sit l (Nat.succ p)) (.stringIter ⟨⟨l⟩⟩ (Nat.succ p)) (w' := { w with heap := w.heap.setIfInBounds (m.b n) (.stringIter ⟨⟨l⟩⟩ (Nat.succ p)) }) (by simp) rfl trivial rfl rfl rfl rfl
        refine ⟨m, _, .value (.tuple #[.bool true, .int .i64 p, .int .i32 b.toNat]), ?_, .inl rfl, q1, q2, ⟨trivial, trivial, trivial, trivial⟩, rfl⟩
        have hso := run_setObj_of (P := P) b1 (fun _ _ _ e => by cases e) (.stringIter ⟨⟨l⟩⟩ (p + 1))
        simp only [execOp, ho, h1, γ, Instr.next, Sem.run_bind, hg, Result.andThen_ok, sz, if_pos hlt, hdec, hso, Sem.run_pure, goInt]
/-- **Every operation.** -/
theorem opK_ok (ok : EnvOk P E) (o : Op) : OpOk P E o (opK E o) := by
  cases o with
  | move x => exact move_ok x
  | assign x => exact assign_ok x
  | pick c a b => exact pick_ok c a b
  | build t p => exact build_ok ok t p
  | nilCheck x => exact nilCheck_ok x
  | unOp op t x => exact unOp_ok op t x
  | binOp op t x y yt => exact binOp_ok ok op t yt x y
  | convert s d x => exact convert_ok ok s d x
  | makeInterface t x => exact makeInterface_ok ok t x
  | makeFunc fn a b => cases fn with
    | func f => exact makeFunc_ok f a b
    | _ => exact bad_ok _
  | fieldAddr t x f => exact fieldAddr_ok ok t x f
  | field t x f => exact field_ok ok t x f
  | indexAddr t x i => exact indexAddr_ok ok t x i
  | index t x i => exact index_ok ok t x i
  | typeAssert x xt t c => exact typeAssert_ok ok x xt t c
  | extract t i => exact extract_ok t i
  | load t x => exact load_ok ok t x
  | lookup t x i c => exact lookup_ok ok t x i c
  | slice t x lo hi mx => exact slice_ok ok t x lo hi mx
  | alloc e => exact alloc_ok ok e
  | box e x => exact box_ok e x
  | buildSlice t l p => exact buildSlice_ok ok t l p
  | makeMap t r => cases r with
    | none => exact makeMap_ok t
    | some _ => exact bad_ok _
  | makeSlice t l c => exact makeSlice_ok ok t l c
  | store t a x => exact store_ok ok t a x
  | mapUpdate t a k v => exact mapUpdate_ok ok t a k v
  | insert t a k v => exact insert_ok ok t a k v
  | call c => exact call_ok ok c
  | range t x => exact range_ok ok t x
  | next it b => cases b with
    | false => exact next_map_ok it
    | true => exact next_str_ok it
  | _ => exact bad_ok _
end
end Go.Ev
