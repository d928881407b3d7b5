/- The evaluator of closed calls, part 6: what the program computes on given inputs, read by the kernel; sound in every world (part 8). -/
import Derived.Test.YtkpjikaobjpkoaaGreatDoorPkEv5
import Derived.KernelRfl
import Derived.RangeFuncIn
import Derived.LoopN
import Derived.Scope
namespace Go.Ev
variable [Rho] {S : Nat → Prop}
section
variable {P : Program} {E : Env}

omit [Rho] in
theorem first0 {v : Value} {n s : Nat} {w : World} (h : (Builtin.lenOf v).run P w = .ok n w) : ∃ cs, (Builtin.firstCells s 0 v).run P w = .ok cs w := by
  cases v <;> try (simp [Builtin.lenOf] at h; done)
  · exact ⟨_, by simp only [Builtin.firstCells]; rfl⟩
  · rename_i a l c
    cases a with
    | none => exact ⟨_, by simp only [Builtin.firstCells]; rfl⟩
    | some a => exact ⟨#[], by simp [Builtin.firstCells, loadCells, loadCellsFrom]⟩
theorem copy_ok (ok : EnvOk P E) {c : Call} {x y : Operand} (hc : c.callee = .builtin .copy) (ha : c.args.toList = [x, y]) :
    OpOk P E (.call c) (.wr fun tm h => (copyK E c.argTypes.toList).f h ((srcK E x).g tm) ((srcK E y).g tm)) := fun S m h tm ρ w o ho hr hs => by
  obtain ⟨h1, h2⟩ := src_ok (E := E) hs x
  obtain ⟨g1, g2⟩ := src_ok (E := E) hs y
  simp only
  generalize (srcK E x).g tm = a at h1 h2
  generalize (srcK E y).g tm = b at g1 g2
  rw [builtin_exec ho hc, args_eq ha]
  unfold copyK
  cases hts : c.argTypes.toList with
  | nil => exact trivial
  | cons t ts =>
    simp only
    cases hu : E.und t with
    | none => exact trivial
    | some d =>
      cases d <;> try (exact trivial)
      rename_i e
      simp only
      cases hz : E.size e with
      | none => exact trivial
      | some s =>
        simp only
        have hru := ok.run_und hu w
        have hzr := ok.run_size hz w
        rw [types_eq hts]
        suffices hall : ∀ r : OR, (srcLen b OR.fail fun n => (match (generalizing := false) a with
          | .slc m off len _ =>
            forceN (Nat.min n len) fun k =>
            Option.casesOn (motive := fun _ => OR) (srcCells h s k b) OR.fail fun l =>
              Option.casesOn (motive := fun _ => OR) (h.store m off l) OR.fail fun h => OR.ok (.int .i64 (.ofNat k)) h
          | .slcNil => OR.ok (.int .i64 (.ofNat 0)) h
          | _ => OR.fail)) = r → WrGood P E S m h w (builtin .copy ⟨t :: ts⟩ o.type (c.args.map fun | .const _ => true | _ => false) ⟨[x, y].map ρ⟩) r from hall _ rfl
        intro r hres
        by_cases hfail : r = .fail
        · subst hfail; exact trivial
        obtain ⟨n, hlen, hk, _, _⟩ := srcLen_spec hres hfail
        have hlw := hlen m w
        have fin : ∀ {val : Value} {w' : World}, (Builtin.copy_ ⟨t :: ts⟩ o.type #[γ m a, γ m b]).run P w = .ok val w' → (builtin .copy ⟨t :: ts⟩ o.type (c.args.map fun | .const _ => true | _ => false) ⟨[x, y].map ρ⟩).run P w = .ok (.value val) w' := fun {val w'} hh => by
          simp only [List.map_cons, List.map_nil, h1, g1]
          show ((do pure (Next.value (← Builtin.copy_ ⟨t :: ts⟩ o.type #[γ m a, γ m b])) : Sem Next)).run P w = _
          simp [hh]
        cases a <;> try (exact absurd hk.symm hfail)
        · rename_i q off len cp
          simp only [forceN_spec] at hk
          cases hsc : srcCells h s (Nat.min n len) b with
          | none => rw [hsc] at hk; exact absurd hk.symm hfail
          | some l =>
            rw [hsc] at hk
            simp only at hk
            cases hst : h.store q off l with
            | none => rw [hst] at hk; exact absurd hk.symm hfail
            | some h' =>
              rw [hst] at hk
              simp only at hk
              subst hk
              obtain ⟨n1, n2, _⟩ := srcCells_spec (P := P) hr hsc
              obtain ⟨w', s1, s2, s3, s4, s5⟩ := hr.store hst n1 P
              have hn2 := n2 w hr
              refine ⟨m, w', _, fin ?_, .inl rfl, s2, s3, trivial, s4⟩
              have goal : ∀ cpv, (Builtin.copy_ ⟨t :: ts⟩ o.type #[.slice (some ⟨m.b q, off, none⟩) len cpv, γ m b]).run P w = .ok (.int .i64 (.ofNat (Nat.min n len))) w' := fun cpv => by
                simp only [Builtin.copy_, List.getElem?_toArray, List.getElem?_cons_zero, List.getElem?_cons_succ, Sem.run_bind, hru, Result.andThen_ok]
                rw [hlw]
                simp only [Result.andThen_ok]
                rw [hzr]
                simp only [Result.andThen_ok]
                rw [hn2]
                simp only [Result.andThen_ok, s1, Sem.run_pure]
                rfl
              cases cp <;> exact goal _
        · simp only at hk
          subst hk
          refine ⟨m, w, .value (.int .i64 (.ofNat 0)), fin ?_, .inl rfl, hr, Goes.refl m h w, trivial, rfl⟩
          obtain ⟨cs, hf0⟩ := first0 (s := s) hlw
          simp only [γ, Builtin.copy_, List.getElem?_toArray, List.getElem?_cons_zero, List.getElem?_cons_succ, Sem.run_bind, hru, Result.andThen_ok]
          rw [hlw]
          simp only [Result.andThen_ok]
          rw [hzr]
          simp only [Result.andThen_ok, show Nat.min n 0 = 0 from Nat.min_zero n]
          rw [hf0]
          rfl
end
end Go.Ev

namespace Go.Ev
variable [Rho] {S : Nat → Prop}
section
variable {P : Program} {E : Env}

omit [Rho] in
theorem ib_next : Extern.allNextRows.lookup "internal/bytealg.IndexByteString" = none := by kernel_rfl
omit [Rho] in
theorem ib_next0 : Extern.allNextRows.lookup "" = none := by kernel_rfl
omit [Rho] in
theorem ib_find {fn : Func} (hn : fn.name = "internal/bytealg.IndexByteString") : Extern.find fn = some Extern.BytealgIndexByte.indexByte := by
  unfold Extern.find
  rw [hn]
  have h1 : Extern.allGenericRows.lookup "internal/bytealg.IndexByteString" = none := by kernel_rfl
  have h2 : Extern.allTypedRows.lookup "internal/bytealg.IndexByteString" = none := by kernel_rfl
  have h3 : Extern.allRows.lookup "internal/bytealg.IndexByteString" = some Extern.BytealgIndexByte.indexByte := by kernel_rfl
  simp only [h1, h2, h3]
  rfl
/-- A call of a function by its number. -/
theorem callFn_run (ok : EnvOk P E) {m : Mp} {h : Heap} {w : World} (hr : Rep E.gl S m h w) {f : FuncId} {args : List AVal} (hin : InL (dom h) args) :
    WrGood P E S m h w (callFunc f ⟨γs m args⟩) ((callFnK E f).f h args) := by
  unfold callFnK
  cases hf : E.fns.get none (pos f) with
  | none => exact trivial
  | some fn =>
    have hP := ok.fn f fn hf
    simp only
    cases hb : fn.body with
    | some c =>
      simp only
      cases hn : (fn.name == "runtime.NumGoroutine") with
      | true => exact trivial
      | false =>
        refine ⟨?_, hin⟩
        have hne : ¬ fn.name = "runtime.NumGoroutine" := fun e => by rw [e] at hn; simp at hn
        simp [callFunc, hP, hb, hne]
    | none =>
      simp only
      cases he : externA fn.name fn.origin args with
      | none => exact trivial
      | some v =>
        simp only
        unfold externA at he
        obtain ⟨h1, h2⟩ := cond_some' he
        rw [Bool.and_eq_true] at h1
        have hname := eq_of_beq h1.1
        have horig := eq_of_beq h1.2
        split at h2
        · rename_i s c
          have := intOut_spec h2; subst this
          refine ⟨m, w, _, ?_, .inl rfl, hr, Goes.refl m h w, trivial, rfl⟩
          have hnn : (fn.name == "runtime.NumGoroutine") = false := by rw [hname]; kernel_rfl
          have hnx : Extern.findNext fn = none := by unfold Extern.findNext; rw [hname, horig]; simp only [ib_next, ib_next0]; rfl
          have ru := Lib.run_indexByteString (P := P) ⟨⟨s⟩⟩ (Int.ofNat c) w
          simp only [callFunc, Sem.run_bind, run_program, Result.andThen_ok, hP, hnn, hb, Option.isNone_none, if_true, Bool.false_eq_true, if_false, run_mark, hnx, ib_find hname]
          rw [show (⟨γs m [.str s, .int .u8 (.ofNat c)]⟩ : Array Value) = #[.string ⟨⟨s⟩⟩, .int .u8 (Int.ofNat c)] from rfl, ru]
          rfl
        · cases h2
theorem method_run (ok : EnvOk P E) {t : TypeId} {name : String} {f : FuncId} (h : methodA E t name = some f) (v : Value) (n : Nat) (w : World) : (method (n + 1) t v name).run P w = .ok (f, v) w := by
  unfold methodA at h
  cases ht : E.ty t with
  | none => rw [ht] at h; cases h
  | some i =>
    cases hu : E.und t with
    | none => rw [ht, hu] at h; cases h
    | some d =>
      rw [ht, hu] at h
      simp only at h
      have hti := run_info (ok.ty t i ht) w
      have hru := ok.run_und hu w
      cases hm : i.methods.toList.find? (fun m => m.name == name) with
      | none => rw [hm] at h; cases h
      | some mm =>
        rw [hm] at h
        simp only at h
        have hm' : i.methods.find? (fun m => m.name == name) = some mm := by rw [← Array.find?_toList]; exact hm
        obtain ⟨nm, sig, path, func⟩ := mm
        obtain ⟨path⟩ := path
        simp only at h
        cases path with
        | cons _ _ => cases d <;> (cases func <;> cases h)
        | nil =>
          cases func with
          | none => cases d <;> cases h
          | some fp =>
            obtain ⟨g, b⟩ := fp
            have goal : (∀ e, d = .pointer e → b = true) ∧ ((∀ e, d ≠ .pointer e) → b = false) ∧ f = g := by
              cases d <;> cases b <;> first | (cases h; done) | (cases h; exact ⟨fun e he => (by cases he), fun _ => rfl, rfl⟩) | (cases h; exact ⟨fun _ _ => rfl, fun hh => absurd rfl (hh _), rfl⟩)
            obtain ⟨g1, g2, rfl⟩ := goal
            simp only [method, Sem.run_bind, hti, Result.andThen_ok, hm', follow, Sem.run_pure]
            cases d <;> first
              | (rename_i e; have := g1 e rfl; subst this; simp [receiverAt, hru, Place.get])
              | (have := g2 (fun e he => by cases he); subst this; simp [receiverAt, hru, Place.get])
theorem wrGood_congr {m : Mp} {h : Heap} {w : World} {s s' : Sem Next} {r : OR} (e : s.run P w = s'.run P w) (hg : WrGood P E S m h w s r) : WrGood P E S m h w s' r := by
  cases r with
  | ok v h' => obtain ⟨m', w', q, h1, rest⟩ := hg; exact ⟨m', w', q, by rw [← e]; exact h1, rest⟩
  | call g args => exact ⟨by rw [← e]; exact hg.1, hg.2⟩
  | fail => exact trivial
theorem call_ok (ok : EnvOk P E) (c : Call) : OpOk P E (.call c) (opK0 E (.call c)) := by
  show OpOk P E (.call c) (callK E c)
  unfold callK
  have hargs : ∀ (ρ : Operand → Value), c.args.map ρ = ⟨c.args.toList.map ρ⟩ := fun ρ => by apply Array.ext'; simp
  have gen : ∀ x, c.callee = .value x → OpOk P E (.call c) (.wr fun tm h => match (srcK E x).g tm with
      | .func (.func f) first captured => (callFnK E f).f h (appA first (appA (srcsG (srcsK E c.args.toList) tm) captured))
      | _ => .fail) := fun x hc S m h tm ρ w o ho hr hs => by
    obtain ⟨h1, h2⟩ := src_ok (E := E) hs x
    obtain ⟨a1, a2⟩ := srcs_ok (E := E) hs c.args.toList
    simp only
    generalize (srcK E x).g tm = u at h1 h2
    cases u <;> try (exact trivial)
    rename_i fn first captured
    cases fn <;> try (exact trivial)
    rename_i f
    simp only [appA_spec]
    have hin : InL (dom h) (first ++ (srcsG (srcsK E c.args.toList) tm ++ captured)) := (InL_iff _).2 fun v hv => by
      rcases List.mem_append.1 hv with hv | hv
      · exact (InL_iff _).1 h2.1 v hv
      · rcases List.mem_append.1 hv with hv | hv
        · exact (InL_iff _).1 a2 v hv
        · exact (InL_iff _).1 h2.2 v hv
    refine wrGood_congr ?_ (callFn_run ok hr hin)
    simp only [execOp, ho, resolve, hc, h1, γ, Deferred.ofValue, Sem.run_bind, Sem.run_pure, Result.andThen_ok, invoke, hargs, a1, γs_append]
    congr 2
    apply Array.ext'; simp
  cases hc : c.callee with
  | builtin b =>
    simp only
    unfold builtinK
    have tl : ∀ {t ts}, c.argTypes.toList = t :: ts → c.argTypes.toList = t :: ts := id
    split
    · rename_i x ha
      split
      · rename_i t ts ht
        split
        · rename_i hu; exact len_string_ok ok hc ha ht hu
        · rename_i e hu; exact len_slice_ok ok hc ha ht hu
        · rename_i k e hu; exact len_map_ok ok hc ha ht hu
        · exact bad_ok _
      · exact bad_ok _
    · rename_i x ha
      split
      · rename_i t ts ht
        split
        · rename_i e hu; exact cap_slice_ok ok hc ha ht hu
        · exact bad_ok _
      · exact bad_ok _
    · rename_i x l ha; exact max_ok hc ha
    · rename_i x l ha; exact min_ok hc ha
    · rename_i x y ha; exact append_ok ok hc ha
    · rename_i x y ha; exact copy_ok ok hc ha
    · rename_i x y ha; exact delete_ok ok hc ha
    · exact bad_ok _
  | value x =>
    cases x with
    | func f =>
      intro S m h tm ρ w o ho hr hs
      obtain ⟨a1, a2⟩ := srcs_ok (E := E) hs c.args.toList
      refine wrGood_congr ?_ (callFn_run ok hr a2)
      simp only [execOp, ho, resolve, hc, hs.func, Deferred.ofValue, Sem.run_bind, Sem.run_pure, Result.andThen_ok, invoke, hargs, a1]
      congr 2
      apply Array.ext'; simp
    | tmp t => exact gen _ hc
    | const v => exact gen _ hc
    | global g => exact gen _ hc
  | invoke r name =>
    intro S m h tm ρ w o ho hr hs
    obtain ⟨h1, h2⟩ := src_ok (E := E) hs r
    obtain ⟨a1, a2⟩ := srcs_ok (E := E) hs c.args.toList
    simp only
    generalize (srcK E r).g tm = u at h1 h2
    cases u <;> try (exact trivial)
    rename_i t v
    simp only
    cases hm : methodA E t name with
    | none => exact trivial
    | some f =>
      simp only
      refine wrGood_congr ?_ (callFn_run ok hr (args := v :: srcsG (srcsK E c.args.toList) tm) ⟨h2, a2⟩)
      have mr := method_run ok hm (γ m v) (P.types.size + 99) w
      simp only [execOp, ho, resolve, hc, h1, γ, Sem.run_bind, Sem.run_pure, Result.andThen_ok, invoke, hargs, a1]
      have e0 : (#[Value.iface t (γ m v)] ++ (⟨γs m (srcsG (srcsK E c.args.toList) tm)⟩ : Array Value))[0]? = some (Value.iface t (γ m v)) := by simp
      simp only [e0, callMethod, Sem.run_bind, run_program, Result.andThen_ok]
      rw [show P.types.size + Made.depth = P.types.size + 99 + 1 from rfl, mr]
      simp only [Result.andThen_ok, γs]
      congr 2
      apply Array.ext'; simp
end
end Go.Ev

namespace Go.Ev
variable [Rho] {S : Nat → Prop}
section
variable {P : Program} {E : Env}

omit [Rho] in
theorem run_getObj_of {w : World} {r : Nat} {o : Obj} (h : w.heap[r]? = some o) (hc : ∀ c e f, o ≠ .cells c e f) : (getObj r).run P w = .ok o w := by
  cases o <;> first | exact absurd rfl (hc _ _ _) | simp [getObj, Sem.run, h]
omit [Rho] in
theorem run_setObj_of {w : World} {r : Nat} {o : Obj} (h : w.heap[r]? = some o) (hc : ∀ c e f, o ≠ .cells c e f) (o' : Obj) : (setObj r o').run P w = .ok () { w with heap := w.heap.setIfInBounds r o' } := by
  cases o <;> first | exact absurd rfl (hc _ _ _) | simp [setObj, Sem.run, h]
theorem range_new {m : Mp} {h : Heap} {w : World} (hr : Rep E.gl S m h w) {t : TypeId} {x : Value} {ob : AObj} {o : Obj} {ρ : Operand → Value} {or : Oper} {y : Operand} (ho : or.op = .range t y) (hx : ρ y = x)
    (hrun : (Instr.range t x).run P w = .ok (.pointer (some ⟨w.heap.size, 0, none⟩)) { w with heap := w.heap.push o }) (hne : ob.isB = true)
    (hb : ∀ m', (∀ n, dom h n → m'.b n = m.b n) → BlkObj m' h.nx ob o) (hi : InObj (dom h) ob) :
    WrGood P E S m h w (execOp ρ or) (.ok (.ptr h.nx 0) (h.new ob)) := by
  have hne' : ∀ k, dom h k → k ≠ h.nx := fun k hk e => by have := hr.fresh k hk; rw [e] at this; exact Nat.lt_irrefl _ this
  obtain ⟨q1, q2, q3⟩ := hr.pushed (ob := ob) (o := o) (w' := { w with heap := w.heap.push o }) (cap := 0) ⟨rfl, rfl, rfl, rfl⟩ hne (hb _ (fun n hn => (Mp.set_other m _ _ (hne' n hn)).1)) hi
  refine ⟨_, _, .value (.pointer (some ⟨w.heap.size, 0, none⟩)), ?_, .inl ?_, q1, q2, q3, rfl⟩
  · simp only [execOp, ho, Sem.run_bind, hx, hrun, Result.andThen_ok, Sem.run_pure]
  · simp [γ, Mp.set]
theorem range_ok (ok : EnvOk P E) (t : TypeId) (x : Operand) : OpOk P E (.range t x) (opK0 E (.range t x)) := by
  show OpOk P E (.range t x) (match E.und t with
    | some (.map _ _) => .wr fun tm h => match (srcK E x).g tm with
      | .mapNil => .ok (.ptr h.nx 0) (h.new (.mit none))
      | .map n => match (h.at n).obj with
        | .map _ _ => .ok (.ptr h.nx 0) (h.new (.mit (some n)))
        | _ => .fail
      | _ => .fail
    | some .string => .wr fun tm h => match (srcK E x).g tm with
      | .str l => .ok (.ptr h.nx 0) (h.new (.sit l 0))
      | _ => .fail
    | _ => .bad)
  cases hu : E.und t with
  | none => exact bad_ok _
  | some d =>
    cases d <;> try (exact bad_ok _)
    · intro S m h tm ρ w o ho hr hs
      obtain ⟨h1, h2⟩ := src_ok (E := E) hs x
      have hru := ok.run_und hu w
      simp only
      generalize (srcK E x).g tm = u at h1 h2
      cases u <;> try (exact trivial)
      rename_i l
      exact range_new hr ho h1 (o := .stringIter ⟨⟨l⟩⟩ 0) (by simp [Instr.range, hru, γ]) (by simp) (fun _ _ => rfl) trivial
    · intro S m h tm ρ w o ho hr hs
      obtain ⟨h1, h2⟩ := src_ok (E := E) hs x
      have hru := ok.run_und hu w
      simp only
      generalize (srcK E x).g tm = u at h1 h2
      cases u <;> try (exact trivial)
      · exact range_new hr ho h1 (o := .mapIter none 0 #[] 0) (by simp [Instr.range, hru, γ]) (by simp) (fun _ _ => rfl) trivial
      · rename_i n
        simp only
        cases hob : (h.at n).obj <;> try (exact trivial)
        rename_i es cl
        obtain ⟨hd, m1, _⟩ := hr.map_at hob
        exact range_new hr ho h1 (o := .mapIter (some (m.b n)) cl #[] cl) (by simp [Instr.range, hru, γ, run_getObj_map m1]) (by simp) (fun m' hm => ⟨cl, cl, by rw [hm n hd]⟩) hd
theorem next_map_ok (it : Operand) : OpOk P E (.next it false) (opK0 E (.next it false)) := by
  intro S m h tm ρ w o ho hr hs
  obtain ⟨h1, h2⟩ := src_ok (E := E) hs it
  simp only
  generalize (srcK E it).g tm = u at h1 h2
  cases u <;> try (exact trivial)
  rename_i n off
  cases off with
  | succ _ => exact trivial
  | zero =>
    simp only
    cases hob : (h.at n).obj <;> try (exact trivial)
    rename_i mo
    have hd : dom h n := by unfold dom; rw [hob]; simp
    obtain ⟨ob, b1, b2⟩ := hr.blk n (bk_of hob rfl)
    rw [hob] at b2
    cases mo with
    | none =>
      simp only
      have b2' : ob = .mapIter none 0 #[] 0 := b2
      subst b2'
      have hg := run_getObj_of (P := P) b1 (fun _ _ _ e => by cases e)
      refine ⟨m, w, .value (.tuple #[.bool false]), ?_, .inl rfl, hr, Goes.refl m h w, ⟨trivial, trivial⟩, rfl⟩
      simp only [execOp, ho, h1, γ, Instr.next, Sem.run_bind, hg, Result.andThen_ok, Sem.run_pure]
    | some k =>
      simp only
      cases hok : (h.at k).obj <;> try (exact trivial)
      rename_i es cl
      cases es with
      | cons _ _ => exact trivial
      | nil =>
        simp only
        obtain ⟨c1, c2, b2'⟩ := b2
        subst b2'
        have hg := run_getObj_of (P := P) b1 (fun _ _ _ e => by cases e)
        obtain ⟨_, m1, _⟩ := hr.map_at hok
        have hg2 : (getObj (m.b k)).run P w = .ok (.map #[] cl) w := run_getObj_map (P := P) m1
        have f0 : ∀ (f : MapEntry → Bool), (#[] : Array MapEntry).filter f = #[] := fun f => rfl
        refine ⟨m, w, .value (.tuple #[.bool false]), ?_, .inl rfl, hr, Goes.refl m h w, ⟨trivial, trivial⟩, rfl⟩
        simp only [execOp, ho, h1, γ, Instr.next, Sem.run_bind, hg, Result.andThen_ok, hg2, f0]
        simp [Question.forced]
omit [Rho] in
theorem decode_ascii {l : List UInt8} {p : Nat} {b : UInt8} (h : l[p]? = some b) (hb : b.toNat < 128) : Utf8.decode ⟨⟨l⟩⟩ p = (b.toNat, 1) := by
  have hlt := (List.getElem?_eq_some_iff.1 h).1
  have hget : (⟨⟨l⟩⟩ : ByteArray).get! (p + 0) = b := by
    show (⟨l⟩ : Array UInt8)[p + 0]! = b
    rw [Nat.add_zero]
    simp [getElem!_pos, hlt, (List.getElem?_eq_some_iff.1 h).2]
  unfold Utf8.decode
  simp only [hget]
  rw [if_pos hb]
theorem next_str_ok (it : Operand) : OpOk P E (.next it true) (opK0 E (.next it true)) := by
  intro S m h tm ρ w o ho hr hs
  obtain ⟨h1, h2⟩ := src_ok (E := E) hs it
  simp only
  generalize (srcK E it).g tm = u at h1 h2
  cases u <;> try (exact trivial)
  rename_i n off
  cases off with
  | succ _ => exact trivial
  | zero =>
    simp only
    cases hob : (h.at n).obj <;> try (exact trivial)
    rename_i l p
    have hd : dom h n := by unfold dom; rw [hob]; simp
    obtain ⟨ob, b1, b2⟩ := hr.blk n (bk_of hob rfl)
    rw [hob] at b2
    have b2' : ob = .stringIter ⟨⟨l⟩⟩ p := b2
    subst b2'
    have hg := run_getObj_of (P := P) b1 (fun _ _ _ e => by cases e)
    have sz : (⟨⟨l⟩⟩ : ByteArray).size = l.length := rfl
    simp only [nthB_spec]
    cases hl : l[p]? with
    | none =>
      simp only
      have hnlt : ¬ p < l.length := fun hlt => by rw [List.getElem?_eq_getElem hlt] at hl; cases hl
      refine ⟨m, w, .value (.tuple #[.bool false]), ?_, .inl rfl, hr, Goes.refl m h w, ⟨trivial, trivial⟩, rfl⟩
      simp only [execOp, ho, h1, γ, Instr.next, Sem.run_bind, hg, Result.andThen_ok, Sem.run_pure, sz, if_neg hnlt]
    | some b =>
      simp only [forceN_spec]
      cases hb : Nat.blt b.toNat 128 with
      | false => exact trivial
      | true =>
        simp only [cond_true]
        have hlt := (List.getElem?_eq_some_iff.1 hl).1
        have hdec := decode_ascii hl (blt_iff.1 hb)
        have hnc : (h.at n).obj.noCells = true := by rw [hob]; rfl
        obtain ⟨q1, q2, q3⟩ := hr.noCells_alone (n := n) hnc (.sit l (Nat.succ p)) (.stringIter ⟨⟨l⟩⟩ (Nat.succ p)) (w' := { w with heap := w.heap.setIfInBounds (m.b n) (.stringIter ⟨⟨l⟩⟩ (Nat.succ p)) }) (by simp) rfl trivial rfl rfl rfl rfl
        refine ⟨m, _, .value (.tuple #[.bool true, .int .i64 p, .int .i32 b.toNat]), ?_, .inl rfl, q1, q2, ⟨trivial, trivial, trivial, trivial⟩, rfl⟩
        have hso := run_setObj_of (P := P) b1 (fun _ _ _ e => by cases e) (.stringIter ⟨⟨l⟩⟩ (p + 1))
        simp only [execOp, ho, h1, γ, Instr.next, Sem.run_bind, hg, Result.andThen_ok, sz, if_pos hlt, hdec, hso, Sem.run_pure, goInt]
/-- **Every operation.** -/
theorem opK0_ok (ok : EnvOk P E) (o : Op) : OpOk P E o (opK0 E o) := by
  cases o with
  | move x => exact move_ok x
  | assign x => exact assign_ok x
  | pick c a b => exact pick_ok c a b
  | build t p => exact build_ok ok t p
  | nilCheck x => exact nilCheck_ok x
  | unOp op t x => exact unOp_ok op t x
  | binOp op t x y yt => exact binOp_ok ok op t yt x y
  | convert s d x => exact convert_ok ok s d x
  | makeInterface t x => exact makeInterface_ok ok t x
  | makeFunc fn a b => cases fn with
    | func f => exact makeFunc_ok f a b
    | _ => exact bad_ok _
  | fieldAddr t x f => exact fieldAddr_ok ok t x f
  | field t x f => exact field_ok ok t x f
  | indexAddr t x i => exact indexAddr_ok ok t x i
  | index t x i => exact index_ok ok t x i
  | typeAssert x xt t c => exact typeAssert_ok ok x xt t c
  | extract t i => exact extract_ok t i
  | load t x => exact load_ok ok t x
  | lookup t x i c => exact lookup_ok ok t x i c
  | slice t x lo hi mx => exact slice_ok ok t x lo hi mx
  | alloc e => exact alloc_ok ok e
  | box e x => exact box_ok e x
  | buildSlice t l p => exact buildSlice_ok ok t l p
  | makeMap t r => cases r with
    | none => exact makeMap_ok t
    | some _ => exact bad_ok _
  | makeSlice t l c => exact makeSlice_ok ok t l c
  | store t a x => exact store_ok ok t a x
  | mapUpdate t a k v => exact mapUpdate_ok ok t a k v
  | insert t a k v => exact insert_ok ok t a k v
  | call c => exact call_ok ok c
  | range t x => exact range_ok ok t x
  | next it b => cases b with
    | false => exact next_map_ok it
    | true => exact next_str_ok it
  | _ => exact bad_ok _
omit [Rho] in
theorem FOp.eqb_spec {a b : FOp} (h : a.eqb b = true) : a = b := by
  cases a <;> cases b <;> simp only [FOp.eqb] at h <;> first | rfl | cases h | skip
  · rename_i x y
    have : x = y := by revert h; cases x <;> cases y <;> first | (intro _; rfl) | (intro h; revert h; decide)
    rw [this]
  · rw [(ikEqb_spec _ _).1 h]
  · rw [boolEqb_spec] at h; rw [eq_of_beq h]
omit [Rho] in
theorem lookF_spec {c : FOp} {a b v : AVal} : ∀ {l : List Fact}, lookF c a b l = some v → ∃ F ∈ l, F.op = c ∧ F.a = a ∧ F.b = b ∧ v = F.r
  | [], h => by cases h
  | F :: l, h => by
    have h' : cond (F.op.eqb c) (cond (F.a.eqb a) (cond (F.b.eqb b) (some F.r) (lookF c a b l)) (lookF c a b l)) (lookF c a b l) = some v := h
    have again : lookF c a b l = some v → ∃ F' ∈ F :: l, F'.op = c ∧ F'.a = a ∧ F'.b = b ∧ v = F'.r := fun h => by
      obtain ⟨F', h1, h2⟩ := lookF_spec h
      exact ⟨F', List.mem_cons_of_mem _ h1, h2⟩
    cases hc : F.op.eqb c with
    | false => rw [hc] at h'; exact again h'
    | true =>
      rw [hc] at h'
      cases ha : F.a.eqb a with
      | false => rw [ha] at h'; exact again h'
      | true =>
        rw [ha] at h'
        cases hb : F.b.eqb b with
        | false => rw [hb] at h'; exact again h'
        | true => rw [hb] at h'; cases h'; exact ⟨F, List.mem_cons_self .., FOp.eqb_spec hc, AVal.eqb_spec _ _ ha, AVal.eqb_spec _ _ hb, rfl⟩
theorem fact_bin {m : Mp} {op : BinOp} {t : TypeId} {x y : Operand} {k j : IntKind} {a b : Int} {v : AVal} (h : factVal (.bin op) k j a b = some v) (w : World) :
    (eqGuard op t x y (.int k a) (.int j b)).run P w = .ok () w ∧ (binOp op t (.int k a) (.int j b)).run P w = .ok (γ m v) w := by
  refine ⟨by rw [eqGuard_at_int]; rfl, ?_⟩
  have gen : cond (ikEqb k j) ((intK op).f k a b) none = some v → (binOp op t (.int k a) (.int j b)).run P w = .ok (γ m v) w := fun q => by
    cases hk : ikEqb k j with
    | false => rw [hk] at q; cases q
    | true => rw [hk] at q; have := (ikEqb_spec _ _).1 hk; subst this; exact (intK_spec (D := fun _ => True) q w).1
  cases op
  case shl => exact (shl_spec (D := fun _ => True) h w).1
  case shr => exact (shr_spec (D := fun _ => True) h w).1
  all_goals exact gen h
theorem fact_run (ok : EnvOk P E) {o : Op} {c : FOp} {x y : Operand} (hk : fkey E o = some (c, x, y)) {m : Mp} {k j : IntKind} {a b : Int} {v : AVal} (h : factVal c k j a b = some v)
    {ρ : Operand → Value} (hx : ρ x = .int k a) (hy : ρ y = .int j b) (oo : Oper) (ho : oo.op = o) (w : World) : (execOp ρ oo).run P w = .ok (.value (γ m v)) w := by
  unfold fkey at hk
  split at hk
  · rename_i op t _ _ _
    cases hk
    obtain ⟨h1, h2⟩ := fact_bin (P := P) (m := m) (t := t) (x := x) (y := y) h w
    simp only [execOp, ho, hx, hy, Sem.run_bind, h1, h2, Result.andThen_ok, Sem.run_pure]
  · cases hk
    have hv : intOut k (wrapA k (subA 0 a)) = some v := h
    have := intOut_spec hv; subst this
    simp only [execOp, ho, hx]
    simp [Op.unary, Op.intArith, γ, wrapA_spec, subA_spec]
  · rename_i s d z
    cases e1 : E.und s with
    | none => rw [e1] at hk; cases hk
    | some d1 => cases e2 : E.und d with
      | none => rw [e1, e2] at hk; cases d1 <;> cases hk
      | some d2 =>
        rw [e1, e2] at hk
        cases d1 <;> try (cases hk; done)
        cases d2 <;> try (cases hk; done)
        rename_i i1 i2
        cases hk
        have hv : intOut i2 (wrapA i2 a) = some v := h
        have := intOut_spec hv; subst this
        simp only [execOp, ho, hx]
        simp [Go.convert, run_underlying (ok.und e1), run_underlying (ok.und e2), γ, wrapA_spec, Conv.intToInt]
  · rename_i c'
    have fin : ∀ t, c = .mx t → c'.args.toList = [x, y] → c'.callee = .builtin (if t then .max else .min) → (execOp ρ oo).run P w = .ok (.value (γ m v)) w := fun t hc ha hcal => by
      subst hc
      cases hkj : ikEqb k j with
      | false => simp only [factVal, hkj] at h; cases h
      | true =>
        have := (ikEqb_spec _ _).1 hkj; subst this
        simp only [factVal, hkj, cond_true] at h
        have e : mnmx t [.int k b] (.int k a) = some v := h
        have hin : In (fun _ => True) (AVal.int k a) := trivial
        obtain ⟨k1, _⟩ := mnmx_spec (P := P) (m := m) (D := fun _ => True) t _ _ v w hin e
        rw [builtin_exec (oo.op |> fun _ => ho) hcal, args_eq ha]
        cases t
        · simp only [Bool.false_eq_true, if_false, γs, γ] at k1
          simp only [Bool.false_eq_true, if_false, builtin, Builtin.min_, List.map_cons, List.map_nil, hx, hy, Sem.run_bind, k1, Result.andThen_ok, Sem.run_pure]
        · simp only [if_true, γs, γ] at k1
          simp only [if_true, builtin, Builtin.max_, List.map_cons, List.map_nil, hx, hy, Sem.run_bind, k1, Result.andThen_ok, Sem.run_pure]
    split at hk
    · rename_i hcal ha
      cases hk
      exact fin true rfl ha hcal
    · rename_i hcal ha
      cases hk
      exact fin false rfl ha hcal
    · cases hk
  · cases hk
theorem augK_ok (ok : EnvOk P E) (o : Op) {k : OpK} (hk : OpOk P E o k) : OpOk P E o (augK E o k) := by
  cases k with
  | rd f => exact hk
  | nw f => exact hk
  | wr f => exact hk
  | pu f =>
    unfold augK
    cases hf : fkey E o with
    | some cxy =>
      obtain ⟨c, x, y⟩ := cxy
      intro m D tm ρ v w oo ho hs hv
      simp only at hv
      cases hft : f tm with
      | some u => rw [hft] at hv; cases hv; exact hk m D tm ρ v w oo ho hs hft
      | none =>
        rw [hft] at hv
        obtain ⟨F, hF, h1, h2, h3, rfl⟩ := lookF_spec hv
        obtain ⟨hp, kk, j, a, b, u, g1, g2, g3, g4⟩ := ok.facts F hF
        obtain ⟨s1, _⟩ := src_ok (E := E) hs x
        obtain ⟨s2, _⟩ := src_ok (E := E) hs y
        refine ⟨?_, plainR_in hp D⟩
        rw [g4 m]
        rw [h1] at g3
        exact fact_run ok hf g3 (by rw [s1, ← h2]; exact g1 m) (by rw [s2, ← h3]; exact g2 m) oo ho w
    | none =>
      simp only
      cases hl : lkey E o with
      | none => exact hk
      | some x =>
        intro S m h tm ρ v w oo ho hr hs hv
        simp only at hv
        cases hft : f tm with
        | some u => rw [hft] at hv; cases hv; exact hk m (dom h) tm ρ v w oo ho hs hft
        | none =>
          rw [hft] at hv
          simp only at hv
          obtain ⟨s1, _⟩ := src_ok (E := E) hs x
          cases hx : (srcK E x).g tm <;> rw [hx] at hv <;> try (cases hv; done)
          rename_i n
          have hv' : (match (h.at n).obj with | .vat id => E.gl.len id | _ => none) = some v := hv
          cases hob : (h.at n).obj <;> rw [hob] at hv' <;> try (cases hv'; done)
          rename_i id
          obtain ⟨hp, hsem⟩ := ok.len id v hv'
          obtain ⟨ad, k, c, e1, e2⟩ := hsem w _ (hr.sem n id hob w fun _ _ _ _ => rfl)
          refine ⟨?_, plainR_in hp _⟩
          rw [hx] at s1
          have s1' : ρ x = .slice ad k c := by rw [s1]; exact e1
          unfold lkey at hl
          cases o <;> try (cases hl; done)
          rename_i c'
          simp only at hl
          split at hl
          · rename_i x' t ts hcal ha ht
            cases hu : E.und t with
            | none => rw [hu] at hl; cases hl
            | some d =>
              rw [hu] at hl
              cases d <;> try (cases hl; done)
              cases hl
              rw [builtin_exec ho hcal, args_eq ha, types_eq ht, e2 m]
              show ((Builtin.len_ ⟨t :: ts⟩ 0 #[ρ x]) >>= fun v => pure (Next.value v)).run P w = _
              simp [Builtin.len_, ok.run_und hu, s1', goInt]
          · cases hl
theorem opK_ok (ok : EnvOk P E) (o : Op) : OpOk P E o (opK E o) := by
  unfold opK
  split
  · exact opK0_ok ok o
  · exact augK_ok ok o (opK0_ok ok o)
end
end Go.Ev

namespace Go.Ev
variable [Rho] {S : Nat → Prop}
section
variable {P : Program} {E : Env}

def collected (m : Mp) (d : Pos) : Deferred := { target := .collected (m.b d), args := #[] }
/-- The frame reads as the temporaries say. -/
structure TR (m : Mp) (h : Heap) (nt : Nat) (tm : Tm) (a : Act) : Prop where
  size : nt ≤ a.tmps.size
  val : ∀ t, a.tmps.getD t undef = γ m (tget t tm)
  ins : ∀ t, In (dom h) (tget t tm)
  defs : a.defers = h.df.map (collected m)
  ddom : ∀ d ∈ h.df, dom h d
theorem TR.src {G : Tabs} {m : Mp} {h : Heap} {w : World} {nt : Nat} {tm : Tm} {a : Act} (t : TR m h nt tm a) (_r : Rep G S m h w) : Src G m (dom h) tm a.eval :=
  ⟨fun x => ⟨t.val x, t.ins x⟩, fun _ => rfl, fun _ => rfl, fun _ => rfl⟩
theorem TR.step {G : Tabs} {m m' : Mp} {h h' : Heap} {w w' : World} {nt : Nat} {tm : Tm} {a : Act} (t : TR m h nt tm a) (r : Rep G S m h w) (g : Goes m h w m' h' w') (hd : h'.df = h.df) : TR m' h' nt tm a where
  size := t.size
  val := fun x => by rw [t.val, γ_congr (D := dom h) (fun n hn => g.agree n (r.fresh n hn)) _ (t.ins x)]
  ins := fun x => In_mono g.old _ (t.ins x)
  defs := by
    rw [t.defs, hd]
    apply List.map_congr_left
    intro d hm
    simp only [collected]
    rw [(g.agree d (r.fresh d (t.ddom d hm))).1]
  ddom := fun d hm => g.old d (t.ddom d (by rw [← hd]; exact hm))
omit [Rho] in
theorem get0_put0 (i j : Nat) (hi : i < 4) (hj : j < 4) (q : Q0) (v : AVal) : (get0 i).f ((put0 j).f q v) = if j = i then v else (get0 i).f q := by
  match i, j, hi, hj with
  | 0, 0, _, _ | 0, 1, _, _ | 0, 2, _, _ | 0, 3, _, _ | 1, 0, _, _ | 1, 1, _, _ | 1, 2, _, _ | 1, 3, _, _
  | 2, 0, _, _ | 2, 1, _, _ | 2, 2, _, _ | 2, 3, _, _ | 3, 0, _, _ | 3, 1, _, _ | 3, 2, _, _ | 3, 3, _, _ => rfl
omit [Rho] in
theorem get1_put1 (k i l j : Nat) (hk : k < 4) (hi : i < 4) (hl : l < 4) (hj : j < 4) (q : Q1) (v : AVal) : (get1 k i).f ((put1 l j).f q v) = if l = k ∧ j = i then v else (get1 k i).f q := by
  obtain ⟨qa, qb, qc, qd⟩ := q
  have h := fun q => get0_put0 i j hi hj q v
  match k, l, hk, hl with
  | 0, 0, _, _ => simp only [true_and]; exact h qa
  | 1, 1, _, _ => simp only [true_and]; exact h qb
  | 2, 2, _, _ => simp only [true_and]; exact h qc
  | 3, 3, _, _ => simp only [true_and]; exact h qd
  | 0, 1, _, _ | 0, 2, _, _ | 0, 3, _, _ | 1, 0, _, _ | 1, 2, _, _ | 1, 3, _, _ | 2, 0, _, _ | 2, 1, _, _ | 2, 3, _, _ | 3, 0, _, _ | 3, 1, _, _ | 3, 2, _, _ => rfl
omit [Rho] in
theorem get2_put2 (k i l j : Nat) (hk : k < 4) (hi : i < 16) (hl : l < 4) (hj : j < 16) (q : Q2) (v : AVal) : (get2 k i).f ((put2 l j).f q v) = if l = k ∧ j = i then v else (get2 k i).f q := by
  obtain ⟨qa, qb, qc, qd⟩ := q
  have h := fun q => get1_put1 (i / 4) (i % 4) (j / 4) (j % 4) (by omega) (by omega) (by omega) (by omega) q v
  have e : (j / 4 = i / 4 ∧ j % 4 = i % 4) = (j = i) := by apply propext; constructor <;> omega
  simp only [e] at h
  match k, l, hk, hl with
  | 0, 0, _, _ => simp only [true_and]; exact h qa
  | 1, 1, _, _ => simp only [true_and]; exact h qb
  | 2, 2, _, _ => simp only [true_and]; exact h qc
  | 3, 3, _, _ => simp only [true_and]; exact h qd
  | 0, 1, _, _ | 0, 2, _, _ | 0, 3, _, _ | 1, 0, _, _ | 1, 2, _, _ | 1, 3, _, _ | 2, 0, _, _ | 2, 1, _, _ | 2, 3, _, _ | 3, 0, _, _ | 3, 1, _, _ | 3, 2, _, _ => rfl
omit [Rho] in
theorem get3_put3 (k i l j : Nat) (hk : k < 4) (hi : i < 64) (hl : l < 4) (hj : j < 64) (q : Q3) (v : AVal) : (get3 k i).f ((put3 l j).f q v) = if l = k ∧ j = i then v else (get3 k i).f q := by
  obtain ⟨qa, qb, qc, qd⟩ := q
  have h := fun q => get2_put2 (i / 16) (i % 16) (j / 16) (j % 16) (by omega) (by omega) (by omega) (by omega) q v
  have e : (j / 16 = i / 16 ∧ j % 16 = i % 16) = (j = i) := by apply propext; constructor <;> omega
  simp only [e] at h
  match k, l, hk, hl with
  | 0, 0, _, _ => simp only [true_and]; exact h qa
  | 1, 1, _, _ => simp only [true_and]; exact h qb
  | 2, 2, _, _ => simp only [true_and]; exact h qc
  | 3, 3, _, _ => simp only [true_and]; exact h qd
  | 0, 1, _, _ | 0, 2, _, _ | 0, 3, _, _ | 1, 0, _, _ | 1, 2, _, _ | 1, 3, _, _ | 2, 0, _, _ | 2, 1, _, _ | 2, 3, _, _ | 3, 0, _, _ | 3, 1, _, _ | 3, 2, _, _ => rfl
omit [Rho] in
theorem getK_lo {t : Nat} (h : t < 256) (tm : Tm) : tget t tm = (get3 (t / 64) (t % 64)).f tm.q := by
  have e : Nat.blt t 256 = true := blt_iff.2 h
  unfold tget getK; rw [e]; rfl
omit [Rho] in
theorem getK_hi {t : Nat} (h : ¬ t < 256) (tm : Tm) : tget t tm = DTree.get undefA (pos t) tm.o := by
  have e : Nat.blt t 256 = false := Bool.eq_false_iff.2 fun e => h (blt_iff.1 e)
  unfold tget getK; rw [e]; rfl
omit [Rho] in
theorem setK_lo {t : Nat} (h : t < 256) (v : AVal) (tm : Tm) : (setK t).f v tm = ⟨(put3 (t / 64) (t % 64)).f tm.q v, tm.o⟩ := by
  have e : Nat.blt t 256 = true := blt_iff.2 h
  unfold setK; rw [e]; rfl
omit [Rho] in
theorem setK_hi {t : Nat} (h : ¬ t < 256) (v : AVal) (tm : Tm) : (setK t).f v tm = ⟨tm.q, tm.o.set undefA v (pos t)⟩ := by
  have e : Nat.blt t 256 = false := Bool.eq_false_iff.2 fun e => h (blt_iff.1 e)
  unfold setK; rw [e]; rfl
omit [Rho] in
theorem tget_set {tm : Tm} {d : Nat} {v : AVal} (t : Nat) : tget t ((setK d).f v tm) = if d = t then v else tget t tm := by
  by_cases hd : d < 256 <;> by_cases ht : t < 256
  · rw [setK_lo hd, getK_lo ht, getK_lo ht, get3_put3 _ _ _ _ (by omega) (by omega) (by omega) (by omega)]
    have e : (d / 64 = t / 64 ∧ d % 64 = t % 64) = (d = t) := by apply propext; constructor <;> omega
    simp only [e]
  · rw [setK_lo hd, getK_hi ht, getK_hi ht, if_neg (by omega)]
  · rw [setK_hi hd, getK_lo ht, getK_lo ht, if_neg (by omega)]
  · rw [setK_hi hd, getK_hi ht, getK_hi ht, DTree.get_set]
    by_cases e : d = t
    · subst e; simp
    · rw [if_neg (fun h => e (pos_inj h)), if_neg e]
omit [Rho] in
theorem put_getD (a : Act) (d : Nat) (v : Value) (t : Nat) (hd : d < a.tmps.size) : (a.put (some d) v).tmps.getD t undef = if d = t then v else a.tmps.getD t undef := by
  simp only [Act.put]
  by_cases e : d = t
  · subst e; simp [hd]
  · simp [e, Array.getElem?_setIfInBounds_ne e]
theorem TR.put {m : Mp} {h : Heap} {nt : Nat} {tm : Tm} {a : Act} (t : TR m h nt tm a) {d : Option Tmp} {p : PutK} (hp : putK nt d = some p) {v : AVal} (hv : In (dom h) v) : TR m h nt (p.f v tm) (a.put d (γ m v)) := by
  unfold putK at hp
  cases d with
  | none => cases hp; exact t
  | some d =>
    simp only at hp
    obtain ⟨h1, h2⟩ := cond_some' hp
    cases h2
    have hlt := blt_iff.1 h1
    have hd : d < a.tmps.size := Nat.lt_of_lt_of_le hlt t.size
    refine ⟨by simp [Act.put]; exact t.size, fun x => ?_, fun x => ?_, t.defs, t.ddom⟩
    · rw [put_getD a d _ x hd, tget_set]
      by_cases e : d = x
      · simp [e]
      · simp [e]; simpa using t.val x
    · rw [tget_set]
      by_cases e : d = x
      · rw [if_pos e]; exact hv
      · rw [if_neg e]; exact t.ins x

def CFOk (P : Program) (E : Env) (cf : (FuncId → List AVal → Heap → VR)) : Prop :=
  ∀ f args h v h', cf f args h = .ok v h' → h'.df = h.df ∧ ∀ (S : Nat → Prop) m w, Rep E.gl S m h w → InL (dom h) args → (∀ d ∈ h.df, dom h d) →
    Calls P f ⟨γs m args⟩ w fun e w' => ∃ m', e = .returned (γ m' v) ∧ Rep E.gl S m' h' w' ∧ Goes m h w m' h' w' ∧ In (dom h') v
/-- One operation. -/
def StepOk (P : Program) (E : Env) (o : Oper) (tm : Tm) (h : Heap) (v : AVal) (h1 : Heap) : Prop :=
  ∀ (S : Nat → Prop) (m : Mp) (a : Act) (w : World) (Q : Exit → Act → World → Prop) (K : Act → World → Prop), Rep E.gl S m h w → Src E.gl m (dom h) tm a.eval → (∀ d ∈ h.df, dom h d) →
    (∀ m1 w1, Rep E.gl S m1 h1 w1 → Goes m h w m1 h1 w1 → In (dom h1) v → K (a.put o.dst (γ m1 v)) w1) → o.wp P a w K Q
theorem wr_step {o : Oper} {f : Tm → Heap → OR} (hw : WrOk P E o.op f) {cf : (FuncId → List AVal → Heap → VR)} (hcf : CFOk P E cf) {tm : Tm} {h h1 : Heap} {v : AVal}
    (e : (f tm h = .ok v h1) ∨ ∃ g args, f tm h = .call g args ∧ cf g args h = .ok v h1) : StepOk P E o tm h v h1 ∧ (∀ (S : Nat → Prop) m w (a : Act), Rep E.gl S m h w → Src E.gl m (dom h) tm a.eval → h1.df = h.df) := by
  rcases e with e | ⟨g, args, e, ec⟩
  · constructor
    · intro S m a w Q K hr hs _ hK
      have hg := hw S m h tm a.eval w o rfl hr hs
      rw [e] at hg
      obtain ⟨m', w', r, h2, h3, h4, h5, h6, _⟩ := hg
      unfold Oper.wp
      rw [h2]
      rcases h3 with rfl | ⟨rfl, rfl⟩
      · exact hK m' w' h4 h5 h6
      · exact hK m' w' h4 h5 h6
    · intro S m w a hr hs
      have hg := hw S m h tm a.eval w o rfl hr hs
      rw [e] at hg
      obtain ⟨_, _, _, _, _, _, _, _, h7⟩ := hg
      exact h7
  · constructor
    · intro S m a w Q K hr hs hdd hK
      have hg := hw S m h tm a.eval w o rfl hr hs
      rw [e] at hg
      obtain ⟨h2, h3⟩ := hg
      unfold Oper.wp
      rw [h2]
      show Calls P g ⟨γs m args⟩ w _
      refine ((hcf g args h v h1 ec).2 S m w hr h3 hdd).mono fun en w' ⟨m', he, h4, h5, h6⟩ => ?_
      subst he
      exact hK m' w' h4 h5 h6
    · intro _ _ _ _ _ _; exact (hcf g args h v h1 ec).1
theorem nw_step {o : Oper} {f : Tm → Option (AObj × Mk)} (hw : NwOk P E o.op f) {tm : Tm} {h : Heap} {p : AObj × Mk} (e : f tm = some p) : StepOk P E o tm h (p.2.mk h.nx) (h.new p.1) := by
  intro S m a w Q K hr hs _ hK
  obtain ⟨ob, mk⟩ := p
  have hfr : ¬ dom h h.nx := fun hd => Nat.lt_irrefl _ (hr.fresh _ hd)
  obtain ⟨cap, obj, h1, h2, h3, h4⟩ := hw m (dom h) tm a.eval ob mk w o rfl hs e h.nx hfr
  obtain ⟨q1, q2, q3⟩ := hr.pushed (ob := ob) (o := obj) (w' := { w with heap := w.heap.push obj }) (cap := cap) ⟨rfl, rfl, rfl, rfl⟩ h4 h2 h3
  unfold Oper.wp
  rw [h1]
  exact hK _ _ q1 q2 (by cases mk <;> exact q3)
/-- What 'carry' does. -/
theorem carry_ok (ok : EnvOk P E) {cf : (FuncId → List AVal → Heap → VR)} (hcf : CFOk P E cf) {o : Oper} {tm : Tm} {h : Heap} {next : AVal → Heap → CR} {out : Out} {tm' : Tm} {h' : Heap}
    (e : carry (opK E o.op) cf tm h next = .ok out tm' h') : ∃ v h1, next v h1 = .ok out tm' h' ∧ StepOk P E o tm h v h1 ∧ (∀ (S : Nat → Prop) m w (a : Act), Rep E.gl S m h w → Src E.gl m (dom h) tm a.eval → h1.df = h.df) := by
  have hop := opK_ok ok o.op
  cases hk : opK E o.op with
  | pu f =>
    rw [hk] at e hop
    simp only [carry] at e
    cases hv : f tm with
    | none => rw [hv] at e; cases e
    | some v =>
      rw [hv] at e
      refine ⟨v, h, e, fun S m a w Q K hr hs _ hK => ?_, fun _ _ _ _ _ _ => rfl⟩
      obtain ⟨h1, h2⟩ := hop m (dom h) tm a.eval v w o rfl hs hv
      unfold Oper.wp
      rw [h1]
      exact hK m w hr (Goes.refl m h w) h2
  | rd f =>
    rw [hk] at e hop
    simp only [carry] at e
    cases hv : f tm h with
    | none => rw [hv] at e; cases e
    | some v =>
      rw [hv] at e
      refine ⟨v, h, e, fun S m a w Q K hr hs _ hK => ?_, fun _ _ _ _ _ _ => rfl⟩
      obtain ⟨h1, h2⟩ := hop S m h tm a.eval v w o rfl hr hs hv
      unfold Oper.wp
      rw [h1]
      exact hK m w hr (Goes.refl m h w) h2
  | nw f =>
    rw [hk] at e hop
    simp only [carry] at e
    cases hv : f tm with
    | none => rw [hv] at e; cases e
    | some p =>
      rw [hv] at e
      exact ⟨_, _, e, nw_step hop hv, fun _ _ _ _ _ _ => rfl⟩
  | wr f =>
    rw [hk] at e hop
    simp only [carry] at e
    cases hv : f tm h with
    | fail => rw [hv] at e; cases e
    | ok v h1 =>
      rw [hv] at e
      obtain ⟨s1, s2⟩ := wr_step hop hcf (.inl hv)
      exact ⟨v, h1, e, s1, s2⟩
    | call g args =>
      rw [hv] at e
      simp only at e
      cases hc : cf g args h with
      | fail => rw [hc] at e; cases e
      | ok v h1 =>
        rw [hc] at e
        obtain ⟨s1, s2⟩ := wr_step hop hcf (.inr ⟨g, args, hv, hc⟩)
        exact ⟨v, h1, e, s1, s2⟩
omit [Rho] in
theorem stepK_eq (w : Option WantK) (k : OpK) (p : PutK) (rest : CK) (cf : (FuncId → List AVal → Heap → VR)) (tm : Tm) (h : Heap) :
    (stepK w k p rest).f cf tm h = match w with
      | none => carry k cf tm h fun v h => rest.f cf (p.f v tm) h
      | some w => Option.casesOn (motive := fun _ => CR) (w.f tm) .fail fun b => cond b (carry k cf tm h fun v h => rest.f cf (p.f v tm) h) (rest.f cf (p.f undefA tm) h) := by
  cases w <;> cases k <;> rfl
/-- The guard. -/
theorem want_gen {all : List Oper} {o : Oper} {m : Mp} {tm : Tm} {a : Act} (t : ∀ j b oj d, o.guard = some (j, b) → all[j]? = some oj → oj.dst = some d → a.tmps.getD d undef = γ m (tget d tm)) :
    (wantK all o.guard = none → Region.wanted o (yielded all.toArray a.tmps) = true) ∧
    (∀ wk b, wantK all o.guard = some wk → wk.f tm = some b → Region.wanted o (yielded all.toArray a.tmps) = b) := by
  unfold wantK Region.wanted
  cases hg : o.guard with
  | none => exact ⟨fun _ => rfl, fun wk b h => by cases h⟩
  | some jb =>
    obtain ⟨j, b⟩ := jb
    simp only
    cases hj : all[j]? with
    | none => exact ⟨(fun h => by cases h), fun wk c h1 h2 => by cases h1; cases h2⟩
    | some oj =>
      simp only
      cases hd : oj.dst with
      | none => exact ⟨(fun h => by cases h), fun wk c h1 h2 => by cases h1; cases h2⟩
      | some d =>
        refine ⟨(fun h => by cases h), fun wk c h1 h2 => ?_⟩
        cases h1
        simp only at h2
        have hv := t j b oj d hg hj hd
        have hy : yielded all.toArray a.tmps j = match a.tmps[d]? with | some (.bool b) => some b | _ => none := by
          simp [yielded, hj, hd]; rfl
        cases hu : tget d tm <;> rw [hu] at h2 hv <;> try (cases h2; done)
        · rename_i c'
          simp only [Option.some.injEq] at h2
          subst h2
          simp only [γ] at hv
          have : a.tmps[d]? = some (.bool c') := by
            cases hq : a.tmps[d]? with
            | none => simp [Array.getD_eq_getD_getElem?, hq, undef] at hv
            | some q => simp [Array.getD_eq_getD_getElem?, hq] at hv; rw [hv]
          rw [hy, this]
          simp [boolEqb_spec]
        · rename_i l
          cases h2
          simp only [γ] at hv
          have : (match a.tmps[d]? with | some (.bool b) => some b | _ => none) = none := by
            cases hq : a.tmps[d]? with
            | none => rfl
            | some q => simp [Array.getD_eq_getD_getElem?, hq] at hv; rw [hv]
          rw [hy, this]
          rfl
theorem want_ok {all : List Oper} {o : Oper} {m : Mp} {h : Heap} {nt : Nat} {tm : Tm} {a : Act} (t : TR m h nt tm a) :
    (wantK all o.guard = none → Region.wanted o (yielded all.toArray a.tmps) = true) ∧
    (∀ wk b, wantK all o.guard = some wk → wk.f tm = some b → Region.wanted o (yielded all.toArray a.tmps) = b) := want_gen fun _ _ _ d _ _ _ => t.val d
theorem opsK_ok (ok : EnvOk P E) {cf : (FuncId → List AVal → Heap → VR)} (hcf : CFOk P E cf) (nt : Nat) (all : List Oper) : ∀ (rest : List Oper) (i : Nat), all.drop i = rest → ∀ (tm : Tm) (h : Heap) (out : Out) (tm' : Tm) (h' : Heap),
    (opsK E nt all rest).f cf tm h = .ok out tm' h' → out = .normal ∧ ∀ (S : Nat → Prop) m a w Q, Rep E.gl S m h w → TR m h nt tm a →
      (∀ m' a' w', Rep E.gl S m' h' w' → TR m' h' nt tm' a' → Goes m h w m' h' w' → Q .normal a' w') → wpOps P all.toArray Q (List.range' i rest.length) a w
  | [], i, hi, tm, h, out, tm', h', e => by
    simp only [opsK] at e
    cases e
    exact ⟨rfl, fun S m a w Q hr ht hQ => hQ m a w hr ht (Goes.refl m h w)⟩
  | o :: rest, i, hi, tm, h, out, tm', h', e => by
    simp only [opsK] at e
    cases hp : putK nt o.dst with
    | none => rw [hp] at e; cases e
    | some p =>
      rw [hp] at e
      simp only at e
      rw [stepK_eq] at e
      have hi' : all.drop (i + 1) = rest := by rw [← List.drop_drop, hi]; rfl
      have hat : all.toArray[i]? = some o := by
        have : (all.drop i)[0]? = some o := by rw [hi]; rfl
        simpa using this
      -- a step
      have step : ∀ {v h1}, (opsK E nt all rest).f cf (p.f v tm) h1 = .ok out tm' h' → StepOk P E o tm h v h1 → (∀ (S : Nat → Prop) m w (a : Act), Rep E.gl S m h w → Src E.gl m (dom h) tm a.eval → h1.df = h.df) →
          out = .normal ∧ ∀ (S : Nat → Prop) m a w Q, Rep E.gl S m h w → TR m h nt tm a → (∀ m' a' w', Rep E.gl S m' h' w' → TR m' h' nt tm' a' → Goes m h w m' h' w' → Q .normal a' w') → o.wp P a w (wpOps P all.toArray Q (List.range' (i + 1) rest.length)) Q := fun {v h1} e2 s1 s2 => by
        obtain ⟨i1, i2⟩ := opsK_ok ok hcf nt all rest (i + 1) hi' _ _ _ _ _ e2
        refine ⟨i1, fun S m a w Q hr ht hQ => ?_⟩
        refine s1 S m a w Q _ hr (ht.src hr) ht.ddom fun m1 w1 r1 g1 in1 => ?_
        exact i2 S m1 _ w1 Q r1 ((ht.step hr g1 (s2 S m w a hr (ht.src hr))).put hp in1) fun m' a' w' r' t' g' => hQ m' a' w' r' t' (Goes.trans hr r1 g1 g')
      cases hwk : wantK all o.guard with
      | none =>
        rw [hwk] at e
        simp only at e
        obtain ⟨v, h1, e2, s1, s2⟩ := carry_ok ok hcf e
        obtain ⟨i1, i2⟩ := step e2 s1 s2
        refine ⟨i1, fun S m a w Q hr ht hQ => ?_⟩
        rw [show List.range' i (o :: rest).length = i :: List.range' (i + 1) rest.length from rfl]
        simp only [wpOps, hat, (want_ok (all := all) (o := o) ht).1 hwk, if_true]
        exact .inl (i2 S m a w Q hr ht hQ)
      | some wk =>
        rw [hwk] at e
        simp only at e
        cases hb : wk.f tm with
        | none => rw [hb] at e; cases e
        | some b =>
          rw [hb] at e
          simp only at e
          cases b with
          | true =>
            simp only [cond_true] at e
            obtain ⟨v, h1, e2, s1, s2⟩ := carry_ok ok hcf e
            obtain ⟨i1, i2⟩ := step e2 s1 s2
            refine ⟨i1, fun S m a w Q hr ht hQ => ?_⟩
            rw [show List.range' i (o :: rest).length = i :: List.range' (i + 1) rest.length from rfl]
            simp only [wpOps, hat, (want_ok (all := all) (o := o) ht).2 wk true hwk hb, if_true]
            exact .inl (i2 S m a w Q hr ht hQ)
          | false =>
            simp only [cond_false] at e
            obtain ⟨i1, i2⟩ := opsK_ok ok hcf nt all rest (i + 1) hi' _ _ _ _ _ e
            refine ⟨i1, fun S m a w Q hr ht hQ => ?_⟩
            rw [show List.range' i (o :: rest).length = i :: List.range' (i + 1) rest.length from rfl]
            simp only [wpOps, hat, (want_ok (all := all) (o := o) ht).2 wk false hwk hb, Bool.false_eq_true, if_false]
            exact i2 S m _ w Q hr (ht.put (v := undefA) hp trivial) hQ
end
end Go.Ev

namespace Go.Ev
variable [Rho] {S : Nat → Prop}
section
variable {P : Program} {E : Env}

def outExit : Out → Exit
  | .normal => .normal
  | .ret => .ret
  | .exit id => .exit id
/-- What a piece of code does. -/
def Does (P : Program) (E : Env) (nt : Nat) (c : Code) (tm : Tm) (h : Heap) (out : Out) (tm' : Tm) (h' : Heap) : Prop :=
  ∀ (S : Nat → Prop) (m : Mp) (a : Act) (w : World) (Q : Exit → Act → World → Prop), Rep E.gl S m h w → TR m h nt tm a →
    (∀ m' a' w', Rep E.gl S m' h' w' → TR m' h' nt tm' a' → Goes m h w m' h' w' → Q (outExit out) a' w') → c.wp P Q a w
def DrawOk (P : Program) (E : Env) : Prop :=
  ∀ (nt id : Nat) (ops : Array Oper) (cf : (FuncId → List AVal → Heap → VR)), CFOk P E cf → ∀ tm h out tm' h', (regionK E nt ops.toList).f cf tm h = .ok out tm' h' → Does P E nt (.region id ops true) tm h out tm' h'

theorem Rep.withDf {G : Tabs} {m : Mp} {h : Heap} {w : World} (r : Rep G S m h w) (l : List Pos) : Rep G S m ⟨h.t, h.nx, h.al, l⟩ w :=
  ⟨r.blk, r.fresh, r.apart, r.mem, r.rts, r.ins, r.glob, r.sem, r.lim⟩
omit [Rho] in
theorem Goes.withDf {m m' : Mp} {h h' : Heap} {w w' : World} (g : Goes m h w m' h' w') (l : List Pos) : Goes m h w m' ⟨h'.t, h'.nx, h'.al, l⟩ w' :=
  ⟨g.tape, g.os, g.output, g.size, g.keep, g.agree, g.nx, g.newd, g.newb, g.old, g.bold, g.vats⟩
omit [Rho] in
theorem Goes.fromDf {m m' : Mp} {h h' : Heap} {w w' : World} {l : List Pos} (g : Goes m ⟨h.t, h.nx, h.al, l⟩ w m' h' w') : Goes m h w m' h' w' :=
  ⟨g.tape, g.os, g.output, g.size, g.keep, g.agree, g.nx, g.newd, g.newb, g.old, g.bold, g.vats⟩

omit [Rho] in
theorem wp_rangeFunc {g : Operand} {ps : Array Tmp} {assign body : Code} {Q : Exit → Act → World → Prop} {a : Act} {w : World}
    (h : ∀ fn, ∃ (l : Nat) (mark : List Deferred) (w₁ : World) (d : Deferred) (f : FuncId) (args : Array Value),
      (Instr.enterLoop fn a.tmps ps assign body none).run P w = .ok (l, mark) w₁ ∧
      (resolve a.eval (rangeCall g l) 0).run P w₁ = .ok d w₁ ∧
      (invoke d.target d.args).run P w₁ = .ok (.enter f args) w₁ ∧
      Calls P f args w₁ fun e w₃ => (∃ v, e = .returned v) ∧ ∃ w₄, (Instr.endLoop l).run P w₃ = .ok none w₄ ∧ Q .normal { a with defers := mark ++ a.defers } w₄) :
    (Code.rangeFunc g ps assign body).wp P Q a w := by
  intro b k cs
  let b0 : Frame := { b with roundOf := none }
  have hb : ∀ a k, b.at a k = b0.atR a k := fun a k => by simp [Frame.atR, Frame.at, b0]
  obtain ⟨l, mark, w₁, d, f, args, he, hres, hinv, hcall⟩ := h b.fn
  have henter := stepR_rangeFunc (P := P) (b := b0) (a := a) (k := k) (cs := cs) (w := w) he hres hinv
  obtain ⟨e, w₃, fr, ⟨⟨v, rfl⟩, w₄, hend, hQ⟩, hsteps, hfn, hleave⟩ := hcall (b0.atR { a with defers := mark ++ a.defers } (.inRangeFunc l :: k) :: cs)
  refine ⟨.normal, _, w₄, hQ, ?_⟩
  rw [hb]
  show Steps P _ (lone (b.at _ k) cs w₄)
  rw [hb]
  refine .head henter (Steps.trans hsteps (.head ?_ (.one (stepR_endRangeFunc (b := b0) (a := { a with defers := mark ++ a.defers }) (k := k) (cs := cs) hend))))
  rw [← finish_atR_inRangeFunc l v]; exact step_leave_returned hleave

theorem TR.mono {m : Mp} {h : Heap} {nt : Nat} {tm : Tm} {a : Act} (t : TR m h nt tm a) : TR m h nt tm a := t

theorem rangeFunc_ok (ok : EnvOk P E) {nt : Nat} {g : Operand} {ps : Array Tmp} {assign body : Code} {cf : (FuncId → List AVal → Heap → VR)} (hcf : CFOk P E cf) {tm : Tm} {h : Heap} {out : Out} {tm' : Tm} {h' : Heap}
    (e : (codeK E nt (.rangeFunc g ps assign body)).f cf tm h = .ok out tm' h') : Does P E nt (.rangeFunc g ps assign body) tm h out tm' h' := by
  simp only [codeK] at e
  intro S m a w Q hr ht hQ
  obtain ⟨s1, s2⟩ := src_ok (E := E) (ht.src hr) g
  generalize (srcK E g).g tm = u at e s1 s2
  cases u <;> try (cases e; done)
  rename_i fn first captured
  cases fn <;> try (cases e; done)
  rename_i f
  simp only at e
  apply wp_rangeFunc
  intro fnid
  -- the records
  let w1 : World := { w with heap := w.heap.push (.deferred (some [])) }
  obtain ⟨r1, g1, d1⟩ := hr.pushed (ob := .defN) (o := .deferred (some [])) (w' := w1) (cap := 0) ⟨rfl, rfl, rfl, rfl⟩ (by simp) rfl trivial
  let lp : Loop := { state := .ready, pending := none, fn := fnid, tmps := a.tmps, params := ps, assign, body, defers := w.heap.size }
  let w2 : World := { w1 with heap := w1.heap.push (.loop lp) }
  obtain ⟨r2, g2, d2⟩ := r1.pushed (ob := .loopR) (o := .loop lp) (w' := w2) (cap := 0) ⟨rfl, rfl, rfl, rfl⟩ (by simp) ⟨lp, rfl, rfl, rfl⟩ trivial
  generalize hm2 : (m.set h.nx w.heap.size 0).set (h.new .defN).nx w1.heap.size 0 = m2 at r2 g2
  have g12 := Goes.trans hr r1 g1 g2
  generalize hh2 : (h.new .defN).new .loopR = h2 at e r2 g2 d2 g12
  have hdf2 : h2.df = h.df := by rw [← hh2]; rfl
  have hlt : h.nx.n < (h.new .defN).nx.n := by show _ < h.nx.succ.n; rw [Pos.n_succ]; omega
  have hbl : m2.b (h.new .defN).nx = w1.heap.size := by rw [← hm2, Mp.set_b_same]
  have hbd : m2.b h.nx = w.heap.size := by
    rw [← hm2, (Mp.set_other _ _ _ (fun e => by rw [e] at hlt; exact Nat.lt_irrefl _ hlt)).1, Mp.set_b_same]
  have hd2 : dom h2 h.nx := by rw [← hh2] at g2 ⊢; exact g2.old _ d1
  have hag2 : ∀ n, dom h n → m2.b n = m.b n ∧ m2.cv n = m.cv n := fun n hn => g12.agree n (hr.fresh n hn)
  have hin : InL (dom h2) (first ++ (.yld (h.new .defN).nx :: captured)) := (InL_iff _).2 fun v hv => by
    rcases List.mem_append.1 hv with hv | hv
    · exact In_mono g12.old _ ((InL_iff _).1 s2.1 v hv)
    · rcases List.mem_cons.1 hv with rfl | hv
      · exact d2
      · exact In_mono g12.old _ ((InL_iff _).1 s2.2 v hv)
  have hcall := callFn_run ok r2 (f := f) hin
  rw [appA_spec] at e
  generalize (callFnK E f).f h2 (first ++ (.yld (h.new .defN).nx :: captured)) = res at e hcall
  cases res with
  | ok _ _ => cases e
  | fail => cases e
  | call g' args =>
    obtain ⟨c1, c2⟩ := hcall
    simp only at e
    cases hc : cf g' args h2 with
    | fail => rw [hc] at e; cases e
    | ok v h3 =>
      rw [hc] at e
      simp only at e
      cases ho : (h3.at (h.new .defN).nx).obj <;> rw [ho] at e <;> try (cases e; done)
      cases e
      refine ⟨w1.heap.size, [{ target := .collected w.heap.size, args := #[] }], w2, { target := .fn (.func f) ⟨γs m captured⟩, args := ⟨γs m first⟩ ++ #[.func (.yield w1.heap.size) #[] #[]] }, g', ⟨γs m2 args⟩, ?_, ?_, ?_, ?_⟩
      · simp only [Instr.enterLoop, Sem.run_bind, run_newObj, Result.andThen_ok, Sem.run_pure]
        rfl
      · simp only [resolve, s1, γ, Deferred.ofValue]
        simp [Act.eval]
      · rw [show (invoke _ _ : Sem Next) = callFunc f ⟨γs m2 (first ++ (.yld (h.new .defN).nx :: captured))⟩ from ?_]
        · exact c1
        · simp only [invoke]
          congr 1
          apply Array.ext'
          simp only [γs_append, γs, γ, hbl]
          rw [γs_congr (D := dom h) hag2 first s2.1, γs_congr (D := dom h) hag2 captured s2.2]
          simp
      · obtain ⟨q1, q2⟩ := hcf g' args h2 v h3 hc
        refine (q2 S m2 w2 r2 c2 (fun d hd => by rw [hdf2] at hd; exact g12.old _ (ht.ddom d hd))).mono fun en w3 ⟨m3, he, r3, g3, _⟩ => ?_
        subst he
        refine ⟨⟨_, rfl⟩, ?_⟩
        have hag3 := g3.agree _ (r2.fresh _ d2)
        have hdl : dom h3 (h.new .defN).nx := g3.old _ d2
        obtain ⟨o, b1, b2⟩ := r3.blk _ (bk_of ho rfl)
        rw [ho] at b2
        obtain ⟨lp', rfl, p1, p2⟩ := b2
        rw [hag3.1, hbl] at b1
        refine ⟨{ w3 with heap := w3.heap.setIfInBounds w1.heap.size (.loop { lp' with state := .exhausted }) }, ?_, ?_⟩
        · have hg : (getObj w1.heap.size).run P w3 = .ok (.loop lp') w3 := by simp [getObj, Sem.run, b1]
          simp only [Instr.endLoop, Instr.getLoop, Sem.run_bind, hg, Result.andThen_ok, Sem.run_pure, p1]
          have hst := run_setObj_of (P := P) b1 (fun _ _ _ e => by cases e) (.loop { lp' with state := .exhausted })
          have hb : (LoopState.ready == LoopState.busy) = false := rfl
          simp only [hb, Bool.false_eq_true, if_false, Sem.run_bind, Sem.run_pure, hst, Result.andThen_ok]
          rw [p2]
        · obtain ⟨r4, g4, d4⟩ := r3.noCells_alone (n := (h.new .defN).nx) (by rw [ho]; rfl) .other (.loop { lp' with state := .exhausted }) (w' := { w3 with heap := w3.heap.setIfInBounds w1.heap.size (.loop { lp' with state := .exhausted }) })
            (by simp) trivial trivial (by rw [hag3.1, hbl]) rfl rfl rfl
          have gall := Goes.trans hr r2 g12 (Goes.trans r2 r3 g3 g4)
          refine hQ m3 _ _ (r4.withDf _) ?_ (gall.withDf _)
          have hdf4 : (h3.setObj (h.new .defN).nx .other).df = h.df := by show h3.df = _; rw [q1, hdf2]
          have t4 := ht.step hr gall hdf4
          refine ⟨t4.size, t4.val, t4.ins, ?_, ?_⟩
          · show _ :: a.defers = collected m3 h.nx :: List.map _ _
            rw [t4.defs]
            congr 1
            simp only [collected]
            rw [(g3.agree _ (r2.fresh _ hd2)).1, hbd]
          · intro d hd
            rcases List.mem_cons.1 hd with rfl | hd
            · exact g4.old _ (g3.old _ hd2)
            · exact t4.ddom d hd
theorem loopGo_ok {cf : (FuncId → List AVal → Heap → VR)} {x : CK} {nt : Nat} {c : Code} (hx : ∀ tm h out tm' h', x.f cf tm h = .ok out tm' h' → Does P E nt c tm h out tm' h') : ∀ (n : Nat) (tm : Tm) (h : Heap) (out : Out) (tm' : Tm) (h' : Heap),
    loopGo x cf n tm h = .ok out tm' h' → ∀ (S : Nat → Prop) (m : Mp) (a : Act) (w : World) (Q : Exit → Act → World → Prop), Rep E.gl S m h w → TR m h nt tm a →
      (∀ m' a' w', Rep E.gl S m' h' w' → TR m' h' nt tm' a' → Goes m h w m' h' w' → Q (outExit out) a' w') → Code.rounds P c Q n a w
  | 0, _, _, _, _, _, e => by cases e
  | n + 1, tm, h, out, tm', h', e => by
    intro S m a w Q hr ht hQ
    rw [rounds_succ]
    have e' : CR.casesOn (motive := fun _ => CR) (x.f cf tm h) (fun o tm h => Out.casesOn (motive := fun _ => CR) o (loopGo x cf n tm h) (.ok .ret tm h) (fun id => .ok (.exit id) tm h)) .fail = .ok out tm' h' := e
    cases hxe : x.f cf tm h with
    | fail => rw [hxe] at e'; cases e'
    | ok o t1 h1 =>
      rw [hxe] at e'
      refine hx _ _ _ _ _ hxe S m a w _ hr ht fun m1 a1 w1 r1 t1' g1 => ?_
      cases o with
      | normal => exact loopGo_ok hx n _ _ _ _ _ e' S m1 a1 w1 Q r1 t1' fun m' a' w' r' t' g' => hQ m' a' w' r' t' (Goes.trans hr r1 g1 g')
      | ret => cases e'; exact hQ _ _ _ r1 t1' g1
      | exit id => cases e'; exact hQ _ _ _ r1 t1' g1
theorem codeK_ok (ok : EnvOk P E) (hD : DrawOk P E) {cf : (FuncId → List AVal → Heap → VR)} (hcf : CFOk P E cf) (nt : Nat) : ∀ (c : Code) (tm : Tm) (h : Heap) (out : Out) (tm' : Tm) (h' : Heap),
    (codeK E nt c).f cf tm h = .ok out tm' h' → Does P E nt c tm h out tm' h' := by
  intro c
  induction c with
  | skip => intro tm h out tm' h' e S m a w Q hr ht hQ; simp only [codeK] at e; cases e; exact wp_skip (hQ m a w hr ht (Goes.refl ..))
  | label l => intro tm h out tm' h' e S m a w Q hr ht hQ; simp only [codeK] at e; cases e; exact wp_label (hQ m a w hr ht (Goes.refl ..))
  | ret => intro tm h out tm' h' e S m a w Q hr ht hQ; simp only [codeK] at e; cases e; exact wp_ret (hQ m a w hr ht (Goes.refl ..))
  | exit id => intro tm h out tm' h' e S m a w Q hr ht hQ; simp only [codeK] at e; cases e; exact wp_exit (hQ m a w hr ht (Goes.refl ..))
  | seq x y ihx ihy =>
    intro tm h out tm' h' e S m a w Q hr ht hQ
    simp only [codeK] at e
    cases hx : (codeK E nt x).f cf tm h with
    | fail => rw [hx] at e; cases e
    | ok o t1 h1 =>
      rw [hx] at e
      refine wp_seq (ihx _ _ _ _ _ hx S m a w _ hr ht fun m1 a1 w1 r1 t1' g1 => ?_)
      cases o with
      | normal => exact ihy _ _ _ _ _ e S m1 a1 w1 Q r1 t1' fun m' a' w' r' t' g' => hQ m' a' w' r' t' (Goes.trans hr r1 g1 g')
      | ret => cases e; exact hQ _ _ _ r1 t1' g1
      | exit id => cases e; exact hQ _ _ _ r1 t1' g1
  | cond x a b iha ihb =>
    intro tm h out tm' h' e S m ac w Q hr ht hQ
    simp only [codeK] at e
    obtain ⟨s1, s2⟩ := src_ok (E := E) (ht.src hr) x
    generalize (srcK E x).g tm = u at e s1 s2
    cases u <;> try (cases e; done)
    rename_i c
    refine wp_cond (t := c) (by rw [s1]; rfl) ?_
    cases c with
    | true => exact iha _ _ _ _ _ e S m ac w Q hr ht hQ
    | false => exact ihb _ _ _ _ _ e S m ac w Q hr ht hQ
  | block id x ih =>
    intro tm h out tm' h' e S m a w Q hr ht hQ
    simp only [codeK] at e
    cases hx : (codeK E nt x).f cf tm h with
    | fail => rw [hx] at e; cases e
    | ok o t1 h1 =>
      rw [hx] at e
      refine wp_block (ih _ _ _ _ _ hx S m a w _ hr ht fun m1 a1 w1 r1 t1' g1 => ?_)
      cases o with
      | normal => cases e; exact hQ _ _ _ r1 t1' g1
      | ret => cases e; exact hQ _ _ _ r1 t1' g1
      | exit j =>
        simp only at e
        simp only [outExit, Exit.inBlock]
        by_cases hj : j = id
        · subst hj
          simp only [Nat.beq_refl, cond_true] at e
          cases e
          rw [if_pos rfl]; exact hQ _ _ _ r1 t1' g1
        · rw [if_neg hj]
          have : Nat.beq j id = false := by cases hb : Nat.beq j id with
            | false => rfl
            | true => exact absurd (Nat.eq_of_beq_eq_true hb) hj
          rw [this, cond_false] at e
          cases e
          exact hQ _ _ _ r1 t1' g1
  | loop x ih =>
    intro tm h out tm' h' e S m a w Q hr ht hQ
    simp only [codeK] at e
    exact wp_loop_rounds 1000000 (loopGo_ok ih 1000000 _ _ _ _ _ e S m a w Q hr ht hQ)
  | scope x ih =>
    intro tm h out tm' h' e S m a w Q hr ht hQ
    simp only [codeK] at e
    refine wp_scope_straight (ih _ _ _ _ _ e S m a w _ hr ht fun m1 a1 w1 r1 t1' g1 => ?_)
    have := hQ _ _ _ r1 t1' g1
    cases out <;> exact this
  | region id ops draw =>
    intro tm h out tm' h' e
    cases draw with
    | true => simp only [codeK] at e; exact hD nt id ops cf hcf _ _ _ _ _ e
    | false =>
      simp only [codeK] at e
      intro S m a w Q hr ht hQ
      obtain ⟨rfl, k⟩ := opsK_ok ok hcf nt ops.toList ops.toList 0 rfl _ _ _ _ _ e
      have := k S m a w Q hr ht hQ
      rw [← List.range_eq_range'] at this
      exact wp_region (by simpa using this)
  | rangeFunc g ps x y => intro tm h out tm' h' e; exact rangeFunc_ok ok hcf e
  | _ => intro tm h out tm' h' e; simp only [codeK] at e; cases e
end
end Go.Ev

namespace Go.Ev
variable [Rho] {S : Nat → Prop}
section
variable {P : Program} {E : Env}

/-! ### Leaving a function: the marks of its loops, then its results -/
def Takes (P : Program) : List Nat → World → World → Prop
  | [], w, w' => w' = w
  | d :: l, w, w' => ∃ w1, (Instr.takeDeferred d).run P w = .ok [] w1 ∧ Takes P l w1 w'
def markOf (d : Nat) : Deferred := { target := .collected d, args := #[] }
omit [Rho] in
theorem step_mark {b : Frame} {a : Act} {k : List Item} {cs : List Frame} {w w1 : World} {d : Nat} {ds : List Deferred} (h : (Instr.takeDeferred d).run P w = .ok [] w1) :
    step P (lone { b.at { tmps := a.tmps, defers := markOf d :: ds } k with mode := .returning } cs w) = .next (lone { b.at { tmps := a.tmps, defers := ds } k with mode := .returning } cs w1) :=
  step_lone_go (by simp [stepG, unwind, markOf, Frame.at, Sem.runT_eq, h, GStep.bare_after])
omit [Rho] in
theorem steps_marks {b : Frame} {k : List Item} {cs : List Frame} : ∀ (l : List Nat) (a : Act) (w w' : World), a.defers = l.map markOf → Takes P l w w' →
    Steps P (lone { b.at a k with mode := .returning } cs w) (lone { b.at { tmps := a.tmps, defers := [] } k with mode := .returning } cs w')
  | [], ⟨t, ds⟩, w, w', h1, h2 => by
    simp only [List.map_nil] at h1
    subst h1
    rw [show w' = w from h2]
    exact Steps.refl _ _
  | d :: l, ⟨t, ds⟩, w, w', h1, ⟨w1, h2, h3⟩ => by
    simp only [List.map_cons] at h1
    subst h1
    exact .head (step_mark (a := ⟨t, []⟩) h2) (steps_marks l ⟨t, l.map markOf⟩ w1 w' rfl h3)
omit [Rho] in
theorem calls_of_wp_marks {f : FuncId} {fn : Func} {c : Code} {args : Array Value} {w : World} {R : Ending → World → Prop}
    (hf : P.funcs[f]? = some fn) (hb : fn.body = some c)
    (h : c.wp P (fun e a w1 => (e = .normal ∨ e = .ret) ∧ ∃ l w2 v, a.defers = l.map markOf ∧ Takes P l w1 w2 ∧ (results fn a.tmps).run P w2 = .ok v w2 ∧ R (.returned v) w2)
      { tmps := args ++ Array.replicate (fn.ntmps - args.size) undef, defers := [] } w) :
    Calls P f args w R := by
  intro cs
  let b : Frame := { (default : Frame) with fn := f, kind := .normal }
  have henter : Frame.enter P f args .normal =
      b.at { tmps := args ++ Array.replicate (fn.ntmps - args.size) undef, defers := [] } [.code c] := by
    simp [Frame.enter, Frame.at, hf, hb, b]
  obtain ⟨e, a', w', ⟨he, l, w2, v, h1, h2, h3, h4⟩, harr⟩ := h b [] cs
  rw [← henter] at harr
  have hend : ∃ todo, Steps P (lone (Frame.enter P f args .normal) cs w) (lone { b.at a' todo with mode := .returning } cs w') := by
    rcases he with rfl | rfl
    · exact ⟨[], Steps.trans harr (.one step_end)⟩
    · exact harr
  obtain ⟨todo, hs⟩ := hend
  exact ⟨.returned v, w2, _, h4, Steps.trans hs (steps_marks l a' w' w2 h1 h2), rfl, rfl, rfl, rfl, fn, hf, h3⟩

/-! ### The results -/
def resF (tmps : Array Value) : ResultVar → Sem Value
  | .tmp t => pure (tmps.getD t undef)
  | .cell a t => do loadVar t (← asAddr (tmps.getD a undef))
omit [Rho] in
theorem results_eq (fn : Func) (tmps : Array Value) : results fn tmps = (do
    let vs ← fn.results.mapM (resF tmps)
    pure (if h : vs.size = 1 then vs[0] else .tuple vs)) := by
  unfold results
  congr 1
theorem resK_ok (ok : EnvOk P E) {m : Mp} {h : Heap} {w : World} (hr : Rep E.gl S m h w) {tm : Tm} {tmps : Array Value}
    (hv : ∀ t, tmps.getD t undef = γ m (tget t tm) ∧ In (dom h) (tget t tm)) : ∀ (rs : List ResultVar) (l : List AVal), (resK E rs).f tm h = some l →
    (List.mapM (resF tmps) rs).run P w = .ok (γs m l) w ∧ InL (dom h) l
  | [], l, e => by simp only [resK] at e; cases e; exact ⟨by simp [γs], trivial⟩
  | .tmp t :: rs, l, e => by
    simp only [resK] at e
    cases hx : (resK E rs).f tm h with
    | none => rw [hx] at e; cases e
    | some x =>
      rw [hx] at e
      cases e
      obtain ⟨i1, i2⟩ := resK_ok ok hr hv rs x hx
      refine ⟨?_, (hv t).2, i2⟩
      rw [List.mapM_cons]
      simp only [resF, Sem.run_bind, Sem.run_pure, Result.andThen_ok, i1, γs, (hv t).1]
  | .cell a t :: rs, l, e => by
    simp only [resK] at e
    cases hl : (loadK E t).f h (tget a tm) with
    | none => rw [hl] at e; cases e
    | some v =>
      rw [hl] at e
      simp only at e
      cases hx : (resK E rs).f tm h with
      | none => rw [hx] at e; cases e
      | some x =>
        rw [hx] at e
        cases e
        obtain ⟨i1, i2⟩ := resK_ok ok hr hv rs x hx
        have lo := load_ok ok t (.tmp a)
        have hsrc : Src E.gl m (dom h) tm (fun x => match x with | .tmp t => tmps.getD t undef | .const v => v | .global g => .pointer (some ⟨g, 0, none⟩) | .func f => .func (.func f) #[] #[]) :=
          ⟨hv, fun _ => rfl, fun _ => rfl, fun _ => rfl⟩
        obtain ⟨k1, k2⟩ := lo S m h tm _ v w { (default : Oper) with op := .load t (.tmp a) } rfl hr hsrc hl
        refine ⟨?_, k2, i2⟩
        have k3 : (Instr.loadAt t (tmps.getD a undef)).run P w = .ok (γ m v) w := by
          simp only [execOp, Sem.run_bind] at k1
          cases hq : (Instr.loadAt t (tmps.getD a undef)).run P w with
          | ok u w1 => rw [hq] at k1; simp at k1; rw [k1.1, k1.2]
          | halt x w1 => rw [hq] at k1; cases k1
        rw [List.mapM_cons]
        simp only [resF, Sem.run_bind, Sem.run_pure, γs]
        generalize tmps.getD a undef = u at k3 ⊢
        unfold Instr.loadAt at k3
        cases u with
        | pointer o =>
          cases o with
          | none => simp [Instr.sureAddr] at k3
          | some ad =>
            simp only [Instr.sureAddr, Sem.run_bind, Sem.run_pure, Result.andThen_ok] at k3
            simp only [asAddr, Sem.run_pure, Result.andThen_ok, k3]
            rw [i1]; rfl
        | _ => simp [Instr.sureAddr] at k3
theorem oneOrTup_spec (m : Mp) (l : List AVal) : (if h : (⟨γs m l⟩ : Array Value).size = 1 then (⟨γs m l⟩ : Array Value)[0] else Value.tuple ⟨γs m l⟩) = γ m (oneOrTup l) := by
  match l with
  | [] => rfl
  | [v] => rfl
  | a :: b :: l => simp [γs, oneOrTup, γ]
omit [Rho] in
theorem oneOrTup_in {D : Pos → Prop} {l : List AVal} (h : InL D l) : In D (oneOrTup l) := by
  match l, h with
  | [], h => exact h
  | [v], h => exact h.1
  | a :: b :: l, h => exact h
theorem results_ok (ok : EnvOk P E) {m : Mp} {h : Heap} {w : World} (hr : Rep E.gl S m h w) {tm : Tm} {tmps : Array Value}
    (hv : ∀ t, tmps.getD t undef = γ m (tget t tm) ∧ In (dom h) (tget t tm)) {fn : Func} {l : List AVal} (e : (resK E fn.results.toList).f tm h = some l) :
    (results fn tmps).run P w = .ok (γ m (oneOrTup l)) w ∧ In (dom h) (oneOrTup l) := by
  obtain ⟨h1, h2⟩ := resK_ok ok hr hv _ _ e
  refine ⟨?_, oneOrTup_in h2⟩
  rw [← oneOrTup_spec]
  rw [results_eq, show fn.results = fn.results.toList.toArray by simp, List.mapM_toArray]
  rw [map_eq_pure_bind]
  simp only [Sem.run_bind, h1, Result.andThen_ok, Sem.run_pure]

/-! ### The marks -/
theorem undefer_ok {m : Mp} : ∀ (l : List Pos) (h h' : Heap) (w : World), Rep E.gl S m h w → undefer l h = some h' → ∃ w', Takes P (l.map m.b) w w' ∧ Rep E.gl S m h' w' ∧ Goes m h w m h' w'
  | [], h, h', w, r, e => by cases e; exact ⟨w, rfl, r, Goes.refl m h w⟩
  | d :: l, h, h', w, r, e => by
    simp only [undefer] at e
    cases ho : (h.at d).obj <;> rw [ho] at e <;> try (cases e; done)
    simp only at e
    have hd : dom h d := by unfold dom; rw [ho]; simp
    obtain ⟨o, b1, b2⟩ := r.blk d (bk_of ho rfl)
    rw [ho] at b2
    cases (show o = _ from b2)
    obtain ⟨r1, g1, _⟩ := r.noCells_alone (n := d) (by rw [ho]; rfl) .other (.deferred none) (w' := { w with heap := w.heap.setIfInBounds (m.b d) (.deferred none) }) rfl trivial trivial rfl rfl rfl rfl
    obtain ⟨w', t2, r2, g2⟩ := undefer_ok l _ h' _ r1 e
    refine ⟨w', ⟨_, ?_, t2⟩, r2, Goes.trans r r1 g1 g2⟩
    have hg : (getObj (m.b d)).run P w = .ok (.deferred (some [])) w := by simp [getObj, Sem.run, b1]
    have hst := run_setObj_of (P := P) b1 (fun _ _ _ e => by cases e) (.deferred none)
    simp only [Instr.takeDeferred, Sem.run_bind, hg, Result.andThen_ok, hst, Sem.run_pure]

/-! ### A function -/
omit [Rho] in
theorem tget_layArgs : ∀ (l : List AVal) (k : Nat) (tm : Tm) (t : Nat), tget t (layArgs l k tm) = if k ≤ t then (l[t - k]?).getD (tget t tm) else tget t tm
  | [], k, tm, t => by simp [layArgs]
  | v :: l, k, tm, t => by
    simp only [layArgs]
    rw [tget_layArgs l (k + 1), tget_set]
    by_cases h1 : k + 1 ≤ t
    · have h2 : k ≤ t := by omega
      have h3 : ¬ k = t := by omega
      have h4 : t - k = (t - (k + 1)) + 1 := by omega
      simp only [if_pos h1, if_pos h2, if_neg h3, h4]
      simp
    · by_cases h2 : k = t
      · subst h2; simp [h1]
      · have h3 : ¬ k ≤ t := by omega
        simp only [if_neg h1, if_neg h2, if_neg h3]
omit [Rho] in
theorem tget_leaf (t : Nat) : tget t tm0 = undefA := by
  by_cases h : t < 256
  · rw [getK_lo h]
    have h0 : ∀ i (q : Q0), q = q0e → (get0 i).f q = undefA := fun i q e => by subst e; unfold get0; cases Nat.beq i 0 <;> cases Nat.beq i 1 <;> cases Nat.beq i 2 <;> rfl
    have h1 : ∀ k i (q : Q1), q = q1e → (get1 k i).f q = undefA := fun k i q e => by subst e; unfold get1; cases Nat.beq k 0 <;> cases Nat.beq k 1 <;> cases Nat.beq k 2 <;> exact h0 _ _ rfl
    have h2 : ∀ k i (q : Q2), q = q2e → (get2 k i).f q = undefA := fun k i q e => by subst e; unfold get2; cases Nat.beq k 0 <;> cases Nat.beq k 1 <;> cases Nat.beq k 2 <;> exact h1 _ _ _ rfl
    unfold get3; cases Nat.beq (t / 64) 0 <;> cases Nat.beq (t / 64) 1 <;> cases Nat.beq (t / 64) 2 <;> exact h2 _ _ _ rfl
  · rw [getK_hi h]; exact DTree.get_leaf _
theorem args_getD (m : Mp) (args : List AVal) (n t : Nat) : ((⟨γs m args⟩ : Array Value) ++ Array.replicate n undef).getD t undef = γ m (tget t (layArgs args 0 tm0)) := by
  rw [tget_layArgs, tget_leaf]
  simp only [Nat.zero_le, if_true, Nat.sub_zero, Array.getD_eq_getD_getElem?, Array.getElem?_append]
  by_cases h : t < args.length
  · simp [γs_map, h]
  · simp [γs_map, h, undefA, γ, γs, undef, Array.getElem?_replicate]
    split <;> rfl
omit [Rho] in
theorem cond_failV {b : Bool} {x : VR} {v : AVal} {h : Heap} (e : cond b x .fail = .ok v h) : b = true ∧ x = .ok v h := by
  cases b with
  | true => exact ⟨rfl, e⟩
  | false => cases e
theorem funK_ok (ok : EnvOk P E) (hD : DrawOk P E) {cf : (FuncId → List AVal → Heap → VR)} (hcf : CFOk P E cf) : CFOk P E (fun f args h => (funK E f).f cf args h) := by
  intro f args h v h' e
  simp only [funK] at e
  cases hf : E.fns.get none (pos f) with
  | none => rw [hf] at e; cases e
  | some fn =>
    rw [hf] at e
    simp only at e
    cases hb : fn.body with
    | none => rw [hb] at e; cases e
    | some c =>
      rw [hb] at e
      simp only at e
      replace e := cond_failV e
      obtain ⟨hle, e⟩ := e
      cases hx : (codeK E fn.ntmps c).f cf (layArgs args 0 tm0) ⟨h.t, h.nx, h.al, []⟩ with
      | fail => rw [hx] at e; cases e
      | ok o tm h1 =>
        rw [hx] at e
        simp only at e
        have hend : (o = .normal ∨ o = .ret) ∧ ∃ h2 l, undefer h1.df h1 = some h2 ∧ (resK E fn.results.toList).f tm h2 = some l ∧ v = oneOrTup l ∧ h' = ⟨h2.t, h2.nx, h2.al, h.df⟩ := by
          cases o with
          | exit id => cases e
          | normal =>
            refine ⟨.inl rfl, ?_⟩
            cases hu : undefer h1.df h1 with
            | none => rw [hu] at e; cases e
            | some h2 =>
              rw [hu] at e
              simp only at e
              cases hl : (resK E fn.results.toList).f tm h2 with
              | none => rw [hl] at e; cases e
              | some l => rw [hl] at e; cases e; exact ⟨h2, l, rfl, hl, rfl, rfl⟩
          | ret =>
            refine ⟨.inr rfl, ?_⟩
            cases hu : undefer h1.df h1 with
            | none => rw [hu] at e; cases e
            | some h2 =>
              rw [hu] at e
              simp only at e
              cases hl : (resK E fn.results.toList).f tm h2 with
              | none => rw [hl] at e; cases e
              | some l => rw [hl] at e; cases e; exact ⟨h2, l, rfl, hl, rfl, rfl⟩
        obtain ⟨ho, h2, l, hu, hl, rfl, rfl⟩ := hend
        refine ⟨rfl, fun S m w hr hin hdd => ?_⟩
        have hlen : args.length ≤ fn.ntmps := Nat.le_of_ble_eq_true hle
        refine calls_of_wp_marks (ok.fn f fn hf) hb ?_
        have hr0 := hr.withDf []
        have ht0 : TR m ⟨h.t, h.nx, h.al, []⟩ fn.ntmps (layArgs args 0 tm0) { tmps := ⟨γs m args⟩ ++ Array.replicate (fn.ntmps - (⟨γs m args⟩ : Array Value).size) undef, defers := [] } := by
          refine ⟨?_, fun t => args_getD m args _ t, fun t => ?_, rfl, fun d hd => (by cases hd)⟩
          · simp [γs_length]; omega
          · rw [tget_layArgs, tget_leaf]
            simp only [Nat.zero_le, if_true, Nat.sub_zero]
            cases hq : args[t]? with
            | none => exact trivial
            | some v => exact InL_mem hin hq
        refine codeK_ok ok hD hcf fn.ntmps c _ _ _ _ _ hx S m _ w _ hr0 ht0 fun m1 a1 w1 r1 t1 g1 => ?_
        obtain ⟨w2, k1, r2, g2⟩ := undefer_ok (P := P) h1.df h1 h2 w1 r1 hu
        have hv : ∀ t, a1.tmps.getD t undef = γ m1 (tget t tm) ∧ In (dom h2) (tget t tm) := fun t => ⟨t1.val t, In_mono g2.old _ (t1.ins t)⟩
        obtain ⟨q1, q2⟩ := results_ok ok r2 hv hl
        refine ⟨by rcases ho with rfl | rfl; exact .inl rfl; exact .inr rfl, h1.df.map m1.b, w2, _, ?_, k1, q1, m1, rfl, r2.withDf _, ((Goes.trans hr0 r1 g1 g2).fromDf).withDf _, q2⟩
        rw [t1.defs, List.map_map]; rfl
theorem callG_ok (ok : EnvOk P E) (hD : DrawOk P E) : ∀ n, CFOk P E (callG E n)
  | 0 => fun f args h v h' e => by cases e
  | n + 1 => funK_ok ok hD (callG_ok ok hD n)
theorem envOk (P : Program) (G : Tabs) (F : List Fact) (hF : ∀ f ∈ F, FactOk f) (hL : LenOk G) : EnvOk P (Env.sy P G F) where
  facts := hF
  len := hL
  ty := fun t i h => by
    simp only [Env.ty, Env.sy] at h
    rw [DTree.get_ofList, List.getD_eq_getElem?_getD, List.getElem?_map] at h
    have hl : P.types.toList[t]? = some i := by
      cases hq : P.types.toList[t]? with
      | none => rw [hq] at h; cases h
      | some j => rw [hq] at h; simpa using h
    have hlt : t < P.types.size := by
      have := (List.getElem?_eq_some_iff.1 hl).1
      simpa using this
    show (if t < P.types.size then P.types[t]? else _) = _
    rw [if_pos hlt]
    simpa using hl
  fn := fun f fn h => by
    simp only [Env.sy] at h
    rw [DTree.get_ofList, List.getD_eq_getElem?_getD, List.getElem?_map] at h
    cases hq : P.funcs.toList[f]? with
    | none => rw [hq] at h; cases h
    | some j => rw [hq] at h; simp at h; subst h; simpa using hq
  gt := fun t h => by
    simp only [Env.sy, Bool.and_eq_true, Bool.not_eq_true'] at h
    exact h
end
end Go.Ev
