/- The evaluator of closed calls, part Fu: what the program computes on given inputs, read by the kernel; sound in every world (part Gh). -/
import Derived.Test.YtendmajekgmkhaaGreatDoorFt
import Derived.KernelRfl
set_option linter.unusedVariables false
set_option linter.unusedSimpArgs false
set_option linter.unnecessarySimpa false
namespace Go.Ev
section
variable {P : Program} {E : Env}

theorem ib_next : Extern.allNextRows.lookup "internal/bytealg.IndexByteString" = none := by kernel_rfl
theorem ib_next0 : Extern.allNextRows.lookup "" = none := by kernel_rfl
theorem ib_find {fn : Func} (hn : fn.name = "internal/bytealg.IndexByteString") : Extern.find fn = some Extern.BytealgIndexByte.indexByte := by
  unfold Extern.find
  rw [hn]
  have h1 : Extern.allGenericRows.lookup "internal/bytealg.IndexByteString" = none := by kernel_rfl
  have h2 : Extern.allTypedRows.lookup "internal/bytealg.IndexByteString" = none := by kernel_rfl
  have h3 : Extern.allRows.lookup "internal/bytealg.IndexByteString" = some Extern.BytealgIndexByte.indexByte := by kernel_rfl
  simp only [h1, h2, h3]
  rfl
/-- A call of a function by its number. -/
theorem callFn_run (ok : EnvOk P E) {m : Mp} {h : Heap} {w : World} (hr : Rep E.gl m h w) {f : FuncId} {args : List AVal} (hin : InL (dom h) args) :
    WrGood P E m h w (callFunc f ⟨γs m args⟩) ((callFnK E f).f h args) := by
  unfold callFnK
  cases hf : E.fns.get none (pos f) with
  | none => exact trivial
  | some fn =>
    have hP := ok.fn f fn hf
    simp only
    cases hb : fn.body with
    | some c =>
      simp only
      cases hn : (fn.name == "runtime.NumGoroutine") with
      | true => exact trivial
      | false =>
        refine ⟨?_, hin⟩
        have hne : ¬ fn.name = "runtime.NumGoroutine" := fun e => by rw [e] at hn; simp at hn
        simp [callFunc, hP, hb, hne]
    | none =>
      simp only
      cases he : externA fn.name fn.origin args with
      | none => exact trivial
      | some v =>
        simp only
        unfold externA at he
        obtain ⟨h1, h2⟩ := cond_some' he
        rw [Bool.and_eq_true] at h1
        have hname := eq_of_beq h1.1
        have horig := eq_of_beq h1.2
        split at h2
        · rename_i s c
          have := intOut_spec h2; subst this
          refine ⟨m, w, _, ?_, .inl rfl, hr, Goes.refl m h w, trivial, rfl⟩
          have hnn : (fn.name == "runtime.NumGoroutine") = false := by rw [hname]; kernel_rfl
          have hnx : Extern.findNext fn = none := by unfold Extern.findNext; rw [hname, horig]; simp only [ib_next, ib_next0]; rfl
          have ru := Lib.run_indexByteString (P := P) ⟨⟨s⟩⟩ (Int.ofNat c) w
          simp only [callFunc, Sem.run_bind, run_program, Result.andThen_ok, hP, hnn, hb, Option.isNone_none, if_true, Bool.false_eq_true, if_false, run_mark, hnx, ib_find hname]
          rw [show (⟨γs m [.str s, .int .u8 (.ofNat c)]⟩ : Array Value) = #[.string ⟨⟨s⟩⟩, .int .u8 (Int.ofNat c)] from rfl, ru]
          rfl
        · cases h2
theorem method_run (ok : EnvOk P E) {t : TypeId} {name : String} {f : FuncId} (h : methodA E t name = some f) (v : Value) (n : Nat) (w : World) : (method (n + 1) t v name).run P w = .ok (f, v) w := by
  unfold methodA at h
  cases ht : E.ty t with
  | none => rw [ht] at h; cases h
  | some i =>
    cases hu : E.und t with
    | none => rw [ht, hu] at h; cases h
    | some d =>
      rw [ht, hu] at h
      simp only at h
      have hti := run_info (ok.ty t i ht) w
      have hru := ok.run_und hu w
      cases hm : i.methods.toList.find? (fun m => m.name == name) with
      | none => rw [hm] at h; cases h
      | some mm =>
        rw [hm] at h
        simp only at h
        have hm' : i.methods.find? (fun m => m.name == name) = some mm := by rw [← Array.find?_toList]; exact hm
        obtain ⟨nm, sig, path, func⟩ := mm
        obtain ⟨path⟩ := path
        simp only at h
        cases path with
        | cons _ _ => cases d <;> (cases func <;> cases h)
        | nil =>
          cases func with
          | none => cases d <;> cases h
          | some fp =>
            obtain ⟨g, b⟩ := fp
            have goal : (∀ e, d = .pointer e → b = true) ∧ ((∀ e, d ≠ .pointer e) → b = false) ∧ f = g := by
              cases d <;> cases b <;> first | (cases h; done) | (cases h; exact ⟨fun e he => (by cases he), fun _ => rfl, rfl⟩) | (cases h; exact ⟨fun _ _ => rfl, fun hh => absurd rfl (hh _), rfl⟩)
            obtain ⟨g1, g2, rfl⟩ := goal
            simp only [method, Sem.run_bind, hti, Result.andThen_ok, hm', follow, Sem.run_pure]
            cases d <;> first
              | (rename_i e; have := g1 e rfl; subst this; simp [receiverAt, hru, Place.get])
              | (have := g2 (fun e he => by cases he); subst this; simp [receiverAt, hru, Place.get])
theorem wrGood_congr {m : Mp} {h : Heap} {w : World} {s s' : Sem Next} {r : OR} (e : s.run P w = s'.run P w) (hg : WrGood P E m h w s r) : WrGood P E m h w s' r := by
  cases r with
  | ok v h' => obtain ⟨m', w', q, h1, rest⟩ := hg; exact ⟨m', w', q, by rw [← e]; exact h1, rest⟩
  | call g args => exact ⟨by rw [← e]; exact hg.1, hg.2⟩
  | fail => exact trivial
theorem call_ok (ok : EnvOk P E) (c : Call) : OpOk P E (.call c) (opK E (.call c)) := by
  show OpOk P E (.call c) (callK E c)
  unfold callK
  have hargs : ∀ (ρ : Operand → Value), c.args.map ρ = ⟨c.args.toList.map ρ⟩ := fun ρ => by apply Array.ext'; simp
  have gen : ∀ x, c.callee = .value x → OpOk P E (.call c) (.wr fun tm h => match (srcK E x).g tm with
      | .func (.func f) first captured => (callFnK E f).f h (appA first (appA (srcsG (srcsK E c.args.toList) tm) captured))
      | _ => .fail) := fun x hc m h tm ρ w o ho hr hs => by
    obtain ⟨h1, h2⟩ := src_ok (E := E) hs x
    obtain ⟨a1, a2⟩ := srcs_ok (E := E) hs c.args.toList
    simp only
    generalize (srcK E x).g tm = u at h1 h2
    cases u <;> try (exact trivial)
    rename_i fn first captured
    cases fn <;> try (exact trivial)
    rename_i f
    simp only [appA_spec]
    have hin : InL (dom h) (first ++ (srcsG (srcsK E c.args.toList) tm ++ captured)) := (InL_iff _).2 fun v hv => by
      rcases List.mem_append.1 hv with hv | hv
      · exact (InL_iff _).1 h2.1 v hv
      · rcases List.mem_append.1 hv with hv | hv
        · exact (InL_iff _).1 a2 v hv
        · exact (InL_iff _).1 h2.2 v hv
    refine wrGood_congr ?_ (callFn_run ok hr hin)
    simp only [execOp, ho, resolve, hc, h1, γ, Deferred.ofValue, Sem.run_bind, Sem.run_pure, Result.andThen_ok, invoke, hargs, a1, γs_append]
    congr 2
    apply Array.ext'; simp
  cases hc : c.callee with
  | builtin b =>
    simp only
    unfold builtinK
    have tl : ∀ {t ts}, c.argTypes.toList = t :: ts → c.argTypes.toList = t :: ts := id
    split
    · rename_i x ha
      split
      · rename_i t ts ht
        split
        · rename_i hu; exact len_string_ok ok hc ha ht hu
        · rename_i e hu; exact len_slice_ok ok hc ha ht hu
        · rename_i k e hu; exact len_map_ok ok hc ha ht hu
        · exact bad_ok _
      · exact bad_ok _
    · rename_i x ha
      split
      · rename_i t ts ht
        split
        · rename_i e hu; exact cap_slice_ok ok hc ha ht hu
        · exact bad_ok _
      · exact bad_ok _
    · rename_i x l ha; exact max_ok hc ha
    · rename_i x l ha; exact min_ok hc ha
    · rename_i x y ha; exact append_ok ok hc ha
    · rename_i x y ha; exact copy_ok ok hc ha
    · rename_i x y ha; exact delete_ok ok hc ha
    · exact bad_ok _
  | value x =>
    cases x with
    | func f =>
      intro m h tm ρ w o ho hr hs
      obtain ⟨a1, a2⟩ := srcs_ok (E := E) hs c.args.toList
      refine wrGood_congr ?_ (callFn_run ok hr a2)
      simp only [execOp, ho, resolve, hc, hs.func, Deferred.ofValue, Sem.run_bind, Sem.run_pure, Result.andThen_ok, invoke, hargs, a1]
      congr 2
      apply Array.ext'; simp
    | tmp t => exact gen _ hc
    | const v => exact gen _ hc
    | global g => exact gen _ hc
  | invoke r name =>
    intro m h tm ρ w o ho hr hs
    obtain ⟨h1, h2⟩ := src_ok (E := E) hs r
    obtain ⟨a1, a2⟩ := srcs_ok (E := E) hs c.args.toList
    simp only
    generalize (srcK E r).g tm = u at h1 h2
    cases u <;> try (exact trivial)
    rename_i t v
    simp only
    cases hm : methodA E t name with
    | none => exact trivial
    | some f =>
      simp only
      refine wrGood_congr ?_ (callFn_run ok hr (args := v :: srcsG (srcsK E c.args.toList) tm) ⟨h2, a2⟩)
      have mr := method_run ok hm (γ m v) (P.types.size + 99) w
      simp only [execOp, ho, resolve, hc, h1, γ, Sem.run_bind, Sem.run_pure, Result.andThen_ok, invoke, hargs, a1]
      have e0 : (#[Value.iface t (γ m v)] ++ (⟨γs m (srcsG (srcsK E c.args.toList) tm)⟩ : Array Value))[0]? = some (Value.iface t (γ m v)) := by simp
      simp only [e0, callMethod, Sem.run_bind, run_program, Result.andThen_ok]
      rw [show P.types.size + Made.depth = P.types.size + 99 + 1 from rfl, mr]
      simp only [Result.andThen_ok, γs]
      congr 2
      apply Array.ext'; simp
end
end Go.Ev
