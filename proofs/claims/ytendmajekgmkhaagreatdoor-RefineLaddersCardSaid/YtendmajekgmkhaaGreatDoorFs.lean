/- The evaluator of closed calls, part Fs: what the program computes on given inputs, read by the kernel; sound in every world (part Gh). -/
import Derived.Test.YtendmajekgmkhaaGreatDoorFr
set_option linter.unusedVariables false
set_option linter.unusedSimpArgs false
set_option linter.unnecessarySimpa false
namespace Go.Ev
section
variable {P : Program} {E : Env}

theorem capOr_exact {R : Type} (c : Nat) (k m : Nat → R) : capOr (.exact c) k m = k c := rfl
theorem Rep.forgot0 {G : Tabs} {m : Mp} {h : Heap} {w : World} (r : Rep G m h w) {n : Pos} {x : List AVal} {e s : TypeId} {off : Nat}
    (ho : (h.at n).obj = .cells x e s) (hox : off ≤ x.length) :
    let h' : Heap := ⟨forget off h.nx (n :: h.al.get [] (h.at n).rt) h.t, h.nx, h.al, h.df⟩
    Rep G m h' w ∧ Goes m h w m h' w ∧ (∀ k, dom h' k ↔ dom h k) ∧ h'.at n = ⟨.cells (x.take off) e s, (h.at n).rt⟩ ∧ (∀ k, (h'.at k).rt = (h.at k).rt) := by
  intro h'
  obtain ⟨_, _, rest, fz, hh, hc, hf⟩ := r.cells ho
  have := r.forgot (vs := []) ho hh hc hf hox (by simp [γs_length]; omega)
  simp only [List.nil_append, List.length_nil, Nat.add_zero, List.take_append_drop] at this
  rw [show (γs m x ++ rest).toArray = (⟨γs m x ++ rest⟩ : Array Value) from rfl, setRow_self w _ _ _ _ hh] at this
  exact this
theorem append_ok (ok : EnvOk P E) {c : Call} {x y : Operand} (hc : c.callee = .builtin .append) (ha : c.args.toList = [x, y]) :
    OpOk P E (.call c) (.wr fun tm h => (appendK E c.argTypes.toList).f h ((srcK E x).g tm) ((srcK E y).g tm)) := fun m h tm ρ w o ho hr hs => by
  obtain ⟨h1, h2⟩ := src_ok (E := E) hs x
  obtain ⟨g1, g2⟩ := src_ok (E := E) hs y
  simp only
  generalize (srcK E x).g tm = a at h1 h2
  generalize (srcK E y).g tm = b at g1 g2
  rw [builtin_exec ho hc, args_eq ha]
  -- the types
  have key : ∀ st xt, c.argTypes.toList = [st, xt] → ∀ e, E.und st = some (.slice e) → ∀ d, E.und xt = some d → (∀ k, d ≠ .int k) → ∀ i, E.ty e = some i → ∀ z, zerosOf E e 0 = some z →
      ∀ r, (srcLen b .fail fun n => Option.casesOn (srcCells h i.size n b) .fail fun new => appendTo e i.size i.bytes h a n new) = r →
      WrGood P E m h w (builtin .append c.argTypes o.type (c.args.map fun | .const _ => true | _ => false) ⟨[x, y].map ρ⟩) r := by
    intro st xt hts e hst d hxt hd i hi z hz r hr'
    by_cases hfail : r = .fail
    · subst hfail; exact trivial
    obtain ⟨n, hlen, hk, hstr, hnil⟩ := srcLen_spec hr' hfail
    cases hsc : srcCells h i.size n b with
    | none => rw [hsc] at hk; exact absurd hk.symm hfail
    | some new =>
      rw [hsc] at hk
      simp only at hk
      obtain ⟨n1, n2, n3⟩ := srcCells_spec (P := P) hr hsc
      have n3 := n3 (fun s e => by rw [hstr s e]; exact Nat.le_refl _) hnil
      rw [types_eq hts]
      simp only [List.map_cons, List.map_nil, h1, g1]
      have fin : ∀ {val : Value} {w' : World}, (Builtin.append_ #[st, xt] o.type #[γ m a, γ m b]).run P w = .ok val w' → (builtin .append ⟨[st, xt]⟩ o.type (c.args.map fun | .const _ => true | _ => false) ⟨[γ m a, γ m b]⟩).run P w = .ok (.value val) w' := fun {val w'} hh => by
        show ((do pure (Next.value (← Builtin.append_ #[st, xt] o.type #[γ m a, γ m b])) : Sem Next)).run P w = _
        simp [hh]
      unfold appendTo at hk
      cases a <;> try (exact absurd hk.symm hfail)
      case slcNil =>
        simp only at hk
        cases hn0 : Nat.beq n 0 with
        | true =>
          rw [hn0] at hk
          simp only [cond_true] at hk
          subst hk
          have := beq_iff.1 hn0; subst this
          exact ⟨m, w, _, fin (append_nil hr ok hst hxt hd hi o.type (hlen m w) n2), .inl rfl, hr, Goes.refl m h w, trivial, rfl⟩
        | false =>
          rw [hn0] at hk
          simp only [cond_false] at hk
          cases hro : roomy i.bytes n with
          | false => rw [hro] at hk; exact absurd hk.symm hfail
          | true =>
            rw [hro] at hk
            simp only [cond_true] at hk
            subst hk
            have hn : 0 < n := by
              rcases Nat.eq_zero_or_pos n with h0 | h0
              · subst h0; cases hn0
              · exact h0
            obtain ⟨cap, rest, k1, k2, k3⟩ := append_grow (P := P) hr ok hst hxt hd hi hz o.type (base := none) (sLen := 0) (sCap := 0) (old := []) (new := new) (hlen m w) n2 (fun w' _ => by simp [Builtin.firstCells, γs]) (by omega) (by simpa using hro) (by simpa using n3)
            simp only [List.nil_append, Nat.zero_add] at k1 k2 k3
            obtain ⟨q1, q2, q3⟩ := hr.pushed (ob := .cells new e i.size) (o := .cells ⟨γs m new ++ rest⟩ e) (w' := grownW w (.cells ⟨γs m new ++ rest⟩ e)) (cap := cap) ⟨rfl, rfl, rfl, rfl⟩ (by simp)
              ⟨rest, (0, 0), by rw [γs_fresh (D := dom h) (fun hd => Nat.lt_irrefl _ (hr.fresh _ hd)) n1], by rw [γs_fresh (D := dom h) (fun hd => Nat.lt_irrefl _ (hr.fresh _ hd)) n1, Mp.set_c_same]; exact k2, fun j _ => by simp⟩ n1
            refine ⟨_, _, _, fin k3, .inl ?_, q1, q2, q3, rfl⟩
            simp [γ, Mp.set]
      case slc mm off len cp =>
        simp only [forceN_spec] at hk
        cases cp with
        | exact cc =>
          simp only [capOr] at hk
          cases hle : Nat.ble (Nat.add len n) cc with
          | true =>
            rw [hle] at hk
            simp only [cond_true] at hk
            cases hst2 : h.store mm (Nat.add off (Nat.mul len i.size)) new with
            | none => rw [hst2] at hk; exact absurd hk.symm hfail
            | some h' =>
              rw [hst2] at hk
              simp only at hk
              subst hk
              obtain ⟨w', s1, s2, s3, s4, s5⟩ := hr.store hst2 n1 P
              have ar := append_room (P := P) hr ok hst hxt hd hi o.type (b := m.b mm) (off := off) (sLen := len) (sCap := cc) (hlen m w) n2 (ble_iff.1 hle) s1
              exact ⟨m, w', _, fin ar, .inl rfl, s2, s3, (s5 mm).2 h2, s4⟩
          | false =>
            rw [hle] at hk
            simp only [cond_false] at hk
            cases hro : roomy i.bytes (Nat.add len n) with
            | false => rw [hro] at hk; exact absurd hk.symm hfail
            | true =>
              rw [hro] at hk
              simp only [cond_true] at hk
              cases hl : h.loadN mm off (Nat.mul len i.size) with
              | none => rw [hl] at hk; exact absurd hk.symm hfail
              | some old =>
                rw [hl] at hk
                simp only at hk
                subst hk
                have hgt : cc < len + n := by
                  rcases Nat.lt_or_ge cc (len + n) with h0 | h0
                  · exact h0
                  · have : Nat.ble (Nat.add len n) cc = true := ble_iff.2 h0
                    rw [this] at hle; cases hle
                obtain ⟨l1, l2, _⟩ := hr.loadN hl
                have l1' : old.length = len * i.size := l1
                obtain ⟨cap, rest, k1, k2, k3⟩ := append_grow (P := P) hr ok hst hxt hd hi hz o.type (base := some ⟨m.b mm, off, none⟩) (sLen := len) (sCap := cc) (old := old) (new := new) (hlen m w) n2
                  (fun w' hr' => by simp only [Builtin.firstCells]; exact hr'.run_loadN hl) hgt hro (by rw [List.length_append, l1', n3, Nat.add_mul])
                have hin : InL (dom h) (old ++ new) := (InL_iff _).2 fun v hv => by
                  rcases List.mem_append.1 hv with hv | hv
                  · exact (InL_iff _).1 l2 v hv
                  · exact (InL_iff _).1 n1 v hv
                rw [appA_spec]
                obtain ⟨q1, q2, q3⟩ := hr.pushed (ob := .cells (old ++ new) e i.size) (o := .cells ⟨γs m (old ++ new) ++ rest⟩ e) (w' := grownW w (.cells ⟨γs m (old ++ new) ++ rest⟩ e)) (cap := cap) ⟨rfl, rfl, rfl, rfl⟩ (by simp)
                  ⟨rest, (0, 0), by rw [γs_fresh (D := dom h) (fun hd => Nat.lt_irrefl _ (hr.fresh _ hd)) hin], by rw [γs_fresh (D := dom h) (fun hd => Nat.lt_irrefl _ (hr.fresh _ hd)) hin, Mp.set_c_same]; exact k2, fun j _ => by simp⟩ hin
                refine ⟨_, _, _, fin k3, .inl ?_, q1, q2, q3, rfl⟩
                simp [γ, Mp.set]
        | rest dd =>
          simp only [capOr] at hk
          cases hz2 : (Nat.beq dd 0 && Nat.beq off 0) with
          | false => rw [hz2] at hk; exact absurd hk.symm hfail
          | true =>
            rw [hz2] at hk
            rw [Bool.and_eq_true] at hz2
            have := beq_iff.1 hz2.1; subst this
            have := beq_iff.1 hz2.2; subst this
            simp only [cond_true] at hk
            cases hob : (h.at mm).obj <;> rw [hob] at hk <;> try (exact absurd hk.symm hfail)
            rename_i xs e' s'
            simp only [cellsOf] at hk
            cases hq : (Nat.beq e' e && (Nat.beq s' i.size && Nat.blt 0 i.size)) with
            | false => rw [hq] at hk; exact absurd hk.symm hfail
            | true =>
              rw [hq] at hk
              rw [Bool.and_eq_true, Bool.and_eq_true] at hq
              have := beq_iff.1 hq.1; subst this
              have := beq_iff.1 hq.2.1; subst this
              have hpos := blt_iff.1 hq.2.2
              simp only [cond_true] at hk
              cases ht : takeA (Nat.mul len i.size) xs with
              | none => rw [ht] at hk; exact absurd hk.symm hfail
              | some old =>
                rw [ht] at hk
                simp only at hk
                obtain ⟨t1, t2⟩ := takeA_spec _ _ _ ht
                have t1' : len * i.size ≤ xs.length := t1
                have t2' : old = xs.take (len * i.size) := t2
                obtain ⟨hdm, hix, rst, fz, hh, hlenA, hfz⟩ := hr.cells hob
                have hcap : len ≤ m.c mm := by
                  have h6 : xs.length ≤ m.c mm * i.size := by rw [← hlenA]; simp [γs_length]
                  exact Nat.le_of_mul_le_mul_right (Nat.le_trans t1' h6) hpos
                cases hn0 : Nat.beq n 0 with
                | true =>
                  rw [hn0] at hk
                  simp only [cond_true] at hk
                  subst hk
                  have := beq_iff.1 hn0; subst this
                  have hnew0 : new = [] := by
                    have : new.length = 0 := by rw [n3]; simp
                    exact List.eq_nil_of_length_eq_zero this
                  subst hnew0
                  have ar := append_room (P := P) hr ok hst hxt hd hi o.type (b := m.b mm) (off := 0) (sLen := len) (sCap := m.c mm) (w' := w) (hlen m w) n2 (by simpa using hcap) (by simp [γs, storeCells])
                  refine ⟨m, w, _, fin (by simpa [γ] using ar), .inl rfl, hr, Goes.refl m h w, h2, rfl⟩
                | false =>
                  rw [hn0] at hk
                  simp only [cond_false] at hk
                  cases hro : (roomy i.bytes (Nat.add len n) && flats new) with
                  | false => rw [hro] at hk; exact absurd hk.symm hfail
                  | true =>
                    rw [hro] at hk
                    rw [Bool.and_eq_true] at hro
                    simp only [cond_true] at hk
                    subst hk
                    rw [appA_spec]
                    have hin : InL (dom h) (old ++ new) := (InL_iff _).2 fun v hv => by
                      rcases List.mem_append.1 hv with hv | hv
                      · rw [t2'] at hv; exact (InL_iff _).1 hix v (List.mem_of_mem_take hv)
                      · exact (InL_iff _).1 n1 v hv
                    have holdlen : old.length = len * i.size := by rw [t2', List.length_take, Nat.min_eq_left t1']
                    have hfresh : ¬ dom h h.nx := fun hd => Nat.lt_irrefl _ (hr.fresh _ hd)
                    by_cases hfit : len + n ≤ m.c mm
                    · -- in its place
                      have hle2 : len * i.size + (γs m new).length ≤ (γs m xs ++ rst).length := by
                        rw [hlenA, γs_length, n3, ← Nat.add_mul]; exact Nat.mul_le_mul_right _ hfit
                      have hrun := run_storeCells_nf P (m.b mm) (0 + len * i.size) _ fz (γs m new) 0 ⟨γs m xs ++ rst⟩ w hh hfz (by simpa using hle2) (flats_spec m new hro.2)
                      simp only [Nat.zero_add, Nat.add_zero] at hrun
                      rw [show ((γs m xs ++ rst).take (len * i.size) ++ γs m new ++ (γs m xs ++ rst).drop (len * i.size + (γs m new).length)) = (γs m xs ++ rst).take (len * i.size) ++ (γs m new ++ (γs m xs ++ rst).drop (len * i.size + (γs m new).length)) by simp] at hrun
                      have ar := append_room (P := P) hr ok hst hxt hd hi o.type (b := m.b mm) (off := 0) (sLen := len) (sCap := m.c mm) (hlen m w) n2 hfit (by rw [Nat.zero_add]; exact hrun)
                      obtain ⟨f1, f2, f3, f4, f5⟩ := hr.forgot (vs := γs m new) hob hh hlenA hfz t1' hle2
                      have hA : (γs m xs ++ rst).take (len * i.size) = γs m old := by
                        rw [List.take_append_of_le_length (by rw [γs_length]; exact t1'), t2', γs_map, γs_map, List.map_take]
                      have hself := setRow_heap w (m.b mm) _ ((γs m xs ++ rst).take (len * i.size) ++ (γs m new ++ (γs m xs ++ rst).drop (len * i.size + (γs m new).length))).toArray _ fz hh
                      have hin' : InL (dom (⟨forget (len * i.size) h.nx (mm :: h.al.get [] (h.at mm).rt) h.t, h.nx, h.al, h.df⟩ : Heap)) (old ++ new) := InL_mono (fun k hk => (f3 k).2 hk) _ hin
                      have hfr2 : ¬ dom (⟨forget (len * i.size) h.nx (mm :: h.al.get [] (h.at mm).rt) h.t, h.nx, h.al, h.df⟩ : Heap) h.nx := fun hd => hfresh ((f3 _).1 hd)
                      obtain ⟨q1, q2, q3⟩ := f1.named (n := mm) (y := old ++ new) (e := e') (s := i.size) (cap := m.c mm) (B := m.b mm) (l := h.al.get [] (h.at mm).rt) ((f3 mm).2 hdm) (by rw [f4]; rfl) (by rw [f4]) (.inl rfl) (Nat.le_refl _) hself (fun _ _ => rfl) rfl rfl rfl
                        ⟨(γs m xs ++ rst).drop (len * i.size + (γs m new).length), fz, by
                          have e1 : γs (m.set h.nx (m.b mm) (m.c mm)) (old ++ new) = γs m (old ++ new) := γs_fresh hfr2 hin' _ _
                          have e2 : (γs m xs ++ rst).take (len * i.size) ++ (γs m new ++ (γs m xs ++ rst).drop (len * i.size + (γs m new).length)) = γs m (old ++ new) ++ (γs m xs ++ rst).drop (len * i.size + (γs m new).length) := by
                            rw [hA, γs_append, List.append_assoc]
                          show _ = Obj.cells ⟨γs (m.set h.nx (m.b mm) (m.c mm)) (old ++ new) ++ _⟩ _ _
                          rw [e1, ← e2], by
                          have e1 : γs (m.set h.nx (m.b mm) (m.c mm)) (old ++ new) = γs m (old ++ new) := γs_fresh hfr2 hin' _ _
                          show (γs (m.set h.nx (m.b mm) (m.c mm)) (old ++ new) ++ _).length = _
                          rw [e1, Mp.set_c_same, List.length_append, List.length_drop, hlenA, γs_length, List.length_append, holdlen, γs_length, n3]
                          have : (len + n) * i.size ≤ m.c mm * i.size := Nat.mul_le_mul_right _ hfit
                          rw [Nat.add_mul] at this
                          omega, by
                          have e1 : γs (m.set h.nx (m.b mm) (m.c mm)) (old ++ new) = γs m (old ++ new) := γs_fresh hfr2 hin' _ _
                          show ∀ j, j < (γs (m.set h.nx (m.b mm) (m.c mm)) (old ++ new) ++ _).length → _
                          intro j hj
                          refine hfz j ?_
                          rw [e1, List.length_append, List.length_drop, γs_length, List.length_append, holdlen, γs_length, n3] at hj
                          rw [hlenA] at hj ⊢
                          have : (len + n) * i.size ≤ m.c mm * i.size := Nat.mul_le_mul_right _ hfit
                          rw [Nat.add_mul] at this
                          omega⟩ hin'
                      rw [f5 mm] at q1 q2 q3
                      refine ⟨_, _, _, fin (by simpa [γ] using ar), .inl ?_, q1, Goes.trans hr f1 f2 q2, q3, rfl⟩
                      simp [γ, Mp.set]
                    · -- a new row
                      have hgt : m.c mm < len + n := by omega
                      obtain ⟨cap, rest, k1, k2, k3⟩ := append_grow (P := P) hr ok hst hxt hd hi hz o.type (base := some ⟨m.b mm, 0, none⟩) (sLen := len) (sCap := m.c mm) (old := old) (new := new) (hlen m w) n2
                        (fun w' hr' => by
                          have hl : h.loadN mm 0 (len * i.size) = some old := by
                            unfold Heap.loadN; rw [hob]; simp only [cellsOf, dropA_spec, List.drop_zero]; exact ht
                          simp only [Builtin.firstCells]; exact hr'.run_loadN hl) hgt hro.1 (by rw [List.length_append, holdlen, n3, Nat.add_mul])
                      obtain ⟨f1, f2, f3, f4, f5⟩ := hr.forgot0 hob t1'
                      have hin' : InL (dom (⟨forget (len * i.size) h.nx (mm :: h.al.get [] (h.at mm).rt) h.t, h.nx, h.al, h.df⟩ : Heap)) (old ++ new) := InL_mono (fun k hk => (f3 k).2 hk) _ hin
                      have hfr2 : ¬ dom (⟨forget (len * i.size) h.nx (mm :: h.al.get [] (h.at mm).rt) h.t, h.nx, h.al, h.df⟩ : Heap) h.nx := fun hd => hfresh ((f3 _).1 hd)
                      have e1 : γs (m.set h.nx w.heap.size cap) (old ++ new) = γs m (old ++ new) := γs_fresh hfr2 hin' _ _
                      obtain ⟨q1, q2, q3⟩ := f1.named (n := mm) (y := old ++ new) (e := e') (s := i.size) (cap := cap) (B := w.heap.size) (w' := grownW w (.cells ⟨γs m (old ++ new) ++ rest⟩ e')) (o := .cells ⟨γs m (old ++ new) ++ rest⟩ e') (l := h.al.get [] (h.at mm).rt)
                        ((f3 mm).2 hdm) (by rw [f4]; rfl) (by rw [f4]) (.inr rfl) (by show w.heap.size ≤ (w.heap.push _).size; simp) (by show (w.heap.push _)[w.heap.size]? = some _; simp) (fun b hb => by show (w.heap.push _)[b]? = _; rw [Array.getElem?_push, if_neg (Nat.ne_of_lt hb)]) rfl rfl rfl
                        ⟨rest, (0, 0), by show _ = Obj.cells ⟨γs (m.set h.nx w.heap.size cap) (old ++ new) ++ _⟩ _ _; rw [e1], by show (γs (m.set h.nx w.heap.size cap) (old ++ new) ++ _).length = _; rw [e1, Mp.set_c_same]; exact k2, fun j _ => by simp⟩ hin'
                      rw [f5 mm] at q1 q2 q3
                      refine ⟨_, _, _, fin (by simpa [γ] using k3), .inl ?_, q1, Goes.trans hr f1 f2 q2, q3, rfl⟩
                      simp [γ, Mp.set]
  unfold appendK
  cases hts : c.argTypes.toList with
  | nil => exact trivial
  | cons st ts =>
    cases ts with
    | nil => exact trivial
    | cons xt ts =>
      cases ts with
      | cons _ _ => exact trivial
      | nil =>
        simp only
        cases hst : E.und st with
        | none => exact trivial
        | some d1 =>
          cases d1 <;> try (exact trivial)
          rename_i e
          cases hxt : E.und xt with
          | none => exact trivial
          | some d =>
            by_cases hd : ∃ k, d = .int k
            · obtain ⟨k, rfl⟩ := hd; exact trivial
            · have hd' : ∀ k, d ≠ .int k := fun k e => hd ⟨k, e⟩
              cases d <;> first
                | exact absurd rfl (hd' _)
                | (simp only
                   cases hi : E.ty e with
                   | none => exact trivial
                   | some i =>
                     cases hz : zerosOf E e 0 with
                     | none => exact trivial
                     | some z => exact key st xt hts e hst _ hxt hd' i hi z hz _ rfl)
end
end Go.Ev
