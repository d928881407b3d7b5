/- The evaluator of closed calls, part Fi: what the program computes on given inputs, read by the kernel; sound in every world (part Gh). -/
import Derived.Test.YtendmajekgmkhaaGreatDoorFh
import Derived.Laws.Tables
set_option linter.unusedVariables false
set_option linter.unusedSimpArgs false
set_option linter.unnecessarySimpa false
namespace Go.Ev
section
variable {P : Program} {E : Env}

theorem extract_mk (l : List Value) (a b : Nat) : (⟨l⟩ : Array Value).extract a b = ⟨(l.drop a).take (b - a)⟩ := by
  apply Array.ext'; simp [List.extract_eq_take_drop]
theorem part_spec (ok : EnvOk P E) {m : Mp} {D : Pos → Prop} {t : TypeId} {off : Nat} {l : List AVal} {v : AVal} (h : (partK E t off).f l = some v) (hl : InL D l) (w : World) :
    (part t ⟨γs m l⟩ off).run P w = .ok (γ m v) w ∧ In D v := by
  unfold partK at h
  cases ha : E.agg? t with
  | none => rw [ha] at h; cases h
  | some b =>
    rw [ha] at h
    have hag := ok.run_agg ha w
    cases b with
    | false =>
      simp only [nth_spec] at h
      exact ⟨by simp [part, hag, γs_map, h], InL_mem hl h⟩
    | true =>
      cases hs : E.size t with
      | none => rw [hs] at h; cases h
      | some k =>
        rw [hs] at h
        simp only at h
        cases ht : takeA k (dropA off l) with
        | none => rw [ht] at h; cases h
        | some r =>
          rw [ht] at h; cases h
          obtain ⟨h1, h2⟩ := takeA_spec _ _ _ ht
          rw [dropA_spec] at h1 h2
          subst h2
          refine ⟨?_, (InL_iff _).2 fun v hv => (InL_iff _).1 hl v (List.mem_of_mem_drop (List.mem_of_mem_take hv))⟩
          have hz := ok.run_size hs w
          simp [part, hag, hz, γ, γs_map, List.map_take, List.map_drop]
theorem zip_set (off : Nat) : ∀ (vs : List Value) (k : Nat) (A : List Value), off + k + vs.length ≤ A.length →
    (vs.zipIdx k).foldl (fun (cs : Array Value) (p : Value × Nat) => cs.setIfInBounds (off + p.2) p.1) ⟨A⟩ = ⟨A.take (off + k) ++ vs ++ A.drop (off + k + vs.length)⟩
  | [], k, A, _ => by simp
  | v :: vs, k, A, h => by
    simp only [List.zipIdx_cons, List.foldl_cons, List.setIfInBounds_toArray]
    have := zip_set off vs (k + 1) (A.set (off + k) v) (by simp at h ⊢; omega)
    rw [show (A.set (off + k) v).toArray = (⟨A.set (off + k) v⟩ : Array Value) from rfl, this, show off + (k + 1) = off + k + 1 from rfl, list_seg_step A (off + k) v vs (by simp at h ⊢; omega)]
    rfl
theorem fill_spec {m : Mp} {D : Pos → Prop} {pl : Nat → Option (Nat × Nat)} {tm : Tm} (hin : ∀ x : Operand, In D ((srcK E x).g tm)) : ∀ (parts : List (Nat × Operand)) (l r : List AVal),
    fillA pl (parts.map fun p => (p.1, srcK E p.2)) tm l = some r → InL D l →
    Instr.fill pl ⟨γs m l⟩ (parts.map fun p => (p.1, γ m ((srcK E p.2).g tm))) = some ⟨γs m r⟩ ∧ InL D r ∧ r.length = l.length
  | [], l, r, h, hl => by cases h; exact ⟨rfl, hl, rfl⟩
  | (i, x) :: parts, l, r, h, hl => by
    simp only [List.map_cons, fillA] at h
    cases hp : pl i with
    | none => rw [hp] at h; cases h
    | some p =>
      obtain ⟨off, size⟩ := p
      rw [hp] at h
      simp only at h
      cases hb : Nat.beq ((srcK E x).g tm).cells.length size with
      | false => rw [hb] at h; cases h
      | true =>
        rw [hb] at h
        simp only [cond_true] at h
        have hsz := beq_iff.1 hb
        cases ho : overA ((srcK E x).g tm).cells off l with
        | none => rw [ho] at h; cases h
        | some l' =>
          rw [ho] at h
          obtain ⟨h1, h2⟩ := overA_spec _ _ _ _ ho
          have hin' : InL D l' := by
            rw [h2]
            refine (InL_iff _).2 fun v hv => ?_
            rcases List.mem_append.1 hv with hv | hv
            · exact (InL_iff _).1 hl v (List.mem_of_mem_take hv)
            · rcases List.mem_append.1 hv with hv | hv
              · exact (InL_iff _).1 (InL_cells (hin x)) v hv
              · exact (InL_iff _).1 hl v (List.mem_of_mem_drop hv)
          obtain ⟨i1, i2, i3⟩ := fill_spec hin parts l' r h hin'
          refine ⟨?_, i2, by rw [i3, h2]; simp; omega⟩
          simp only [List.map_cons, Instr.fill, hp, γ_cells m (hin x)]
          have hl2 : (γs m ((srcK E x).g tm).cells).length = size := by rw [γs_length]; exact hsz
          rw [if_neg (by simp [γs_length]; omega)]
          have key : ((⟨γs m ((srcK E x).g tm).cells⟩ : Array Value).zipIdx.foldl (fun (cs : Array Value) (p : Value × Nat) => cs.setIfInBounds (off + p.2) p.1) ⟨γs m l⟩) = ⟨γs m l'⟩ := by
            rw [← Array.foldl_toList, Array.toList_zipIdx]
            have z := zip_set off (γs m ((srcK E x).g tm).cells) 0 (γs m l) (by simp [γs_length]; omega)
            simp only [Nat.add_zero] at z
            have e : (γs m l).take off ++ γs m ((srcK E x).g tm).cells ++ (γs m l).drop (off + (γs m ((srcK E x).g tm).cells).length) = γs m l' := by
              rw [h2, γs_append, γs_append]; simp [γs_map, List.map_take, List.map_drop]
            rw [← e]; exact z
          rw [key]; exact i1
end
end Go.Ev
