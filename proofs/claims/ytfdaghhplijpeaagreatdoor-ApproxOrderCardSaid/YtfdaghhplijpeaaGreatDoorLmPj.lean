/-
  Walk of the graph's fits, whole; the graph's index: a map whose keys are nodes.
-/
import Derived.Test.YtfdaghhplijpeaaGreatDoorLmPi
import Derived.Maps.OwnSet
import Derived.DeepKeys4
namespace Go.Proofs.YtfdaghhplijpeaaGreatDoor
open Go Go.RowKit Go.Maps

theorem fits_calls {w : World} {B p : Nat} {v mv : Value} {L : List Nd} {x : Nd} (h : GraphR w B p v mv L) (hl : L.length ≤ 5000) (hx : MNd x) (hf : FitsN L.length x) (hT : Tabd w) :
    Calls Tryz.prog 67 #[ptr p, ndVal x] w fun e w' => e = .returned (.bool true) ∧ Below w.heap.size w w' := by
  obtain ⟨k, a, b, n, t⟩ := x
  have h1 := hx.k1
  have h2 := hx.k2
  have h3 := hx.con
  have h4 := hx.nam
  have h5 := hx.oth
  have h6 := hx.pow
  have h7 := hx.zer
  have h8 := hf.a0
  have h9 := hf.b0
  simp only at h1 h2 h3 h4 h5 h6 h7 h8 h9
  by_cases k1 : k = 1
  · subst k1
    obtain rfl := h7 (by omega)
    obtain rfl := h8 (by rfl)
    obtain rfl := h9 (by decide)
    exact fits_con h hl (h3 rfl) hT hf
  · by_cases k2 : k = 2
    · subst k2
      obtain rfl := h7 (by omega)
      obtain rfl := h8 (by rfl)
      obtain rfl := h9 (by decide)
      exact fits_nam h hl (h4 rfl) hT hf
    · obtain rfl := h5 k1 k2
      by_cases k10 : k = 10
      · subst k10
        obtain rfl := h9 (by decide)
        exact fits_pow h hl (h6 rfl).1 (h6 rfl).2 hf
      · obtain rfl := h7 k10
        rcases arity_cases k with hk | hk | hk
        · obtain rfl := h8 hk
          obtain rfl := h9 (by omega)
          have : k ≤ 4 := by unfold arity at hk; split at hk <;> try split at hk
                             all_goals first | omega | (simp at hk)
          exact fits_c0 h hl hk (by omega) this hf
        · obtain rfl := h9 (by omega)
          exact fits_c1 h hl hk (arity_1 hk) h2 k10 hf
        · exact fits_c2 h hl hk (arity_2 hk).1 (arity_2 hk).2 hf
set_option maxRecDepth 100000 in
theorem laidOutP : laidOutB Tryz.prog = true := by kernel_rfl
theorem nodeWide : (match Tryz.prog.underlying 63 with | some (.array _ _) | some (.struct _) => true | _ => false) = true := by rw [Tryz.underlying63]
set_option maxRecDepth 100000 in
theorem nodeKeyed : Keyed Tryz.prog 63 := Keyed.of_law (deep_law_laid laidOutP (m := 2) (by omega) (of_decide_eq_true (by kernel_rfl)) (by kernel_rfl) nodeWide)
theorem keyLits_nd (d : Nat) {k a b n : Int} {t : ByteArray} (hk : (Lit.int .i64 k).wf = true) (ha : (Lit.int .i64 a).wf = true) (hb : (Lit.int .i64 b).wf = true) (hn : (Lit.int .i64 n).wf = true) (ht : t.size ≤ maxLen) :
    Tryz.prog.keyLits (d + 2) 63 [.int .i64 k, .int .i64 a, .int .i64 b, .int .i64 n, .string t] = some [.int .i64 k, .int .i64 a, .int .i64 b, .int .i64 n, .string t.data.toList] := by
  have c3 : Tryz.prog.cellsOf 3 = 1 := by kernel_rfl
  have c9 : Tryz.prog.cellsOf 9 = 1 := by kernel_rfl
  have c63 : Tryz.prog.cellsOf 63 = 5 := by kernel_rfl
  simp [Program.keyLits, Tryz.underlying63, Tryz.underlying3, Tryz.underlying9, c3, c9, c63, hk, ha, hb, hn, ht]
theorem wf_of {k : Int} (h1 : -100000 ≤ k) (h2 : k ≤ 100000) : (Lit.int .i64 k).wf = true := by
  have e1 : IntKind.i64.min = -9223372036854775808 := by rfl
  have e2 : IntKind.i64.max = 9223372036854775807 := by rfl
  simp [Lit.wf, e1, e2]; omega
theorem key_of {k a b n : Int} {t : ByteArray} (hk : (Lit.int .i64 k).wf = true) (ha : (Lit.int .i64 a).wf = true) (hb : (Lit.int .i64 b).wf = true) (hn : (Lit.int .i64 n).wf = true) (ht : t.size ≤ maxLen) : ∃ kl, keyOf Tryz.prog 63 (ndVal ⟨k, a, b, n, t⟩) = some kl := by
  obtain ⟨d, hd⟩ : ∃ d, Tryz.prog.types.size + 1 = d + 2 := ⟨Tryz.prog.types.size - 1, by have : 1 ≤ Tryz.prog.types.size := of_decide_eq_true (by kernel_rfl); omega⟩
  have hkt : Tryz.prog.keyType 63 = true := by kernel_rfl
  have c63 : Tryz.prog.cellsOf 63 = 5 := by kernel_rfl
  have hform : (ndVal ⟨k, a, b, n, t⟩).formed Tryz.prog 63 = true := by simp [ndVal, Value.formed, Tryz.underlying63, c63]
  have hc : (ndVal ⟨k, a, b, n, t⟩).cells.toList = [.int .i64 k, .int .i64 a, .int .i64 b, .int .i64 n, .string t] := by simp [ndVal, Value.cells]
  refine ⟨.string (keyBytes [.int .i64 k, .int .i64 a, .int .i64 b, .int .i64 n, .string t.data.toList]), ?_⟩
  unfold keyOf
  rw [Tryz.underlying63]
  simp only
  rw [hkt, hform, hd, hc, keyLits_nd d hk ha hb hn ht]
  rfl
theorem args_1e {k a b n : Int} {t : ByteArray} (h : arity k = 1) : args ⟨k, a, b, n, t⟩ = [a] := by unfold args; rw [if_neg (by simp only; omega), if_pos h]
theorem args_2e {k a b n : Int} {t : ByteArray} (h : arity k = 2) : args ⟨k, a, b, n, t⟩ = [a, b] := by unfold args; rw [if_neg (by simp only; omega), if_neg (by simp only; omega)]
theorem fits_lim {n : Nat} {x : Nd} (h : FitsN n x) (hn : n ≤ 10000) : (0 ≤ x.a ∧ x.a ≤ 10000) ∧ (0 ≤ x.b ∧ x.b ≤ 10000) := by
  obtain ⟨k, a, b, m, t⟩ := x
  have h8 := h.a0
  have h9 := h.b0
  simp only at h8 h9 ⊢
  rcases arity_cases k with hk | hk | hk
  · rw [h8 hk, h9 (by omega)]; omega
  · have := h.args a (by rw [args_1e hk]; simp)
    rw [h9 (by omega)]; omega
  · have := h.args a (by rw [args_2e hk]; simp)
    have := h.args b (by rw [args_2e hk]; simp)
    omega
theorem str_lim : (nums.all fun s => decide (s.size ≤ 100)) = true ∧ (nms.all fun s => decide (s.size ≤ 100)) = true := by constructor <;> decide
theorem text_lim {x : Nd} (h : MNd x) : x.t.size ≤ 100 := by
  by_cases h1 : x.k = 1
  · exact of_decide_eq_true (List.all_eq_true.1 str_lim.1 _ (h.con h1))
  · by_cases h2 : x.k = 2
    · exact of_decide_eq_true (List.all_eq_true.1 str_lim.2 _ (h.nam h2))
    · rw [h.oth h1 h2]; decide
theorem key_ex {n : Nat} {x : Nd} (hx : MNd x) (hf : FitsN n x) (hn : n ≤ 10000) : ∃ kl, keyOf Tryz.prog 63 (ndVal x) = some kl := by
  have h1 := fits_lim hf hn
  have h2 := text_lim hx
  have h3 := hx.k1
  have h4 := hx.k2
  have h5 := hx.pow
  have h6 := hx.zer
  obtain ⟨k, a, b, m, t⟩ := x
  simp only at h1 h2 h3 h4 h5 h6
  have h7 : -3 ≤ m ∧ m ≤ 4 := by
    by_cases hk : k = 10
    · exact h5 hk
    · rw [h6 hk]; omega
  exact key_of (wf_of (by omega) (by omega)) (wf_of (by omega) (by omega)) (wf_of (by omega) (by omega)) (wf_of (by omega) (by omega)) (by unfold maxLen; omega)
theorem ndVal_inj {x y : Nd} (h : ndVal x = ndVal y) : x = y := by
  obtain ⟨k, a, b, m, t⟩ := x
  obtain ⟨k', a', b', m', t'⟩ := y
  simp only [ndVal] at h
  simp at h
  obtain ⟨rfl, rfl, rfl, rfl, rfl⟩ := h
  rfl
/-- Block b is the graph's index: no node but those of L stands in it. -/
structure IdxR (w : World) (b : Nat) (L : List Nd) : Prop where
  ex : ∃ D : DataW Nat, w.ownsMap Tryz.prog 63 (plainElem Tryz.prog 3) b L.length D ∧ ∀ (x : Nd) kl, x ∉ L → keyOf Tryz.prog 63 (ndVal x) = some kl → has D kl = false
theorem idx_start (w : World) : IdxR (w.alloc (.map #[] 0)) w.heap.size [] :=
  ⟨⟨_, World.ownsMap_made w Tryz.prog 63 _, fun _ _ _ _ => rfl⟩⟩
theorem IdxR.frame {w w' : World} {b : Nat} {L : List Nd} {S : Nat → Prop} (h : IdxR w b L) (hf : Fr S w w') (hS : ¬ S b) : IdxR w' b L := by
  obtain ⟨D, ⟨es, clock, hb, h1, h2, h3⟩, h4⟩ := h.ex
  exact ⟨⟨D, ⟨es, clock, (hf.block b (Array.getElem?_eq_some_iff.1 hb).1 hS).trans hb, h1, h2, h3⟩, h4⟩⟩
theorem IdxR.blk {w : World} {b : Nat} {L : List Nd} (h : IdxR w b L) : ∃ es clock, w.heap[b]? = some (.map es clock) := by
  obtain ⟨D, ⟨es, clock, hb, _⟩, _⟩ := h.ex
  exact ⟨es, clock, hb⟩
theorem intZero (w : World) : (zeroValue 3).run Tryz.prog w = .ok (.int .i64 0) w := by kernel_rfl
/-- The node is not found. -/
theorem IdxR.look {w : World} {b n : Nat} {L : List Nd} {x : Nd} (h : IdxR w b L) (hx : MNd x) (hf : FitsN n x) (hn : n ≤ 10000) (hno : x ∉ L) :
    ∃ c : Int, (Instr.lookup 93 (.map (some b)) (ndVal x) true).run Tryz.prog w = .ok (.tuple #[.int .i64 c, .bool false]) w := by
  obtain ⟨D, h1, h2⟩ := h.ex
  obtain ⟨kl, hk⟩ := key_ex hx hf hn
  obtain ⟨v, ps, hrun, hv⟩ := h1.look_ok nodeKeyed Tryz.underlying93 (intZero w) (plainElem_int (q := .i64) Tryz.underlying3 (by decide)) hk
  rw [h2 x kl hno hk] at hrun
  obtain ⟨c, rfl, _, _⟩ := plainElem_int_inv Tryz.underlying3 hv
  exact ⟨c, hrun⟩
/-- The node is laid in. -/
theorem IdxR.store {w : World} {b n : Nat} {L : List Nd} {x : Nd} (h : IdxR w b L) (hx : MNd x) (hf : FitsN n x) (hn : n ≤ 10000) (hl : L.length ≤ 10000) :
    ∃ w', (Instr.mapUpdate 93 (.map (some b)) (ndVal x) (.int .i64 L.length)).run Tryz.prog w = .ok () w' ∧ IdxR w' b (L ++ [x]) ∧ Fr (· = b) w w' := by
  obtain ⟨D, h1, h2⟩ := h.ex
  obtain ⟨kl, hk⟩ := key_ex hx hf hn
  obtain ⟨w', hrun, h3, h4⟩ := h1.update nodeKeyed Tryz.underlying93 (by unfold maxLen; omega) hk (plainElem_int (q := .i64) Tryz.underlying3 (wf_of (k := (L.length : Int)) (by omega) (by omega)))
  refine ⟨w', hrun, ⟨⟨_, by rw [List.length_append]; exact h3, fun y ky hy hky => ?_⟩⟩, (fr_of_grown h4).mono (fun k _ e => by cases e; rfl)⟩
  simp only [List.mem_append, List.mem_singleton, not_or] at hy
  have hne : ky ≠ kl := fun e => hy.2 (ndVal_inj (nodeKeyed.inj (e ▸ hky) hk))
  rw [has_put_other hne]
  exact h2 y ky hy.1 hky
end Go.Proofs.YtfdaghhplijpeaaGreatDoor
