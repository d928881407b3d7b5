/-
  The row of RefinePicks: whatever the interval and the precision, the call returns true, where the package's tables read as the program's text lays them.
-/
import Derived.Test.YtkpjikaobjpkoaaGreatDoorPkUg
import Derived.Stop.Joined
namespace Go.Proofs.YtkpjikaobjpkoaaGreatDoor
open Go Go.RowKit Go.Ev Go.ChangeShapes Go.WideShapes Go.ChangeAt
theorem own : ownKnob Tryz.prog.godebug = none := by kernel_rfl
def firstCells : List Value := match Pinned.utf8First with
  | .agg l => l.map fun d => match d with | .lit (.int k n) => .int k n | _ => undef
  | _ => []
/-! ### The arguments, opened -/
section
variable {H : Type} {enc : TypeId × Value → H} {w : World} {fuel : Nat} {cs : List Value} {x : DataW H × List MemPlace}
theorem toNat_u32 {n : Int} (h : (Lit.int .u32 n).wf = true) : ((n.toNat : Nat) : Int) = n ∧ n.toNat < 4294967296 := by
  have := bounds_u32 h
  omega
theorem open_u32 (h : DataW.trod enc Tryz.prog w 0 (fun _ => true) true fuel 22 cs = some x) : ∃ v l, cs = [v] ∧ NatSl w v l := by
  rcases open_ints Tryz.underlying22 Tryz.underlying143 (by kernel_rfl) h with ⟨hcs, _⟩ | ⟨a, len, cap, zs, hcs, _, hl, hm, hz, _, hcell, hwz⟩
  · exact ⟨_, [], hcs, ⟨rfl, .inl ⟨rfl, rfl⟩⟩, fun x hx => by cases hx⟩
  · have hz' : zs.length = cap := by simpa using hz
    have hlen : ((zs.take len).map Int.toNat).length = len := by simp; omega
    refine ⟨_, (zs.take len).map Int.toNat, hcs, ⟨?_, .inr ⟨a, cap, by rw [hlen], by omega, hm, fun j u hu => ?_⟩⟩, fun y hy => ?_⟩
    · rw [Nat.mul_one]; unfold u32Cells; rw [List.length_map]
    · have hj : j < len := by
        have := (List.getElem?_eq_some_iff.1 hu).1
        unfold u32Cells at this
        rw [List.length_map, hlen] at this
        exact this
      have hjz : j < zs.length := by omega
      have e1 : zs.getD j 0 = zs[j] := by rw [List.getD_eq_getElem?_getD, List.getElem?_eq_getElem hjz]; rfl
      rw [hcell j hjz, ← hu]
      unfold u32Cells
      rw [List.getElem?_map, List.getElem?_map, List.getElem?_take, if_pos hj, List.getElem?_eq_getElem hjz, e1]
      simp only [Option.map_some]
      rw [(toNat_u32 (hwz _ (List.getElem_mem hjz))).1]
    · obtain ⟨z, hz1, rfl⟩ := List.mem_map.1 hy
      exact (toNat_u32 (hwz _ (List.mem_of_mem_take hz1))).2
theorem six {cs : List Value} (h : cs.length = 6) : ∃ v0 v1 v2 v3 v4 v5, cs = [v0, v1, v2, v3, v4, v5] := by
  match cs, h with
  | [v0, v1, v2, v3, v4, v5], _ => exact ⟨_, _, _, _, _, _, rfl⟩
theorem open_iv (h : DataW.trod enc Tryz.prog w 0 (fun _ => true) true fuel 28 cs = some x) : ∃ b s e b' s' e' l l', cs = [.bool b, s, .int .i64 e, .bool b', s', .int .i64 e'] ∧ NatSl w s l ∧ NatSl w s' l' := by
  obtain ⟨y0, y1, n, _, hl, h0, h1⟩ := trod_struct2 Tryz.underlying28 h
  have c6 : Tryz.prog.cellsOf 28 = 6 := by kernel_rfl
  have c3 : Tryz.prog.cellsOf 26 = 3 := by kernel_rfl
  have c2 : Tryz.prog.cellsOf 24 = 2 := by kernel_rfl
  have c1 : Tryz.prog.cellsOf 22 = 1 := by kernel_rfl
  have cb : Tryz.prog.cellsOf 4 = 1 := by kernel_rfl
  have ci : Tryz.prog.cellsOf 3 = 1 := by kernel_rfl
  rw [c6] at hl
  obtain ⟨v0, v1, v2, v3, v4, v5, rfl⟩ := six hl
  dsimp only at h0 h1
  rw [c3] at h0 h1
  have open_d : ∀ {a b c : Value} {y : DataW H × List MemPlace}, DataW.trod enc Tryz.prog w 0 (fun _ => true) true n 26 [a, b, c] = some y → ∃ p s e l, a = .bool p ∧ b = s ∧ c = .int .i64 e ∧ NatSl w s l := by
    intro a b c y hy
    obtain ⟨z0, z1, m, _, _, g0, g1⟩ := trod_struct2 Tryz.underlying26 hy
    dsimp only at g0 g1
    rw [c2] at g0
    rw [ci] at g1
    obtain ⟨e, g2, _, _⟩ := DataW.trod_int Tryz.underlying3 g1
    obtain ⟨q0, q1, m', _, _, f0, f1⟩ := trod_struct2 Tryz.underlying24 g0
    dsimp only at f0 f1
    rw [cb] at f0
    rw [c1] at f1
    obtain ⟨p, f2, _⟩ := DataW.trod_bool Tryz.underlying4 f0
    obtain ⟨s, l, f3, f4⟩ := open_u32 f1
    simp at g2 f2 f3
    exact ⟨p, s, e, l, f2, f3, g2, f4⟩
  obtain ⟨p, s, e, l, rfl, rfl, rfl, k1⟩ := open_d (show DataW.trod enc Tryz.prog w 0 (fun _ => true) true n 26 [v0, v1, v2] = some y0 from h0)
  obtain ⟨p', s', e', l', rfl, rfl, rfl, k2⟩ := open_d (show DataW.trod enc Tryz.prog w 0 (fun _ => true) true n 26 [v3, v4, v5] = some y1 from h1)
  exact ⟨_, _, _, _, _, _, _, _, rfl, k1, k2⟩
end
theorem natSl_same {w w' : World} {v : Value} {l : List Nat} (h : NatSl w v l) (hw : ∀ b, b < w.heap.size → w'.heap[b]? = w.heap[b]?) : NatSl w' v l := by
  refine ⟨⟨h.1.1, ?_⟩, h.2⟩
  rcases h.1.2 with h1 | ⟨a, cap, h1, h2, h3, h4⟩
  · exact .inl h1
  · exact .inr ⟨a, cap, h1, h2, h3, fun j u hu => (cell_same (p := a.add j) (hw _ (World.block_lt_of_cell? w _ (h4 j u hu)))).trans (h4 j u hu)⟩
theorem tabAt_blk {w : World} (h : ∃ rest e fz, w.heap[0]? = some (.cells ⟨tab ++ rest⟩ e fz)) : TabAt w := by
  obtain ⟨rest, e, fz, hb⟩ := h
  intro j hj
  unfold World.cell?
  simp only [hb]
  show (⟨tab ++ rest⟩ : Array Value)[j]? = _
  rw [List.getElem?_toArray, List.getElem?_append_left (by show j < 32; exact hj), tab_map, List.getElem?_map, List.getElem?_range hj]
  rfl
theorem law_calls {w : World} {s s' : Value} {l l' : List Nat} (b : Bool) (e : Int) (b' : Bool) (e' v : Int) (h1 : NatSl w s l) (h2 : NatSl w s' l') (ht : ∃ rest e fz, w.heap[0]? = some (.cells ⟨tab ++ rest⟩ e fz)) :
    Calls Tryz.prog 3 #[.agg #[.bool b, s, .int .i64 e, .bool b', s', .int .i64 e'], .int .i64 v] w fun en w' => en = .returned (.bool true) ∧ Below w.heap.size w w' := by
  have hT := tabAt_blk ht
  refine ((law_con (b := b) (e := e) (b' := b') (e' := e') (v := v) h1.2 h2.2).calls (w := w) (vals := [.agg #[.bool b, s, .int .i64 e, .bool b', s', .int .i64 e'], .int .i64 v]) (fun w' hw => ?_) fun w' hw => ?_).mono ?_
  · intro j hj
    have hlt := World.block_lt_of_cell? w _ (hT j hj)
    exact (cell_same (hw _ hlt)).trans (hT j hj)
  · exact ⟨_, _, rfl, ⟨_, _, _, _, _, _, rfl, ⟨rfl, natSl_same h1 hw, rfl⟩, rfl, natSl_same h2 hw, rfl⟩, _, _, rfl, rfl, rfl⟩
  · rintro en w' ⟨x, rfl, hx, hb⟩
    obtain rfl : x = .bool true := hx
    exact ⟨rfl, hb⟩
theorem laidOutP : laidOutB Tryz.prog = true := by kernel_rfl
/-- A world in which the tables lie. -/
noncomputable def laidW (os : Os) : World :=
  let w0 := World.doorLaid Tryz.prog 400 os
  { w0 with heap := w0.heap.modify 2 fun
      | .cells _ t fz => .cells ⟨firstCells⟩ t fz
      | o => o }
theorem laidW_met (os : Os) (args : Array Value) : laidMetH Tryz.prog Rows.refinePicksRow.laid ((laidW os).forCall (fun _ _ => 0) ⟨#[], args, []⟩).memory := by
  rw [MakeChecks.laidMetH_plain _ _ _ (by kernel_rfl)]
  exact laidMet_of_run' 8 (by kernel_rfl) (by kernel_rfl)
set_option maxRecDepth 100000 in
theorem lifted (os : Os) (started : os.Started) (H : Type) (enc : TypeId × Value → H) :
    ReturnsInHanded {} Tryz.checked os 3 .any (fun w args => (Rows.refinePicksSpec.pre enc Tryz.prog Tryz.f3 [] false w args ∧ laidMetH Tryz.prog Rows.refinePicksRow.laid w) ∧ sizedMet enc Tryz.prog Tryz.f3 (OpenSpec.ofChange Rows.refinePicksSpec) false w args)
      (Rows.refinePicksSpec.post enc Tryz.prog Tryz.f3 false true false false) := by
  refine returnsInHanded_of_change_and (C := Tryz.checked) (X := fun w _ => laidMetH Tryz.prog Rows.refinePicksRow.laid w) (fun _ _ _ hh h => h.of_heap hh) own started (by kernel_rfl) Tryz.func3
    (ChangeSpec.witness_shaped (enc := enc) (C := Tryz.checked) (os := os) (X := fun w _ => laidMetH Tryz.prog Rows.refinePicksRow.laid w) false (laidW os) #[.agg #[.bool false, .slice none 0 0, .int .i64 0, .bool false, .slice none 0 0, .int .i64 0], .int .i64 0] 8 rfl (World.shaped_of_RefB (by kernel_rfl) (by kernel_rfl)) (by kernel_rfl) (by kernel_rfl) (by kernel_rfl) (laidW_met os _)) ?_
  intro W base args ds gs before hval0 hW _ _ hL _
  have hval : ∀ (j : Nat) t v, Tryz.f3.params[j]? = some t → args[j]? = some v → Value.okWide Tryz.prog W .any base t v := hval0
  have hW' := hW
  obtain ⟨p, q, hA0, hV, rfl, hfz, hnd⟩ := hW
  have hA : DataW.TrodAll enc Tryz.prog W 0 (fun _ => true) true Tryz.f3.params.toList args.toList ds p := hA0
  rw [Tryz.params3] at hA hval
  obtain ⟨v0, vs0, d0, ds0, p0, q0, hargs, rfl, rfl, h0, r0⟩ := trodAll_cons hA
  obtain ⟨v1, vs1, d1, ds1, p1, q1, rfl, rfl, rfl, h1, r1⟩ := trodAll_cons r0
  obtain ⟨rfl, rfl, rfl⟩ := trodAll_nil r1
  obtain rfl : args = #[v0, v1] := by cases args; simp_all
  obtain ⟨rfl, rfl⟩ := trodVars_none hV
  obtain ⟨cs, rfl, _⟩ := okWide_struct Tryz.underlying28 (hval 0 28 v0 rfl rfl)
  have k0 := h0
  have lt0 : ∀ x ∈ p0, x.block < W.heap.size := by obtain ⟨m, hm⟩ := k0; exact DataW.trod_lt m _ _ _ hm
  obtain ⟨b, s, e, b', s', e', l, l', hcs, n1, n2⟩ : ∃ b s e b' s' e' l l', cs = #[.bool b, s, .int .i64 e, .bool b', s', .int .i64 e'] ∧ NatSl W s l ∧ NatSl W s' l' := by
    obtain ⟨fuel, hf⟩ := h0
    obtain ⟨b, s, e, b', s', e', l, l', hcs, n1, n2⟩ := open_iv hf
    refine ⟨b, s, e, b', s', e', l, l', ?_, n1, n2⟩
    have : cs.toList = [.bool b, s, .int .i64 e, .bool b', s', .int .i64 e'] := hcs
    rw [← this]
  subst hcs
  obtain ⟨a1, rfl, rfl, rfl, w1⟩ := open_int Tryz.underlying3 (hval 1 3 v1 rfl rfl) h1
  clear hA0 hval0
  refine (law_calls b e b' e' a1 n1 n2 (tab_of hL)).mono fun en W' ⟨he, bel⟩ => ?_
  subst he
  exact ⟨_, rfl, _, _, _, [], _, [], hW', trodAll_mk1 (shut_bool Tryz.underlying4 _), (trodAll_cons_mk (Below.trod laidOutP (by kernel_rfl) (of_decide_eq_true (by kernel_rfl)) k0 bel lt0) (trodAll_cons_mk (shut_int Tryz.underlying3 w1) trodAll_mk0)), rfl, bel.frame _, fun h => by cases h⟩
end Go.Proofs.YtkpjikaobjpkoaaGreatDoor
