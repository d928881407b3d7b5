/-
  Walks of Args and of the graph's own operands.
-/
import Derived.Test.YtfdaghhplijpeaaGreatDoorLmOaOb
import Derived.WalkSmall
import Derived.OneCell
import Derived.BigRegion
import Derived.Deep.AppendLies
import Derived.Deep.RegionLaw
namespace Go.Proofs.YtfdaghhplijpeaaGreatDoor
open Go Go.RowKit

set_option maxHeartbeats 4000000 in
theorem args_calls {x : Nd} (h1 : 1 ≤ x.k) (h2 : x.k ≤ 16) (w : World) :
    Calls Tryz.prog 30 #[ndVal x] w fun e w' => ∃ v, e = .returned v ∧ ArgsP w x v w' := by
  obtain ⟨k, a, b, n, t⟩ := x
  have q0 := @argsP_0 w ⟨k, a, b, n, t⟩
  have q1 := @argsP_1 w ⟨k, a, b, n, t⟩
  have q2 := @argsP_2 w ⟨k, a, b, n, t⟩
  have O := fun w => operands_calls h1 h2 w
  have Q := Lib.hid (And.intro q0 (And.intro q1 (And.intro q2 O)))
  clear q0 q1 q2 O
  unfold ndVal
  have har : (arity k : Int) = 0 ∨ (arity k : Int) = 1 ∨ (arity k : Int) = 2 := by unfold arity; split; exact .inl rfl; split; exact .inr (.inr rfl); exact .inr (.inl rfl)
  simp only at h1 h2 Q ⊢
  rcases har with e | e | e
  all_goals
    have ht := Lib.hid (show arity k = _ from Int.ofNat.inj e)
    clear h1 h2
    go_enter Tryz.func30, Tryz.ntmps30
    go_wp2_with fail
    refine (Q.out.2.2.2 _).mono ?_
    rintro e' w1 ⟨rfl, rfl⟩
    rw [e]
    clear e
    go_wp2_with fail
    go_ret
    first | exact ⟨_, rfl, Q.out.1 ht.out⟩ | exact ⟨_, rfl, Q.out.2.1 ht.out⟩ | exact ⟨_, rfl, Q.out.2.2.1 ht.out⟩
set_option maxHeartbeats 4000000 in
theorem graphOps_calls {x : Nd} (h1 : 1 ≤ x.k) (h2 : x.k ≤ 16) (w : World) :
    Calls Tryz.prog 79 #[ndVal x] w fun e w' => ∃ v, e = .returned (.tuple #[v, .bool true]) ∧ ArgsP w x v w' := by
  obtain ⟨k, a, b, n, t⟩ := x
  have q0 := @argsP_0 w ⟨k, a, b, n, t⟩
  have q1 := @argsP_1 w ⟨k, a, b, n, t⟩
  have q2 := @argsP_2 w ⟨k, a, b, n, t⟩
  have Q := Lib.hid (And.intro q0 (And.intro q1 q2))
  clear q0 q1 q2
  unfold ndVal
  simp only at h1 h2 ⊢
  rcases kinds h1 h2 with rfl | rfl | rfl | rfl | rfl | rfl | rfl | rfl | rfl | rfl | rfl | rfl | rfl | rfl | rfl | rfl
  all_goals
    clear h1 h2
    go_enter Tryz.func79, Tryz.ntmps79
    go_wp2
    go_ret2
    first | exact ⟨_, rfl, Q.out.1 rfl⟩ | exact ⟨_, rfl, Q.out.2.1 rfl⟩ | exact ⟨_, rfl, Q.out.2.2 rfl⟩
end Go.Proofs.YtfdaghhplijpeaaGreatDoor
/-
  The heap of node numbers: walks of its five methods.
-/
namespace Go.Proofs.YtfdaghhplijpeaaGreatDoor
open Go Go.RowKit

def ints (l : List Int) : List Value := l.map (.int .i64)
theorem ints_length (l : List Int) : (ints l).length = l.length := by simp [ints]
theorem ints_get {l : List Int} {i : Nat} (h : i < l.length) : (ints l)[i]? = some (.int .i64 (l.getD i 0)) := by simp [ints, h]
theorem ints_set (l : List Int) (i : Nat) (x : Int) : ints (l.set i x) = (ints l).set i (.int .i64 x) := by simp [ints, List.map_set]
/-- A heap lies in block q: its numbers are l, in a row v of its own. -/
structure HeapR (w : World) (B q : Nat) (v : Value) (l : List Int) : Prop where
  blk : w.heap[q]? = some (.cells #[v] 67 (0, 0))
  own : w.ownsRow B 3 1 v l.length (ints l)
  ne : v.ownBlock ≠ some q
def ptr (q : Nat) : Value := .pointer (some ⟨q, 0, none⟩)
def heapI (q : Nat) : Value := .iface 66 (ptr q)
section
variable {w w' : World} {B q : Nat} {v : Value} {l : List Int}
theorem HeapR.cell (h : HeapR w B q v l) : w.cell? ⟨q, 0, none⟩ = some v := cell_of_blk h.blk 0
theorem HeapR.frz (h : HeapR w B q v l) : w.frozen? ⟨q, 0, none⟩ = false := frozen_of_blk h.blk 0
theorem HeapR.lt (h : HeapR w B q v l) : q < w.heap.size := (Array.getElem?_eq_some_iff.1 h.blk).1
theorem HeapR.frame {S : Nat → Prop} (h : HeapR w B q v l) (hf : Fr S w w') (h1 : ¬ S q) (h2 : ∀ k, v.ownBlock = some k → ¬ S k) : HeapR w' B q v l :=
  ⟨(hf.block q h.lt h1).trans h.blk, own_frame h.own hf h2, h.ne⟩
theorem HeapR.quiet (h : HeapR w B q v l) (hf : Fr (fun _ => False) w w') : HeapR w' B q v l := h.frame hf (fun e => e) (fun _ _ e => e)
/-- The row as the walk wants it. -/
theorem HeapR.form (h : HeapR w B q v l) (hl : 0 < l.length) : ∃ g c, v = .slice (some ⟨g, 0, none⟩) l.length c ∧ g ≠ q ∧ ∀ i, i < l.length → w.cell? ⟨g, i, none⟩ = some (.int .i64 (l.getD i 0)) := by
  obtain ⟨g, c, rfl, _⟩ := own_form h.own hl
  refine ⟨g, c, rfl, fun e => h.ne (by rw [e]; rfl), fun i hi => ?_⟩
  rw [h.own.cellAt i (by omega), ints_get hi]
theorem HeapR.slice (h : HeapR w B q v l) : ∃ a c, v = .slice a l.length c := by
  rcases h.own.2 with ⟨rfl, e⟩ | ⟨g, c, _, rfl, _⟩
  · rw [e]; exact ⟨_, _, rfl⟩
  · exact ⟨_, _, rfl⟩
set_option maxHeartbeats 400000 in
theorem len_calls (h : HeapR w B q v l) : Calls Tryz.prog 25 #[ptr q] w fun e w' => e = .returned (.int .i64 (l.length : Int)) ∧ w' = w := by
  obtain ⟨a, c, rfl⟩ := h.slice
  have c0 := h.cell
  clear h
  unfold ptr
  go_enter Tryz.func25, Tryz.ntmps25
  go_wp2_with fail
  go_ret
  exact ⟨rfl, rfl⟩
set_option maxHeartbeats 1000000 in
theorem less_calls (h : HeapR w B q v l) {i j : Nat} (hi : i < l.length) (hj : j < l.length) (hl : l.length ≤ 10000) :
    Calls Tryz.prog 411 #[ptr q, .int .i64 i, .int .i64 j] w fun e w' => e = .returned (.bool (decide (l.getD j 0 < l.getD i 0))) ∧ Fr (fun _ => False) w w' := by
  obtain ⟨g, c, rfl, hgq, hc⟩ := h.form (by omega)
  have c0 := h.cell
  have ci := hc i hi
  have cj := hc j hj
  clear h hc
  obtain ⟨x, hx⟩ : ∃ x, l.getD i 0 = x := ⟨_, rfl⟩
  obtain ⟨y, hy⟩ : ∃ y, l.getD j 0 = y := ⟨_, rfl⟩
  obtain ⟨n, hn⟩ : ∃ n, l.length = n := ⟨_, rfl⟩
  rw [hx] at ci
  rw [hy] at cj
  rw [hx, hy]
  rw [hn] at hi hj hl c0
  clear hx hy hn hgq
  have i0 : (0 : Int) ≤ (i : Int) := by omega
  have i1 : (i : Int) < (n : Int) := by omega
  have j0 : (0 : Int) ≤ (j : Int) := by omega
  have j1 : (j : Int) < (n : Int) := by omega
  unfold ptr
  go_enter Tryz.func411, Tryz.ntmps411
  go_wp2_with (go_quiet (fail))
  go_ret
  exact ⟨rfl, (Fr.refl _ w).drewN _⟩
end
end Go.Proofs.YtfdaghhplijpeaaGreatDoor
/-
  The heap of node numbers: walks of Swap, Push and Pop.
-/
namespace Go.Proofs.YtfdaghhplijpeaaGreatDoor
open Go Go.RowKit

section
variable {w w' : World} {B q : Nat} {v : Value} {l : List Int}
def swapped (l : List Int) (i j : Nat) : List Int := (l.set i (l.getD j 0)).set j (l.getD i 0)
theorem swapped_length (l : List Int) (i j : Nat) : (swapped l i j).length = l.length := by simp [swapped]
theorem HeapR.store {g c n : Nat} (hn : l.length = n) (h : HeapR w B q (.slice (some ⟨g, 0, none⟩) n c) l) (i : Nat) (x : Int) : HeapR (w.setCell ⟨g, i, none⟩ (.int .i64 x)) B q (.slice (some ⟨g, 0, none⟩) n c) (l.set i x) := by
  subst hn
  have hgq : g ≠ q := fun e => h.ne (by rw [e]; rfl)
  refine ⟨?_, ?_, h.ne⟩
  · rw [Below.heap_setCell _ _ _ _ (fun e => hgq e.symm)]; exact h.blk
  · rw [List.length_set, ints_set]; exact (h.own.stored i (.int .i64 x)).1
theorem HeapR.drewN (h : HeapR w B q v l) (n : Nat) : HeapR (w.drewN n) B q v l := h.quiet ((Fr.refl _ w).drewN n)
theorem HeapR.drew (h : HeapR w B q v l) : HeapR w.drew B q v l := h.quiet ((Fr.refl _ w).drew)
set_option maxHeartbeats 4000000 in
theorem swap_calls (h : HeapR w B q v l) {i j : Nat} (hi : i < l.length) (hj : j < l.length) (hl : l.length ≤ 10000) :
    Calls Tryz.prog 414 #[ptr q, .int .i64 i, .int .i64 j] w fun e w' => e = .returned (.tuple #[]) ∧ HeapR w' B q v (swapped l i j) ∧ Fr (fun k => v.ownBlock = some k) w w' := by
  have H := Lib.hid h
  obtain ⟨g, c, rfl, hgq, hc⟩ := h.form (by omega)
  have c0 := h.cell
  have ci := hc i hi
  have cj := hc j hj
  have fi := h.own.frozenAt i
  have fj := h.own.frozenAt j
  have H1 := h.store rfl i (l.getD j 0)
  have cj' : (w.setCell ⟨g, i, none⟩ (.int .i64 (l.getD j 0))).cell? ⟨g, j, none⟩ = some (.int .i64 (l.getD j 0)) := by
    have := H1.own
    rw [List.length_set] at this
    rw [this.cellAt j (by omega), ints_get (by simpa using hj)]
    rw [List.getD_eq_getElem?_getD, List.getElem?_set]
    by_cases e : i = j
    · subst e; simp [hi]
    · simp [e]
  have fj' : (w.setCell ⟨g, i, none⟩ (.int .i64 (l.getD j 0))).frozen? ⟨g, j, none⟩ = false := by
    have := H1.own
    rw [List.length_set] at this
    exact this.frozenAt j
  clear h hc H1
  obtain ⟨x, hx⟩ : ∃ x, l.getD i 0 = x := ⟨_, rfl⟩
  obtain ⟨y, hy⟩ : ∃ y, l.getD j 0 = y := ⟨_, rfl⟩
  obtain ⟨n, hn⟩ : ∃ n, l.length = n := ⟨_, rfl⟩
  rw [hx] at ci
  rw [hy] at cj cj' fj'
  rw [hn] at hi hj hl c0
  have HX := Lib.hid hx
  have HY := Lib.hid hy
  have HN := Lib.hid hn
  clear hx hy hn hgq
  have i0 : (0 : Int) ≤ (i : Int) := by omega
  have i1 : (i : Int) < (n : Int) := by omega
  have j0 : (0 : Int) ≤ (j : Int) := by omega
  have j1 : (j : Int) < (n : Int) := by omega
  unfold ptr
  go_enter Tryz.func414, Tryz.ntmps414
  go_region
  all_goals
    go_wp2_with fail
    refine bodyPost_end (results_none rfl _ _ _) rfl ?_
    have R := ((H.out.store rfl i y).store (by simp) j x).drew
    rw [← HX.out, ← HY.out] at R ⊢
    exact ⟨rfl, R, (((Fr.refl (fun k => some g = some k) w).setCell (a := ⟨g, i, none⟩) _ (fun _ => rfl)).setCell (a := ⟨g, j, none⟩) _ (fun _ => rfl)).drew⟩
theorem Tryz.info3 : (Tryz.prog.info? 3).map (fun i => (i.zero, i.size, i.bytes)) = some (some (.int .i64 0), 1, 8) := by kernel_rfl
theorem fr_of_grown {w w' : World} {row : Option Nat} (hg : w.grownBy w' row) : Fr (fun k => row = some k) w w' :=
  ⟨hg.os, hg.tape, hg.output, hg.size, fun k hk hn => hg.block k hk (fun e => hn e.symm)⟩
/-- append of one number, a step of a region that draws its order. -/
theorem app_num {ops : Array Oper} {o : Oper} {a : Act} {w : World} {K : Act → World → Prop} {Q : Exit → Act → World → Prop} {E : Prop} (hgd : o.guard = none) (s x : Operand) (ho : o.op = .call { callee := .builtin .append, args := #[s, x], argTypes := #[67, 67] })
    (base : Nat) (hbase : base ≤ w.heap.size) (v : Value) (n : Nat) (xs : List Value) (hs : a.eval s = v) (hown : w.ownsRow base 3 1 v n xs) (B : Nat) (p : Value) (hx : a.eval x = .slice (some ⟨B, 0, none⟩) 1 1)
    (hB : w.heap[B]? = some (.cells #[p] 3 (0, 0))) (h1 : p.oneCell' = true) (hn : n ≤ 100000)
    (h : ∀ g cap w', w'.ownsRow base 3 1 (.slice (some ⟨g, 0, none⟩) (n + 1) cap) (n + 1) (xs ++ [p]) → Fr (fun k => v.ownBlock = some k) w w' → (v.ownBlock = some g ∨ w.heap.size ≤ g) →
      K (a.put o.dst (.slice (some ⟨g, 0, none⟩) (n + 1) cap)) w') :
    if Region.wanted o (yielded ops a.tmps) = true then Oper.wp Tryz.prog o a w K Q else E := by
  obtain ⟨i0, hi0, hz0, hz1, hz2⟩ := info_parts Tryz.info3
  refine step_append_lies w hgd s x 67 ho base 3 i0 _ 1 8 Tryz.underlying67 hi0 hz0 hz1 hz2 rfl (by omega) v n xs hs hown ⟨B, 0, none⟩ 1 1 [p] hx rfl (World.news_of_block (cs := #[p]) hB)
    (by intro u hu; simp at hu; rw [hu]; exact h1) (by omega) (by unfold maxLen; omega) (by omega) hbase w.heap.size rfl ?_
  intro g cap w' h2 h3 h4 _
  exact h g cap w' h2 (fr_of_grown h3) (h4.imp id (fun e => by omega))
theorem push_end {w w2 : World} {a : Option Addr} {n c gg capn : Nat} {o : Obj} {x : Int} (H : HeapR w B q (.slice a n c) l) (hn : l.length = n)
    (hown2 : w2.ownsRow B 3 1 (.slice (some ⟨gg, 0, none⟩) (n + 1) capn) (n + 1) (ints l ++ [.int .i64 x])) (hgrow : Fr (fun k => (Value.slice a n c).ownBlock = some k) (w.alloc o).drew w2)
    (hat : (Value.slice a n c).ownBlock = some gg ∨ (w.alloc o).drew.heap.size ≤ gg) :
    HeapR (w2.setCell ⟨q, 0, none⟩ (.slice (some ⟨gg, 0, none⟩) (n + 1) capn)) B q (.slice (some ⟨gg, 0, none⟩) (n + 1) capn) (l ++ [x]) ∧
      (∀ k, (Value.slice (some ⟨gg, 0, none⟩) (n + 1) capn).ownBlock = some k → (Value.slice a n c).ownBlock = some k ∨ w.heap.size ≤ k) ∧
      Fr (fun k => k = q ∨ (Value.slice a n c).ownBlock = some k) w (w2.setCell ⟨q, 0, none⟩ (.slice (some ⟨gg, 0, none⟩) (n + 1) capn)) := by
  have hq := H.lt
  have hsz : (w.alloc o).drew.heap.size = w.heap.size + 1 := by simp [World.drew]
  have hne : gg ≠ q := by
    rintro rfl
    rcases hat with h | h
    · exact H.ne h
    · omega
  have hb : w2.heap[q]? = some (.cells #[.slice a n c] 67 (0, 0)) := by
    rw [hgrow.block q (by omega) H.ne]
    exact (((Below.refl w.heap.size w).alloc (Nat.le_refl _) o).drew.block q hq).trans H.blk
  refine ⟨⟨?_, ?_, fun e => hne (by simpa [Value.ownBlock] using e)⟩, fun k hk => ?_, ?_⟩
  · unfold World.setCell
    simp only [Array.getElem?_modify, hb]
    simp
  · rw [List.length_append, hn]
    have : ints (l ++ [x]) = ints l ++ [.int .i64 x] := by simp [ints]
    rw [this]
    exact ownsRow_setCell_other (a := ⟨q, 0, none⟩) hown2 (by simp [Value.ownBlock]; exact hne) _
  · have : gg = k := by simpa [Value.ownBlock] using hk
    subst this
    exact hat.imp id (fun h => by omega)
  · exact (((Fr.refl (fun k => k = q ∨ (Value.slice a n c).ownBlock = some k) w).alloc o).drew.trans hgrow (fun k _ e => .inr e)).setCell _ (fun _ => .inl rfl)
theorem run_num (x : Int) (w : World) : Sem.run Tryz.prog (Instr.typeAssert (.iface 3 (.int .i64 x)) 20 3 false) w = .ok (.int .i64 x) w := by kernel_rfl
set_option maxHeartbeats 2000000 in
theorem numPush_calls (h : HeapR w B q v l) (hB : B ≤ w.heap.size) (hl : l.length ≤ 10000) (x : Int) :
    Calls Tryz.prog 413 #[ptr q, .iface 3 (.int .i64 x)] w fun e w' => e = .returned (.tuple #[]) ∧ ∃ v', HeapR w' B q v' (l ++ [x]) ∧ (∀ k, v'.ownBlock = some k → v.ownBlock = some k ∨ w.heap.size ≤ k) ∧ Fr (fun k => k = q ∨ v.ownBlock = some k) w w' := by
  have H := Lib.hid h
  have hq := h.lt
  have HO := Lib.hid h.own
  have c0 := h.cell
  have f0 := h.frz
  have hne := h.ne
  obtain ⟨a, c, rfl⟩ := h.slice
  obtain ⟨n, hn⟩ : ∃ n, l.length = n := ⟨_, rfl⟩
  rw [hn] at H HO c0 hne hl ⊢
  have HN := Lib.hid hn
  clear h hn
  have HNE := Lib.hid hne
  have HBQ := Lib.hid (And.intro hB hq)
  clear hne hB hq
  have hal : ∀ o, Below w.heap.size w (w.alloc o).drew := fun o => ((Below.refl _ w).alloc (Nat.le_refl _) o).drew
  have HAL := Lib.hid hal
  clear hal
  have ta := run_num x
  have c0' : (w.alloc (.cells #[.int .i64 x] 3)).cell? ⟨q, 0, none⟩ = some (.slice a n c) := (((Below.refl _ w).alloc (Nat.le_refl _) (.cells #[.int .i64 x] 3)).cell (p := ⟨q, 0, none⟩) HBQ.out.2).trans c0
  unfold ptr
  go_enter Tryz.func413, Tryz.ntmps413
  go_region_law (refine app_num (by rfl) _ _ (by rfl) B (by have := HBQ.out.1; simp; omega) _ _ _ (by rfl) ((HO.out.alloc _).drew) w.heap.size _ (by rfl) (heap_alloc_new w _) (by simp [Value.oneCell']) (by omega) ?_; intro gg capn w2 hown2 hgrow hat; have s1 : w2.cell? ⟨q, 0, none⟩ = some (.slice a n c) := hgrow.cell (((HAL.out _).cell (p := ⟨q, 0, none⟩) HBQ.out.2).trans c0) HNE.out; have s2 : w2.frozen? ⟨q, 0, none⟩ = false := (hgrow.frozen (a := ⟨q, 0, none⟩) (by have := HBQ.out.2; simp; omega) HNE.out).trans (((HAL.out _).frozen (p := ⟨q, 0, none⟩) HBQ.out.2).trans f0))
  all_goals
    go_wp2_with fail
    refine bodyPost_end (results_none rfl _ _ _) rfl ?_
    have R := push_end H.out HN.out hown2 hgrow hat
    exact ⟨rfl, _, R⟩
theorem HeapR.cap {a : Addr} {n c : Nat} (h : HeapR w B q (.slice (some a) n c) l) : n ≤ c := by
  rcases h.own.2 with ⟨e, _⟩ | ⟨g, cap, cur, e, _, _, h1, _⟩
  · cases e
  · cases e; exact h1
theorem pop_end {w : World} {g c m : Nat} (H : HeapR w B q (.slice (some ⟨g, 0, none⟩) (m + 1) c) l) (hn : l.length = m + 1) :
    HeapR (w.setCell ⟨q, 0, none⟩ (.slice (some ⟨g, 0, none⟩) m c)) B q (.slice (some ⟨g, 0, none⟩) m c) (l.take m) := by
  have hgq : g ≠ q := fun e => H.ne (by rw [e]; rfl)
  refine ⟨?_, ?_, H.ne⟩
  · unfold World.setCell
    simp only [Array.getElem?_modify, H.blk]
    simp
  · have h1 := ownsRow_setCell_other (a := ⟨q, 0, none⟩) H.own (by simp [Value.ownBlock]; exact hgq) (.slice (some ⟨g, 0, none⟩) m c)
    rw [hn] at h1
    have e : ints l = ints (l.take m) ++ ints (l.drop m) := by simp [ints]
    rw [e] at h1
    have h2 : (l.take m).length = m := by simp [hn]
    rw [h2]
    exact ownsRow_pop (by rw [ints_length, h2]; simp) h1
set_option maxHeartbeats 2000000 in
theorem numPop_calls {m : Nat} (h : HeapR w B q v l) (hm : l.length = m + 1) (hl : m ≤ 10000) :
    Calls Tryz.prog 412 #[ptr q] w fun e w' => e = .returned (.iface 3 (.int .i64 (l.getD m 0))) ∧ ∃ v', HeapR w' B q v' (l.take m) ∧ v'.ownBlock = v.ownBlock ∧ Fr (fun k => k = q) w w' := by
  have H := Lib.hid h
  obtain ⟨g, c, rfl, hgq, hc⟩ := h.form (by omega)
  have c0 := h.cell
  have f0 := h.frz
  have cm := hc m (by omega)
  have hcap := h.cap
  rw [hm] at c0 H hcap
  have HM := Lib.hid hm
  have hcap' : m ≤ c := by omega
  have hcap2 : (m : Int) ≤ (c : Int) := by omega
  clear hcap
  clear h hc hgq hm
  obtain ⟨x, hx⟩ : ∃ x, l.getD m 0 = x := ⟨_, rfl⟩
  rw [hx] at cm ⊢
  clear hx
  have m0 : (0 : Int) ≤ (m : Int) := by omega
  unfold ptr
  go_enter Tryz.func412, Tryz.ntmps412
  go_wp2_with fail
  go_ret
  exact ⟨rfl, _, pop_end H.out HM.out, rfl, (Fr.refl _ w).setCell _ (fun _ => rfl)⟩
end
end Go.Proofs.YtfdaghhplijpeaaGreatDoor
