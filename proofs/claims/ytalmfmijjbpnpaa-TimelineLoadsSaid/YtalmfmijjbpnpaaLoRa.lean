/-
  A history that came in can be read: plain facts, no walk stands here.
-/
import Derived.Test.YtalmfmijjbpnpaaLoZtZuZvZw
import Derived.WalkKit
import Derived.ProofKit
import Derived.OpenShut
import Derived.ShutString
import Derived.ChangeOld
import Derived.Below
import Derived.Deep.Slices
import Derived.Deep.Fields
import Derived.ChangeSame
namespace Go.Proofs.Ytalmfmijjbpnpaa.timelineLoads
open Go.ChangeShapes Go.WideShapes Go.ChangeAt Go.RowKit Go.Deep
open Go.ChangeMaps (open_string shut_string)
set_option linter.unusedVariables false

theorem cells40 : Try.prog.cellsOf 40 = 2 := by kernel_rfl
theorem cells65 : Try.prog.cellsOf 65 = 3 := by kernel_rfl
theorem cells78 : Try.prog.cellsOf 78 = 2 := by kernel_rfl
theorem cells37 : Try.prog.cellsOf 37 = 4 := by kernel_rfl
theorem cells33 : Try.prog.cellsOf 33 = 1 := by kernel_rfl
theorem cells34 : Try.prog.cellsOf 34 = 1 := by kernel_rfl
theorem cells35 : Try.prog.cellsOf 35 = 1 := by kernel_rfl
theorem cells22 : Try.prog.cellsOf 22 = 1 := by kernel_rfl
theorem cells3 : Try.prog.cellsOf 3 = 1 := by kernel_rfl
theorem cells9 : Try.prog.cellsOf 9 = 1 := by kernel_rfl

theorem two_of {α : Type} : ∀ l : List α, l.length = 2 → ∃ a b, l = [a, b]
  | [a, b], _ => ⟨a, b, rfl⟩
  | [], h => by simp at h
  | [_], h => by simp at h
  | _ :: _ :: _ :: _, h => by simp at h
theorem three_of {α : Type} : ∀ l : List α, l.length = 3 → ∃ a b c, l = [a, b, c]
  | [a, b, c], _ => ⟨a, b, c, rfl⟩
  | [], h => by simp at h
  | [_], h => by simp at h
  | [_, _], h => by simp at h
  | _ :: _ :: _ :: _ :: _, h => by simp at h
theorem four_of {α : Type} : ∀ l : List α, l.length = 4 → ∃ a b c d, l = [a, b, c, d]
  | [a, b, c, d], _ => ⟨a, b, c, d, rfl⟩
  | [], h => by simp at h
  | [_], h => by simp at h
  | [_, _], h => by simp at h
  | [_, _, _], h => by simp at h
  | _ :: _ :: _ :: _ :: _ :: _, h => by simp at h

/-- A list whose elements are as wished. -/
theorem list_of {α : Type} {p : Nat → α → Prop} : ∀ n : Nat, (∀ i, i < n → ∃ x, p i x) → ∃ l : List α, l.length = n ∧ ∀ i x, l[i]? = some x → p i x
  | 0, _ => ⟨[], rfl, fun _ _ h => by simp at h⟩
  | n + 1, h => by
    obtain ⟨l, hl, hp⟩ := list_of n fun i hi => h i (by omega)
    obtain ⟨x, hx⟩ := h n (by omega)
    refine ⟨l ++ [x], by simp [hl], fun i y hy => ?_⟩
    rw [List.getElem?_append] at hy
    split at hy
    · exact hp i y hy
    · rename_i hge
      have hi : i - l.length = 0 := by
        have := (List.getElem?_eq_some_iff.1 hy).1
        simp at this; omega
      rw [hi] at hy
      obtain rfl : x = y := by simpa using hy
      obtain rfl : i = n := by omega
      exact hx

section
variable {α : Type} {f : α → List Value} {sz : Nat}
theorem flat_len (hf : ∀ x, (f x).length = sz) (l : List α) : (l.flatMap f).length = l.length * sz := by
  induction l with
  | nil => simp
  | cons y l ih => rw [List.flatMap_cons, List.length_append, ih, hf, List.length_cons, Nat.add_mul, Nat.one_mul, Nat.add_comm]
theorem flat_get (hf : ∀ x, (f x).length = sz) (hs : 0 < sz) : ∀ (l : List α) (j : Nat), (l.flatMap f)[j]? = (l[j / sz]?).bind fun y => (f y)[j % sz]?
  | [], j => by simp
  | y :: l, j => by
    rw [List.flatMap_cons, List.getElem?_append, hf]
    by_cases h : j < sz
    · rw [if_pos h, Nat.div_eq_of_lt h, Nat.mod_eq_of_lt h]; rfl
    · rw [if_neg h, flat_get hf hs l (j - sz)]
      have e : j = (j - sz) + sz := by omega
      have e1 : j / sz = (j - sz) / sz + 1 := by
        have := Nat.add_div_right (j - sz) hs
        rw [← e] at this; exact this
      have e2 : j % sz = (j - sz) % sz := by
        have := Nat.add_mod_right (j - sz) sz
        rw [← e] at this; exact this
      rw [e1, e2, List.getElem?_cons_succ]

/-- Rows of sz cells that lie one behind the other. -/
theorem sl_rows {w : World} (hf : ∀ x, (f x).length = sz) (hs : 0 < sz) {x : Addr} {n c : Nat} {l : List α} (hl : l.length = n) (hc : n ≤ c) (hm : c ≤ maxLen)
    (h : ∀ i y, l[i]? = some y → ∀ j u, (f y)[j]? = some u → w.cell? (x.add (i * sz + j)) = some u) : SlAt w (.slice (some x) n c) n sz (l.flatMap f) := by
  refine ⟨by rw [flat_len hf, hl], .inr ⟨x, c, rfl, hc, hm, fun j u hu => ?_⟩⟩
  rw [flat_get hf hs] at hu
  obtain ⟨y, hy, hj⟩ := Option.bind_eq_some_iff.1 hu
  have := h _ y hy _ u hj
  rwa [Nat.div_add_mod' j sz] at this
end

/-- The cells of an element, one by one. -/
theorem cells_at {w : World} {base : Nat} {a : Addr} {sz i : Nat} {cs : List Value} (h : w.cells? base (a.add (i * sz)) sz = some cs) : cs.length = sz ∧ ∀ j u, cs[j]? = some u → w.cell? (a.add (i * sz + j)) = some u := by
  obtain ⟨_, hlen, hat⟩ := World.cells?_some h
  refine ⟨hlen, fun j u hu => ?_⟩
  have hj : j < sz := by rw [← hlen]; exact (List.getElem?_eq_some_iff.1 hu).1
  have := hat j hj
  rw [Go.Deep.add_add] at this
  rw [this, hu]

section
variable {H : Type} {enc : TypeId × Value → H} {w : World} {base : Nat} {sp : Nat → Bool} {held : Bool} {fuel : Nat} {cs : List Value} {x : DataW H × List MemPlace}

theorem read_vers (h : DataW.trod enc Try.prog w base sp held fuel 33 cs = some x) : ∃ (v : Value) (l : List Ver), cs = [v] ∧ SlAt w v l.length 2 (verCells l) := by
  rcases open_slice Try.underlying33 h with ⟨rfl, _⟩ | ⟨a, len, cap, m, n, D, Pl, rfl, _, hl, hm, hmm, _, hrow⟩
  · exact ⟨_, [], rfl, by simp [verCells], .inl ⟨rfl, rfl⟩⟩
  · obtain ⟨l, hll, hp⟩ := list_of (p := fun i (y : Ver) => ∀ j u, ([.int .i64 y.par, .int .i64 y.root] : List Value)[j]? = some u → w.cell? (a.add (i * 2 + j)) = some u) len (fun i hi => by
      have him : i < m := by rw [hmm]; split <;> omega
      obtain ⟨c3, hcell, htrod⟩ := hrow i him
      rw [cells40] at hcell
      obtain ⟨hlen, hat⟩ := cells_at hcell
      obtain ⟨ys, n1, _, _, _, hys, hfld⟩ := DataW.trod_struct Try.underlying40 htrod
      obtain ⟨u0, u1, rfl⟩ := two_of c3 hlen
      have hy3 : ys.length = 2 := hys
      have t0 : DataW.trod enc Try.prog w base sp held n1 3 (([u0, u1].drop 0).take (Try.prog.cellsOf 3)) = ys[0]? := hfld 0 _ rfl
      rw [cells3, List.getElem?_eq_getElem (by omega)] at t0
      have t1 : DataW.trod enc Try.prog w base sp held n1 3 (([u0, u1].drop 1).take (Try.prog.cellsOf 3)) = ys[1]? := hfld 1 _ rfl
      rw [cells3, List.getElem?_eq_getElem (by omega)] at t1
      obtain ⟨k0, e0, _, _⟩ := DataW.trod_int Try.underlying3 t0
      obtain ⟨k1, e1, _, _⟩ := DataW.trod_int Try.underlying3 t1
      obtain rfl : u0 = .int .i64 k0 := by simpa using e0
      obtain rfl : u1 = .int .i64 k1 := by simpa using e1
      exact ⟨⟨k0, k1⟩, hat⟩)
    subst hll
    exact ⟨_, l, rfl, sl_rows (f := fun v : Ver => [.int .i64 v.par, .int .i64 v.root]) (fun _ => rfl) (by omega) rfl hl hm hp⟩

theorem read_labels (h : DataW.trod enc Try.prog w base sp held fuel 35 cs = some x) : ∃ (v : Value) (l : List Lb), cs = [v] ∧ SlAt w v l.length 2 (lbCells l) ∧ ∀ s ∈ l, s.nm.size ≤ maxLen := by
  rcases open_slice Try.underlying35 h with ⟨rfl, _⟩ | ⟨a, len, cap, m, n, D, Pl, rfl, _, hl, hm, hmm, _, hrow⟩
  · exact ⟨_, [], rfl, ⟨by simp [lbCells], .inl ⟨rfl, rfl⟩⟩, by simp⟩
  · obtain ⟨l, hll, hp⟩ := list_of (p := fun i (y : Lb) => y.nm.size ≤ maxLen ∧ ∀ j u, ([.string y.nm, .int .i64 y.ver] : List Value)[j]? = some u → w.cell? (a.add (i * 2 + j)) = some u) len (fun i hi => by
      have him : i < m := by rw [hmm]; split <;> omega
      obtain ⟨c3, hcell, htrod⟩ := hrow i him
      rw [cells78] at hcell
      obtain ⟨hlen, hat⟩ := cells_at hcell
      obtain ⟨ys, n1, _, _, _, hys, hfld⟩ := DataW.trod_struct Try.underlying78 htrod
      obtain ⟨u0, u1, rfl⟩ := two_of c3 hlen
      have hy3 : ys.length = 2 := hys
      have t0 : DataW.trod enc Try.prog w base sp held n1 9 (([u0, u1].drop 0).take (Try.prog.cellsOf 9)) = ys[0]? := hfld 0 _ rfl
      rw [cells9, List.getElem?_eq_getElem (by omega)] at t0
      have t1 : DataW.trod enc Try.prog w base sp held n1 3 (([u0, u1].drop 1).take (Try.prog.cellsOf 3)) = ys[1]? := hfld 1 _ rfl
      rw [cells3, List.getElem?_eq_getElem (by omega)] at t1
      obtain ⟨s0, e0, _, b0⟩ := DataW.trod_string Try.underlying9 t0
      obtain ⟨k1, e1, _, _⟩ := DataW.trod_int Try.underlying3 t1
      obtain rfl : u0 = .string s0 := by simpa using e0
      obtain rfl : u1 = .int .i64 k1 := by simpa using e1
      exact ⟨⟨s0, k1⟩, b0, hat⟩)
    subst hll
    exact ⟨_, l, rfl, sl_rows (f := fun s : Lb => [.string s.nm, .int .i64 s.ver]) (fun _ => rfl) (by omega) rfl hl hm (fun i y hy => (hp i y hy).2), fun s hs => by
      obtain ⟨i, hi⟩ := List.getElem?_of_mem hs
      exact (hp i s hi).1⟩

theorem read_ints (h : DataW.trod enc Try.prog w base sp held fuel 22 cs = some x) : ∃ (v : Value) (l : List Int), cs = [v] ∧ SlAt w v l.length 1 (intCells l) := by
  rcases open_ints Try.underlying22 Try.underlying3 cells3 h with ⟨rfl, _⟩ | ⟨a, len, cap, zs, rfl, _, hl, hm, hz, _, hcell, _⟩
  · exact ⟨_, [], rfl, by simp [intCells], .inl ⟨rfl, rfl⟩⟩
  · have hzl : len ≤ zs.length := by rw [hz]; split <;> omega
    have hlt : (zs.take len).length = len := by rw [List.length_take]; omega
    refine ⟨_, zs.take len, rfl, by simp [intCells], .inr ⟨a, cap, by rw [hlt], by rw [hlt]; exact hl, hm, fun j u hu => ?_⟩⟩
    unfold intCells at hu
    rw [List.getElem?_map] at hu
    obtain ⟨z, hz', rfl⟩ := Option.map_eq_some_iff.1 hu
    have hj : j < len := by have := (List.getElem?_eq_some_iff.1 hz').1; rw [hlt] at this; exact this
    rw [List.getElem?_take, if_pos hj] at hz'
    have hjz : j < zs.length := by omega
    rw [hcell j hjz, List.getD_eq_getElem?_getD, hz']; rfl

theorem read_lines (h : DataW.trod enc Try.prog w base sp held fuel 34 cs = some x) :
    ∃ (v : Value) (l : List (Ln × Value)), cs = [v] ∧ SlAt w v l.length 3 (lnCells l) ∧ (∀ s ∈ l, s.1.nm.size ≤ maxLen) ∧ ∀ s ∈ l, SlAt w s.2 s.1.rd.length 1 (intCells s.1.rd) := by
  rcases open_slice Try.underlying34 h with ⟨rfl, _⟩ | ⟨a, len, cap, m, n, D, Pl, rfl, _, hl, hm, hmm, _, hrow⟩
  · exact ⟨_, [], rfl, ⟨by simp [lnCells], .inl ⟨rfl, rfl⟩⟩, by simp, by simp⟩
  · obtain ⟨l, hll, hp⟩ := list_of (p := fun i (y : Ln × Value) => (y.1.nm.size ≤ maxLen ∧ SlAt w y.2 y.1.rd.length 1 (intCells y.1.rd)) ∧ ∀ j u, ([.string y.1.nm, .int .i64 y.1.hd, y.2] : List Value)[j]? = some u → w.cell? (a.add (i * 3 + j)) = some u) len (fun i hi => by
      have him : i < m := by rw [hmm]; split <;> omega
      obtain ⟨c3, hcell, htrod⟩ := hrow i him
      rw [cells65] at hcell
      obtain ⟨hlen, hat⟩ := cells_at hcell
      obtain ⟨ys, n1, _, _, _, hys, hfld⟩ := DataW.trod_struct Try.underlying65 htrod
      obtain ⟨u0, u1, u2, rfl⟩ := three_of c3 hlen
      have hy3 : ys.length = 3 := hys
      have t0 : DataW.trod enc Try.prog w base sp held n1 9 (([u0, u1, u2].drop 0).take (Try.prog.cellsOf 9)) = ys[0]? := hfld 0 _ rfl
      rw [cells9, List.getElem?_eq_getElem (by omega)] at t0
      have t1 : DataW.trod enc Try.prog w base sp held n1 3 (([u0, u1, u2].drop 1).take (Try.prog.cellsOf 3)) = ys[1]? := hfld 1 _ rfl
      rw [cells3, List.getElem?_eq_getElem (by omega)] at t1
      have t2 : DataW.trod enc Try.prog w base sp held n1 22 (([u0, u1, u2].drop 2).take (Try.prog.cellsOf 22)) = ys[2]? := hfld 2 _ rfl
      rw [cells22, List.getElem?_eq_getElem (by omega)] at t2
      obtain ⟨s0, e0, _, b0⟩ := DataW.trod_string Try.underlying9 t0
      obtain ⟨k1, e1, _, _⟩ := DataW.trod_int Try.underlying3 t1
      obtain ⟨v2, l2, e2, h2⟩ := read_ints t2
      obtain rfl : u0 = .string s0 := by simpa using e0
      obtain rfl : u1 = .int .i64 k1 := by simpa using e1
      obtain rfl : u2 = v2 := by simpa using e2
      exact ⟨(⟨s0, k1, l2⟩, u2), ⟨b0, h2⟩, hat⟩)
    subst hll
    have hmem : ∀ s ∈ l, s.1.nm.size ≤ maxLen ∧ SlAt w s.2 s.1.rd.length 1 (intCells s.1.rd) := fun s hs => by
      obtain ⟨i, hi⟩ := List.getElem?_of_mem hs
      exact (hp i s hi).1
    exact ⟨_, l, rfl, sl_rows (f := fun x : Ln × Value => [.string x.1.nm, .int .i64 x.1.hd, x.2]) (fun _ => rfl) (by omega) rfl hl hm (fun i y hy => (hp i y hy).2), fun s hs => (hmem s hs).1, fun s hs => (hmem s hs).2⟩

/-- A history that came in. -/
theorem read_hist (h : DataW.trod enc Try.prog w base sp held fuel 37 cs = some x) :
    ∃ (vv bv sv : Value) (Hr : Hist) (ml : List (Ln × Value)), cs = [vv, bv, sv, .string Hr.cur] ∧ HAt w vv bv sv Hr ml ∧ NmOk Hr ∧ Hr.cur.size ≤ maxLen := by
  obtain ⟨ys, n1, _, _, hlen, hys, hfld⟩ := DataW.trod_struct Try.underlying37 h
  rw [cells37] at hlen
  obtain ⟨u0, u1, u2, u3, rfl⟩ := four_of cs hlen
  have hy3 : ys.length = 4 := hys
  have t0 : DataW.trod enc Try.prog w base sp held n1 33 (([u0, u1, u2, u3].drop 0).take (Try.prog.cellsOf 33)) = ys[0]? := hfld 0 _ rfl
  rw [cells33, List.getElem?_eq_getElem (by omega)] at t0
  have t1 : DataW.trod enc Try.prog w base sp held n1 34 (([u0, u1, u2, u3].drop 1).take (Try.prog.cellsOf 34)) = ys[1]? := hfld 1 _ rfl
  rw [cells34, List.getElem?_eq_getElem (by omega)] at t1
  have t2 : DataW.trod enc Try.prog w base sp held n1 35 (([u0, u1, u2, u3].drop 2).take (Try.prog.cellsOf 35)) = ys[2]? := hfld 2 _ rfl
  rw [cells35, List.getElem?_eq_getElem (by omega)] at t2
  have t3 : DataW.trod enc Try.prog w base sp held n1 9 (([u0, u1, u2, u3].drop 3).take (Try.prog.cellsOf 9)) = ys[3]? := hfld 3 _ rfl
  rw [cells9, List.getElem?_eq_getElem (by omega)] at t3
  obtain ⟨v0, l0, e0, h0⟩ := read_vers t0
  obtain ⟨v1, l1, e1, h1, h1n, h1r⟩ := read_lines t1
  obtain ⟨v2, l2, e2, h2, h2n⟩ := read_labels t2
  obtain ⟨s3, e3, _, b3⟩ := DataW.trod_string Try.underlying9 t3
  obtain rfl : u0 = v0 := by simpa using e0
  obtain rfl : u1 = v1 := by simpa using e1
  obtain rfl : u2 = v2 := by simpa using e2
  obtain rfl : u3 = .string s3 := by simpa using e3
  refine ⟨u0, u1, u2, ⟨l0, l1.map (·.1), l2, s3⟩, l1, rfl, ⟨h0, h1, h2, h1r, rfl⟩, ⟨fun b hb => ?_, h2n⟩, b3⟩
  obtain ⟨y, hy, rfl⟩ := List.mem_map.1 hb
  exact h1n y hy
end

end Go.Proofs.Ytalmfmijjbpnpaa.timelineLoads
