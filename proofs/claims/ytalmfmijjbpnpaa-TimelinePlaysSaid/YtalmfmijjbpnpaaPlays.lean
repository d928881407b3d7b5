/-
  TimelinePlays returns true for every input; the domain is all inputs.
-/
import Derived.Test.YtalmfmijjbpnpaaZr
import Derived.WalkKit
import Derived.ProofKit
import Derived.OpenShut
import Derived.ShutString
import Derived.ChangeOld
import Derived.Below
import Derived.Deep.Slices
import Derived.Deep.Fields
import Derived.ChangeSame
namespace Go.Proofs.Ytalmfmijjbpnpaa
open Go.RowKit

/-- A list whose elements are as wished. -/
theorem list_of {p : Nat → Ac → Prop} : ∀ n : Nat, (∀ i, i < n → ∃ x, p i x) → ∃ l : List Ac, l.length = n ∧ ∀ i x, l[i]? = some x → p i x
  | 0, _ => ⟨[], rfl, fun _ _ h => by simp at h⟩
  | n + 1, h => by
    obtain ⟨l, hl, hp⟩ := list_of n fun i hi => h i (by omega)
    obtain ⟨x, hx⟩ := h n (by omega)
    refine ⟨l ++ [x], by simp [hl], fun i y hy => ?_⟩
    rw [List.getElem?_append] at hy
    split at hy
    · exact hp i y hy
    · rename_i hge
      have hi : i - l.length = 0 := by
        have := (List.getElem?_eq_some_iff.1 hy).1
        simp at this; omega
      rw [hi] at hy
      obtain rfl : x = y := by simpa using hy
      obtain rfl : i = n := by omega
      exact hx

/-- Acts that lie one behind the other. -/
theorem sl_acts {w : World} {x : Addr} {n c : Nat} {l : List Ac} (hl : l.length = n) (hc : n ≤ c) (hm : c ≤ maxLen)
    (h : ∀ i y, l[i]? = some y → w.cell? (x.add (i * 3)) = some (.int .i64 y.kind) ∧ w.cell? (x.add (i * 3 + 1)) = some (.int .i64 y.n) ∧ w.cell? (x.add (i * 3 + 2)) = some (.string y.name)) :
    SlAt w (.slice (some x) n c) n 3 (actCells l) := by
  refine ⟨by rw [actCells_len, hl], .inr ⟨x, c, rfl, hc, hm, fun j u hu => ?_⟩⟩
  have hj : j < l.length * 3 := by rw [← actCells_len]; exact (List.getElem?_eq_some_iff.1 hu).1
  have hi : l[j / 3]? = some (l[j / 3]'(by omega)) := List.getElem?_eq_getElem _
  obtain ⟨q1, q2, q3⟩ := actCells_get l _ _ hi
  obtain ⟨k1, k2, k3⟩ := h _ _ hi
  have hr : j % 3 = 0 ∨ j % 3 = 1 ∨ j % 3 = 2 := by omega
  rcases hr with hr | hr | hr
  · have e : j = j / 3 * 3 := by omega
    rw [← e] at q1 k1
    rw [hu] at q1
    rw [k1, q1]
  · have e : j = j / 3 * 3 + 1 := by omega
    rw [← e] at q2 k2
    rw [hu] at q2
    rw [k2, q2]
  · have e : j = j / 3 * 3 + 2 := by omega
    rw [← e] at q3 k3
    rw [hu] at q3
    rw [k3, q3]
end Go.Proofs.Ytalmfmijjbpnpaa
namespace Go.Proofs.Ytalmfmijjbpnpaa.timelinePlays
open Go.ChangeShapes Go.WideShapes Go.ChangeAt Go.RowKit Go.Deep
open Go.ChangeMaps (open_string shut_string)
set_option linter.unusedVariables false

theorem own : ownKnob Try.prog.godebug = none := by kernel_rfl
theorem laidOut : laidOutB Try.prog = true := by kernel_rfl

theorem cells50 : Try.prog.cellsOf 50 = 3 := by kernel_rfl
theorem cells3 : Try.prog.cellsOf 3 = 1 := by kernel_rfl
theorem cells9 : Try.prog.cellsOf 9 = 1 := by kernel_rfl

theorem three_of {α : Type} : ∀ l : List α, l.length = 3 → ∃ a b c, l = [a, b, c]
  | [a, b, c], _ => ⟨a, b, c, rfl⟩
  | [], h => by simp at h
  | [_], h => by simp at h
  | [_, _], h => by simp at h
  | _ :: _ :: _ :: _ :: _, h => by simp at h

/-- A slice of acts that can be read: nil, or a row of acts. -/
theorem read_acts {H : Type} {enc : TypeId × Value → H} {w : World} {base : Nat} {sp : Nat → Bool} {held : Bool} {fuel : Nat} {cs : List Value} {x : DataW H × List MemPlace}
    (h : DataW.trod enc Try.prog w base sp held fuel 45 cs = some x) :
    cs = [.slice none 0 0] ∨ ∃ (a : Addr) (len cap : Nat), cs = [.slice (some a) len cap] ∧ len ≤ cap ∧ cap ≤ maxLen ∧
      ∀ i, i < len → ∃ y : Ac, AcOk y ∧ w.cell? (a.add (i * 3)) = some (.int .i64 y.kind) ∧ w.cell? (a.add (i * 3 + 1)) = some (.int .i64 y.n) ∧ w.cell? (a.add (i * 3 + 2)) = some (.string y.name) := by
  rcases open_slice Try.underlying45 h with ⟨h0, _⟩ | ⟨a, len, cap, m, n, D, Pl, hcs, _, hl, hm, hmm, _, hrow⟩
  · exact .inl h0
  · refine .inr ⟨a, len, cap, hcs, hl, hm, fun i hi => ?_⟩
    have him : i < m := by rw [hmm]; split <;> omega
    obtain ⟨c3, hcell, htrod⟩ := hrow i him
    rw [cells50] at hcell
    obtain ⟨_, hlen, hat⟩ := World.cells?_some hcell
    obtain ⟨ys, n1, _, _, _, hys, hfld⟩ := DataW.trod_struct Try.underlying50 htrod
    obtain ⟨u0, u1, u2, rfl⟩ := three_of c3 hlen
    have hy3 : ys.length = 3 := hys
    have t0 : DataW.trod enc Try.prog w base sp held n1 3 (([u0, u1, u2].drop 0).take (Try.prog.cellsOf 3)) = ys[0]? := hfld 0 _ rfl
    rw [cells3, List.getElem?_eq_getElem (by omega)] at t0
    have t1 : DataW.trod enc Try.prog w base sp held n1 3 (([u0, u1, u2].drop 1).take (Try.prog.cellsOf 3)) = ys[1]? := hfld 1 _ rfl
    rw [cells3, List.getElem?_eq_getElem (by omega)] at t1
    have t2 : DataW.trod enc Try.prog w base sp held n1 9 (([u0, u1, u2].drop 2).take (Try.prog.cellsOf 9)) = ys[2]? := hfld 2 _ rfl
    rw [cells9, List.getElem?_eq_getElem (by omega)] at t2
    obtain ⟨k0, e0, _, b0⟩ := DataW.trod_int Try.underlying3 t0
    obtain ⟨k1, e1, _, b1⟩ := DataW.trod_int Try.underlying3 t1
    obtain ⟨s2, e2, _, b2⟩ := DataW.trod_string Try.underlying9 t2
    obtain rfl : u0 = .int .i64 k0 := by simpa using e0
    obtain rfl : u1 = .int .i64 k1 := by simpa using e1
    obtain rfl : u2 = .string s2 := by simpa using e2
    have hb := bounds_i64 b0
    have g0 := hat 0 (by omega)
    have g1 := hat 1 (by omega)
    have g2 := hat 2 (by omega)
    rw [Go.Deep.add_add] at g0 g1 g2
    exact ⟨⟨k0, k1, s2⟩, ⟨⟨hb.1, hb.2⟩, b2⟩, g0, g1, g2⟩

/-- A slice of integers that came in: nil, or a row of cells. -/
def IsRow (k : IntKind) (w : World) (a : Option Addr) (len cap : Nat) (zs : List Int) : Prop :=
  (a = none ∧ len = 0 ∧ cap = 0 ∧ zs = []) ∨
  ∃ x, a = some x ∧ len ≤ cap ∧ cap ≤ maxLen ∧ zs.length = cap ∧ (∀ i, i < zs.length → w.cell? (x.add i) = some (.int k (zs.getD i 0))) ∧ ∀ n ∈ zs, (Lit.int k n).wf = true

/-- A row that came in can be read. -/
theorem rowF_of {w : World} {a : Option Addr} {len cap : Nat} {zs : List Int} (h : IsRow .i64 w a len cap zs) : RowF w a len (fun i => zs.getD i 0) := by
  rcases h with ⟨_, rfl, _, _⟩ | ⟨x, rfl, h1, h2, h3, h4, h5⟩
  · exact ⟨by decide, fun i hi => absurd hi (Nat.not_lt_zero _)⟩
  · refine ⟨Nat.le_trans h1 h2, fun i hi => ?_⟩
    have hl : i < zs.length := by omega
    have hm : zs.getD i 0 ∈ zs := by rw [List.getD_eq_getElem?_getD, List.getElem?_eq_getElem hl]; exact List.getElem_mem _
    have hb := bounds_i64 (h5 _ hm)
    exact ⟨x, rfl, h4 i hl, hb.1, hb.2⟩

/-- A slice of acts that came in: nil, or a row of cells. -/
def IsActs (w : World) (a : Option Addr) (len cap : Nat) (L : List Ac) : Prop := SlAt w (.slice a len cap) len 3 (actCells L) ∧ L.length = len ∧ (∀ x ∈ L, AcOk x) ∧ len ≤ maxLen

theorem walk (a0 : Int) (a1 : Option Addr) (len1 cap1 : Nat) (z1 : List Int) (a2 : Option Addr) (len2 cap2 : Nat) (L : List Ac) (w : World) (w1 : IsRow .i64 w a1 len1 cap1 z1) (w2 : IsActs w a2 len2 cap2 L) :
    Calls Try.prog 5 #[.int .i64 a0, .slice a1 len1 cap1, .slice a2 len2 cap2] w fun e w' => e = .returned (.bool true) ∧ Below w.heap.size w w' :=
  plays5 a0 a1 a2 len1 cap1 len2 cap2 _ L (rowF_of w1) w2.1 w2.2.1 w2.2.2.1 (Nat.le_trans w2.2.2.2 (by decide))

set_option maxRecDepth 100000 in
theorem lifted (os : Os) (started : os.Started) (H : Type) (enc : TypeId × Value → H) :
    ReturnsInHanded {} Try.checked os 5 .any (Rows.timelinePlaysSpec.pre6 enc Try.prog Try.f5 Rows.timelinePlaysRow.domain false) (Rows.timelinePlaysSpec.post enc Try.prog Try.f5 false true false false) := by
  refine returnsInHanded_of_change (C := Try.checked) own started (by kernel_rfl) Try.func5
    (ChangeSpec.witness6 (enc := enc) (C := Try.checked) false ⟨#[], #[.int .i64 0, .slice none 0 0, .slice none 0 0], []⟩ 8 (by kernel_rfl) (by kernel_rfl) (by kernel_rfl) (by kernel_rfl)) ?_
  intro W base args ds gs before hval0 hW hcnd _
  have hval : ∀ (j : Nat) t v, Try.f5.params[j]? = some t → args[j]? = some v → Value.okWide Try.prog W .any base t v := hval0
  have hW' := hW
  obtain ⟨p, q, hA0, hV, rfl, hfz, hnd⟩ := hW
  have hA : DataW.TrodAll enc Try.prog W 0 (fun _ => true) true Try.f5.params.toList args.toList ds p := hA0
  rw [Try.params5] at hA hval
  obtain ⟨v0, vs0, d0, ds0, p0, q0, hargs, rfl, rfl, h0, r0⟩ := trodAll_cons hA
  obtain ⟨v1, vs1, d1, ds1, p1, q1, rfl, rfl, rfl, h1, r1⟩ := trodAll_cons r0
  obtain ⟨v2, vs2, d2, ds2, p2, q2, rfl, rfl, rfl, h2, r2⟩ := trodAll_cons r1
  obtain ⟨rfl, rfl, rfl⟩ := trodAll_nil r2
  obtain rfl : args = #[v0, v1, v2] := by cases args; simp_all
  obtain ⟨rfl, rfl⟩ := trodVars_none hV
  obtain ⟨a0, rfl, rfl, rfl, w0⟩ := open_int Try.underlying3 (hval 0 3 v0 rfl rfl) h0
  obtain ⟨a1, len1, cap1, rfl⟩ := okWide_slice Try.underlying22 (hval 1 22 v1 rfl rfl)
  have k1 := h1
  have lt1 : ∀ x ∈ p1, x.block < W.heap.size := by obtain ⟨m, hm⟩ := k1; exact DataW.trod_lt m _ _ _ hm
  obtain ⟨z1, w1⟩ : ∃ zs, IsRow .i64 W a1 len1 cap1 zs := by
    obtain ⟨fuel, hf⟩ := h1
    rcases open_ints Try.underlying22 Try.underlying3 (by kernel_rfl) hf with ⟨hcs, _⟩ | ⟨x, l, c, zs, hcs, _, hl, hm, hz, _, hcell, hwz⟩
    · simp [Value.cells] at hcs
      obtain ⟨rfl, rfl, rfl⟩ := hcs
      exact ⟨[], .inl ⟨rfl, rfl, rfl, rfl⟩⟩
    · simp [Value.cells] at hcs
      obtain ⟨rfl, rfl, rfl⟩ := hcs
      exact ⟨zs, .inr ⟨_, rfl, hl, hm, by simpa using hz, hcell, hwz⟩⟩
  obtain ⟨a2, len2, cap2, rfl⟩ := okWide_slice Try.underlying45 (hval 2 45 v2 rfl rfl)
  have k2 := h2
  have lt2 : ∀ x ∈ p2, x.block < W.heap.size := by obtain ⟨m, hm⟩ := k2; exact DataW.trod_lt m _ _ _ hm
  obtain ⟨L, w2⟩ : ∃ L, IsActs W a2 len2 cap2 L := by
    obtain ⟨fuel, hf⟩ := h2
    rcases read_acts hf with hcs | ⟨x, l, c, hcs, hl, hm, hper⟩
    · simp [Value.cells] at hcs
      obtain ⟨rfl, rfl, rfl⟩ := hcs
      exact ⟨[], ⟨by simp [actCells], .inl ⟨rfl, rfl⟩⟩, rfl, by simp, by decide⟩
    · simp [Value.cells] at hcs
      obtain ⟨rfl, rfl, rfl⟩ := hcs
      obtain ⟨L, hL, hp⟩ := list_of len2 hper
      refine ⟨L, sl_acts hL hl hm (fun i y hy => (hp i y hy).2), hL, fun y hy => ?_, Nat.le_trans hl hm⟩
      obtain ⟨i, hi⟩ := List.getElem?_of_mem hy
      exact (hp i y hi).1
  clear hA0 hval0
  refine (walk a0 a1 len1 cap1 z1 a2 len2 cap2 L W w1 w2).mono fun e W' ⟨he, bel⟩ => ?_
  subst he
  exact ⟨_, rfl, _, _, _, [], _, [], hW', trodAll_mk1 (shut_bool Try.underlying4 _), (trodAll_cons_mk (shut_int Try.underlying3 w0) (trodAll_cons_mk (Below.trod laidOut (by kernel_rfl) (of_decide_eq_true (by kernel_rfl)) k1 bel lt1) (trodAll_cons_mk (Below.trod laidOut (by kernel_rfl) (of_decide_eq_true (by kernel_rfl)) k2 bel lt2) trodAll_mk0))), rfl, bel.frame _, fun h => by cases h⟩

theorem over : Rows.timelinePlaysRow.holds Try.pinned (OpenSpec.ofChange Rows.timelinePlaysSpec) :=
  OpenClaim.holds_of_wide 5 Try.f5 rfl rfl rfl rfl rfl rfl rfl ⟨rfl, rfl, rfl, rfl, rfl⟩ rfl rfl rfl rfl rfl (by kernel_rfl) Try.func5 (by kernel_rfl)
    (of_decide_eq_true (by kernel_rfl)) (by unfold Func.isWrapper; first | (rw [if_pos (by decide +kernel)]; kernel_rfl) | (rw [if_neg (by decide +kernel)]; exact ⟨rfl, rfl⟩))
    (fun os started H enc _ => lifted os started H enc)

theorem proved : Rows.TimelinePlaysSaid := over
#print axioms proved
end Go.Proofs.Ytalmfmijjbpnpaa.timelinePlays
