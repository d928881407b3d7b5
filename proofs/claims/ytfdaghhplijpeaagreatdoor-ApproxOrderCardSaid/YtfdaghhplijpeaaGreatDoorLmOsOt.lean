/-
  Walks of the mill's number and names.
-/
import Derived.Test.YtfdaghhplijpeaaGreatDoorLmOqOr
namespace Go.Proofs.YtfdaghhplijpeaaGreatDoor
open Go Go.RowKit

def nums : List ByteArray := [⟨#[48]⟩, ⟨#[49]⟩, ⟨#[50]⟩, ⟨#[51]⟩, ⟨#[48, 46, 53]⟩, ⟨#[49, 46, 50, 53]⟩, ⟨#[55]⟩, ⟨#[49, 48]⟩, ⟨#[48, 46, 49]⟩, ⟨#[49, 50, 46, 55, 53]⟩, ⟨#[49, 48, 48]⟩, ⟨#[51, 46, 49, 52]⟩, ⟨#[54, 52]⟩, ⟨#[48, 46, 48, 48, 49]⟩]
def nms : List ByteArray := [⟨#[97]⟩, ⟨#[98]⟩, ⟨#[99]⟩, ⟨#[120, 49]⟩, ⟨#[89, 95, 50]⟩]
/-- A string of the list l has been chosen by a number of the tape. -/
def StrP (l : List ByteArray) (w : World) (p : Nat) (v : Value) (n k : Nat) (e : Ending) (w' : World) : Prop :=
  ∃ (s : ByteArray) (k' : Nat), e = .returned (.string s) ∧ s ∈ l ∧ k ≤ k' ∧ (k < n → k' = k + 1) ∧ (k ≤ n → k' ≤ n) ∧ TapeB w' p v k' ∧ Fr (· = p) w w'
theorem names_calls (w : World) : Calls Tryz.prog 65 #[] w fun e w' => e = .returned (.slice (some ⟨w.heap.size, 0, none⟩) 5 5) ∧ w' = w.alloc (.cells ⟨nms.map .string⟩ 9) := by
  go_enter Tryz.func65, Tryz.ntmps65
  go_wp2_with fail
  go_ret
  exact ⟨rfl, rfl⟩
theorem str_cell {w' : World} {l : List ByteArray} {g i : Nat} (h : w'.heap[g]? = some (.cells ⟨l.map .string⟩ 9 (0, 0))) (hi : i < l.length) : w'.cell? ⟨g, i, none⟩ = some (.string (l.getD i ByteArray.empty)) := by
  rw [cell_of_blk h]
  simp [hi]
theorem getD_mem_str {l : List ByteArray} {i : Nat} (hi : i < l.length) : l.getD i ByteArray.empty ∈ l := by
  rw [List.getD_eq_getElem?_getD, List.getElem?_eq_getElem hi]; exact List.getElem_mem hi
set_option maxRecDepth 100000 in
set_option maxHeartbeats 1000000 in
theorem number_calls {w : World} {p n k : Nat} {v : Value} (ht : TapeB w p v k) (hl : ListB w p v n) :
    Calls Tryz.prog 66 #[ptr p] w (StrP nums w p v n k) := by
  have hF : Fr (fun _ => False) w (w.alloc (.cells ⟨nums.map .string⟩ 9)) := (Fr.refl _ w).alloc _
  have hb : (w.alloc (.cells ⟨nums.map .string⟩ 9)).heap[w.heap.size]? = some (.cells ⟨nums.map .string⟩ 9 (0, 0)) := by
    show (w.heap.push _)[w.heap.size]? = _
    simp
  have H := Lib.hid (And.intro (ht.frame hF (fun e => e)) (And.intro (hl.frame hF (fun _ e => e.elim)) (And.intro hb (And.intro hF ht.lt))))
  clear hF hb ht hl
  unfold ptr
  go_enter Tryz.func66, Tryz.ntmps66
  go_wp2_with fail
  refine (next_calls (p := p) (n := n) (k := k) (v := v) H.out.1 H.out.2.1 14 (by omega) (by omega)).mono ?_
  rintro e w1 ⟨r, k', rfl, hr0, hr1, h1, h2, h3, hT, hF1⟩
  obtain ⟨i, rfl⟩ : ∃ i : Nat, r = (i : Int) := ⟨r.toNat, by omega⟩
  have hc : w1.cell? ⟨w.heap.size, i, none⟩ = some (.string (nums.getD i ByteArray.empty)) :=
    str_cell ((hF1.block _ (by simp) (fun e => by have := H.out.2.2.2.2; omega)).trans H.out.2.2.1) (show i < 14 by omega)
  have hm := getD_mem_str (l := nums) (i := i) (show i < 14 by omega)
  have K := Lib.hid (And.intro h1 (And.intro h2 (And.intro h3 (And.intro hT (And.intro hF1 hm)))))
  generalize nums.getD i ByteArray.empty = s at hc K
  clear h1 h2 h3 hT hF1 hm
  go_wp2_with fail
  go_ret
  exact ⟨s, k', rfl, K.out.2.2.2.2.2, K.out.1, K.out.2.1, K.out.2.2.1, K.out.2.2.2.1, (H.out.2.2.2.1.mono (fun _ _ e => e.elim)).trans K.out.2.2.2.2.1 (fun _ _ e => e)⟩
end Go.Proofs.YtfdaghhplijpeaaGreatDoor
/-
  The mill's nodes; append of a node to a row; the mill at work (its tape and its list).
-/
namespace Go.Proofs.YtfdaghhplijpeaaGreatDoor
open Go Go.RowKit

/-- A node as the mill makes it: its text and its number fit its kind. -/
structure MNd (x : Nd) : Prop where
  k1 : 1 ≤ x.k
  k2 : x.k ≤ 16
  con : x.k = 1 → x.t ∈ nums
  nam : x.k = 2 → x.t ∈ nms
  oth : x.k ≠ 1 → x.k ≠ 2 → x.t = ByteArray.empty
  pow : x.k = 10 → -3 ≤ x.n ∧ x.n ≤ 4
  zer : x.k ≠ 10 → x.n = 0
theorem ndsCells_snoc (L : List Nd) (x : Nd) : ndsCells (L ++ [x]) = ndsCells L ++ ndCells x := by simp [ndsCells]
theorem Tryz.infoNode : (Tryz.prog.info? 63).map (fun i => (i.zero, i.size, i.bytes)) = some (some (.agg #[.int .i64 0, .int .i64 0, .int .i64 0, .int .i64 0, .string ByteArray.empty]), 5, 48) := by kernel_rfl
/-- append of one node, a step of a list in the text's order. -/
theorem app_node {ops : Array Oper} {rest : List Oper} {o : Oper} {a : Act} {w : World} {Q : Exit → Act → World → Prop} (hgd : o.guard = none) (s x : Operand) (ho : o.op = .call { callee := .builtin .append, args := #[s, x], argTypes := #[29, 29] })
    (base : Nat) (hbase : base ≤ w.heap.size) (v : Value) (L : List Nd) (hs : a.eval s = v) (hown : NdsR w base v L) (B : Nat) (y : Nd) (hx : a.eval x = .slice (some ⟨B, 0, none⟩) 1 1)
    (hB : w.heap[B]? = some (.cells ⟨ndCells y⟩ 63 (0, 0))) (hn : L.length ≤ 100000)
    (h : ∀ g cap w', NdsR w' base (.slice (some ⟨g, 0, none⟩) (L.length + 1) cap) (L ++ [y]) → Fr (fun k => v.ownBlock = some k) w w' → (v.ownBlock = some g ∨ w.heap.size ≤ g) →
      wpList Tryz.prog ops Q rest (a.put o.dst (.slice (some ⟨g, 0, none⟩) (L.length + 1) cap)) w') : wpList Tryz.prog ops Q (o :: rest) a w := by
  obtain ⟨i0, hi0, hz0, hz1, hz2⟩ := info_parts Tryz.infoNode
  refine wpList_append_lies w hgd s x 29 ho base 63 i0 _ 5 48 Tryz.underlying29 hi0 hz0 hz1 hz2 rfl (by omega) v L.length (ndsCells L) hs hown.own ⟨B, 0, none⟩ 1 1 (ndCells y) hx rfl (World.news_of_block (cs := ⟨ndCells y⟩) hB)
    (by intro u hu; simp [ndCells] at hu; rcases hu with rfl | rfl | rfl | rfl | rfl <;> rfl) (by omega) (by unfold maxLen; omega) (by omega) hbase w.heap.size rfl ?_
  intro g cap w' h2 h3 h4 _
  refine h g cap w' ⟨?_⟩ (fr_of_grown h3) (h4.imp id (fun e => by omega))
  rw [ndsCells_snoc, List.length_append]
  exact h2
/-- The mill at work: its list of n numbers lies in W0, its tape (k of them taken) in block p; nothing of W0 has changed. -/
structure Mill (W0 w : World) (p : Nat) (v : Value) (n k : Nat) : Prop where
  tape : TapeB w p v k
  list : ListB W0 p v n
  p0 : W0.heap.size ≤ p
  below : Below W0.heap.size W0 w
theorem Mill.listB {W0 w : World} {p n k : Nat} {v : Value} (h : Mill W0 w p v n k) : ListB w p v n :=
  h.list.frame (S := fun _ => False) (Fr.of_below h.below) (fun _ e => e.elim)
theorem Mill.go {W0 w w' : World} {p n k k' : Nat} {v : Value} {S : Nat → Prop} (h : Mill W0 w p v n k) (ht : TapeB w' p v k') (hf : Fr S w w') (hS : ∀ j, S j → W0.heap.size ≤ j) : Mill W0 w' p v n k' :=
  ⟨ht, h.list, h.p0, h.below.trans (hf.below_of (fun j hj e => by have := hS j e; omega) h.below.size)⟩
theorem Mill.stay {W0 w w' : World} {p n k : Nat} {v : Value} {S : Nat → Prop} (h : Mill W0 w p v n k) (hf : Fr S w w') (hS : ∀ j, S j → W0.heap.size ≤ j) (hp : ¬ S p) : Mill W0 w' p v n k :=
  h.go (h.tape.frame hf hp) hf hS
/-- The tape's block is no block of a row of nodes. -/
theorem tape_row {w : World} {p k B : Nat} {v vr : Value} {L : List Nd} (ht : TapeB w p v k) (h : NdsR w B vr L) : vr.ownBlock ≠ some p := fun e => by
  obtain ⟨cur, hc⟩ := own_block h.own e
  rw [ht] at hc
  cases hc
/-- A number of the mill's tape has been taken. -/
theorem Mill.next {W0 w : World} {p n k : Nat} {v : Value} (h : Mill W0 w p v n k) (m : Int) (hm : 1 ≤ m) (hm' : m ≤ 1000000) :
    Calls Tryz.prog 21 #[.pointer (some ⟨p, 0, none⟩), .int .i64 m] w fun e w' => ∃ (r : Int) (k' : Nat), e = .returned (.int .i64 r) ∧ 0 ≤ r ∧ r < m ∧ k ≤ k' ∧ (k < n → k < k') ∧ (k ≤ n → k' ≤ n) ∧ Mill W0 w' p v n k' ∧ Fr (· = p) w w' :=
  (next_calls h.tape h.listB m hm hm').mono fun e w' ⟨r, k', h1, h2, h3, h4, h5, h6, h7, h8⟩ => ⟨r, k', h1, h2, h3, h4, fun q => by have := h5 q; omega, h6, h.go h7 h8 (fun j e => by have := h.p0; omega), h8⟩
theorem Mill.range {W0 w : World} {p n k : Nat} {v : Value} (h : Mill W0 w p v n k) (lo hi : Int) (h0 : -1000 ≤ lo) (h1 : lo ≤ hi) (h2 : hi ≤ 1000) :
    Calls Tryz.prog 20 #[.pointer (some ⟨p, 0, none⟩), .int .i64 lo, .int .i64 hi] w fun e w' => ∃ (r : Int) (k' : Nat), e = .returned (.int .i64 r) ∧ lo ≤ r ∧ r ≤ hi ∧ k ≤ k' ∧ (k < n → k < k') ∧ (k ≤ n → k' ≤ n) ∧ Mill W0 w' p v n k' ∧ Fr (· = p) w w' :=
  (range_calls h.tape h.listB lo hi h0 h1 h2).mono fun e w' ⟨r, k', h1, h2, h3, h4, h5, h6, h7, h8⟩ => ⟨r, k', h1, h2, by omega, h4, fun q => by have := h5 q; omega, h6, h.go h7 h8 (fun j e => by have := h.p0; omega), h8⟩
theorem Mill.number {W0 w : World} {p n k : Nat} {v : Value} (h : Mill W0 w p v n k) :
    Calls Tryz.prog 66 #[.pointer (some ⟨p, 0, none⟩)] w fun e w' => ∃ (s : ByteArray) (k' : Nat), e = .returned (.string s) ∧ s ∈ nums ∧ k ≤ k' ∧ (k < n → k < k') ∧ (k ≤ n → k' ≤ n) ∧ Mill W0 w' p v n k' ∧ Fr (· = p) w w' :=
  (number_calls h.tape h.listB).mono fun e w' ⟨s, k', h1, h2, h4, h5, h6, h7, h8⟩ => ⟨s, k', h1, h2, h4, fun q => by have := h5 q; omega, h6, h.go h7 h8 (fun j e => by have := h.p0; omega), h8⟩
theorem Mill.more {W0 w : World} {p n k : Nat} {v : Value} (h : Mill W0 w p v n k) :
    Calls Tryz.prog 17 #[.pointer (some ⟨p, 0, none⟩)] w fun e w' => e = .returned (.bool (decide (k < n))) ∧ Mill W0 w' p v n k ∧ Fr (fun _ => False) w w' :=
  (more_calls h.tape h.listB).mono fun _ _ ⟨h1, h2⟩ => ⟨h1, h.stay h2 (fun _ e => e.elim) (fun e => e), h2⟩
/-- What part returns: the row v, which held L, has become v', which holds L2 besides. -/
structure PartW (W0 w : World) (p : Nat) (vt : Value) (n k : Nat) (v : Value) (L : List Nd) (d : Nat) (v' : Value) (L2 : List Nd) (k' : Nat) (w' : World) : Prop where
  mill : Mill W0 w' p vt n k'
  row : NdsR w' W0.heap.size v' (L ++ L2)
  nds : ∀ x ∈ L2, MNd x
  pos : 0 < L2.length
  len : L2.length + 1 ≤ 2 ^ d
  k0 : k ≤ k'
  k1 : k < n → k < k'
  k2 : k ≤ n → k' ≤ n
  own : ∀ j, v'.ownBlock = some j → v.ownBlock = some j ∨ w.heap.size ≤ j
  fr : Fr (fun j => j = p ∨ v.ownBlock = some j) w w'
def PartP (W0 w : World) (p : Nat) (vt : Value) (n k : Nat) (v : Value) (L : List Nd) (d : Nat) (e : Ending) (w' : World) : Prop :=
  ∃ v' L2 k', e = .returned v' ∧ PartW W0 w p vt n k v L d v' L2 k' w'
/-- One node has been appended behind some numbers were taken. -/
theorem partW_one {W0 w w1 w2 w' : World} {p n k k' g cap d : Nat} {vt v : Value} {L : List Nd} {y : Nd} (hM : Mill W0 w1 p vt n k') (hL : NdsR w W0.heap.size v L) (hF : Fr (· = p) w w1) (hF2 : Fr (fun _ => False) w1 w2)
    (h1 : NdsR w' W0.heap.size (.slice (some ⟨g, 0, none⟩) (L.length + 1) cap) (L ++ [y])) (h2 : Fr (fun j => v.ownBlock = some j) w2 w') (h3 : v.ownBlock = some g ∨ w2.heap.size ≤ g) (hp : v.ownBlock ≠ some p) (hy : MNd y) (hd : 1 ≤ d)
    (k0 : k ≤ k') (k1 : k < n → k < k') (k2 : k ≤ n → k' ≤ n) : PartW W0 w p vt n k v L d (.slice (some ⟨g, 0, none⟩) (L.length + 1) cap) [y] k' w' where
  mill := by
    have hM2 := hM.stay hF2 (fun _ e => e.elim) (fun e => e)
    exact hM2.stay h2 (fun j e => (hL.own.lt j e).1) hp
  row := h1
  nds := fun x hx => by simp at hx; rw [hx]; exact hy
  pos := by simp
  len := by
    have : 2 ^ 1 ≤ 2 ^ d := Nat.pow_le_pow_right (by omega) hd
    simpa using this
  k0 := k0
  k1 := k1
  k2 := k2
  own := fun j e => by
    have e1 : g = j := by simpa [Value.ownBlock] using e
    subst e1
    have := hF.size
    have := hF2.size
    rcases h3 with h | h
    · exact .inl h
    · exact .inr (by omega)
  fr := ((hF.mono (fun _ _ e => .inl e)).trans hF2 (fun _ _ e => e.elim)).trans h2 (fun _ _ e => .inr e)
/-- Two parts, one after the other. -/
theorem PartW.then {W0 w w1 w2 : World} {p n k k1 k2 d : Nat} {vt v v1 v2 : Value} {L L1 L2 : List Nd} (h : PartW W0 w p vt n k v L d v1 L1 k1 w1) (h' : PartW W0 w1 p vt n k1 v1 (L ++ L1) d v2 L2 k2 w2) :
    NdsR w2 W0.heap.size v2 (L ++ (L1 ++ L2)) ∧ (∀ j, v2.ownBlock = some j → v.ownBlock = some j ∨ w.heap.size ≤ j) ∧ Fr (fun j => j = p ∨ v.ownBlock = some j) w w2 := by
  refine ⟨by rw [← List.append_assoc]; exact h'.row, fun j e => ?_, h.fr.trans h'.fr fun j hj e => ?_⟩
  · have := h.fr.size
    rcases h'.own j e with e | e
    · exact h.own j e
    · exact .inr (by omega)
  · rcases e with e | e
    · exact .inl e
    · rcases h.own j e with e | e
      · exact .inr e
      · omega
end Go.Proofs.YtfdaghhplijpeaaGreatDoor
