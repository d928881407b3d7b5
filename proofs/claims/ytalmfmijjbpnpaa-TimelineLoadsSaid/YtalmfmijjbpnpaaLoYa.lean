/-
  Walks of Same and sameInts of the reference, at two histories that are alike.
-/
import Derived.Test.YtalmfmijjbpnpaaLoT
namespace Go.Proofs.Ytalmfmijjbpnpaa
open Go.RowKit

section
variable {w : World}

/-- A slice value's address, where it has one. -/
theorem SlAt.form {v : Value} {n sz : Nat} {xs : List Value} (h : SlAt w v n sz xs) : ∃ (a : Option Addr) (c : Nat) (x : Addr), v = .slice a n c ∧ (0 < n → a = some x) ∧ ∀ j u, xs[j]? = some u → (x.add j).block < w.heap.size ∧ w.cell? (x.add j) = some u := by
  rcases h.2 with ⟨rfl, rfl⟩ | ⟨x, cap, rfl, h1, h2, h3⟩
  · refine ⟨none, 0, ⟨0, 0, none⟩, rfl, fun h => absurd h (Nat.lt_irrefl _), fun j u hu => ?_⟩
    have := h.1
    simp at this
    rw [this] at hu
    simp at hu
  · exact ⟨_, _, x, rfl, fun _ => rfl, fun j u hu => ⟨World.block_lt_of_cell? w _ (h3 j u hu), h3 j u hu⟩⟩

theorem intCells_get {l : List Int} {k : Nat} {x : Int} (h : l[k]? = some x) : (intCells l)[k]? = some (.int .i64 x) := by
  unfold intCells
  rw [List.getElem?_map, h]; rfl

set_option maxHeartbeats 1000000 in
theorem same40 {v v' : Value} {l : List Int} (hn : l.length ≤ 100000) (h : SlAt w v l.length 1 (intCells l)) (h' : SlAt w v' l.length 1 (intCells l)) :
    Calls Try.prog 40 #[v, v'] w (Quiet (.bool true) w) := by
  obtain ⟨a, c, x, rfl, ha, hc⟩ := h.form
  obtain ⟨a', c', x', rfl, ha', hc'⟩ := h'.form
  have HA := Lib.hid ha
  have HA' := Lib.hid ha'
  have HC := Lib.hid hc
  have HC' := Lib.hid hc'
  clear ha ha' hc hc' h h'
  go_enter Try.func40, Try.ntmps40
  go_wp2_with fail
  go_loopw [8] (fun i wr => ∃ k : Nat, k ≤ l.length ∧ i = .int .i64 k ∧ Below w.heap.size w wr) (fun i _ => l.length - (intOf i).toNat)
  case atStart => exact ⟨0, Nat.zero_le _, rfl, Below.refl _ _⟩
  case round =>
    obtain ⟨k, hk, rfl, hb⟩ := hrel
    have HB := Lib.hid hb
    clear hb
    by_cases hlt : k < l.length
    · obtain rfl := HA.out (by omega)
      obtain rfl := HA'.out (by omega)
      have hx := intCells_get (List.getElem?_eq_getElem hlt)
      obtain ⟨hl1, hc1⟩ := HC.out _ _ hx
      obtain ⟨hl2, hc2⟩ := HC'.out _ _ hx
      have d1 : wr.cell? (x.add k) = some (.int .i64 l[k]) := (HB.out.cell hl1).trans hc1
      have d2 : wr.cell? (x'.add k) = some (.int .i64 l[k]) := (HB.out.cell hl2).trans hc2
      have hlt' : (k : Int) < l.length := by omega
      have hk0 : (0 : Int) ≤ k := by omega
      clear hx hc1 hc2
      go_wp2_with fail
      go_region
      all_goals
        go_wp2_with fail
        go_roundw
        case rel => exact ⟨k + 1, by omega, by go_num, HB.out.drew⟩
        case measure => simp [intOf]; omega
    · obtain rfl : k = l.length := by omega
      go_wp2_with fail
      go_ret
      exact ⟨rfl, HB.out⟩

end

end Go.Proofs.Ytalmfmijjbpnpaa
