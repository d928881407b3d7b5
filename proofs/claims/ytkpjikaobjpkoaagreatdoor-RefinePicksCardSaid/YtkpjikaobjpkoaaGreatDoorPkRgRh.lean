/-
  Integers: walk of integer.Nat.
-/
import Derived.Test.YtkpjikaobjpkoaaGreatDoorPkRf
import Derived.Deep.RegionHeld3
namespace Go.Proofs.YtkpjikaobjpkoaaGreatDoor
open Go.RowKit

theorem cell_of_blk {w : World} {t : Nat} {c : Array Value} {T : Nat} {fz : Nat × Nat} (h : w.heap[t]? = some (.cells c T fz)) (i : Nat) : w.cell? ⟨t, i, none⟩ = c[i]? := by
  simp [World.cell?, h]
theorem frozen_of_blk {w : World} {t : Nat} {c : Array Value} {T : Nat} (h : w.heap[t]? = some (.cells c T (0, 0))) (i : Nat) : w.frozen? ⟨t, i, none⟩ = false := by
  simp [World.frozen?, h]
/-- A row of one's own in another block is as it was behind a store. -/
theorem natF_setCell {w : World} {base : Nat} {v : Value} {n t : Nat} {c : Array Value} {T : TypeId} {fz : Nat × Nat} (h : NatF w base v n) (hb : w.heap[t]? = some (.cells c T fz)) (hT : T ≠ 143) (i : Nat) (u : Value) : NatF (w.setCell ⟨t, i, none⟩ u) base v n := by
  obtain ⟨l, ⟨⟨h0, h1⟩, h2⟩, h3⟩ := h
  refine ⟨l, ⟨⟨h0, ?_⟩, h2⟩, h3⟩
  rcases h1 with h1 | ⟨g, cap, cur, rfl, h5, h6, r⟩
  · exact .inl h1
  · refine .inr ⟨g, cap, cur, rfl, h5, ?_, r⟩
    rw [Below.heap_setCell _ _ _ _ (fun e => ?_)]
    · exact h6
    · rw [show g = t from e] at h6
      rw [hb] at h6
      cases h6
      exact hT rfl

theorem blk_setCell {w : World} {t : Nat} {c : Array Value} {T : TypeId} {fz : Nat × Nat} (h : w.heap[t]? = some (.cells c T fz)) (i : Nat) (u : Value) :
    (w.setCell ⟨t, i, none⟩ u).heap[t]? = some (.cells (c.setIfInBounds i u) T fz) := by
  simp [World.setCell, Array.getElem?_modify, h]

theorem val_ge {l : List Nat} (h : 0 < szN l) : 4294967296 ^ (szN l - 1) ≤ val l := by
  obtain ⟨k, hk⟩ : ∃ k, szN l = k + 1 := ⟨szN l - 1, by omega⟩
  have ht := szN_top l h
  rw [hk, Nat.add_sub_cancel] at ht
  rw [val_szN l, hk, Nat.add_sub_cancel]
  show _ ≤ valF (el l) k + 4294967296 ^ k * el l k
  have h3 : 4294967296 ^ k * 1 ≤ 4294967296 ^ k * el l k := Nat.mul_le_mul_left _ (by omega)
  omega
theorem own_below {w w' : World} {base : Nat} {e : TypeId} {sz n : Nat} {v : Value} {xs : List Value} (h : w.ownsRow base e sz v n xs) (hb : Below w.heap.size w w') : w'.ownsRow base e sz v n xs := by
  refine ⟨h.1, ?_⟩
  rcases h.2 with h1 | ⟨g, cap, cur, rfl, h2, h3, r⟩
  · exact .inl h1
  · exact .inr ⟨g, cap, cur, rfl, h2, (hb.block g (Array.getElem?_eq_some_iff.1 h3).1).trans h3, r⟩
theorem NatF.below {w w' : World} {base : Nat} {v : Value} {n : Nat} (h : NatF w base v n) (hb : Below w.heap.size w w') : NatF w' base v n := by
  obtain ⟨l, ⟨h1, h2⟩, h3⟩ := h
  exact ⟨l, ⟨own_below h1 hb, h2⟩, h3⟩
theorem norm_zero {l : List Nat} (hn : szN l = l.length) (hv : val l = 0) : l = [] := by
  by_cases h0 : l.length = 0
  · exact List.eq_nil_of_length_eq_zero h0
  · have h1 := val_ge (l := l) (by omega)
    have h2 : 0 < 4294967296 ^ (szN l - 1) := Nat.pow_pos (by omega)
    omega
/-- The call returns an integer of its own. -/
def IntP (neg : Bool) (n : Nat) (w : World) (e : Ending) (w' : World) : Prop := ∃ v, e = .returned (.agg #[.bool (neg && decide (n ≠ 0)), v]) ∧ NatF w' w.heap.size v n ∧ Below w.heap.size w w'

section
variable {w : World}

set_option maxHeartbeats 1000000 in
theorem intNat_any (neg : Bool) {v : Value} {l : List Nat} (h : NatSl w v l) (hn : l.length ≤ 100000000) : Calls Tryz.prog 121 #[.bool neg, v] w (IntP neg (val l) w) := by
  have hb0 : Below w.heap.size w (w.alloc (.cells #[.bool false, .slice none 0 0] 24)) := (Below.refl _ _).alloc (Nat.le_refl _) _
  have HT := Lib.hid (trim_any (h.below hb0) (by omega))
  obtain ⟨n, hnn⟩ : ∃ n, val l = n := ⟨_, rfl⟩
  rw [hnn] at HT ⊢
  clear h hb0 hnn hn
  go_enter Tryz.func121, Tryz.ntmps121
  go_wp2_with fail
  refine HT.out.mono ?_
  rintro e w1 ⟨v1, rfl, hf, hb⟩
  have HF := Lib.hid hf
  have HB := Lib.hid hb
  obtain ⟨l1, ho1, hn1, hv1⟩ := hf
  obtain ⟨a1, c1, x1, rfl, ha1, _⟩ := ho1.sl.form
  have hbb : w1.heap[w.heap.size]? = some (.cells #[.bool false, .slice none 0 0] 24 (0, 0)) := (hb.block _ (by simp)).trans (heap_alloc_new w _)
  have d0 : w1.cell? ⟨w.heap.size, 0, none⟩ = some (.bool false) := (cell_of_blk hbb 0).trans rfl
  have d1 : w1.cell? ⟨w.heap.size, 1, none⟩ = some (.slice none 0 0) := (cell_of_blk hbb 1).trans rfl
  have f0 := frozen_of_blk hbb 0
  have f1 := frozen_of_blk hbb 1
  have HBB := Lib.hid hbb
  have hlen : n = 0 ∧ l1.length = 0 ∨ n ≠ 0 ∧ 0 < l1.length := by
    by_cases h0 : n = 0
    · exact .inl ⟨h0, by rw [norm_zero hn1 (hv1.trans h0)]; rfl⟩
    · refine .inr ⟨h0, ?_⟩
      cases l1 with
      | nil => exact absurd hv1.symm h0
      | cons y t => simp
  have hfin : ∀ b : Bool, b = (neg && decide (n ≠ 0)) → IntP neg n w (.returned (.agg #[.bool b, .slice a1 l1.length c1])) ((w1.setCell ⟨w.heap.size, 0, none⟩ (.bool b)).setCell ⟨w.heap.size, 1, none⟩ (.slice a1 l1.length c1)) := fun b hbv =>
    ⟨_, by rw [hbv], (natF_setCell (natF_setCell HF.out hbb (by decide) 0 _) (blk_setCell hbb 0 _) (by decide) 1 _).base (by simp),
      ((((Below.refl w.heap.size w).alloc (Nat.le_refl _) _).trans (hb.mono (by simp))).setCell (Nat.le_refl _) _).setCell (Nat.le_refl _) _⟩
  have HFIN := Lib.hid hfin
  clear hb ho1 hn1 hv1 ha1 hbb hfin HT HF HB
  rcases hlen with ⟨h0, h1⟩ | ⟨h0, h1⟩
  · have h1' : ¬ (0 : Int) < l1.length := by omega
    have h1d : decide (0 < l1.length) = false := decide_eq_false (by omega)
    have HV := Lib.hid (show false = (neg && decide (n ≠ 0)) by simp [h0])
    clear h0 h1
    cases neg
    all_goals
      go_wp2_with fail
      refine bodyPost_ret (v := .agg #[.bool false, .slice a1 l1.length c1]) (by simp [results, Tryz.results121, go_sem, d0, d1]) rfl ?_
      exact HFIN.out _ HV.out
  · have h1' : (0 : Int) < l1.length := by omega
    have h1d : decide (0 < l1.length) = true := decide_eq_true h1
    have HV := Lib.hid (show neg = (neg && decide (n ≠ 0)) by simp [h0])
    clear h0 h1
    cases neg
    all_goals
      go_wp2_with fail
    · refine bodyPost_ret (v := .agg #[.bool false, .slice a1 l1.length c1]) (by simp [results, Tryz.results121, go_sem, d0, d1]) rfl ?_
      exact HFIN.out _ HV.out
    · refine bodyPost_ret (v := .agg #[.bool true, .slice a1 l1.length c1]) (by simp [results, Tryz.results121, go_sem, d0, d1]) rfl ?_
      exact HFIN.out _ HV.out
end

end Go.Proofs.YtkpjikaobjpkoaaGreatDoor
/-
  Integers: what their values are; walks of Nat, Valid, Sign, Neg, Cmp, Shl.
-/
namespace Go.Proofs.YtkpjikaobjpkoaaGreatDoor
open Go.RowKit

/-- A number whose list of elements is not too long. -/
def capN : Nat := 1000000
structure Sm (n : Nat) : Prop where
  lt : n < 4294967296 ^ capN
theorem sm_of {n k : Nat} (h : n < 2 ^ k) (hk : k ≤ 32000000) : Sm n := by
  refine ⟨?_⟩
  rw [show (4294967296 : Nat) = 2 ^ 32 by decide, ← Nat.pow_mul]
  exact Nat.lt_of_lt_of_le h (Nat.pow_le_pow_right (by decide) (by unfold capN; omega))
theorem sm_le {n m : Nat} (h : Sm m) (hn : n ≤ m) : Sm n := ⟨Nat.lt_of_le_of_lt hn h.lt⟩
theorem sm_len {l : List Nat} (hn : szN l = l.length) (h : Sm (val l)) : l.length ≤ 1000000 := by
  by_cases h0 : l.length = 0
  · omega
  · have h1 := val_ge (l := l) (by omega)
    rw [hn] at h1
    have h3 : 4294967296 ^ (l.length - 1) < 4294967296 ^ capN := Nat.lt_of_le_of_lt h1 h.lt
    have h4 := (Nat.pow_lt_pow_iff_right (a := 4294967296) (by omega)).1 h3
    unfold capN at h4
    omega
theorem NatR.lim {w : World} {v : Value} {n : Nat} (h : NatR w v n) (hs : Sm n) : ∃ l, NatSl w v l ∧ szN l = l.length ∧ val l = n ∧ l.length ≤ 1000000 := by
  obtain ⟨l, h1, h2, h3⟩ := h
  exact ⟨l, h1, h2, h3, sm_len h2 (h3 ▸ hs)⟩
/-- A value that reads as an integer; one whose list is a row of one's own. -/
def IntR (w : World) (x : Value) (z : Int) : Prop := ∃ v, x = .agg #[.bool (decide (z < 0)), v] ∧ NatR w v z.natAbs
def IntF (w : World) (base : Nat) (x : Value) (z : Int) : Prop := ∃ v, x = .agg #[.bool (decide (z < 0)), v] ∧ NatF w base v z.natAbs
/-- The call returns an integer of its own. -/
def IntQ (z : Int) (w : World) (e : Ending) (w' : World) : Prop := ∃ x, e = .returned x ∧ IntF w' w.heap.size x z ∧ Below w.heap.size w w'
theorem IntF.r {w : World} {base : Nat} {x : Value} {z : Int} (h : IntF w base x z) : IntR w x z := by
  obtain ⟨v, e, h⟩ := h
  exact ⟨v, e, h.r⟩
theorem IntR.below {w w' : World} {x : Value} {z : Int} (h : IntR w x z) (hb : Below w.heap.size w w') : IntR w' x z := by
  obtain ⟨v, e, h⟩ := h
  exact ⟨v, e, h.below hb⟩
theorem IntF.below {w w' : World} {base : Nat} {x : Value} {z : Int} (h : IntF w base x z) (hb : Below w.heap.size w w') : IntF w' base x z := by
  obtain ⟨v, e, h⟩ := h
  exact ⟨v, e, h.below hb⟩
theorem IntF.base {w : World} {base base' : Nat} {x : Value} {z : Int} (h : IntF w base x z) (hb : base' ≤ base) : IntF w base' x z := by
  obtain ⟨v, e, h⟩ := h
  exact ⟨v, e, h.base hb⟩
theorem intF_setCell {w : World} {base : Nat} {x : Value} {z : Int} {t : Nat} {c : Array Value} {T : TypeId} {fz : Nat × Nat} (h : IntF w base x z) (hb : w.heap[t]? = some (.cells c T fz)) (hT : T ≠ 143) (i : Nat) (u : Value) : IntF (w.setCell ⟨t, i, none⟩ u) base x z := by
  obtain ⟨v, e, h⟩ := h
  exact ⟨v, e, natF_setCell h hb hT i u⟩
/-- The integer with a sign and an absolute value. -/
def sgnI (neg : Bool) (n : Nat) : Int := if neg then -(n : Int) else n
theorem intP_q {neg : Bool} {n : Nat} {w w' : World} {e : Ending} (h : IntP neg n w e w') : IntQ (sgnI neg n) w e w' := by
  obtain ⟨v, rfl, h1, h2⟩ := h
  refine ⟨_, rfl, ⟨v, ?_, ?_⟩, h2⟩
  · congr 2
    unfold sgnI
    cases neg
    · simp
    · simp; rw [Bool.eq_iff_iff]; simp; try omega
  · unfold sgnI
    cases neg
    · simpa using h1
    · simpa using h1
theorem sgnI_of (z : Int) : sgnI (decide (z < 0)) z.natAbs = z := by
  unfold sgnI
  by_cases h : z < 0
  · rw [decide_eq_true h, if_pos rfl]; omega
  · rw [decide_eq_false h]; simp; omega

section
variable {w : World}
theorem nat_calls (neg : Bool) {v : Value} {n : Nat} (h : NatR w v n) (hs : Sm n) : Calls Tryz.prog 121 #[.bool neg, v] w (IntQ (sgnI neg n) w) := by
  obtain ⟨l, h1, h2, h3, h4⟩ := h.lim hs
  exact (intNat_any neg h1 (by omega)).mono fun e w' hp => intP_q (by rw [← h3]; exact hp)
theorem intSlice {w : World} {v : Value} {n : Nat} (h : NatR w v n) : ∃ a k c, v = .slice a k c := by
  obtain ⟨l, h1, _⟩ := h
  obtain ⟨a, c, _, e, _⟩ := h1.form
  exact ⟨a, _, c, e⟩
theorem int_cells (w : World) (b : Bool) (v : Value) : (w.alloc (.cells #[.bool b, v] 24)).cell? ⟨w.heap.size, 0, none⟩ = some (.bool b) ∧ (w.alloc (.cells #[.bool b, v] 24)).cell? ⟨w.heap.size, 1, none⟩ = some v :=
  ⟨(cell_of_blk (heap_alloc_new w _) 0).trans rfl, (cell_of_blk (heap_alloc_new w _) 1).trans rfl⟩
/-- The number of binary digits of a number. -/
def blen (n : Nat) : Nat := if n = 0 then 0 else Nat.log2 n + 1
theorem blen_zero : blen 0 = 0 := rfl
theorem blen_eq {n b : Nat} (h1 : 2 ^ b ≤ n) (h2 : n < 2 ^ (b + 1)) : blen n = b + 1 := by
  have h0 : n ≠ 0 := by have := Nat.pow_pos (n := b) (show 0 < 2 by decide); omega
  unfold blen
  rw [if_neg h0]
  have e1 := (Nat.le_log2 h0).2 h1
  have e2 := (Nat.log2_lt h0).2 h2
  omega
theorem blen_pos {n : Nat} (h : n ≠ 0) : ∃ b, blen n = b + 1 ∧ 2 ^ b ≤ n ∧ n < 2 ^ (b + 1) := by
  refine ⟨Nat.log2 n, by unfold blen; rw [if_neg h], (Nat.le_log2 h).1 (Nat.le_refl _), (Nat.log2_lt h).1 (by omega)⟩
theorem aux_bits : ∀ f x, 0 < x → x < 2 ^ f → ∃ b, Lib.bitLenAux f x = b + 1 ∧ 2 ^ b ≤ x ∧ x < 2 ^ (b + 1)
  | 0, x, h, h' => by simp at h'; omega
  | f + 1, x, h, h' => by
    by_cases h1 : x = 1
    · subst h1
      refine ⟨0, ?_, by decide, by decide⟩
      unfold Lib.bitLenAux
      cases f with
      | zero => rfl
      | succ f => rfl
    · obtain ⟨b, e, g1, g2⟩ := aux_bits f (x / 2) (by omega) (by rw [Nat.pow_succ] at h'; omega)
      refine ⟨b + 1, ?_, by rw [Nat.pow_succ]; omega, by rw [Nat.pow_succ]; omega⟩
      unfold Lib.bitLenAux
      rw [if_neg (by omega), e]
      omega
theorem bitLen_bits {x : Nat} (h : 0 < x) (hx : x < 4294967296) : ∃ b, Lib.bitLen x = b + 1 ∧ 2 ^ b ≤ x ∧ x < 2 ^ (b + 1) :=
  aux_bits 64 x h (Nat.lt_of_lt_of_le hx (by decide))
theorem bits_val {l : List Nat} (hl : Limbs l) : bitsN l = blen (val l) := by
  unfold bitsN
  split
  · rename_i h0
    rw [val_szN, h0]; rfl
  · rename_i h0
    obtain ⟨k, hk⟩ : ∃ k, szN l = k + 1 := ⟨szN l - 1, by omega⟩
    have ht := szN_top l (by omega)
    rw [hk, Nat.add_sub_cancel] at ht ⊢
    obtain ⟨b, e, g1, g2⟩ := bitLen_bits (Nat.pos_of_ne_zero ht) (el_lt hl k)
    have hb := valF_bound (el_lt hl) k
    have hv : val l = valF (el l) k + 4294967296 ^ k * el l k := by rw [val_szN, hk, valF_succ]
    have hp : (2 : Nat) ^ (32 * k) = 4294967296 ^ k := by rw [Nat.pow_mul]
    rw [e]
    refine (blen_eq (b := 32 * k + b) ?_ ?_).symm
    · rw [Nat.pow_add, hp, hv]
      have := Nat.mul_le_mul_left (4294967296 ^ k) g1
      omega
    · rw [Nat.add_assoc, Nat.pow_add, hp, hv]
      have := Nat.mul_le_mul_left (4294967296 ^ k) (show el l k + 1 ≤ 2 ^ (b + 1) from g2)
      rw [Nat.mul_add, Nat.mul_one] at this
      omega
end
end Go.Proofs.YtkpjikaobjpkoaaGreatDoor
