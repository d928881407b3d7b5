/-
  Naturals as lists of elements of 32 binary digits: plain facts; walks of size, Valid, slices.Clone, Trim, Of.
-/
import Derived.Test.YtkpjikaobjpkoaaGreatDoorChecked
import Derived.WalkKit
import Derived.WalkSpells
import Derived.WalkLawsBesides
import Derived.BigQuiet
import Derived.Lib.Hide
import Derived.IntWalk
import Derived.Deep.LoopGhost
import Derived.Maps.AppendAt
import Derived.OwnWalk
namespace Go.Proofs.YtkpjikaobjpkoaaGreatDoor
open Go.RowKit

/-- The call returns v, and nothing at all has moved. -/
def Pure0 (v : Value) (w : World) (e : Ending) (w' : World) : Prop := e = .returned v ∧ w = w'
theorem pure_mk {v v' : Value} {w : World} (h : v' = v) : Pure0 v w (.returned v') w := ⟨by rw [h], rfl⟩

/-- A slice value that reads as n elements of sz cells each. -/
def SlAt (w : World) (v : Value) (n sz : Nat) (xs : List Value) : Prop :=
  xs.length = n * sz ∧ ((v = .slice none 0 0 ∧ n = 0) ∨ ∃ a cap, v = .slice (some a) n cap ∧ n ≤ cap ∧ cap ≤ maxLen ∧ ∀ j u, xs[j]? = some u → w.cell? (a.add j) = some u)
theorem SlAt.below {w w' : World} {v : Value} {n sz : Nat} {xs : List Value} (h : SlAt w v n sz xs) (hb : Below w.heap.size w w') : SlAt w' v n sz xs := by
  refine ⟨h.1, ?_⟩
  rcases h.2 with h | ⟨a, cap, h1, h2, h3, h4⟩
  · exact .inl h
  · exact .inr ⟨a, cap, h1, h2, h3, fun j u hu => (hb.cell (World.block_lt_of_cell? w _ (h4 j u hu))).trans (h4 j u hu)⟩
theorem own_cell {w : World} {base : Nat} {e : TypeId} {size g n cap : Nat} {xs : List Value} (h : w.ownsRow base e size (.slice (some ⟨g, 0, none⟩) n cap) n xs) {j : Nat} {u : Value} (hu : xs[j]? = some u) : w.cell? ⟨g, j, none⟩ = some u := by
  have hj : j < n * size := by rw [← h.1]; exact (List.getElem?_eq_some_iff.1 hu).1
  rw [h.cellAt j hj, hu]
theorem own_slAt {w : World} {base : Nat} {e : TypeId} {sz : Nat} {v : Value} {n : Nat} {xs : List Value} (h : w.ownsRow base e sz v n xs) : SlAt w v n sz xs := by
  refine ⟨h.1, ?_⟩
  rcases h.2 with h0 | ⟨g, cap, cur, rfl, h1, h2, h3, h4, h5, h6⟩
  · exact .inl h0
  · refine .inr ⟨_, cap, rfl, h3, h4, fun j u hu => ?_⟩
    have : (⟨g, 0, none⟩ : Addr).add j = ⟨g, j, none⟩ := by unfold Addr.add; split <;> simp_all
    rw [this]
    exact own_cell h hu

/-! ### elements -/
def u32Cells (l : List Nat) : List Value := l.map fun x : Nat => .int .u32 (x : Int)
def Limbs (l : List Nat) : Prop := ∀ x ∈ l, x < 4294967296
def val : List Nat → Nat
  | [] => 0
  | x :: l => x + 4294967296 * val l
/-- The number of elements without the zeros at the end. -/
def szN : List Nat → Nat
  | [] => 0
  | x :: l => if x = 0 ∧ szN l = 0 then 0 else szN l + 1
/-- A slice that reads as these elements. -/
def NatSl (w : World) (v : Value) (l : List Nat) : Prop := SlAt w v l.length 1 (u32Cells l) ∧ Limbs l

theorem szN_le : ∀ l, szN l ≤ l.length
  | [] => Nat.le_refl _
  | x :: l => by
    have := szN_le l
    unfold szN
    split
    · exact Nat.zero_le _
    · simp only [List.length_cons]; omega
theorem szN_eq : ∀ (l : List Nat) (k : Nat), k ≤ l.length → (∀ i, k ≤ i → i < l.length → l.getD i 0 = 0) → (k = 0 ∨ l.getD (k - 1) 0 ≠ 0) → szN l = k
  | [], k, h, _, _ => by simp only [List.length_nil] at h; unfold szN; omega
  | x :: l, 0, _, h, _ => by
    have ih := szN_eq l 0 (Nat.zero_le _) (fun i _ hi => by have := h (i + 1) (Nat.zero_le _) (by simp only [List.length_cons]; omega); simpa using this) (.inl rfl)
    have hx : x = 0 := by have := h 0 (Nat.le_refl _) (by simp); simpa using this
    unfold szN
    rw [if_pos ⟨hx, ih⟩]
  | x :: l, k + 1, hk, h, hd => by
    have hk' : k ≤ l.length := by simpa using hk
    have hz : ∀ i, k ≤ i → i < l.length → l.getD i 0 = 0 := fun i h1 h2 => by have := h (i + 1) (by omega) (by simp only [List.length_cons]; omega); simpa using this
    have hd' : (x :: l).getD k 0 ≠ 0 := by rcases hd with hd | hd; · omega
                                           · simpa using hd
    unfold szN
    cases k with
    | zero =>
      have ih := szN_eq l 0 (Nat.zero_le _) hz (.inl rfl)
      have hx : x ≠ 0 := by simpa using hd'
      rw [if_neg (fun e => hx e.1), ih]
    | succ k =>
      have ih := szN_eq l (k + 1) hk' hz (.inr (by simpa using hd'))
      rw [if_neg (fun e => by have := e.2; omega), ih]
theorem val_take : ∀ l, val (l.take (szN l)) = val l
  | [] => rfl
  | x :: l => by
    have ih := val_take l
    unfold szN
    split
    · rename_i h
      rw [h.2] at ih
      simp only [List.take_zero, val] at ih ⊢
      omega
    · rw [List.take_succ_cons]
      simp only [val, ih]
theorem u32_get {l : List Nat} {i : Nat} (hi : i < l.length) : (u32Cells l)[i]? = some (.int .u32 (l.getD i 0 : Nat)) := by
  unfold u32Cells
  rw [List.getElem?_map, List.getElem?_eq_getElem hi, List.getD_eq_getElem?_getD, List.getElem?_eq_getElem hi]; rfl
theorem limbs_get {l : List Nat} (h : Limbs l) (i : Nat) : l.getD i 0 < 4294967296 := by
  rw [List.getD_eq_getElem?_getD]
  rcases Nat.lt_or_ge i l.length with hi | hi
  · rw [List.getElem?_eq_getElem hi]; exact h _ (List.getElem_mem hi)
  · rw [List.getElem?_eq_none hi]; decide

/-- The form of a slice that reads as elements. -/
theorem NatSl.form {w : World} {v : Value} {l : List Nat} (h : NatSl w v l) : ∃ (a : Option Addr) (c : Nat) (x : Addr), v = .slice a l.length c ∧ (0 < l.length → a = some x) ∧ l.length ≤ c ∧ l.length ≤ maxLen ∧ ∀ i, i < l.length → w.cell? (x.add i) = some (.int .u32 (l.getD i 0 : Nat)) := by
  rcases h.1.2 with ⟨rfl, h0⟩ | ⟨x, cap, rfl, h1, h2, h3⟩
  · exact ⟨none, 0, ⟨0, 0, none⟩, by rw [h0], fun h => by omega, by omega, by omega, fun i hi => by omega⟩
  · exact ⟨some x, cap, x, rfl, fun _ => rfl, h1, Nat.le_trans h1 h2, fun i hi => h3 i _ (u32_get hi)⟩

section
variable {w : World}

set_option maxHeartbeats 400000 in
theorem size_any {v : Value} {l : List Nat} (h : NatSl w v l) : Calls Tryz.prog 160 #[v] w (Pure0 (.int .i64 (szN l)) w) := by
  obtain ⟨a, c, x, rfl, ha, hc, hm, hcell⟩ := h.form
  have hlim := Lib.hid (limbs_get h.2)
  have HC := Lib.hid hcell
  have HA := Lib.hid ha
  unfold maxLen at hm
  clear h hcell ha
  go_enter Tryz.func160, Tryz.ntmps160
  go_wp2
  go_loop [3] (fun i => ∃ k : Nat, k ≤ l.length ∧ i = .int .i64 k ∧ ∀ j, k ≤ j → j < l.length → l.getD j 0 = 0) (fun i => (intOf i).toNat)
  case atStart => exact ⟨_, Nat.le_refl _, rfl, fun j h1 h2 => by omega⟩
  case round =>
    obtain ⟨k, hk, rfl, hz⟩ := hrel
    have HZ := Lib.hid hz
    clear hz
    by_cases hk0 : 0 < k
    · have hk0' : (0 : Int) < k := by omega
      have hc1 := HC.out (k - 1) (by omega)
      obtain rfl := HA.out (by omega)
      have e1 : ((k : Int) - 1).toNat = k - 1 := by omega
      have e2 : (0 : Int) ≤ (k : Int) - 1 := by omega
      have e3 : (k : Int) - 1 < l.length := by omega
      obtain ⟨d, hd⟩ : ∃ d, l.getD (k - 1) 0 = d := ⟨_, rfl⟩
      rw [hd] at hc1
      have HD := Lib.hid hd
      clear hd
      by_cases hx : d = 0
      · have HX := Lib.hid (HD.out.trans hx)
        subst hx
        go_wp2
        go_round
        case rel => exact ⟨k - 1, by omega, by go_num, fun j h1 h2 => by
          by_cases e : j = k - 1
          · rw [e]; exact HX.out
          · exact HZ.out j (by omega) h2⟩
        case measure => simp [intOf]; omega
      · have hxb : ((d : Int) == 0) = false := by simpa using hx
        have HX := Lib.hid hx
        clear hx
        go_wp2
        go_ret
        exact pure_mk (by rw [szN_eq l k hk HZ.out (.inr (by rw [HD.out]; exact HX.out))]; rfl)
    · obtain rfl : k = 0 := by omega
      go_wp2
      go_ret
      exact pure_mk (by rw [szN_eq l 0 hk HZ.out (.inl rfl)]; rfl)
end

end Go.Proofs.YtkpjikaobjpkoaaGreatDoor
/-
  Naturals: what a call makes anew; walks of Valid, slices.Clone, Trim, Of.
-/
namespace Go.Proofs.YtkpjikaobjpkoaaGreatDoor
open Go.RowKit

theorem infoU32 : (Tryz.prog.info? 143).map (fun i => (i.zero, i.size, i.bytes)) = some (some (.int .u32 0), 1, 4) := by kernel_rfl

/-- A row of one's own of these elements, in a block from base on. -/
def NatOw (w : World) (base : Nat) (v : Value) (l : List Nat) : Prop := w.ownsRow base 143 1 v l.length (u32Cells l) ∧ Limbs l
/-- A natural of one's own: no zeros at its end. -/
def NatF (w : World) (base : Nat) (v : Value) (n : Nat) : Prop := ∃ l, NatOw w base v l ∧ szN l = l.length ∧ val l = n
/-- A natural that can be read. -/
def NatR (w : World) (v : Value) (n : Nat) : Prop := ∃ l, NatSl w v l ∧ szN l = l.length ∧ val l = n
/-- The call returns a natural of its own; nothing that was there has changed. -/
def NatP (n : Nat) (w : World) (e : Ending) (w' : World) : Prop := ∃ v, e = .returned v ∧ NatF w' w.heap.size v n ∧ Below w.heap.size w w'

theorem NatOw.sl {w : World} {base : Nat} {v : Value} {l : List Nat} (h : NatOw w base v l) : NatSl w v l := ⟨own_slAt h.1, h.2⟩
theorem NatF.r {w : World} {base : Nat} {v : Value} {n : Nat} (h : NatF w base v n) : NatR w v n := by
  obtain ⟨l, h1, h2, h3⟩ := h
  exact ⟨l, h1.sl, h2, h3⟩
theorem NatF.base {w : World} {base base' : Nat} {v : Value} {n : Nat} (h : NatF w base v n) (hb : base' ≤ base) : NatF w base' v n := by
  obtain ⟨l, ⟨⟨h0, h1⟩, h2⟩, h3, h4⟩ := h
  refine ⟨l, ⟨⟨h0, ?_⟩, h2⟩, h3, h4⟩
  rcases h1 with h1 | ⟨g, cap, cur, e, h5, r⟩
  · exact .inl h1
  · exact .inr ⟨g, cap, cur, e, Nat.le_trans hb h5, r⟩
theorem NatSl.below {w w' : World} {v : Value} {l : List Nat} (h : NatSl w v l) (hb : Below w.heap.size w w') : NatSl w' v l := ⟨h.1.below hb, h.2⟩
theorem NatR.below {w w' : World} {v : Value} {n : Nat} (h : NatR w v n) (hb : Below w.heap.size w w') : NatR w' v n := by
  obtain ⟨l, h1, h2, h3⟩ := h
  exact ⟨l, h1.below hb, h2, h3⟩

theorem szN_take : ∀ l : List Nat, szN (l.take (szN l)) = szN l
  | [] => rfl
  | x :: l => by
    have ih := szN_take l
    by_cases h : x = 0 ∧ szN l = 0
    · simp [szN, h]
    · have e : szN (x :: l) = szN l + 1 := by simp only [szN, if_neg h]
      rw [e, List.take_succ_cons]
      simp only [szN, ih, if_neg h]
theorem szN_take_len (l : List Nat) : szN (l.take (szN l)) = (l.take (szN l)).length := by
  rw [szN_take, List.length_take, Nat.min_eq_left (szN_le l)]
theorem limbs_take {l : List Nat} (h : Limbs l) (k : Nat) : Limbs (l.take k) := fun x hx => h x (List.mem_of_mem_take hx)
theorem u32_take (l : List Nat) (k : Nat) : u32Cells (l.take k) = (u32Cells l).take k := by simp [u32Cells, List.map_take]

/-- The first k elements of a slice. -/
theorem NatSl.take {w : World} {a : Option Addr} {n c : Nat} {l : List Nat} (h : NatSl w (.slice a n c) l) {k : Nat} (hk : k ≤ l.length) : NatSl w (.slice a k c) (l.take k) := by
  have hl : (l.take k).length = k := by rw [List.length_take, Nat.min_eq_left hk]
  refine ⟨⟨by simp [u32Cells], ?_⟩, limbs_take h.2 k⟩
  rcases h.1.2 with ⟨e, h0⟩ | ⟨x, cap, e, h1, h2, h3⟩
  · cases e
    exact .inl ⟨by rw [show k = 0 by omega], by rw [hl]; omega⟩
  · cases e
    refine .inr ⟨x, c, by rw [hl], by rw [hl]; omega, h2, fun j u hu => h3 j u ?_⟩
    rw [u32_take] at hu
    rw [List.getElem?_take] at hu
    split at hu
    · exact hu
    · cases hu
/-- The first k elements of a row of one's own. -/
theorem NatOw.take {w : World} {base : Nat} {a : Option Addr} {n c : Nat} {l : List Nat} (h : NatOw w base (.slice a n c) l) {k : Nat} (hk : k ≤ l.length) : NatOw w base (.slice a k c) (l.take k) := by
  have hl : (l.take k).length = k := by rw [List.length_take, Nat.min_eq_left hk]
  refine ⟨⟨by simp [u32Cells], ?_⟩, limbs_take h.2 k⟩
  rcases h.1.2 with ⟨e, h0⟩ | ⟨g, cap, cur, e, h1, h2, h3, h4, h5, h6⟩
  · cases e
    exact .inl ⟨by rw [show k = 0 by omega], by rw [hl]; omega⟩
  · cases e
    refine .inr ⟨g, c, cur, by rw [hl], h1, h2, by rw [hl]; omega, h4, h5, ?_⟩
    rw [u32_take, ← h6, hl, List.take_take, Nat.min_eq_left (by omega), Nat.mul_one]
/-- A row of one's own, without the zeros at its end. -/
theorem NatOw.trim {w : World} {base : Nat} {a : Option Addr} {n c : Nat} {l : List Nat} (h : NatOw w base (.slice a n c) l) : NatF w base (.slice a (szN l) c) (val l) :=
  ⟨_, h.take (szN_le l), szN_take_len l, val_take l⟩

section
variable {w : World}

set_option maxHeartbeats 400000 in
theorem valid_any {v : Value} {l : List Nat} (h : NatSl w v l) : Calls Tryz.prog 195 #[v] w (Pure0 (.bool (decide (szN l = l.length))) w) := by
  have HS := Lib.hid (size_any h)
  obtain ⟨a, c, x, rfl, _⟩ := h.form
  go_enter Tryz.func195, Tryz.ntmps195
  go_wp2_with fail
  refine HS.out.mono ?_
  rintro e w' ⟨rfl, rfl⟩
  go_wp2_with fail
  go_ret
  exact pure_mk (by simp only [go_sem]; rw [show ((szN l : Int) == (l.length : Int)) = decide (szN l = l.length) by rw [Bool.eq_iff_iff, beq_iff_eq, decide_eq_true_iff]; omega]; try rfl)

set_option maxHeartbeats 400000 in
theorem clone_any {v : Value} {l : List Nat} (h : NatSl w v l) (hn : l.length ≤ 1000000000) : Calls Tryz.prog 159 #[v] w fun e w' => ∃ v', e = .returned v' ∧ NatOw w' w.heap.size v' l ∧ Below w.heap.size w w' := by
  have h1 : ∀ u ∈ u32Cells l, u.oneCell' = true := fun u hu => by
    unfold u32Cells at hu
    obtain ⟨x, _, rfl⟩ := List.mem_map.1 hu
    rfl
  obtain ⟨⟨hl, ⟨rfl, h0⟩ | ⟨a, cap, rfl, hnc, hcm, hcell⟩⟩, hlim⟩ := h
  · obtain rfl : l = [] := List.eq_nil_of_length_eq_zero h0
    have hq := fun w => Lib.run_eql_slice_nil (P := Tryz.prog) w 22 143 none 0 0 0 0 Tryz.underlying22
    go_enter Tryz.func159, Tryz.ntmps159
    go_wp2_with fail
    go_ret
    exact ⟨_, rfl, ⟨World.ownsRow_nil _ _ _ _, hlim⟩, Below.refl _ _⟩
  · have hq := fun w => Lib.run_eql_slice_nil (P := Tryz.prog) w 22 143 (some a) l.length cap 0 0 Tryz.underlying22
    obtain ⟨i0, hi0, hz0, hz1, hz2⟩ := info_parts infoU32
    have HC := Lib.hid hcell
    have H1 := Lib.hid h1
    have HL := Lib.hid hlim
    have hown : (w.alloc (.cells #[] 143)).ownsRow w.heap.size 143 1 (.slice (some ⟨w.heap.size, 0, none⟩) 0 0) 0 [] := World.ownsRow_lit w #[] 0 (Nat.le_refl _) (by unfold maxLen; omega) rfl
    have HOWN := Lib.hid hown
    clear hcell h1 hown hlim
    go_enter Tryz.func159, Tryz.ntmps159
    go_wp2_with (at_builtin; refine wpList_append_own _ rfl _ _ 22 rfl w.heap.size 143 i0 _ 1 4 Tryz.underlying22 hi0 hz0 hz1 hz2 rfl (by decide) _ 0 [] rfl HOWN.out a l.length cap (u32Cells l) rfl hl ?_ H1.out (by unfold maxLen; omega) (by omega) (by simp) ?_)
    · intro j u hu
      have := HC.out j u hu
      exact (((Below.refl w.heap.size w).alloc (Nat.le_refl _) (.cells #[] 143)).cell (World.block_lt_of_cell? w _ this)).trans this
    · intro v' w' hown' hgrow _
      try simp only [List.nil_append, Nat.zero_add] at hown'
      have HO := Lib.hid hown'
      have HG := Lib.hid hgrow
      clear hown' hgrow
      go_wp2_with fail
      go_ret
      exact ⟨_, rfl, ⟨HO.out, HL.out⟩, ((Below.refl w.heap.size w).alloc (Nat.le_refl _) (.cells #[] 143)).grown HG.out (by simp) (by intro k hk; simp [Value.ownBlock] at hk; omega)⟩

set_option maxHeartbeats 400000 in
theorem trim_any {v : Value} {l : List Nat} (h : NatSl w v l) (hn : l.length ≤ 1000000000) : Calls Tryz.prog 112 #[v] w (NatP (val l) w) := by
  have HS := Lib.hid (size_any h)
  obtain ⟨a, c, x, rfl, ha, hc, hm, _⟩ := h.form
  have hsz := szN_le l
  have HCL := Lib.hid (clone_any (h.take hsz) (by rw [List.length_take]; omega))
  unfold maxLen at hm
  clear h ha
  have b1 : (0 : Int) ≤ szN l := by omega
  have b2 : (szN l : Int) ≤ c := by omega
  go_enter Tryz.func112, Tryz.ntmps112
  go_wp2_with fail
  refine HS.out.mono ?_
  rintro e w' ⟨rfl, rfl⟩
  go_wp2_with fail
  refine HCL.out.mono ?_
  rintro e w' ⟨v', rfl, ho, hb⟩
  have HO := Lib.hid ho
  have HB := Lib.hid hb
  clear ho hb
  go_wp2_with fail
  go_ret
  exact ⟨_, rfl, ⟨_, HO.out, szN_take_len l, val_take l⟩, HB.out⟩

theorem norm_of (n : Nat) (_h : n < 18446744073709551616) : val [n % 4294967296, n / 4294967296] = n := by simp only [val]; omega

set_option maxHeartbeats 400000 in
theorem of_any (n : Nat) (h : n < 18446744073709551616) : Calls Tryz.prog 56 #[.int .u64 (n : Int)] w (NatP n w) := by
  obtain ⟨lo, hlo⟩ : ∃ lo, n % 4294967296 = lo := ⟨_, rfl⟩
  obtain ⟨hi, hhi⟩ : ∃ hi, n / 4294967296 = hi := ⟨_, rfl⟩
  have hv : val [lo, hi] = n := by simp only [val]; omega
  obtain ⟨W1, hW1⟩ : ∃ W1, W1 = w.alloc (.cells #[.int .u32 (lo : Int), .int .u32 (hi : Int)] 143) := ⟨_, rfl⟩
  have hb : Below w.heap.size w W1 := by rw [hW1]; exact (Below.refl _ _).alloc (Nat.le_refl _) _
  have ho : NatOw W1 w.heap.size (.slice (some ⟨w.heap.size, 0, none⟩) 2 2) [lo, hi] := by
    refine ⟨⟨rfl, .inr ⟨w.heap.size, 2, #[.int .u32 (lo : Int), .int .u32 (hi : Int)], rfl, Nat.le_refl _, ?_, Nat.le_refl _, by unfold maxLen; omega, rfl, rfl⟩⟩, ?_⟩
    · rw [hW1]; exact heap_alloc_new w _
    · intro x hx
      simp only [List.mem_cons, List.not_mem_nil, or_false] at hx
      rcases hx with rfl | rfl <;> omega
  have HT := Lib.hid (trim_any ho.sl (by simp))
  have HB := Lib.hid hb
  have HW := Lib.hid hW1
  have HV := Lib.hid hv
  have e1 : (n : Int) % 4294967296 = (lo : Int) := by omega
  have e2 : (n : Int) / 4294967296 = (hi : Int) := by omega
  have e3 : (hi : Int) % 4294967296 = (hi : Int) := by omega
  clear ho hb hW1 hlo hhi hv
  go_enter Tryz.func56, Tryz.ntmps56
  go_wp2_with fail
  rw [← HW.out]
  refine HT.out.mono ?_
  rintro e w' ⟨v, rfl, hf, hb⟩
  have HF := Lib.hid hf
  have HB2 := Lib.hid hb
  clear hf hb
  go_wp2_with fail
  go_ret
  exact ⟨_, rfl, HV.out ▸ HF.out.base HB.out.size, HB.out.trans (HB2.out.mono HB.out.size)⟩
end

end Go.Proofs.YtkpjikaobjpkoaaGreatDoor
