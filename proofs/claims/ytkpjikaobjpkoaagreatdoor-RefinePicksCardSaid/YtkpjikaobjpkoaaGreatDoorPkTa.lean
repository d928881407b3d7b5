/-
  Naturals, integers, dyadic numbers as slots of a function that is carried out on symbols.
-/
import Derived.Test.YtkpjikaobjpkoaaGreatDoorPkSeSf
import Derived.Test.YtkpjikaobjpkoaaGreatDoorPkEv9
import Derived.KernelRfl
namespace Go.Proofs.YtkpjikaobjpkoaaGreatDoor
open Go.RowKit Go.Ev

theorem cell_same {w w' : World} {p : Addr} (h : w'.heap[p.block]? = w.heap[p.block]?) : w'.cell? p = w.cell? p := by unfold World.cell?; rw [h]
theorem own_same {w w' : World} {base : Nat} {e : TypeId} {sz n : Nat} {v : Value} {xs : List Value} (h : w.ownsRow base e sz v n xs) (hw : ∀ b, base ≤ b → b < w.heap.size → w'.heap[b]? = w.heap[b]?) : w'.ownsRow base e sz v n xs := by
  refine ⟨h.1, ?_⟩
  rcases h.2 with h1 | ⟨g, cap, cur, rfl, h2, h3, r⟩
  · exact .inl h1
  · exact .inr ⟨g, cap, cur, rfl, h2, (hw g h2 (Array.getElem?_eq_some_iff.1 h3).1).trans h3, r⟩
theorem natF_own {w : World} {base : Nat} {v : Value} {n : Nat} (h : NatF w base v n) : Own base w fun w2 => NatR w2 v n := fun w2 hw => by
  obtain ⟨l, ⟨h1, h2⟩, h3⟩ := h
  exact NatF.r (base := base) ⟨l, ⟨own_same h1 hw, h2⟩, h3⟩
open Classical in
/-- The number of elements of a natural. -/
noncomputable def limbN (n : Nat) : Nat := if h : ∃ l, Limbs l ∧ szN l = l.length ∧ val l = n then (Classical.choose h).length else 0
theorem len_unique {l m : List Nat} (hl : Limbs l) (hm : Limbs m) (h1 : szN l = l.length) (h2 : szN m = m.length) (he : val l = val m) : l.length = m.length := by
  rcases Nat.lt_trichotomy l.length m.length with h | h | h
  · have := val_lt_sz (m := m) hl (by omega); omega
  · exact h
  · have := val_lt_sz (m := l) hm (by omega); omega
theorem limbN_of {l : List Nat} (hl : Limbs l) (h1 : szN l = l.length) : limbN (val l) = l.length := by
  have h : ∃ m, Limbs m ∧ szN m = m.length ∧ val m = val l := ⟨l, hl, h1, rfl⟩
  unfold limbN
  rw [dif_pos h]
  obtain ⟨a, b, c⟩ := Classical.choose_spec h
  exact len_unique a hl b h1 c
theorem limbN_zero : limbN 0 = 0 := limbN_of (l := []) (fun x hx => by simp at hx) rfl
theorem limbN_eq_zero {n : Nat} (h : limbN n = 0) (hn : ∃ l, Limbs l ∧ szN l = l.length ∧ val l = n) : n = 0 := by
  obtain ⟨l, h1, h2, rfl⟩ := hn
  rw [limbN_of h1 h2] at h
  rw [List.eq_nil_of_length_eq_zero h]; rfl
def NatK (n : Nat) : World → Value → Prop := fun w v => NatR w v n
theorem natK_slice {n : Nat} {w : World} {v : Value} (h : NatK n w v) : ∃ a c, v = .slice a (limbN n) c := by
  obtain ⟨l, h1, h2, rfl⟩ := h
  obtain ⟨a, c, x, rfl, _⟩ := h1.form
  exact ⟨a, c, by rw [limbN_of h1.2 h2]⟩
theorem natK_one {n : Nat} (w : World) (v : Value) (h : NatK n w v) : v.oneCell' = true := by
  obtain ⟨a, c, rfl⟩ := natK_slice h
  rfl
theorem natK_len {n : Nat} (w : World) (v : Value) (h : NatK n w v) : ∃ ad k c, v = .slice ad k c ∧ (intV .i64 (limbN n : Nat)).v = .int .i64 (k : Nat) := by
  obtain ⟨a, c, rfl⟩ := natK_slice h
  exact ⟨a, _, c, rfl, rfl⟩
noncomputable def natS (n : Nat) (v0 v1 : OneVal) : Slot := ⟨NatK n, natK_one, v0, v1, intV .i64 (limbN n : Nat), true, fun _ => natK_len⟩
noncomputable def nS (n : Nat) : Slot := natS n default default
noncomputable def iS (z : Int) : Slot := natS z.natAbs (boolV (decide (z < 0))) default
def IntK (z : Int) : World → Value → Prop := fun w v => IntR w v z
noncomputable def iP (j : Nat) : AVal := .agg [s0 j, sA j]
noncomputable def iPb (b : Bool) (j : Nat) : AVal := .agg [.bool b, sA j]
section
variable {L : List Slot} {A : World → Prop} {j : Nat}
theorem into_nat {n : Nat} {a b : OneVal} (h : nthS L j = natS n a b) : @Into ⟨rhoS L⟩ (tabsL A L) (NatK n) (sA j) := intoA (by rw [h]; rfl)
theorem outo_nat {n : Nat} {a b : OneVal} (h : nthS L j = natS n a b) : @Outo ⟨rhoS L⟩ (tabsL A L) (sA j) (NatK n) := outoA (by rw [h]; rfl)
theorem into_iP {z : Int} (h : nthS L j = iS z) : @Into ⟨rhoS L⟩ (tabsL A L) (IntK z) (iP j) :=
  letI : Rho := ⟨rhoS L⟩
  (into_agg2 (into0 (x := .bool (decide (z < 0))) (by rw [h]; rfl)) (into_nat h)).of fun w v ⟨u, e, hu⟩ => ⟨_, u, e, rfl, hu⟩
theorem outo_iP {z : Int} (h : nthS L j = iS z) : @Outo ⟨rhoS L⟩ (tabsL A L) (iP j) (IntK z) :=
  letI : Rho := ⟨rhoS L⟩
  (outo_agg2 (outo0 (x := .bool (decide (z < 0))) (by rw [h]; rfl)) (outo_nat h)).to fun w v ⟨b, u, e, hb, hu⟩ => ⟨u, by rw [e, show b = _ from hb], hu⟩
theorem into_iPb {z : Int} {b : Bool} {x y : OneVal} (hb : decide (z < 0) = b) (h : nthS L j = natS z.natAbs x y) : @Into ⟨rhoS L⟩ (tabsL A L) (IntK z) (iPb b j) :=
  letI : Rho := ⟨rhoS L⟩
  (into_agg2 into_bool (into_nat h)).of fun w v ⟨u, e, hu⟩ => ⟨_, u, e, by rw [← hb]; rfl, hu⟩
theorem outo_iPb {z : Int} {b : Bool} {x y : OneVal} (hb : decide (z < 0) = b) (h : nthS L j = natS z.natAbs x y) : @Outo ⟨rhoS L⟩ (tabsL A L) (iPb b j) (IntK z) :=
  letI : Rho := ⟨rhoS L⟩
  (outo_agg2 outo_bool (outo_nat h)).to fun w v ⟨c, u, e, hc, hu⟩ => ⟨u, by rw [e, show c = _ from hc, hb], hu⟩
end
/-! ### Contracts from walks -/
variable {f : FuncId}
def pgA : World → Prop := TabAt
theorem con1 {R1 R : World → Value → Prop} (h : ∀ w x, R1 w x → TabAt w → Calls Tryz.prog f #[x] w fun en w' => ∃ y, en = .returned y ∧ Own w.heap.size w' (fun w2 => R w2 y) ∧ Below w.heap.size w w') : Con Tryz.prog TabAt f [R1] R :=
  con_own fun w vals ⟨x, _, e, hx, e2⟩ hA => by subst e2; subst e; exact h w x hx hA
theorem con2 {R1 R2 R : World → Value → Prop} (h : ∀ w x y, R1 w x → R2 w y → TabAt w → Calls Tryz.prog f #[x, y] w fun en w' => ∃ z, en = .returned z ∧ Own w.heap.size w' (fun w2 => R w2 z) ∧ Below w.heap.size w w') : Con Tryz.prog TabAt f [R1, R2] R :=
  con_own fun w vals ⟨x, _, e, hx, y, _, e2, hy, e3⟩ hA => by subst e3; subst e2; subst e; exact h w x y hx hy hA
theorem con3 {R1 R2 R3 R : World → Value → Prop} (h : ∀ w x y z, R1 w x → R2 w y → R3 w z → TabAt w → Calls Tryz.prog f #[x, y, z] w fun en w' => ∃ u, en = .returned u ∧ Own w.heap.size w' (fun w2 => R w2 u) ∧ Below w.heap.size w w') : Con Tryz.prog TabAt f [R1, R2, R3] R :=
  con_own fun w vals ⟨x, _, e, hx, y, _, e2, hy, z, _, e3, hz, e4⟩ hA => by subst e4; subst e3; subst e2; subst e; exact h w x y z hx hy hz hA
theorem own_natP {n : Nat} {w : World} {en : Ending} {w' : World} (h : NatP n w en w') : ∃ y, en = .returned y ∧ Own w.heap.size w' (fun w2 => NatK n w2 y) ∧ Below w.heap.size w w' := by
  obtain ⟨v, e, h1, h2⟩ := h
  exact ⟨v, e, natF_own h1, h2⟩
theorem own_intQ {z : Int} {w : World} {en : Ending} {w' : World} (h : IntQ z w en w') : ∃ y, en = .returned y ∧ Own w.heap.size w' (fun w2 => IntK z w2 y) ∧ Below w.heap.size w w' := by
  obtain ⟨v, e, ⟨u, e1, h1⟩, h2⟩ := h
  exact ⟨v, e, fun w2 hw => ⟨u, e1, natF_own h1 w2 hw⟩, h2⟩
theorem own_quiet {v : Value} {w : World} {en : Ending} {w' : World} (h : Quiet v w en w') : ∃ y, en = .returned y ∧ Own w.heap.size w' (fun w2 => IsV v w2 y) ∧ Below w.heap.size w w' :=
  ⟨v, h.1, fun _ _ => rfl, h.2⟩
theorem own_pure {v : Value} {w : World} {en : Ending} {w' : World} (h : Pure0 v w en w') : ∃ y, en = .returned y ∧ Own w.heap.size w' (fun w2 => IsV v w2 y) ∧ Below w.heap.size w w' := by
  obtain ⟨e, rfl⟩ := h
  exact ⟨v, e, fun _ _ => rfl, Below.refl _ _⟩
theorem mix : Tryz.prog.follows .mixedOrders = true := by kernel_rfl
end Go.Proofs.YtkpjikaobjpkoaaGreatDoor
