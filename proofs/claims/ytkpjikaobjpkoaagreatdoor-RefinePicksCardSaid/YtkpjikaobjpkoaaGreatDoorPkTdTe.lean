/-
  The reference's integers (the rest) and dyadic numbers, on symbols.
-/
import Derived.Test.YtkpjikaobjpkoaaGreatDoorPkTb
namespace Go.Proofs.YtkpjikaobjpkoaaGreatDoor
open Go.RowKit Go.Ev

theorem con_imp {P : Program} {A : World → Prop} {f : FuncId} {Rs Rs' : List (World → Value → Prop)} {R R' : World → Value → Prop} (h : Con P A f Rs R) (hi : ∀ w vs, All2 Rs' w vs → All2 Rs w vs) (ho : ∀ w v, R w v → R' w v) : Con P A f Rs' R' := fun S w vals hl hA ha => by
  refine (h S w vals hl hA fun w' hw' => hi _ _ (ha w' hw')).mono ?_
  rintro en w' ⟨x, h1, h2, h3⟩
  exact ⟨x, h1, fun w2 hw2 => ho _ _ (h2 w2 hw2), h3⟩
theorem all2_cons {R R' : World → Value → Prop} {Rs Rs' : List (World → Value → Prop)} (h : ∀ w v, R w v → R' w v) (hs : ∀ w vs, All2 Rs w vs → All2 Rs' w vs) : ∀ w vs, All2 (R :: Rs) w vs → All2 (R' :: Rs') w vs := by
  rintro w vs ⟨v, vs', e, h1, h2⟩
  exact ⟨v, vs', e, h w v h1, hs w vs' h2⟩
theorem all2_nil : ∀ w vs, All2 [] w vs → All2 [] w vs := fun _ _ h => h
theorem all2_same {R : World → Value → Prop} {Rs Rs' : List (World → Value → Prop)} (hs : ∀ w vs, All2 Rs w vs → All2 Rs' w vs) : ∀ w vs, All2 (R :: Rs) w vs → All2 (R :: Rs') w vs := all2_cons (fun _ _ h => h) hs
section
variable {L : List Slot} {i j k l : Nat} {n m : Nat} {p q z : Int} {b : Bool} {u v u' v' : OneVal}
/-- Nat, called with a symbol for the sign. -/
theorem e_natS (hs : Sm n) (hz : sgnI b n = z) (h0 : (nthS L k).v0.v = .bool b) (h1 : nthS L i = natS n u v) (h2 : nthS L j = iS z) : @EntOk ⟨rhoS L⟩ Tryz.prog (tabsL TabAt L) ⟨49, [s0 k, sA i], iP j⟩ :=
  slots_ent (r5nat_con hs) (outC (outo0 h0) (outC (outo_nat h1) out0)) (into_iP (by rw [hz]; exact h2))
theorem e_cmp (hs : Sm n) (hs' : Sm m) (h1 : nthS L i = natS n u v) (h2 : nthS L j = natS m u' v') (h3 : (nthS L k).v0.v = .int .i64 (cmpI n m)) : @EntOk ⟨rhoS L⟩ Tryz.prog (tabsL TabAt L) ⟨109, [sA i, sA j], s0 k⟩ := slots_ent (rcmp_con hs hs') (outC (outo_nat h1) (outC (outo_nat h2) out0)) (into0 h3)
theorem r5valid_con : Con Tryz.prog TabAt 106 [IntK p] (IsV (.bool true)) := by
  cases hb : decide (p < 0)
  · exact slots_con [iS p] mix (F := []) (T := [⟨155, [sA 0], .bool true⟩]) (pats := [iPb false 0]) (res := .bool true) (by kernel_rfl)
      fnil (econs (slots_ent (rvalid_con (n := p.natAbs)) (outC (outo_nat rfl) out0) into_bool) rfl enil) rfl (inC (into_iPb hb rfl) in0) outo_bool
  · have hl : decide (0 < (limbN p.natAbs : Int)) = true := limb_gt (by have := of_decide_eq_true hb; omega)
    exact slots_con [iS p] mix (F := [⟨.bin .gtr, s2 0, .int .i64 0, .bool true⟩]) (T := [⟨155, [sA 0], .bool true⟩]) (pats := [iPb true 0]) (res := .bool true) (by kernel_rfl)
      (fcons (fact_gtr (gam2 rfl) (fun _ => rfl) hl) fnil) (econs (slots_ent (rvalid_con (n := p.natAbs)) (outC (outo_nat rfl) out0) into_bool) rfl enil) rfl (inC (into_iPb hb rfl) in0) outo_bool
theorem r5same_con (hs : Sm p.natAbs) (hs' : Sm q.natAbs) : Con Tryz.prog TabAt 34 [IntK p, IntK q] (IsV (.bool (decide (p = q)))) := by
  have hsame : ∀ b r, decide (p < 0) = b → decide (q < 0) = b → decide (p.natAbs = q.natAbs) = r → decide (p = q) = r := fun b r h1 h2 h3 => by
    rw [← h3, Bool.eq_iff_iff, decide_eq_true_iff, decide_eq_true_iff]
    have : (p < 0) ↔ (q < 0) := by rw [← decide_eq_true_iff (p := p < 0), h1, ← h2, decide_eq_true_iff]
    omega
  have hdiff : ∀ b, decide (p < 0) = b → decide (q < 0) = (!b) → decide (p = q) = false := fun b h1 h2 => by
    refine decide_eq_false fun e => ?_
    rw [e, h2] at h1
    cases b <;> cases h1
  cases hp : decide (p < 0) <;> cases hq : decide (q < 0)
  · obtain ⟨r, hr⟩ : ∃ r, decide (p.natAbs = q.natAbs) = r := ⟨_, rfl⟩
    rw [hsame false r hp hq hr]
    cases r
    · exact slots_con [iS p, iS q] mix (F := []) (T := [⟨80, [sA 0, sA 1], .bool false⟩]) (pats := [iPb false 0, iPb false 1]) (res := .bool false) (by kernel_rfl)
        fnil (econs (slots_ent (by rw [← hr]; exact rsame_con hs hs') (outC (outo_nat rfl) (outC (outo_nat rfl) out0)) into_bool) rfl enil) rfl (inC (into_iPb hp rfl) (inC (into_iPb hq rfl) in0)) outo_bool
    · exact slots_con [iS p, iS q] mix (F := []) (T := [⟨80, [sA 0, sA 1], .bool true⟩]) (pats := [iPb false 0, iPb false 1]) (res := .bool true) (by kernel_rfl)
        fnil (econs (slots_ent (by rw [← hr]; exact rsame_con hs hs') (outC (outo_nat rfl) (outC (outo_nat rfl) out0)) into_bool) rfl enil) rfl (inC (into_iPb hp rfl) (inC (into_iPb hq rfl) in0)) outo_bool
  · rw [hdiff false hp hq]
    exact slots_con [iS p, iS q] mix (F := []) (T := []) (pats := [iPb false 0, iPb true 1]) (res := .bool false) (by kernel_rfl) fnil enil rfl (inC (into_iPb hp rfl) (inC (into_iPb hq rfl) in0)) outo_bool
  · rw [hdiff true hp hq]
    exact slots_con [iS p, iS q] mix (F := []) (T := []) (pats := [iPb true 0, iPb false 1]) (res := .bool false) (by kernel_rfl) fnil enil rfl (inC (into_iPb hp rfl) (inC (into_iPb hq rfl) in0)) outo_bool
  · obtain ⟨r, hr⟩ : ∃ r, decide (p.natAbs = q.natAbs) = r := ⟨_, rfl⟩
    rw [hsame true r hp hq hr]
    cases r
    · exact slots_con [iS p, iS q] mix (F := []) (T := [⟨80, [sA 0, sA 1], .bool false⟩]) (pats := [iPb true 0, iPb true 1]) (res := .bool false) (by kernel_rfl)
        fnil (econs (slots_ent (by rw [← hr]; exact rsame_con hs hs') (outC (outo_nat rfl) (outC (outo_nat rfl) out0)) into_bool) rfl enil) rfl (inC (into_iPb hp rfl) (inC (into_iPb hq rfl) in0)) outo_bool
    · exact slots_con [iS p, iS q] mix (F := []) (T := [⟨80, [sA 0, sA 1], .bool true⟩]) (pats := [iPb true 0, iPb true 1]) (res := .bool true) (by kernel_rfl)
        fnil (econs (slots_ent (by rw [← hr]; exact rsame_con hs hs') (outC (outo_nat rfl) (outC (outo_nat rfl) out0)) into_bool) rfl enil) rfl (inC (into_iPb hp rfl) (inC (into_iPb hq rfl) in0)) outo_bool
theorem r5shl_con {a : Nat} (hs : Sm p.natAbs) (ha : a ≤ 1048576) (hs' : Sm (p.natAbs * 2 ^ a)) : Con Tryz.prog TabAt 47 [IntK p, IsV (.int .i64 (a : Int))] (IntK (p * 2 ^ a)) :=
  slots_con [iS p, valS (intV .i64 (a : Int)), nS (p.natAbs * 2 ^ a), iS (p * 2 ^ a)] mix (F := []) (T := [⟨102, [sA 0, s0 1], sA 2⟩, ⟨49, [s0 0, sA 2], iP 3⟩]) (pats := [iP 0, s0 1]) (res := iP 3) (by kernel_rfl)
    fnil (econs (slots_ent (rshl_con hs ha) (outC (outo_nat rfl) (outC (outo0 rfl) out0)) (into_nat rfl)) rfl (econs (e_natS (z := p * 2 ^ a) hs' (by rw [sgnI_mul, two_pow_cast]) rfl rfl rfl) rfl enil)) rfl (inC (into_iP rfl) (inC (into0 rfl) in0)) (outo_iP rfl)
theorem e5shl {a : Nat} (hs : Sm p.natAbs) (ha : a ≤ 1048576) (hs' : Sm (p.natAbs * 2 ^ a)) (h1 : nthS L i = iS p) (h2 : (nthS L j).v0.v = .int .i64 (a : Int)) (h3 : nthS L k = iS (p * 2 ^ a)) : @EntOk ⟨rhoS L⟩ Tryz.prog (tabsL TabAt L) ⟨47, [iP i, s0 j], iP k⟩ :=
  slots_ent (r5shl_con hs ha hs') (outC (outo_iP h1) (outC (outo0 h2) out0)) (into_iP h3)
theorem r5shr_con {a : Nat} (hs : Sm p.natAbs) (hs1 : Sm (p.natAbs + 1)) (ha : a ≤ 1048576) : Con Tryz.prog TabAt 79 [IntK p, IsV (.int .i64 (a : Int))] (IntK (p / 2 ^ a)) := by
  have hq := sm_div hs (2 ^ a)
  have hle : p.natAbs / 2 ^ a * 2 ^ a ≤ p.natAbs := Nat.div_mul_le_self _ _
  cases hb : decide (p < 0)
  · have hz := shr_pos (of_decide_eq_false hb) a
    exact slots_con [iS p, valS (intV .i64 (a : Int)), nS (p.natAbs / 2 ^ a), iS (p / 2 ^ a)] mix (F := []) (T := [⟨50, [sA 0, s0 1], sA 2⟩, ⟨49, [.bool false, sA 2], iP 3⟩]) (pats := [iPb false 0, s0 1]) (res := iP 3) (by kernel_rfl)
      fnil (econs (slots_ent (rshr_con hs ha) (outC (outo_nat rfl) (outC (outo0 rfl) out0)) (into_nat rfl)) rfl (econs (e_nat hq hz rfl rfl) rfl enil)) rfl (inC (into_iPb hb rfl) (inC (into0 rfl) in0)) (outo_iP rfl)
  · have hz := shr_neg (of_decide_eq_true hb) a
    by_cases hr : p.natAbs % 2 ^ a = 0
    · rw [if_pos hr] at hz
      have hc : decide (cmpI (p.natAbs / 2 ^ a * 2 ^ a) p.natAbs ≠ 0) = false := decide_eq_false (by
        rw [cmpI_eq (Nat.div_mul_cancel (Nat.dvd_of_mod_eq_zero hr))]; simp)
      exact slots_con [iS p, valS (intV .i64 (a : Int)), nS (p.natAbs / 2 ^ a), nS (p.natAbs / 2 ^ a * 2 ^ a), valS (intV .i64 (cmpI (p.natAbs / 2 ^ a * 2 ^ a) p.natAbs)), iS (p / 2 ^ a)] mix (F := [⟨.bin .neq, s0 4, .int .i64 0, .bool false⟩])
        (T := [⟨50, [sA 0, s0 1], sA 2⟩, ⟨102, [sA 2, s0 1], sA 3⟩, ⟨109, [sA 3, sA 0], s0 4⟩, ⟨49, [.bool true, sA 2], iP 5⟩]) (pats := [iPb true 0, s0 1]) (res := iP 5) (by kernel_rfl)
        (fcons (fact_neq (gam0 rfl) (fun _ => rfl) hc) fnil) (econs (slots_ent (rshr_con hs ha) (outC (outo_nat rfl) (outC (outo0 rfl) out0)) (into_nat rfl)) rfl (econs (slots_ent (rshl_con hq ha) (outC (outo_nat rfl) (outC (outo0 rfl) out0)) (into_nat rfl)) rfl
          (econs (e_cmp (sm_le hs hle) hs rfl rfl rfl) rfl (econs (e_nat hq hz rfl rfl) rfl enil)))) rfl (inC (into_iPb hb rfl) (inC (into0 rfl) in0)) (outo_iP rfl)
    · rw [if_neg hr] at hz
      have hc : decide (cmpI (p.natAbs / 2 ^ a * 2 ^ a) p.natAbs ≠ 0) = true := decide_eq_true (by
        have := Nat.div_add_mod p.natAbs (2 ^ a)
        rw [Nat.mul_comm] at this
        rw [cmpI_lt (by omega)]; simp)
      exact slots_con [iS p, valS (intV .i64 (a : Int)), nS (p.natAbs / 2 ^ a), nS (p.natAbs / 2 ^ a * 2 ^ a), valS (intV .i64 (cmpI (p.natAbs / 2 ^ a * 2 ^ a) p.natAbs)), nS 1, nS (p.natAbs / 2 ^ a + 1), iS (p / 2 ^ a)] mix (F := [⟨.bin .neq, s0 4, .int .i64 0, .bool true⟩])
        (T := [⟨50, [sA 0, s0 1], sA 2⟩, ⟨102, [sA 2, s0 1], sA 3⟩, ⟨109, [sA 3, sA 0], s0 4⟩, ⟨52, [.int .u64 1], sA 5⟩, ⟨108, [sA 2, sA 5], sA 6⟩, ⟨49, [.bool true, sA 6], iP 7⟩]) (pats := [iPb true 0, s0 1]) (res := iP 7) (by kernel_rfl)
        (fcons (fact_neq (gam0 rfl) (fun _ => rfl) hc) fnil) (econs (slots_ent (rshr_con hs ha) (outC (outo_nat rfl) (outC (outo0 rfl) out0)) (into_nat rfl)) rfl (econs (slots_ent (rshl_con hq ha) (outC (outo_nat rfl) (outC (outo0 rfl) out0)) (into_nat rfl)) rfl
          (econs (e_cmp (sm_le hs hle) hs rfl rfl rfl) rfl (econs (slots_ent (rof_con (n := 1) (by decide)) (outC outo_int out0) (into_nat rfl)) rfl (econs (slots_ent (radd_con hq (sm_of (k := 1) (by decide) (by decide))) (outC (outo_nat rfl) (outC (outo_nat rfl) out0)) (into_nat rfl)) rfl
            (econs (e_nat (sm_le hs1 (Nat.add_le_add_right (Nat.div_le_self _ _) _)) hz rfl rfl) rfl enil)))))) rfl (inC (into_iPb hb rfl) (inC (into0 rfl) in0)) (outo_iP rfl)
end
/-! ### Dyadic numbers -/
noncomputable def dS (m e : Int) : Slot := natS m.natAbs (boolV (decide (m < 0))) (intV .i64 e)
noncomputable def dP (j : Nat) : AVal := .agg [s0 j, sA j, s1 j]
def DyE (m e : Int) : World → Value → Prop := fun w v => DyR w v m e
def DyK (V : Int) : World → Value → Prop := fun w v => DyV w v V
section
variable {L : List Slot} {A : World → Prop} {j : Nat} {m e : Int}
theorem into_dP (h : nthS L j = dS m e) : @Into ⟨rhoS L⟩ (tabsL A L) (DyE m e) (dP j) :=
  letI : Rho := ⟨rhoS L⟩
  (into_agg3 (into0 (x := .bool (decide (m < 0))) (by rw [h]; rfl)) (into_nat h) (into1 (x := .int .i64 e) (by rw [h]; rfl))).of fun w v ⟨u, q, hu⟩ => ⟨_, u, _, q, rfl, hu, rfl⟩
theorem outo_dP (h : nthS L j = dS m e) : @Outo ⟨rhoS L⟩ (tabsL A L) (dP j) (DyE m e) :=
  letI : Rho := ⟨rhoS L⟩
  (outo_agg3 (outo0 (x := .bool (decide (m < 0))) (by rw [h]; rfl)) (outo_nat h) (outo1 (x := .int .i64 e) (by rw [h]; rfl))).to fun w v ⟨b, u, g, q, hb, hu, hg⟩ => ⟨u, by rw [q, show b = _ from hb, show g = _ from hg], hu⟩
/-- A dyadic number whose mantissa and exponent lie in two slots. -/
noncomputable def dQ (i j : Nat) : AVal := .agg [s0 i, sA i, s0 j]
theorem into_dQ {i : Nat} (h : nthS L i = iS m) (h' : (nthS L j).v0.v = .int .i64 e) : @Into ⟨rhoS L⟩ (tabsL A L) (DyE m e) (dQ i j) :=
  letI : Rho := ⟨rhoS L⟩
  (into_agg3 (into0 (x := .bool (decide (m < 0))) (by rw [h]; rfl)) (into_nat h) (into0 h')).of fun w v ⟨u, q, hu⟩ => ⟨_, u, _, q, rfl, hu, rfl⟩
theorem outo_dQ {i : Nat} (h : nthS L i = iS m) (h' : (nthS L j).v0.v = .int .i64 e) : @Outo ⟨rhoS L⟩ (tabsL A L) (dQ i j) (DyE m e) :=
  letI : Rho := ⟨rhoS L⟩
  (outo_agg3 (outo0 (x := .bool (decide (m < 0))) (by rw [h]; rfl)) (outo_nat h) (outo0 h')).to fun w v ⟨b, u, g, q, hb, hu, hg⟩ => ⟨u, by rw [q, show b = _ from hb, show g = _ from hg], hu⟩
noncomputable def dZ : AVal := .agg [.bool false, .slcNil, .int .i64 0]
theorem dyE_zero (w : World) : DyE 0 0 w (.agg #[.bool false, .slice none 0 0, .int .i64 0]) := ⟨_, rfl, (natF_nil w 0).r⟩
theorem outo_dZ : @Outo ⟨rhoS L⟩ (tabsL A L) dZ (DyE 0 0) := by
  rintro w v ⟨vs, rfl, a, _, rfl, ha, b, _, rfl, hb, c, _, rfl, hc, rfl⟩
  rw [show a = .bool false from ha, show b = .slice none 0 0 from hb, show c = .int .i64 0 from hc]
  exact dyE_zero w
end
section
variable {L : List Slot} {i j k l : Nat} {m e n f : Int}
theorem r8valid_con (hy : Ny m e) : Con Tryz.prog TabAt 51 [DyE m e] (IsV (.bool true)) := by
  have hv : @EntOk ⟨rhoS [dS m e, valS (intV .i64 (blen m.natAbs : Nat))]⟩ Tryz.prog (tabsL TabAt [dS m e, valS (intV .i64 (blen m.natAbs : Nat))]) ⟨106, [iP 0], .bool true⟩ :=
    letI : Rho := ⟨rhoS [dS m e, valS (intV .i64 (blen m.natAbs : Nat))]⟩
    slots_ent (r5valid_con (p := m)) (outC ((outo_agg2 (outo0 (x := .bool (decide (m < 0))) rfl) (outo_nat rfl)).to fun w v ⟨b, u, e', hb, hu⟩ => ⟨u, by rw [e', show b = _ from hb], hu⟩) out0) into_bool
  rcases hy.nf with ⟨h0, h1⟩ | h1
  · have c1 : decide ((limbN m.natAbs : Int) = 0) = true := by rw [limb_eq, h0]; rfl
    have c2 : decide (e = 0) = true := decide_eq_true h1
    exact slots_con [dS m e, valS (intV .i64 (blen m.natAbs : Nat))] mix (F := [⟨.bin .eql, s2 0, .int .i64 0, .bool true⟩, ⟨.bin .eql, s1 0, .int .i64 0, .bool true⟩]) (T := [⟨106, [iP 0], .bool true⟩]) (pats := [dP 0]) (res := .bool true) (by kernel_rfl)
      (fcons (fact_eql (gam2 rfl) (fun _ => rfl) c1) (fcons (fact_eql (gam1 rfl) (fun _ => rfl) c2) fnil)) (econs hv rfl enil) rfl (inC (into_dP rfl) in0) outo_bool
  · have c1 : decide ((limbN m.natAbs : Int) = 0) = false := by rw [limb_eq]; exact decide_eq_false (by omega)
    have hbl := ny_blen hy
    have hlo := hy.lo
    have hhi := hy.hi
    have c2 : decide (((blen m.natAbs : Nat) : Int) ≤ 65536) = true := decide_eq_true (by omega)
    have c3 : decide (-65536 ≤ e) = true := decide_eq_true (by omega)
    have c4 : decide (e ≤ 65536) = true := decide_eq_true (by omega)
    have c5 : decide (m.natAbs % 2 = 1) = true := decide_eq_true (by omega)
    exact slots_con [dS m e, valS (intV .i64 (blen m.natAbs : Nat))] mix (F := [⟨.bin .eql, s2 0, .int .i64 0, .bool false⟩, ⟨.bin .leq, s0 1, .int .i64 65536, .bool true⟩, ⟨.bin .geq, s1 0, .int .i64 (-65536), .bool true⟩, ⟨.bin .leq, s1 0, .int .i64 65536, .bool true⟩])
      (T := [⟨106, [iP 0], .bool true⟩, ⟨107, [sA 0], s0 1⟩, ⟨103, [sA 0, .int .i64 0], .bool true⟩]) (pats := [dP 0]) (res := .bool true) (by kernel_rfl)
      (fcons (fact_eql (gam2 rfl) (fun _ => rfl) c1) (fcons (fact_leq (gam0 rfl) (fun _ => rfl) c2) (fcons (fact_geq (gam1 rfl) (fun _ => rfl) c3) (fcons (fact_leq (gam1 rfl) (fun _ => rfl) c4) fnil))))
      (econs hv rfl (econs (slots_ent (rbits_con (ny_sm hy)) (outC (outo_nat rfl) out0) (into0 rfl)) rfl (econs (slots_ent (by rw [← c5]; exact rbit0_con (ny_sm hy)) (outC (outo_nat rfl) (outC outo_int out0)) into_bool) rfl enil))) rfl (inC (into_dP rfl) in0) outo_bool
def OkK : World → Value → Prop := IsV (.int .i64 0)
theorem r8make_con (hs : m.natAbs < 2 ^ kBits) (he : -3000 ≤ e) (he1 : e ≤ 3000) (he2 : e + tzN m.natAbs ≤ 3000) : Con Tryz.prog TabAt 20 [IntK m, IsV (.int .i64 e)] (Two_ (DyE (oddI m) (expI m e)) OkK) := by
  have c1 : decide (e < -131072) = false := decide_eq_false (by omega)
  have c2 : decide (131072 < e) = false := decide_eq_false (by omega)
  have hsm : Sm m.natAbs := sm_of (k := kBits) hs (by unfold kBits; omega)
  by_cases h0 : m = 0
  · have c3 : decide ((limbN m.natAbs : Int) = 0) = true := by rw [limb_eq, h0]; rfl
    have e1 : oddI m = 0 := if_pos h0
    have e2 : expI m e = 0 := if_pos h0
    rw [e1, e2]
    exact slots_con [iS m, valS (intV .i64 e)] mix (F := [⟨.bin .lss, s0 1, .int .i64 (-131072), .bool false⟩, ⟨.bin .gtr, s0 1, .int .i64 131072, .bool false⟩, ⟨.bin .eql, s2 0, .int .i64 0, .bool true⟩]) (T := []) (pats := [iP 0, s0 1]) (res := .tup [dZ, .int .i64 0]) (by kernel_rfl)
      (fcons (fact_lss (gam0 rfl) (fun _ => rfl) c1) (fcons (fact_gtr (gam0 rfl) (fun _ => rfl) c2) (fcons (fact_eql (gam2 rfl) (fun _ => rfl) c3) fnil))) enil rfl (inC (into_iP rfl) (inC (into0 rfl) in0)) (outo_two outo_dZ outo_int)
  · have c3 : decide ((limbN m.natAbs : Int) = 0) = false := by rw [limb_eq]; exact decide_eq_false (by omega)
    have ho : sgnI (decide (m < 0)) (m.natAbs / 2 ^ tzN m.natAbs) = oddI m := (if_neg h0).symm
    have hx : expI m e = e + tzN m.natAbs := if_neg h0
    have hy := ny_make hs he he2
    have hw : IntKind.i64.wrap (e + (tzN m.natAbs : Nat)) = expI m e := by rw [hx]; exact wrap_small (by omega) (by omega)
    exact slots_con [iS m, valS (intV .i64 e), valS (intV .i64 (tzN m.natAbs : Nat)), nS (m.natAbs / 2 ^ tzN m.natAbs), iS (oddI m), valS (intV .i64 (expI m e))] mix
      (F := [⟨.bin .lss, s0 1, .int .i64 (-131072), .bool false⟩, ⟨.bin .gtr, s0 1, .int .i64 131072, .bool false⟩, ⟨.bin .eql, s2 0, .int .i64 0, .bool false⟩, ⟨.bin .add, s0 1, s0 2, s0 5⟩])
      (T := [⟨48, [sA 0], s0 2⟩, ⟨50, [sA 0, s0 2], sA 3⟩, ⟨49, [s0 0, sA 3], iP 4⟩, ⟨51, [dQ 4 5], .bool true⟩]) (pats := [iP 0, s0 1]) (res := .tup [dQ 4 5, .int .i64 0]) (by kernel_rfl)
      (fcons (fact_lss (gam0 rfl) (fun _ => rfl) c1) (fcons (fact_gtr (gam0 rfl) (fun _ => rfl) c2) (fcons (fact_eql (gam2 rfl) (fun _ => rfl) c3) (fcons (fact_add rfl (gam0 rfl) (gam0 rfl) (gam0 rfl) hw) fnil))))
      (econs (slots_ent (rzeros_con hsm) (outC (outo_nat rfl) out0) (into0 rfl)) rfl (econs (slots_ent (rshr_con (k := tzN m.natAbs) hsm (by omega)) (outC (outo_nat rfl) (outC (outo0 rfl) out0)) (into_nat rfl)) rfl
        (econs (e_natS (sm_div hsm _) ho rfl rfl rfl) rfl (econs (slots_ent (r8valid_con hy) (outC (outo_dQ rfl rfl) out0) into_bool) rfl enil)))) rfl (inC (into_iP rfl) (inC (into0 rfl) in0)) (outo_two (outo_dQ rfl rfl) outo_int)
theorem outo_dP_int (h : nthS L j = dS m e) : @Outo ⟨rhoS L⟩ (tabsL TabAt L) (iP j) (IntK m) :=
  letI : Rho := ⟨rhoS L⟩
  (outo_agg2 (outo0 (x := .bool (decide (m < 0))) (by rw [h]; rfl)) (outo_nat h)).to fun w v ⟨b, u, e', hb, hu⟩ => ⟨u, by rw [e', show b = _ from hb], hu⟩
theorem r8neg_con (hs : Sm m.natAbs) : Con Tryz.prog TabAt 81 [DyE m e] (DyE (-m) e) :=
  slots_con [dS m e, iS (-m), valS (intV .i64 e)] mix (F := []) (T := [⟨128, [iP 0], iP 1⟩]) (pats := [dP 0]) (res := .agg [s0 1, sA 1, s1 0]) (by kernel_rfl)
    fnil (econs (slots_ent (r5neg_con hs) (outC (outo_dP_int rfl) out0) (into_iP rfl)) rfl enil) rfl (inC (into_dP rfl) in0)
    ((outo_agg3 (outo0 (x := .bool (decide (-m < 0))) rfl) (outo_nat (n := (-m).natAbs) rfl) (outo1 (x := .int .i64 e) rfl)).to fun w v ⟨b, u, g, q, hb, hu, hg⟩ => ⟨u, by rw [q, show b = _ from hb, show g = _ from hg], hu⟩)
theorem r8same_con (hs : Sm m.natAbs) (hs' : Sm n.natAbs) : Con Tryz.prog TabAt 10 [DyE m e, DyE n f] (IsV (.bool (decide (e = f) && decide (m = n)))) := by
  cases hef : decide (e = f)
  · exact slots_con [dS m e, dS n f] mix (F := [⟨.bin .eql, s1 0, s1 1, .bool false⟩]) (T := []) (pats := [dP 0, dP 1]) (res := .bool false) (by kernel_rfl) (fcons (fact_eql (gam1 rfl) (gam1 rfl) hef) fnil) enil rfl (inC (into_dP rfl) (inC (into_dP rfl) in0)) outo_bool
  · cases hmn : decide (m = n)
    · exact slots_con [dS m e, dS n f] mix (F := [⟨.bin .eql, s1 0, s1 1, .bool true⟩]) (T := [⟨34, [iP 0, iP 1], .bool false⟩]) (pats := [dP 0, dP 1]) (res := .bool false) (by kernel_rfl) (fcons (fact_eql (gam1 rfl) (gam1 rfl) hef) fnil)
        (econs (slots_ent (by rw [← hmn]; exact r5same_con hs hs') (outC (outo_dP_int rfl) (outC (outo_dP_int rfl) out0)) into_bool) rfl enil) rfl (inC (into_dP rfl) (inC (into_dP rfl) in0)) outo_bool
    · exact slots_con [dS m e, dS n f] mix (F := [⟨.bin .eql, s1 0, s1 1, .bool true⟩]) (T := [⟨34, [iP 0, iP 1], .bool true⟩]) (pats := [dP 0, dP 1]) (res := .bool true) (by kernel_rfl) (fcons (fact_eql (gam1 rfl) (gam1 rfl) hef) fnil)
        (econs (slots_ent (by rw [← hmn]; exact r5same_con hs hs') (outC (outo_dP_int rfl) (outC (outo_dP_int rfl) out0)) into_bool) rfl enil) rfl (inC (into_dP rfl) (inC (into_dP rfl) in0)) outo_bool
/-- Two dyadic numbers brought to one exponent. -/
theorem r8cmp_con {g : Int} {p q : Nat} (a : Al m n e f g p q) (_he : -3000 ≤ e ∧ e ≤ 3000) (_hf : -3000 ≤ f ∧ f ≤ 3000) : Con Tryz.prog TabAt 19 [DyE m e, DyE n f] (IsV (.int .i64 (m * 2 ^ p - n * 2 ^ q).sign)) := by
  have h1 := a.hp
  have h2 := a.hq
  have w1 : IntKind.i64.wrap (e - g) = (p : Int) := by rw [h1]; exact wrap_small (by omega) (by have := a.p1; omega)
  have w2 : IntKind.i64.wrap (f - g) = (q : Int) := by rw [h2]; exact wrap_small (by omega) (by have := a.q1; omega)
  have sm1 : Sm (m.natAbs * 2 ^ p) := by rw [← natAbs_mul_pow]; exact sm_of (k := kBits) a.sm (by unfold kBits; omega)
  have sm2 : Sm (n.natAbs * 2 ^ q) := by rw [← natAbs_mul_pow]; exact sm_of (k := kBits) a.sn (by unfold kBits; omega)
  have hm : Sm m.natAbs := sm_le sm1 (Nat.le_mul_of_pos_right _ (Nat.pow_pos (by decide)))
  have hn : Sm n.natAbs := sm_le sm2 (Nat.le_mul_of_pos_right _ (Nat.pow_pos (by decide)))
  exact slots_con [dS m e, dS n f, valS (intV .i64 g), valS (intV .i64 (p : Int)), iS (m * 2 ^ p), valS (intV .i64 (q : Int)), iS (n * 2 ^ q), valS (intV .i64 (m * 2 ^ p - n * 2 ^ q).sign)] mix
    (F := [⟨.mx false, s1 0, s1 1, s0 2⟩, ⟨.bin .sub, s1 0, s0 2, s0 3⟩, ⟨.bin .sub, s1 1, s0 2, s0 5⟩]) (T := [⟨47, [iP 0, s0 3], iP 4⟩, ⟨47, [iP 1, s0 5], iP 6⟩, ⟨46, [iP 4, iP 6], s0 7⟩]) (pats := [dP 0, dP 1]) (res := s0 7) (by kernel_rfl)
    (fcons (fact_min rfl (gam1 rfl) (gam1 rfl) (gam0 rfl) a.hg) (fcons (fact_sub rfl (gam1 rfl) (gam0 rfl) (gam0 rfl) w1) (fcons (fact_sub rfl (gam1 rfl) (gam0 rfl) (gam0 rfl) w2) fnil)))
    (econs (slots_ent (r5shl_con hm (by have := a.p1; omega) sm1) (outC (outo_dP_int rfl) (outC (outo0 rfl) out0)) (into_iP rfl)) rfl (econs (slots_ent (r5shl_con hn (by have := a.q1; omega) sm2) (outC (outo_dP_int rfl) (outC (outo0 rfl) out0)) (into_iP rfl)) rfl
      (econs (slots_ent (r5cmp_con (sum_bits a.sm a.sn)) (outC (outo_iP rfl) (outC (outo_iP rfl) out0)) (into0 rfl)) rfl enil))) rfl (inC (into_dP rfl) (inC (into_dP rfl) in0)) (outo0 rfl)
theorem r8add_con {g : Int} {p q : Nat} (a : Al m n e f g p q) (hs : (m * 2 ^ p + n * 2 ^ q).natAbs < 2 ^ kBits) (hg : g + tzN (m * 2 ^ p + n * 2 ^ q).natAbs ≤ 3000) :
    Con Tryz.prog TabAt 22 [DyE m e, DyE n f] (Two_ (DyE (oddI (m * 2 ^ p + n * 2 ^ q)) (expI (m * 2 ^ p + n * 2 ^ q) g)) OkK) := by
  have h1 := a.hp
  have h2 := a.hq
  have w1 : IntKind.i64.wrap (e - g) = (p : Int) := by rw [h1]; exact wrap_small (by omega) (by have := a.p1; omega)
  have w2 : IntKind.i64.wrap (f - g) = (q : Int) := by rw [h2]; exact wrap_small (by omega) (by have := a.q1; omega)
  have sm1 : Sm (m.natAbs * 2 ^ p) := by rw [← natAbs_mul_pow]; exact sm_of (k := kBits) a.sm (by unfold kBits; omega)
  have sm2 : Sm (n.natAbs * 2 ^ q) := by rw [← natAbs_mul_pow]; exact sm_of (k := kBits) a.sn (by unfold kBits; omega)
  have hm : Sm m.natAbs := sm_le sm1 (Nat.le_mul_of_pos_right _ (Nat.pow_pos (by decide)))
  have hn : Sm n.natAbs := sm_le sm2 (Nat.le_mul_of_pos_right _ (Nat.pow_pos (by decide)))
  exact slots_con [dS m e, dS n f, valS (intV .i64 g), valS (intV .i64 (p : Int)), iS (m * 2 ^ p), valS (intV .i64 (q : Int)), iS (n * 2 ^ q), iS (m * 2 ^ p + n * 2 ^ q), dS (oddI (m * 2 ^ p + n * 2 ^ q)) (expI (m * 2 ^ p + n * 2 ^ q) g)] mix
    (F := [⟨.mx false, s1 0, s1 1, s0 2⟩, ⟨.bin .sub, s1 0, s0 2, s0 3⟩, ⟨.bin .sub, s1 1, s0 2, s0 5⟩])
    (T := [⟨47, [iP 0, s0 3], iP 4⟩, ⟨47, [iP 1, s0 5], iP 6⟩, ⟨53, [iP 4, iP 6], iP 7⟩, ⟨20, [iP 7, s0 2], .tup [dP 8, .int .i64 0]⟩]) (pats := [dP 0, dP 1]) (res := .tup [dP 8, .int .i64 0]) (by kernel_rfl)
    (fcons (fact_min rfl (gam1 rfl) (gam1 rfl) (gam0 rfl) a.hg) (fcons (fact_sub rfl (gam1 rfl) (gam0 rfl) (gam0 rfl) w1) (fcons (fact_sub rfl (gam1 rfl) (gam0 rfl) (gam0 rfl) w2) fnil)))
    (econs (slots_ent (r5shl_con hm (by have := a.p1; omega) sm1) (outC (outo_dP_int rfl) (outC (outo0 rfl) out0)) (into_iP rfl)) rfl (econs (slots_ent (r5shl_con hn (by have := a.q1; omega) sm2) (outC (outo_dP_int rfl) (outC (outo0 rfl) out0)) (into_iP rfl)) rfl
      (econs (e5add (sum_bits a.sm a.sn) rfl rfl rfl) rfl (econs (slots_ent (r8make_con hs a.g0 a.g1 hg) (outC (outo_iP rfl) (outC (outo0 rfl) out0)) (into_two (into_dP rfl) into_int)) rfl enil)))) rfl (inC (into_dP rfl) (inC (into_dP rfl) in0)) (outo_two (outo_dP rfl) outo_int)
theorem r8top_con (hy : Ny m e) : Con Tryz.prog TabAt 72 [DyE m e] (IsV (.int .i64 (topZ m e))) := by
  by_cases h0 : m = 0
  · have c3 : decide ((limbN m.natAbs : Int) = 0) = true := by rw [limb_eq, h0]; rfl
    rw [show topZ m e = 0 from if_pos h0]
    exact slots_con [dS m e] mix (F := [⟨.bin .eql, s2 0, .int .i64 0, .bool true⟩]) (T := []) (pats := [dP 0]) (res := .int .i64 0) (by kernel_rfl) (fcons (fact_eql (gam2 rfl) (fun _ => rfl) c3) fnil) enil rfl (inC (into_dP rfl) in0) outo_int
  · have c3 : decide ((limbN m.natAbs : Int) = 0) = false := by rw [limb_eq]; exact decide_eq_false (by omega)
    have hbl := ny_blen hy
    have hlo := hy.lo
    have hhi := hy.hi
    rw [show topZ m e = (blen m.natAbs : Int) + e from if_neg h0]
    exact slots_con [dS m e, valS (intV .i64 (blen m.natAbs : Nat)), valS (intV .i64 ((blen m.natAbs : Int) + e))] mix (F := [⟨.bin .eql, s2 0, .int .i64 0, .bool false⟩, ⟨.bin .add, s0 1, s1 0, s0 2⟩]) (T := [⟨107, [sA 0], s0 1⟩]) (pats := [dP 0]) (res := s0 2) (by kernel_rfl)
      (fcons (fact_eql (gam2 rfl) (fun _ => rfl) c3) (fcons (fact_add rfl (gam0 rfl) (gam1 rfl) (gam0 rfl) (wrap_small (by omega) (by omega))) fnil)) (econs (slots_ent (rbits_con (ny_sm hy)) (outC (outo_nat rfl) out0) (into0 rfl)) rfl enil) rfl (inC (into_dP rfl) in0) (outo0 rfl)
end
end Go.Proofs.YtkpjikaobjpkoaaGreatDoor
/-
  The reference's dyadic numbers by their values; rounding.
-/
namespace Go.Proofs.YtkpjikaobjpkoaaGreatDoor
open Go.RowKit Go.Ev

/-- A number that a dyadic number within bounds stands for. -/
def DyOk (V : Int) : Prop := ∃ m e, ((m = 0 ∧ e = 0) ∨ m % 2 = 1) ∧ -3000 ≤ e ∧ V = valD m e ∧ V.natAbs < 2 ^ kLim
theorem DyOk.lim {V : Int} (h : DyOk V) : V.natAbs < 2 ^ kLim := by
  obtain ⟨_, _, _, _, _, h⟩ := h; exact h
theorem dyOk_of {w : World} {x : Value} {V : Int} (h : DyV w x V) : DyOk V := by
  obtain ⟨m, e, _, h⟩ := h
  exact ⟨m, e, h⟩
theorem nf_make {m e : Int} : (oddI m = 0 ∧ expI m e = 0) ∨ oddI m % 2 = 1 := by
  unfold oddI expI
  by_cases h0 : m = 0
  · rw [if_pos h0, if_pos h0]; exact .inl ⟨rfl, rfl⟩
  · rw [if_neg h0, if_neg h0]
    obtain ⟨k, e1, e2⟩ := tz_spec (n := m.natAbs) (by omega)
    refine .inr ?_
    rw [e2]
    unfold sgnI
    split <;> omega
theorem exp_make {m e : Int} (he : -3000 ≤ e) : -3000 ≤ expI m e := by
  unfold expI
  by_cases h0 : m = 0
  · rw [if_pos h0]; omega
  · rw [if_neg h0]; omega
theorem dyOk_make {m e V : Int} (he : -3000 ≤ e) (hV : valD m e = V) (hl : V.natAbs < 2 ^ kLim) : DyOk V := ⟨oddI m, expI m e, nf_make, exp_make he, by rw [valD_make he, hV], hl⟩
theorem dyV_make {w : World} {x : Value} {m e V : Int} (h : DyR w x (oddI m) (expI m e)) (he : -3000 ≤ e) (hV : valD m e = V) (hl : V.natAbs < 2 ^ kLim) : DyV w x V := ⟨oddI m, expI m e, h, nf_make, exp_make he, by rw [valD_make he, hV], hl⟩
open Classical in
noncomputable def manV (V : Int) : Int := if h : DyOk V then Classical.choose h else 0
open Classical in
noncomputable def expV (V : Int) : Int := if h : DyOk V then Classical.choose (Classical.choose_spec h) else 0
theorem manV_spec {V : Int} (h : DyOk V) : ((manV V = 0 ∧ expV V = 0) ∨ manV V % 2 = 1) ∧ -3000 ≤ expV V ∧ V = valD (manV V) (expV V) ∧ V.natAbs < 2 ^ kLim := by
  unfold manV expV
  rw [dif_pos h, dif_pos h]
  exact Classical.choose_spec (Classical.choose_spec h)
theorem ny_V {V : Int} (h : DyOk V) : Ny (manV V) (expV V) := by
  obtain ⟨h1, h2, h3, h4⟩ := manV_spec h
  exact ny_lim h1 h2 (h3 ▸ h4)
theorem dyK_out {V : Int} (h : DyOk V) (w : World) (v : Value) (hv : DyK V w v) : DyE (manV V) (expV V) w v := by
  obtain ⟨h1, h2, h3, h4⟩ := manV_spec h
  obtain ⟨m, e, g0, g1, g2, g3, g4⟩ := hv
  obtain ⟨rfl, rfl⟩ := valD_inj h1 g1 h2 g2 (h3.symm.trans g3)
  exact g0
theorem dyK_in {V : Int} (h : DyOk V) (w : World) (v : Value) (hv : DyE (manV V) (expV V) w v) : DyK V w v := by
  obtain ⟨h1, h2, h3, h4⟩ := manV_spec h
  exact ⟨_, _, hv, h1, h2, h3, h4⟩
noncomputable def vS (V : Int) : Slot := dS (manV V) (expV V)
section
variable {L : List Slot} {A : World → Prop} {j : Nat} {V : Int}
theorem into_vP (hV : DyOk V) (h : nthS L j = vS V) : @Into ⟨rhoS L⟩ (tabsL A L) (DyK V) (dP j) := @Into.of ⟨rhoS L⟩ _ _ _ _ (into_dP h) (dyK_out hV)
theorem outo_vP (hV : DyOk V) (h : nthS L j = vS V) : @Outo ⟨rhoS L⟩ (tabsL A L) (dP j) (DyK V) := @Outo.to ⟨rhoS L⟩ _ _ _ _ (outo_dP h) (dyK_in hV)
end
theorem valD_subz (m n g : Int) : valD (m - n) g = valD m g - valD n g := by rw [Int.sub_eq_add_neg, valD_add, valD_neg, ← Int.sub_eq_add_neg]
theorem al_V {A B : Int} (hA : DyOk A) (hB : DyOk B) : ∃ g p q, Al (manV A) (manV B) (expV A) (expV B) g p q ∧ valD (manV A * 2 ^ p + manV B * 2 ^ q) g = A + B ∧ valD (manV A * 2 ^ p - manV B * 2 ^ q) g = A - B := by
  obtain ⟨_, h2, h3, h4⟩ := manV_spec hA
  obtain ⟨_, g2, g3, g4⟩ := manV_spec hB
  have yA := ny_V hA
  have yB := ny_V hB
  obtain ⟨g, p, q, al⟩ := al_of h2 yA.hi g2 yB.hi (h3 ▸ h4) (g3 ▸ g4)
  exact ⟨g, p, q, al, by rw [valD_add, al.vm, al.vn, ← h3, ← g3], by rw [valD_subz, al.vm, al.vn, ← h3, ← g3]⟩
section
variable {L : List Slot} {i j k l : Nat} {A B C V m e p : Int}
theorem v8cmp_con (hA : DyOk A) (hB : DyOk B) : Con Tryz.prog TabAt 19 [DyK A, DyK B] (IsV (.int .i64 (A - B).sign)) := by
  obtain ⟨g, p, q, al, _, h⟩ := al_V hA hB
  have := r8cmp_con al ⟨(ny_V hA).lo, (ny_V hA).hi⟩ ⟨(ny_V hB).lo, (ny_V hB).hi⟩
  rw [← valD_sign _ g, h] at this
  exact con_imp this (all2_cons (dyK_out hA) (all2_cons (dyK_out hB) all2_nil)) fun _ _ h => h
theorem e8cmp (hA : DyOk A) (hB : DyOk B) (h1 : nthS L i = vS A) (h2 : nthS L j = vS B) (h3 : (nthS L k).v0.v = .int .i64 (A - B).sign) : @EntOk ⟨rhoS L⟩ Tryz.prog (tabsL TabAt L) ⟨19, [dP i, dP j], s0 k⟩ :=
  slots_ent (v8cmp_con hA hB) (outC (outo_vP hA h1) (outC (outo_vP hB h2) out0)) (into0 h3)
theorem v8add_con (hA : DyOk A) (hB : DyOk B) (hl : (A + B).natAbs < 2 ^ kLim) : Con Tryz.prog TabAt 22 [DyK A, DyK B] (Two_ (DyK (A + B)) OkK) := by
  obtain ⟨g, p, q, al, h, _⟩ := al_V hA hB
  obtain ⟨h1, h2⟩ := exact_pre al.g0 al.g1 (h ▸ hl)
  exact con_imp (r8add_con al h1 h2) (all2_cons (dyK_out hA) (all2_cons (dyK_out hB) all2_nil)) fun w v ⟨a, b, e, ha, hb⟩ => ⟨a, b, e, dyV_make ha al.g0 h hl, hb⟩
theorem ok_add (hA : DyOk A) (hB : DyOk B) (hl : (A + B).natAbs < 2 ^ kLim) : DyOk (A + B) := by
  obtain ⟨g, p, q, al, h, _⟩ := al_V hA hB
  exact dyOk_make al.g0 h hl
theorem ok_neg (hA : DyOk A) : DyOk (-A) := by
  obtain ⟨h1, h2, h3, h4⟩ := manV_spec hA
  exact dyOk_make (m := -manV A) h2 (by rw [valD_neg, ← h3]) (by rw [Int.natAbs_neg]; exact h4)
theorem ok_sub (hA : DyOk A) (hB : DyOk B) (hl : (A - B).natAbs < 2 ^ kLim) : DyOk (A - B) := by
  rw [Int.sub_eq_add_neg] at hl ⊢
  exact ok_add hA (ok_neg hB) hl
theorem v8neg_con (hA : DyOk A) : Con Tryz.prog TabAt 81 [DyK A] (DyK (-A)) := by
  obtain ⟨h1, h2, h3, h4⟩ := manV_spec hA
  exact con_imp (r8neg_con (ny_sm (ny_V hA))) (all2_cons (dyK_out hA) all2_nil) fun w v h => ⟨_, _, h, dyV_neg h1, h2, by rw [valD_neg, ← h3], by rw [Int.natAbs_neg]; exact h4⟩
theorem v8same_con (hA : DyOk A) (hB : DyOk B) : Con Tryz.prog TabAt 10 [DyK A, DyK B] (IsV (.bool (decide (A = B)))) := by
  obtain ⟨h1, h2, h3, h4⟩ := manV_spec hA
  obtain ⟨g1, g2, g3, g4⟩ := manV_spec hB
  have e : (decide (expV A = expV B) && decide (manV A = manV B)) = decide (A = B) := by
    rw [Bool.eq_iff_iff, Bool.and_eq_true, decide_eq_true_iff, decide_eq_true_iff, decide_eq_true_iff]
    constructor
    · rintro ⟨a, b⟩
      rw [h3, g3, a, b]
    · intro h
      obtain ⟨a, b⟩ := valD_inj h1 g1 h2 g2 (by rw [← h3, ← g3, h])
      exact ⟨b, a⟩
  rw [← e]
  exact con_imp (r8same_con (ny_sm (ny_V hA)) (ny_sm (ny_V hB))) (all2_cons (dyK_out hA) (all2_cons (dyK_out hB) all2_nil)) fun _ _ h => h
theorem v8sub_con (hA : DyOk A) (hB : DyOk B) (hl : (A - B).natAbs < 2 ^ kLim) : Con Tryz.prog TabAt 36 [DyK A, DyK B] (Two_ (DyK (A - B)) OkK) := by
  have hN := ok_neg hB
  have hl' : (A + -B).natAbs < 2 ^ kLim := by rw [← Int.sub_eq_add_neg]; exact hl
  have hS := ok_add hA hN hl'
  rw [Int.sub_eq_add_neg]
  exact slots_con [vS A, vS B, vS (-B), vS (A + -B)] mix (F := []) (T := [⟨81, [dP 1], dP 2⟩, ⟨22, [dP 0, dP 2], .tup [dP 3, .int .i64 0]⟩]) (pats := [dP 0, dP 1]) (res := .tup [dP 3, .int .i64 0]) (by kernel_rfl)
    fnil (econs (slots_ent (v8neg_con hB) (outC (outo_vP hB rfl) out0) (into_vP hN rfl)) rfl (econs (slots_ent (v8add_con hA hN hl') (outC (outo_vP hA rfl) (outC (outo_vP hN rfl) out0)) (into_two (into_vP hS rfl) into_int)) rfl enil)) rfl
    (inC (into_vP hA rfl) (inC (into_vP hB rfl) in0)) (outo_two (outo_vP hS rfl) outo_int)
theorem v8make_con (he : -3000 ≤ e) (he1 : e ≤ 3000) (hV : valD m e = V) (hl : V.natAbs < 2 ^ kLim) : Con Tryz.prog TabAt 20 [IntK m, IsV (.int .i64 e)] (Two_ (DyK V) OkK) := by
  obtain ⟨h1, h2⟩ := exact_pre he he1 (hV ▸ hl)
  exact con_imp (r8make_con h1 he he1 h2) (fun _ _ h => h) fun w v ⟨a, b, e, ha, hb⟩ => ⟨a, b, e, dyV_make ha he hV hl, hb⟩
theorem v8valid_con (hA : DyOk A) : Con Tryz.prog TabAt 51 [DyK A] (IsV (.bool true)) := con_imp (r8valid_con (ny_V hA)) (all2_cons (dyK_out hA) all2_nil) fun _ _ h => h
theorem top_small {m e : Int} (he : -3000 ≤ e) (hl : (valD m e).natAbs < 2 ^ kLim) : topZ m e ≤ 2048 := by
  unfold topZ
  by_cases h0 : m = 0
  · rw [if_pos h0]; omega
  · rw [if_neg h0]
    obtain ⟨b, hb, h1, _⟩ := blen_pos (n := m.natAbs) (by omega)
    rw [valD_abs] at hl
    have h2 : 2 ^ b * 2 ^ (e + 10000).toNat < 2 ^ kLim := Nat.lt_of_le_of_lt (Nat.mul_le_mul_right _ h1) hl
    rw [← Nat.pow_add] at h2
    have h3 := (Nat.pow_lt_pow_iff_right (a := 2) (by omega)).1 h2
    unfold kLim at h3
    omega
theorem v8top_con (hA : DyOk A) : Con Tryz.prog TabAt 72 [DyK A] (IsV (.int .i64 (topZ (manV A) (expV A)))) := con_imp (r8top_con (ny_V hA)) (all2_cons (dyK_out hA) all2_nil) fun _ _ h => h
theorem top_V (hA : DyOk A) : decide (topZ (manV A) (expV A) ≤ 2048) = true := by
  obtain ⟨h1, h2, h3, h4⟩ := manV_spec hA
  exact decide_eq_true (top_small h2 (h3 ▸ h4))
/-- Half of a number. -/
theorem v8half_con (hA : DyOk A) (hd : ∃ q, A = q * 2 ^ (kLow + 1)) (hC : A = C * 2) : Con Tryz.prog TabAt 75 [DyK A, IsV (.int .i64 (-1))] (Two_ (DyK C) OkK) ∧ DyOk C := by
  obtain ⟨h1, h2, h3, h4⟩ := manV_spec hA
  have hy := ny_V hA
  obtain ⟨m, hm⟩ : ∃ m, manV A = m := ⟨_, rfl⟩
  obtain ⟨e, he⟩ : ∃ e, expV A = e := ⟨_, rfl⟩
  rw [hm, he] at h1 h3 hy
  rw [he] at h2
  have hge : -2999 ≤ e := by
    rcases h1 with ⟨_, h0⟩ | h1
    · omega
    · obtain ⟨q, hq⟩ := hd
      refine Int.not_lt.1 fun hlt => ?_
      obtain ⟨j, hj⟩ : ∃ j : Nat, kLow + 1 = (e + 10000).toNat + (j + 1) := ⟨kLow - (e + 10000).toNat, by unfold kLow; omega⟩
      rw [h3] at hq
      unfold valD at hq
      rw [hj, Int.pow_add, Int.pow_succ, ← Int.mul_assoc, Int.mul_comm q, Int.mul_assoc, Int.mul_comm m] at hq
      have := Int.eq_of_mul_eq_mul_left (two_pow_ne _) hq
      rw [← Int.mul_assoc] at this
      omega
  have hV : valD m (e - 1) = C := by
    have e2 : valD m e = valD m (e - 1) * 2 := by
      unfold valD
      rw [Int.mul_assoc, ← Int.pow_succ, show (e - 1 + 10000).toNat.succ = (e + 10000).toNat by omega]
    omega
  have hlC : C.natAbs < 2 ^ kLim := by omega
  have hOk : DyOk C := dyOk_make (by omega) hV hlC
  have hhi := hy.hi
  refine ⟨con_imp (Rs := [DyE m e, IsV (.int .i64 (-1))]) ?_ (all2_cons (fun w v h => by have := dyK_out hA w v h; rw [hm, he] at this; exact this) (all2_same all2_nil)) fun _ _ h => h, hOk⟩
  exact slots_con [dS m e, valS (intV .i64 (e - 1)), vS C] mix (F := [⟨.bin .add, s1 0, .int .i64 (-1), s0 1⟩]) (T := [⟨20, [iP 0, s0 1], .tup [dP 2, .int .i64 0]⟩]) (pats := [dP 0, .int .i64 (-1)]) (res := .tup [dP 2, .int .i64 0]) (by kernel_rfl)
    (fcons (fact_add rfl (gam1 rfl) (fun _ => rfl) (gam0 rfl) (wrap_small (by omega) (by omega))) fnil) (econs (slots_ent (v8make_con (by omega) (by omega) hV hlC) (outC (outo_dP_int rfl) (outC (outo0 rfl) out0)) (into_two (into_vP hOk rfl) into_int)) rfl enil) rfl
    (inC (into_dP rfl) (inC into_int in0)) (outo_two (outo_vP hOk rfl) outo_int)
end
end Go.Proofs.YtkpjikaobjpkoaaGreatDoor
