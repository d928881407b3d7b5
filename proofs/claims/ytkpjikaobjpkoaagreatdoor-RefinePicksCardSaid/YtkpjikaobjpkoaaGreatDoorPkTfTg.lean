/-
  The reference's rounding, intervals and Pick, on symbols.
-/
import Derived.Test.YtkpjikaobjpkoaaGreatDoorPkTdTe
namespace Go.Proofs.YtkpjikaobjpkoaaGreatDoor
open Go.RowKit Go.Ev

/-! ### Fractions with a power of two below -/
def RatK (z : Int) (d : Nat) : World → Value → Prop := fun w v => ∃ u t, v = .agg #[.bool (decide (z < 0)), u, t] ∧ NatR w u z.natAbs ∧ NatR w t d
noncomputable def rP (i j : Nat) : AVal := .agg [s0 i, sA i, sA j]
section
variable {L : List Slot} {A : World → Prop} {i j : Nat} {z : Int} {d : Nat} {u v : OneVal}
theorem into_rP (h : nthS L i = natS z.natAbs (boolV (decide (z < 0))) v) (h' : nthS L j = nS d) : @Into ⟨rhoS L⟩ (tabsL A L) (RatK z d) (rP i j) :=
  letI : Rho := ⟨rhoS L⟩
  (into_agg3 (into0 (x := .bool (decide (z < 0))) (by rw [h]; rfl)) (into_nat h) (into_nat h')).of fun w v ⟨u, t, q, hu, ht⟩ => ⟨_, u, t, q, rfl, hu, ht⟩
theorem outo_rP (h : nthS L i = natS z.natAbs (boolV (decide (z < 0))) v) (h' : nthS L j = nS d) : @Outo ⟨rhoS L⟩ (tabsL A L) (rP i j) (RatK z d) :=
  letI : Rho := ⟨rhoS L⟩
  (outo_agg3 (outo0 (x := .bool (decide (z < 0))) (by rw [h]; rfl)) (outo_nat h) (outo_nat h')).to fun w v ⟨b, u, t, q, hb, hu, ht⟩ => ⟨u, t, by rw [q, show b = _ from hb], hu, ht⟩
end
theorem blen_pow (k : Nat) : blen (2 ^ k) = k + 1 := blen_eq (Nat.le_refl _) (by rw [Nat.pow_succ]; have := Nat.pow_pos (n := k) (show 0 < 2 by decide); omega)
theorem tzN_pow (k : Nat) : tzN (2 ^ k) = k := tz_eq (m := 0) (by simp)
theorem sm_pow {k : Nat} (hk : k ≤ 1000000) : Sm (2 ^ k) := sm_of (k := k + 1) (Nat.pow_lt_pow_right (by decide) (by omega)) (by omega)
section
variable {L : List Slot} {i j k l : Nat} {A B C V m e p z : Int}
theorem one_con : Con Tryz.prog TabAt 52 [IsV (.int .u64 1)] (NatK 1) := rof_con (n := 1) (by decide)
theorem r8one_con {k : Nat} (hk : k ≤ 1000000) : Con Tryz.prog TabAt 127 [IsV (.int .i64 (k : Int))] (NatK (2 ^ k)) :=
  slots_con [valS (intV .i64 (k : Int)), nS 1, nS (2 ^ k)] mix (F := []) (T := [⟨52, [.int .u64 1], sA 1⟩, ⟨102, [sA 1, s0 0], sA 2⟩]) (pats := [s0 0]) (res := sA 2) (by kernel_rfl)
    fnil (econs (slots_ent one_con (outC outo_int out0) (into_nat rfl)) rfl (econs (slots_ent (by have := rshl_con (n := 1) (k := k) (sm_of (k := 1) (by decide) (by decide)) (by omega); rw [Nat.one_mul] at this; exact this) (outC (outo_nat rfl) (outC (outo0 rfl) out0)) (into_nat rfl)) rfl enil)) rfl (inC (into0 rfl) in0) (outo_nat rfl)
/-- The fraction of m * 2^e. -/
theorem r8rat_con {k : Nat} (hy : Ny m e) (h : (0 ≤ e ∧ k = 0 ∧ z = m * 2 ^ e.toNat) ∨ (e < 0 ∧ k = (-e).toNat ∧ z = m)) : Con Tryz.prog TabAt 78 [DyE m e] (RatK z (2 ^ k)) := by
  have hlo := hy.lo
  have hhi := hy.hi
  rcases h with ⟨he, rfl, rfl⟩ | ⟨he, rfl, rfl⟩
  · obtain ⟨a, ha⟩ : ∃ a : Nat, e = (a : Int) := ⟨e.toNat, by omega⟩
    have hc : decide ((0 : Int) ≤ e) = true := decide_eq_true he
    have hsm : Sm (m.natAbs * 2 ^ a) := sm_of (k := kBits + a) (by
      rw [Nat.pow_add]
      exact Nat.mul_lt_mul_of_pos_right hy.sz (Nat.pow_pos (by decide))) (by unfold kBits; omega)
    have e1 : e.toNat = a := by omega
    rw [e1, Nat.pow_zero]
    exact slots_con [dS m e, iS (m * 2 ^ a), nS 1] mix (F := [⟨.bin .geq, s1 0, .int .i64 0, .bool true⟩]) (T := [⟨47, [iP 0, s1 0], iP 1⟩, ⟨52, [.int .u64 1], sA 2⟩]) (pats := [dP 0]) (res := rP 1 2) (by kernel_rfl)
      (fcons (fact_geq (gam1 rfl) (fun _ => rfl) hc) fnil) (econs (slots_ent (r5shl_con (a := a) (ny_sm hy) (by omega) hsm) (outC (outo_dP_int rfl) (outC (outo1 (by rw [← ha]; rfl)) out0)) (into_iP rfl)) rfl (econs (slots_ent one_con (outC outo_int out0) (into_nat rfl)) rfl enil)) rfl (inC (into_dP rfl) in0) (outo_rP rfl rfl)
  · obtain ⟨a, ha⟩ : ∃ a : Nat, -e = (a : Int) := ⟨(-e).toNat, by omega⟩
    have hc : decide ((0 : Int) ≤ e) = false := decide_eq_false (by omega)
    have e1 : (-e).toNat = a := by omega
    rw [e1]
    exact slots_con [dS z e, valS (intV .i64 (a : Int)), nS (2 ^ a)] mix (F := [⟨.bin .geq, s1 0, .int .i64 0, .bool false⟩, ⟨.neg, s1 0, s1 0, s0 1⟩]) (T := [⟨127, [s0 1], sA 2⟩]) (pats := [dP 0]) (res := rP 0 2) (by kernel_rfl)
      (fcons (fact_geq (gam1 rfl) (fun _ => rfl) hc) (fcons (fact_neg rfl (gam1 rfl) (gam0 rfl) (by rw [ha]; exact wrap_small (by omega) (by omega))) fnil)) (econs (slots_ent (r8one_con (by omega)) (outC (outo0 rfl) out0) (into_nat rfl)) rfl enil) rfl (inC (into_dP rfl) in0) (outo_rP rfl rfl)
/-- z * 2^p / 2^k, rounded down. -/
theorem r8cut_con {k : Nat} (hs : Sm z.natAbs) (hs1 : Sm (z.natAbs + 1)) (hk : k ≤ 3000) (hp0 : -3000 ≤ p) (hp1 : p ≤ 3000) (c : Int) (hc : ((k : Int) ≤ p ∧ c = z * 2 ^ (p - k).toNat ∧ Sm (z.natAbs * 2 ^ (p - k).toNat)) ∨ (p < (k : Int) ∧ c = z / 2 ^ ((k : Int) - p).toNat)) :
    Con Tryz.prog TabAt 77 [RatK z (2 ^ k), IsV (.int .i64 p)] (IntK c) := by
  have hsp : Sm (2 ^ k) := sm_pow (by omega)
  have b1 : IntKind.i64.wrap (((k + 1 : Nat) : Int) - 1) = (k : Int) := by rw [show ((k + 1 : Nat) : Int) - 1 = (k : Int) by omega]; exact wrap_small (by omega) (by omega)
  have hb : Con Tryz.prog TabAt 107 [NatK (2 ^ k)] (IsV (.int .i64 ((k + 1 : Nat) : Int))) := by have := rbits_con hsp; rw [blen_pow] at this; exact this
  have hz : Con Tryz.prog TabAt 48 [NatK (2 ^ k)] (IsV (.int .i64 (k : Int))) := by have := rzeros_con hsp; rw [tzN_pow] at this; exact this
  have heq : decide ((k : Int) = (k : Int)) = true := decide_eq_true rfl
  rcases hc with ⟨h1, rfl, h3⟩ | ⟨h1, rfl⟩
  · obtain ⟨a, ha⟩ : ∃ a : Nat, p - k = (a : Int) := ⟨(p - k).toNat, by omega⟩
    have e1 : (p - k).toNat = a := by omega
    rw [e1] at h3 ⊢
    have hge : decide ((k : Int) ≤ p) = true := decide_eq_true h1
    exact slots_con [iS z, nS (2 ^ k), valS (intV .i64 p), valS (intV .i64 ((k + 1 : Nat) : Int)), valS (intV .i64 (k : Int)), valS (intV .i64 (a : Int)), iS (z * 2 ^ a), valS (intV .i64 (k : Int))] mix
      (F := [⟨.bin .sub, s0 3, .int .i64 1, s0 4⟩, ⟨.bin .eql, s0 7, s0 4, .bool true⟩, ⟨.bin .geq, s0 2, s0 4, .bool true⟩, ⟨.bin .sub, s0 2, s0 4, s0 5⟩])
      (T := [⟨107, [sA 1], s0 3⟩, ⟨48, [sA 1], s0 7⟩, ⟨47, [iP 0, s0 5], iP 6⟩]) (pats := [rP 0 1, s0 2]) (res := iP 6) (by kernel_rfl)
      (fcons (fact_sub rfl (gam0 rfl) (fun _ => rfl) (gam0 rfl) b1) (fcons (fact_eql (gam0 rfl) (gam0 rfl) heq) (fcons (fact_geq (gam0 rfl) (gam0 rfl) hge) (fcons (fact_sub rfl (gam0 rfl) (gam0 rfl) (gam0 rfl) (by rw [ha]; exact wrap_small (by omega) (by omega))) fnil))))
      (econs (slots_ent hb (outC (outo_nat rfl) out0) (into0 rfl)) rfl (econs (slots_ent hz (outC (outo_nat rfl) out0) (into0 rfl)) rfl (econs (e5shl hs (by omega) h3 rfl rfl rfl) rfl enil))) rfl (inC (into_rP rfl rfl) (inC (into0 rfl) in0)) (outo_iP rfl)
  · obtain ⟨a, ha⟩ : ∃ a : Nat, (k : Int) - p = (a : Int) := ⟨((k : Int) - p).toNat, by omega⟩
    have e1 : ((k : Int) - p).toNat = a := by omega
    rw [e1]
    have hge : decide ((k : Int) ≤ p) = false := decide_eq_false (by omega)
    exact slots_con [iS z, nS (2 ^ k), valS (intV .i64 p), valS (intV .i64 ((k + 1 : Nat) : Int)), valS (intV .i64 (k : Int)), valS (intV .i64 (a : Int)), iS (z / 2 ^ a), valS (intV .i64 (k : Int))] mix
      (F := [⟨.bin .sub, s0 3, .int .i64 1, s0 4⟩, ⟨.bin .eql, s0 7, s0 4, .bool true⟩, ⟨.bin .geq, s0 2, s0 4, .bool false⟩, ⟨.bin .sub, s0 4, s0 2, s0 5⟩])
      (T := [⟨107, [sA 1], s0 3⟩, ⟨48, [sA 1], s0 7⟩, ⟨79, [iP 0, s0 5], iP 6⟩]) (pats := [rP 0 1, s0 2]) (res := iP 6) (by kernel_rfl)
      (fcons (fact_sub rfl (gam0 rfl) (fun _ => rfl) (gam0 rfl) b1) (fcons (fact_eql (gam0 rfl) (gam0 rfl) heq) (fcons (fact_geq (gam0 rfl) (gam0 rfl) hge) (fcons (fact_sub rfl (gam0 rfl) (gam0 rfl) (gam0 rfl) (by rw [ha]; exact wrap_small (by omega) (by omega))) fnil))))
      (econs (slots_ent hb (outC (outo_nat rfl) out0) (into0 rfl)) rfl (econs (slots_ent hz (outC (outo_nat rfl) out0) (into0 rfl)) rfl (econs (slots_ent (r5shr_con hs hs1 (by omega)) (outC (outo_iP rfl) (outC (outo0 rfl) out0)) (into_iP rfl)) rfl enil))) rfl (inC (into_rP rfl rfl) (inC (into0 rfl) in0)) (outo_iP rfl)
/-- A precision that is permitted. -/
theorem perm_con (h1 : -2048 ≤ p) (h2 : p ≤ 8192) : Con Tryz.prog TabAt 76 [IsV (.int .i64 p)] (IsV (.bool true)) :=
  slots_con [valS (intV .i64 p)] mix (F := [⟨.bin .geq, s0 0, .int .i64 (-2048), .bool true⟩, ⟨.bin .leq, s0 0, .int .i64 8192, .bool true⟩]) (T := []) (pats := [s0 0]) (res := .bool true) (by kernel_rfl)
    (fcons (fact_geq (gam0 rfl) (fun _ => rfl) (decide_eq_true h1)) (fcons (fact_leq (gam0 rfl) (fun _ => rfl) (decide_eq_true h2)) fnil)) enil rfl (inC (into0 rfl) in0) outo_bool
theorem unit_ok (h1 : 0 ≤ p) (h2 : p ≤ 600) : DyOk (2 ^ (10000 - p).toNat) ∧ valD 1 (-p) = 2 ^ (10000 - p).toNat ∧ ((2 : Int) ^ (10000 - p).toNat).natAbs < 2 ^ kLim := by
  have hv : valD 1 (-p) = 2 ^ (10000 - p).toNat := by unfold valD; rw [Int.one_mul]; congr 1; omega
  have hl : ((2 : Int) ^ (10000 - p).toNat).natAbs < 2 ^ kLim := by
    have h : (10000 - p).toNat < kLim := by show _ < 12000; omega
    have e : Int.natAbs 2 = 2 := rfl
    rw [Int.natAbs_pow, e]
    generalize kLim = K at h ⊢
    exact Nat.pow_lt_pow_right (by decide) h
  exact ⟨dyOk_make (by omega) hv hl, hv, hl⟩
theorem v9unit_con (h1 : 0 ≤ p) (h2 : p ≤ 600) : Con Tryz.prog TabAt 35 [IsV (.int .i64 p)] (Two_ (DyK (2 ^ (10000 - p).toNat)) OkK) := by
  obtain ⟨hok, hv, hl⟩ := unit_ok h1 h2
  exact slots_con [valS (intV .i64 p), iS 1, valS (intV .i64 (-p)), vS (2 ^ (10000 - p).toNat)] mix (F := [⟨.neg, s0 0, s0 0, s0 2⟩]) (T := [⟨76, [s0 0], .bool true⟩, ⟨21, [.int .i64 1], iP 1⟩, ⟨20, [iP 1, s0 2], .tup [dP 3, .int .i64 0]⟩]) (pats := [s0 0]) (res := .tup [dP 3, .int .i64 0]) (by kernel_rfl)
    (fcons (fact_neg rfl (gam0 rfl) (gam0 rfl) (wrap_small (by omega) (by omega))) fnil)
    (econs (slots_ent (perm_con (by omega) (by omega)) (outC (outo0 rfl) out0) into_bool) rfl (econs (slots_ent r5of1_con (outC outo_int out0) (into_iP rfl)) rfl (econs (slots_ent (v8make_con (by omega) (by omega) hv hl) (outC (outo_iP rfl) (outC (outo0 rfl) out0)) (into_two (into_vP hok rfl) into_int)) rfl enil))) rfl (inC (into0 rfl) in0) (outo_two (outo_vP hok rfl) outo_int)
/-- A number that lies on the finest grid. -/
theorem v9on_con (hA : DyOk A) : Con Tryz.prog TabAt 73 [DyK A, IsV (.int .i64 8192)] (IsV (.bool true)) := by
  have hy := ny_V hA
  have hlo := hy.lo
  refine con_imp ?_ (all2_cons (dyK_out hA) (all2_same all2_nil)) fun _ _ h => h
  have hperm := slots_ent (L := [dS (manV A) (expV A)]) (pats := [.int .i64 8192]) (res := .bool true) (perm_con (p := 8192) (by omega) (by omega)) (outC outo_int out0) into_bool
  cases h0 : decide (manV A = 0)
  · have c1 : decide ((limbN (manV A).natAbs : Int) = 0) = false := by rw [limb_eq]; have := of_decide_eq_false h0; exact decide_eq_false (by omega)
    exact slots_con [dS (manV A) (expV A)] mix (F := [⟨.bin .eql, s2 0, .int .i64 0, .bool false⟩, ⟨.bin .geq, s1 0, .int .i64 (-8192), .bool true⟩]) (T := [⟨76, [.int .i64 8192], .bool true⟩]) (pats := [dP 0, .int .i64 8192]) (res := .bool true) (by kernel_rfl)
      (fcons (fact_eql (gam2 rfl) (fun _ => rfl) c1) (fcons (fact_geq (gam1 rfl) (fun _ => rfl) (decide_eq_true (by omega))) fnil)) (econs hperm rfl enil) rfl (inC (into_dP rfl) (inC into_int in0)) outo_bool
  · have c1 : decide ((limbN (manV A).natAbs : Int) = 0) = true := by rw [limb_eq, of_decide_eq_true h0]; rfl
    exact slots_con [dS (manV A) (expV A)] mix (F := [⟨.bin .eql, s2 0, .int .i64 0, .bool true⟩]) (T := [⟨76, [.int .i64 8192], .bool true⟩]) (pats := [dP 0, .int .i64 8192]) (res := .bool true) (by kernel_rfl)
      (fcons (fact_eql (gam2 rfl) (fun _ => rfl) c1) fnil) (econs hperm rfl enil) rfl (inC (into_dP rfl) (inC into_int in0)) outo_bool
end
end Go.Proofs.YtkpjikaobjpkoaaGreatDoor
/-
  The reference's rounding to the nearest, intervals and Pick, on symbols.
-/
namespace Go.Proofs.YtkpjikaobjpkoaaGreatDoor
open Go.RowKit Go.Ev

theorem natAbs_ediv_le (a : Int) {d : Int} (h : 0 < d) : (a / d).natAbs ≤ a.natAbs := by
  have h1 := Int.ediv_mul_le a (Int.ne_of_gt h)
  have h2 := Int.lt_ediv_add_one_mul_self a h
  rcases Int.lt_or_le a 0 with h0 | h0
  · have hq : a / d < 0 := Int.ediv_neg_of_neg_of_pos h0 h
    have h3 : a ≤ a / d := by
      refine (Int.le_ediv_iff_mul_le h).2 ?_
      have := Int.mul_le_mul_of_nonpos_left (a := a) (b := d) (c := 1) (by omega) (by omega)
      omega
    omega
  · have hq : 0 ≤ a / d := Int.ediv_nonneg h0 (by omega)
    have h3 : a / d ≤ a := Int.ediv_le_self _ h0
    omega
theorem two_pos (k : Nat) : (0 : Int) < 2 ^ k := by
  have := two_pow_cast k
  have h2 := Nat.pow_pos (n := k) (show 0 < 2 by decide)
  omega
def kBig : Nat := 10000
theorem sm_big {n : Nat} (h : n < 2 ^ kLim) : Sm n ∧ Sm (n + 1) ∧ Sm (n + 2) ∧ Sm (n + 3) := by
  have h3 : (3 : Nat) < 2 ^ kLim := Nat.lt_of_lt_of_le (show 3 < 2 ^ 2 by decide) (Nat.pow_le_pow_right (by decide) (by decide))
  have hs : ∀ m, m ≤ n + 3 → Sm m := fun m hm => sm_of (k := kLim + 1) (by rw [Nat.pow_succ]; generalize 2 ^ kLim = K at h h3 ⊢; omega) (by unfold kLim; omega)
  exact ⟨hs _ (by omega), hs _ (by omega), hs _ (by omega), hs _ (by omega)⟩
theorem on_grid_near {V p : Int} (hp : p ≤ 600) (h : ∃ q, V = q * 2 ^ (10000 - p).toNat) : (V / 2 ^ (9999 - p).toNat + 1) / 2 * 2 ^ (10000 - p).toNat = V := by
  obtain ⟨q, rfl⟩ := h
  have e : (10000 - p).toNat = (9999 - p).toNat + 1 := by omega
  rw [e, Int.pow_succ]
  have h0 := two_pow_ne (9999 - p).toNat
  generalize (2 : Int) ^ (9999 - p).toNat = d at h0 ⊢
  rw [show q * (d * 2) = q * 2 * d by rw [Int.mul_assoc, Int.mul_comm 2 d], Int.mul_ediv_cancel _ h0, show (q * 2 + 1) / 2 = q by omega, Int.mul_assoc, Int.mul_comm 2 d]
theorem nearV_eq {V p : Int} (hp : p ≤ 600) : nearV V p = (V / 2 ^ (9999 - p).toNat + 1) / 2 * 2 ^ (10000 - p).toNat := by
  unfold nearV
  split
  · rename_i h
    exact (on_grid_near hp (by unfold onB at h; exact @of_decide_eq_true _ (Classical.propDecidable _) h)).symm
  · rfl
theorem cut_near {V p : Int} (hp : p ≤ 600) : valD ((V / 2 ^ (9999 - p).toNat + 1) / 2) (-p) = nearV V p := by
  rw [nearV_eq hp]
  unfold valD
  congr 2; omega
theorem sm_shift {n a : Nat} (h : n < 2 ^ kBits) (ha : a ≤ 5000) : Sm (n * 2 ^ a) := sm_of (k := kBits + a) (by
  rw [Nat.pow_add]
  exact Nat.mul_lt_mul_of_pos_right h (Nat.pow_pos (by decide))) (by unfold kBits; omega)
theorem sm_shift2 {n a : Nat} (h : n < 2 ^ kBits) (ha : a ≤ 5000) : Sm (n * 2 ^ a + 1) := sm_of (k := kBits + a + 1) (by
  have h1 : n * 2 ^ a < 2 ^ (kBits + a) := by
    rw [Nat.pow_add]
    exact Nat.mul_lt_mul_of_pos_right h (Nat.pow_pos (by decide))
  rw [Nat.pow_succ]
  generalize 2 ^ (kBits + a) = K at h1 ⊢
  omega) (by unfold kBits; omega)
theorem sm_shift1 {n : Nat} (h : n < 2 ^ kBits) : Sm (n + 1) := by have := sm_shift2 (a := 0) h (by omega); rwa [Nat.pow_zero, Nat.mul_one] at this
theorem cut_val1 {m e p : Int} {j : Nat} (hj : e + 1 + p = (j : Int)) (hp : p ≤ 600) : valD m e / 2 ^ (9999 - p).toNat = m * 2 ^ j := by
  unfold valD
  rw [show (e + 10000).toNat = j + (9999 - p).toNat by omega, Int.pow_add, ← Int.mul_assoc, Int.mul_ediv_cancel _ (two_pow_ne _)]
theorem cut_val2 {m e p : Int} {j : Nat} (he : -3000 ≤ e) (hj : e + 1 + p = -(j : Int)) : valD m e / 2 ^ (9999 - p).toNat = m / 2 ^ j := by
  unfold valD
  rw [show (9999 - p).toNat = j + (e + 10000).toNat by omega, Int.pow_add, Int.mul_ediv_mul_of_pos_left _ _ (two_pos _)]
theorem all2_same' {R : List (World → Value → Prop)} : ∀ w vs, All2 R w vs → All2 R w vs := fun _ _ h => h
section
variable {L : List Slot} {i j k l : Nat} {A B C V p : Int}
/-- A fraction of a number, and what Cut makes of it. -/
theorem v9cut (hV : DyOk V) (hp0 : 0 ≤ p) (hp1 : p ≤ 512) : ∃ (z : Int) (d : Nat), Con Tryz.prog TabAt 78 [DyK V] (RatK z d) ∧ Con Tryz.prog TabAt 77 [RatK z d, IsV (.int .i64 (p + 1))] (IntK (V / 2 ^ (9999 - p).toNat)) := by
  obtain ⟨h1, h2, h3, h4⟩ := manV_spec hV
  have hy := ny_V hV
  have hlo := hy.lo
  have hhi := hy.hi
  have himp : ∀ {Rs : List (World → Value → Prop)} {R : World → Value → Prop} {f : FuncId}, Con Tryz.prog TabAt f (DyE (manV V) (expV V) :: Rs) R → Con Tryz.prog TabAt f (DyK V :: Rs) R := fun h => con_imp h (all2_cons (dyK_out hV) (all2_same' )) fun _ _ h => h
  generalize manV V = m at h1 h3 hy himp
  generalize expV V = e at h1 h2 h3 hy hlo hhi himp
  rcases Int.lt_or_le e 0 with he | he
  · obtain ⟨k, hk⟩ : ∃ k, (-e).toNat = k := ⟨_, rfl⟩
    refine ⟨m, 2 ^ k, himp (r8rat_con (z := m) hy (.inr ⟨he, hk.symm, rfl⟩)), ?_⟩
    refine r8cut_con (ny_sm hy) (sm_shift1 hy.sz) (by omega) (by omega) (by omega) _ ?_
    rcases Int.lt_or_le (p + 1) (k : Int) with h | h
    · refine .inr ⟨h, ?_⟩
      rw [h3, cut_val2 (j := ((k : Int) - (p + 1)).toNat) h2 (by omega)]
    · refine .inl ⟨h, ?_, sm_shift hy.sz (by omega)⟩
      rw [h3, cut_val1 (j := (p + 1 - (k : Int)).toNat) (by omega) (by omega)]
  · obtain ⟨k, hk⟩ : ∃ k, e.toNat = k := ⟨_, rfl⟩
    have hz : (m * 2 ^ k).natAbs = m.natAbs * 2 ^ k := natAbs_mul_pow m k
    refine ⟨m * 2 ^ k, 2 ^ 0, himp (r8rat_con (k := 0) hy (.inl ⟨he, rfl, by rw [hk]⟩)), ?_⟩
    refine r8cut_con (by rw [hz]; exact sm_shift hy.sz (by omega)) (by rw [hz]; exact sm_shift2 hy.sz (by omega)) (by omega) (by omega) (by omega) _ (.inl ⟨by omega, ?_, ?_⟩)
    · rw [h3, cut_val1 (j := k + (p + 1 - ((0 : Nat) : Int)).toNat) (by omega) (by omega), Int.pow_add, Int.mul_assoc]
    · rw [hz, Nat.mul_assoc, ← Nat.pow_add]
      exact sm_shift hy.sz (by omega)
theorem ok_near (_hV : DyOk V) (hp0 : 0 ≤ p) (hp1 : p ≤ 512) (hl : (nearV V p).natAbs < 2 ^ kLim) : DyOk (nearV V p) := dyOk_make (m := (V / 2 ^ (9999 - p).toNat + 1) / 2) (e := -p) (by omega) (cut_near (by omega)) hl
theorem v9near_con (hV : DyOk V) (hp0 : 0 ≤ p) (hp1 : p ≤ 512) (hl : (nearV V p).natAbs < 2 ^ kLim) : Con Tryz.prog TabAt 33 [DyK V, IsV (.int .i64 p)] (Two_ (DyK (nearV V p)) OkK) := by
  obtain ⟨z, d, hrat, hcut⟩ := v9cut hV hp0 hp1
  have hok := ok_near hV hp0 hp1 hl
  have hcv := cut_near (V := V) (p := p) (by omega)
  have hb : (V / 2 ^ (9999 - p).toNat).natAbs < 2 ^ kLim := Nat.lt_of_le_of_lt (natAbs_ediv_le V (two_pos _)) hV.lim
  generalize V / 2 ^ (9999 - p).toNat = c at hcut hcv hb
  generalize nearV V p = N at hok hcv hl ⊢
  obtain ⟨b0, b1, b2, b3⟩ := sm_big hb
  have h1 : (c + 1).natAbs ≤ c.natAbs + 1 := by omega
  have hs : Con Tryz.prog TabAt 79 [IntK (c + 1), IsV (.int .i64 1)] (IntK ((c + 1) / 2)) := by
    have := r5shr_con (p := c + 1) (a := 1) (sm_le b1 h1) (sm_le b2 (by omega)) (by decide)
    rwa [show (2 : Int) ^ 1 = 2 from rfl] at this
  exact slots_con [vS V, valS (intV .i64 p), iS z, nS d, valS (intV .i64 (p + 1)), iS c, iS 1, iS (c + 1), iS ((c + 1) / 2), valS (intV .i64 (-p)), vS N] mix (F := [⟨.bin .add, s0 1, .int .i64 1, s0 4⟩, ⟨.neg, s0 1, s0 1, s0 9⟩])
    (T := [⟨76, [s0 1], .bool true⟩, ⟨78, [dP 0], rP 2 3⟩, ⟨77, [rP 2 3, s0 4], iP 5⟩, ⟨21, [.int .i64 1], iP 6⟩, ⟨53, [iP 5, iP 6], iP 7⟩, ⟨79, [iP 7, .int .i64 1], iP 8⟩, ⟨20, [iP 8, s0 9], .tup [dP 10, .int .i64 0]⟩])
    (pats := [dP 0, s0 1]) (res := .tup [dP 10, .int .i64 0]) (by kernel_rfl)
    (fcons (fact_add rfl (gam0 rfl) (fun _ => rfl) (gam0 rfl) (wrap_small (by omega) (by omega))) (fcons (fact_neg rfl (gam0 rfl) (gam0 rfl) (wrap_small (by omega) (by omega))) fnil))
    (econs (slots_ent (perm_con (by omega) (by omega)) (outC (outo0 rfl) out0) into_bool) rfl (econs (slots_ent hrat (outC (outo_vP hV rfl) out0) (into_rP rfl rfl)) rfl (econs (slots_ent hcut (outC (outo_rP rfl rfl) (outC (outo0 rfl) out0)) (into_iP rfl)) rfl (econs (slots_ent r5of1_con (outC outo_int out0) (into_iP rfl)) rfl
      (econs (e5add (sm_le b1 (Nat.le_refl _)) rfl rfl rfl) rfl (econs (slots_ent hs (outC (outo_iP rfl) (outC outo_int out0)) (into_iP rfl)) rfl (econs (slots_ent (v8make_con (by omega) (by omega) hcv hl) (outC (outo_iP rfl) (outC (outo0 rfl) out0)) (into_two (into_vP hok rfl) into_int)) rfl enil))))))) rfl
    (inC (into_vP hV rfl) (inC (into0 rfl) in0)) (outo_two (outo_vP hok rfl) outo_int)
/-! ### Intervals -/
end
/-- A struct of six cells. -/
def Agg6 (R1 R2 R3 R4 R5 R6 : World → Value → Prop) : World → Value → Prop := fun w v => ∃ a b c d e f, v = .agg #[a, b, c, d, e, f] ∧ (R1 w a ∧ R2 w b ∧ R3 w c) ∧ R4 w d ∧ R5 w e ∧ R6 w f
theorem into_agg6 {ri : Rho} {G : Tabs} {p1 p2 p3 p4 p5 p6 : AVal} {R1 R2 R3 R4 R5 R6 : World → Value → Prop} (h1 : Into G R1 p1) (h2 : Into G R2 p2) (h3 : Into G R3 p3) (h4 : Into G R4 p4) (h5 : Into G R5 p5) (h6 : Into G R6 p6) : Into G (Agg6 R1 R2 R3 R4 R5 R6) (.agg [p1, p2, p3, p4, p5, p6]) := by
  rintro w v ⟨a, b, c, d, e, f, rfl, ⟨ha, hb, hc⟩, hd, he, hf⟩
  exact ⟨[a, b, c, d, e, f], rfl, a, _, rfl, h1 w a ha, b, _, rfl, h2 w b hb, c, _, rfl, h3 w c hc, d, _, rfl, h4 w d hd, e, _, rfl, h5 w e he, f, [], rfl, h6 w f hf, rfl⟩
theorem outo_agg6 {ri : Rho} {G : Tabs} {p1 p2 p3 p4 p5 p6 : AVal} {R1 R2 R3 R4 R5 R6 : World → Value → Prop} (h1 : Outo G p1 R1) (h2 : Outo G p2 R2) (h3 : Outo G p3 R3) (h4 : Outo G p4 R4) (h5 : Outo G p5 R5) (h6 : Outo G p6 R6) : Outo G (.agg [p1, p2, p3, p4, p5, p6]) (Agg6 R1 R2 R3 R4 R5 R6) := by
  rintro w v ⟨vs, rfl, a, vs', rfl, ha, b, vs2, rfl, hb, c, vs3, rfl, hc, d, vs4, rfl, hd, e, vs5, rfl, he, f, vs6, rfl, hf, rfl⟩
  exact ⟨a, b, c, d, e, f, rfl, ⟨h1 w a ha, h2 w b hb, h3 w c hc⟩, h4 w d hd, h5 w e he, h6 w f hf⟩
def IvK (A B : Int) : World → Value → Prop := fun w v => IvV w v A B
noncomputable def ivP (i j : Nat) : AVal := .agg [s0 i, sA i, s1 i, s0 j, sA j, s1 j]
section
variable {L : List Slot} {T : World → Prop} {i j k l : Nat} {A B C V p : Int}
theorem into_ivP (hA : DyOk A) (hB : DyOk B) (h : nthS L i = vS A) (h' : nthS L j = vS B) : @Into ⟨rhoS L⟩ (tabsL T L) (IvK A B) (ivP i j) :=
  letI : Rho := ⟨rhoS L⟩
  (into_agg6 (into0 (x := .bool (decide (manV A < 0))) (by rw [h]; rfl)) (into_nat (n := (manV A).natAbs) h) (into1 (x := .int .i64 (expV A)) (by rw [h]; rfl)) (into0 (x := .bool (decide (manV B < 0))) (by rw [h']; rfl)) (into_nat (n := (manV B).natAbs) h') (into1 (x := .int .i64 (expV B)) (by rw [h']; rfl))).of fun w v ⟨s, u, e, s', u', f, q, h1, h2⟩ => by
    obtain ⟨x, q1, h3⟩ := dyK_out hA _ _ h1
    obtain ⟨x', q2, h4⟩ := dyK_out hB _ _ h2
    cases q1
    cases q2
    exact ⟨_, _, _, _, _, _, q, ⟨rfl, h3, rfl⟩, rfl, h4, rfl⟩
theorem outo_ivP (hA : DyOk A) (hB : DyOk B) (h : nthS L i = vS A) (h' : nthS L j = vS B) : @Outo ⟨rhoS L⟩ (tabsL T L) (ivP i j) (IvK A B) :=
  letI : Rho := ⟨rhoS L⟩
  (outo_agg6 (outo0 (x := .bool (decide (manV A < 0))) (by rw [h]; rfl)) (outo_nat (n := (manV A).natAbs) h) (outo1 (x := .int .i64 (expV A)) (by rw [h]; rfl)) (outo0 (x := .bool (decide (manV B < 0))) (by rw [h']; rfl)) (outo_nat (n := (manV B).natAbs) h') (outo1 (x := .int .i64 (expV B)) (by rw [h']; rfl))).to fun w v ⟨a, b, c, d, e, f, q, ⟨h1, h2, h3⟩, h4, h5, h6⟩ => by
    obtain rfl : a = _ := h1
    obtain rfl : c = _ := h3
    obtain rfl : d = _ := h4
    obtain rfl : f = _ := h6
    exact ⟨_, _, _, _, _, _, q, dyK_in hA w _ ⟨_, rfl, h2⟩, dyK_in hB w _ ⟨_, rfl, h5⟩⟩
theorem sign_le (A B : Int) : decide ((A - B).sign ≤ 0) = decide (A ≤ B) := by
  rw [Bool.eq_iff_iff, decide_eq_true_iff, decide_eq_true_iff]
  rcases Int.lt_trichotomy (A - B) 0 with h | h | h
  · rw [Int.sign_eq_neg_one_of_neg h]; omega
  · rw [h]; simp; omega
  · rw [Int.sign_eq_one_of_pos h]; omega
theorem sign_lt (A B : Int) : decide ((A - B).sign < 0) = decide (A < B) := by
  rw [Bool.eq_iff_iff, decide_eq_true_iff, decide_eq_true_iff]
  rcases Int.lt_trichotomy (A - B) 0 with h | h | h
  · rw [Int.sign_eq_neg_one_of_neg h]; omega
  · rw [h]; simp; omega
  · rw [Int.sign_eq_one_of_pos h]; omega
theorem sign_gt (A B : Int) : decide (0 < (A - B).sign) = decide (B < A) := by
  rw [Bool.eq_iff_iff, decide_eq_true_iff, decide_eq_true_iff]
  rcases Int.lt_trichotomy (A - B) 0 with h | h | h
  · rw [Int.sign_eq_neg_one_of_neg h]; omega
  · rw [h]; simp; omega
  · rw [Int.sign_eq_one_of_pos h]; omega
theorem v10valid_con (hA : DyOk A) (hB : DyOk B) : Con Tryz.prog TabAt 71 [IvK A B] (IsV (.bool (decide (A ≤ B)))) := by
  obtain ⟨r, hr⟩ : ∃ r, decide (A ≤ B) = r := ⟨_, rfl⟩
  have hc := (sign_le A B).trans hr
  rw [hr]
  cases r
  · exact slots_con [vS A, vS B, valS (intV .i64 (A - B).sign)] mix (F := [⟨.bin .leq, s0 2, .int .i64 0, .bool false⟩]) (T := [⟨51, [dP 0], .bool true⟩, ⟨51, [dP 1], .bool true⟩, ⟨19, [dP 0, dP 1], s0 2⟩]) (pats := [ivP 0 1]) (res := .bool false) (by kernel_rfl)
      (fcons (fact_leq (gam0 rfl) (fun _ => rfl) hc) fnil) (econs (slots_ent (v8valid_con hA) (outC (outo_vP hA rfl) out0) into_bool) rfl (econs (slots_ent (v8valid_con hB) (outC (outo_vP hB rfl) out0) into_bool) rfl (econs (e8cmp hA hB rfl rfl rfl) rfl enil))) rfl (inC (into_ivP hA hB rfl rfl) in0) outo_bool
  · exact slots_con [vS A, vS B, valS (intV .i64 (A - B).sign)] mix (F := [⟨.bin .leq, s0 2, .int .i64 0, .bool true⟩]) (T := [⟨51, [dP 0], .bool true⟩, ⟨51, [dP 1], .bool true⟩, ⟨19, [dP 0, dP 1], s0 2⟩]) (pats := [ivP 0 1]) (res := .bool true) (by kernel_rfl)
      (fcons (fact_leq (gam0 rfl) (fun _ => rfl) hc) fnil) (econs (slots_ent (v8valid_con hA) (outC (outo_vP hA rfl) out0) into_bool) rfl (econs (slots_ent (v8valid_con hB) (outC (outo_vP hB rfl) out0) into_bool) rfl (econs (e8cmp hA hB rfl rfl rfl) rfl enil))) rfl (inC (into_ivP hA hB rfl rfl) in0) outo_bool
theorem v10width_con (hA : DyOk A) (hB : DyOk B) (hl : (B - A).natAbs < 2 ^ kLim) : Con Tryz.prog TabAt 74 [IvK A B] (Two_ (DyK (B - A)) OkK) := by
  have hok := ok_sub hB hA hl
  exact slots_con [vS A, vS B, vS (B - A)] mix (F := []) (T := [⟨36, [dP 1, dP 0], .tup [dP 2, .int .i64 0]⟩]) (pats := [ivP 0 1]) (res := .tup [dP 2, .int .i64 0]) (by kernel_rfl)
    fnil (econs (slots_ent (v8sub_con hB hA hl) (outC (outo_vP hB rfl) (outC (outo_vP hA rfl) out0)) (into_two (into_vP hok rfl) into_int)) rfl enil) rfl (inC (into_ivP hA hB rfl rfl) in0) (outo_two (outo_vP hok rfl) outo_int)
theorem v10mid_con (hA : DyOk A) (hB : DyOk B) (hl : (A + B).natAbs < 2 ^ kLim) (hd : ∃ q, A + B = q * 2 ^ (kLow + 1)) (hC : A + B = C * 2) : Con Tryz.prog TabAt 32 [IvK A B] (Two_ (DyK C) OkK) ∧ DyOk C := by
  have hS := ok_add hA hB hl
  obtain ⟨hh, hok⟩ := v8half_con hS hd hC
  refine ⟨?_, hok⟩
  exact slots_con [vS A, vS B, vS (A + B), vS C] mix (F := []) (T := [⟨22, [dP 0, dP 1], .tup [dP 2, .int .i64 0]⟩, ⟨75, [dP 2, .int .i64 (-1)], .tup [dP 3, .int .i64 0]⟩]) (pats := [ivP 0 1]) (res := .tup [dP 3, .int .i64 0]) (by kernel_rfl)
    fnil (econs (slots_ent (v8add_con hA hB hl) (outC (outo_vP hA rfl) (outC (outo_vP hB rfl) out0)) (into_two (into_vP hS rfl) into_int)) rfl (econs (slots_ent hh (outC (outo_vP hS rfl) (outC outo_int out0)) (into_two (into_vP hok rfl) into_int)) rfl enil)) rfl (inC (into_ivP hA hB rfl rfl) in0) (outo_two (outo_vP hok rfl) outo_int)
/-- Two intervals that meet. -/
theorem v10cmp_con {E H : Int} (hE : DyOk E) (hH : DyOk H) (hA : DyOk A) (hB : DyOk B) (h1 : A ≤ H) (h2 : E ≤ B) : Con Tryz.prog TabAt 37 [IvK E H, IvK A B] (IsV (.int .i64 0)) := by
  have c1 : decide ((H - A).sign < 0) = false := (sign_lt H A).trans (decide_eq_false (by omega))
  have c2 : decide (0 < (E - B).sign) = false := (sign_gt E B).trans (decide_eq_false (by omega))
  exact slots_con [vS E, vS H, vS A, vS B, valS (intV .i64 (H - A).sign), valS (intV .i64 (E - B).sign)] mix (F := [⟨.bin .lss, s0 4, .int .i64 0, .bool false⟩, ⟨.bin .gtr, s0 5, .int .i64 0, .bool false⟩]) (T := [⟨19, [dP 1, dP 2], s0 4⟩, ⟨19, [dP 0, dP 3], s0 5⟩]) (pats := [ivP 0 1, ivP 2 3]) (res := .int .i64 0) (by kernel_rfl)
    (fcons (fact_lss (gam0 rfl) (fun _ => rfl) c1) (fcons (fact_gtr (gam0 rfl) (fun _ => rfl) c2) fnil)) (econs (e8cmp hH hA rfl rfl rfl) rfl (econs (e8cmp hE hB rfl rfl rfl) rfl enil)) rfl (inC (into_ivP hE hH rfl rfl) (inC (into_ivP hA hB rfl rfl) in0)) outo_int
theorem v11small_con (hA : DyOk A) (hB : DyOk B) : Con Tryz.prog TabAt 30 [IvK A B] (IsV (.bool (decide (A ≤ B)))) := by
  obtain ⟨r, hr⟩ : ∃ r, decide (A ≤ B) = r := ⟨_, rfl⟩
  have hv := v10valid_con hA hB
  rw [hr] at hv ⊢
  cases r
  · exact slots_con [vS A, vS B] mix (F := []) (T := [⟨71, [ivP 0 1], .bool false⟩]) (pats := [ivP 0 1]) (res := .bool false) (by kernel_rfl)
      fnil (econs (slots_ent hv (outC (outo_ivP hA hB rfl rfl) out0) into_bool) rfl enil) rfl (inC (into_ivP hA hB rfl rfl) in0) outo_bool
  · exact slots_con [vS A, vS B, valS (intV .i64 (topZ (manV A) (expV A))), valS (intV .i64 (topZ (manV B) (expV B)))] mix (F := [⟨.bin .leq, s0 2, .int .i64 2048, .bool true⟩, ⟨.bin .leq, s0 3, .int .i64 2048, .bool true⟩])
      (T := [⟨71, [ivP 0 1], .bool true⟩, ⟨72, [dP 0], s0 2⟩, ⟨72, [dP 1], s0 3⟩, ⟨73, [dP 0, .int .i64 8192], .bool true⟩, ⟨73, [dP 1, .int .i64 8192], .bool true⟩]) (pats := [ivP 0 1]) (res := .bool true) (by kernel_rfl)
      (fcons (fact_leq (gam0 rfl) (fun _ => rfl) (top_V hA)) (fcons (fact_leq (gam0 rfl) (fun _ => rfl) (top_V hB)) fnil)) (econs (slots_ent hv (outC (outo_ivP hA hB rfl rfl) out0) into_bool) rfl (econs (slots_ent (v8top_con hA) (outC (outo_vP hA rfl) out0) (into0 rfl)) rfl (econs (slots_ent (v8top_con hB) (outC (outo_vP hB rfl) out0) (into0 rfl)) rfl
        (econs (slots_ent (v9on_con hA) (outC (outo_vP hA rfl) (outC outo_int out0)) into_bool) rfl (econs (slots_ent (v9on_con hB) (outC (outo_vP hB rfl) (outC outo_int out0)) into_bool) rfl enil))))) rfl (inC (into_ivP hA hB rfl rfl) in0) outo_bool
end
end Go.Proofs.YtkpjikaobjpkoaaGreatDoor
