/-
  The reference's Pick and Right, on symbols.
-/
import Derived.Test.YtkpjikaobjpkoaaGreatDoorPkTfTg
namespace Go.Proofs.YtkpjikaobjpkoaaGreatDoor
open Go.RowKit Go.Ev

/-! ### Distances -/
theorem near_mid {C d : Int} (hd : 0 < d) : (C / d + 1) / 2 * (d * 2) ≤ C + d ∧ C - d ≤ (C / d + 1) / 2 * (d * 2) ∧ ((C / d + 1) / 2 * (d * 2)).natAbs ≤ 2 * C.natAbs := by
  have h1 := Int.ediv_mul_le C (Int.ne_of_gt hd)
  have h2 := Int.lt_ediv_add_one_mul_self C hd
  generalize C / d = n at h1 h2 ⊢
  rw [Int.add_mul, Int.one_mul] at h2
  have e : (n + 1) / 2 * (d * 2) = (n + 1) / 2 * 2 * d := by rw [Int.mul_assoc, Int.mul_comm 2 d]
  rw [e]
  rcases (show (n + 1) / 2 * 2 = n ∨ (n + 1) / 2 * 2 = n + 1 by omega) with h | h
  · rw [h]
    refine ⟨by omega, by omega, ?_⟩
    have : n % 2 = 0 := by omega
    rcases Int.lt_or_le n 0 with h0 | h0
    · have h3 : (n + 2) * d ≤ 0 := Int.mul_nonpos_of_nonpos_of_nonneg (by omega) (by omega)
      rw [Int.add_mul] at h3
      omega
    · have h3 : 0 ≤ n * d := Int.mul_nonneg h0 (by omega)
      omega
  · rw [h, Int.add_mul, Int.one_mul]
    refine ⟨by omega, by omega, ?_⟩
    have : n % 2 = 1 := by omega
    rcases Int.lt_or_le n 0 with h0 | h0
    · have h3 : (n + 1) * d ≤ 0 := Int.mul_nonpos_of_nonpos_of_nonneg (by omega) (by omega)
      rw [Int.add_mul] at h3
      omega
    · have h3 : 0 ≤ (n - 1) * d := Int.mul_nonneg (by omega) (by omega)
      rw [Int.sub_mul] at h3
      omega
theorem near_lim (C p : Int) : (nearV C p).natAbs ≤ 2 * C.natAbs := by
  unfold nearV
  split
  · omega
  · rcases Int.lt_or_le p 10000 with hp | hp
    · rw [show (10000 - p).toNat = (9999 - p).toNat + 1 by omega, Int.pow_succ]
      exact (near_mid (two_pos _)).2.2
    · rw [show (10000 - p).toNat = 0 by omega, show (9999 - p).toNat = 0 by omega, Int.pow_zero]
      omega
theorem near_dist {C p : Int} (hp : p ≤ 600) : nearV C p ≤ C + 2 ^ (9999 - p).toNat ∧ C - 2 ^ (9999 - p).toNat ≤ nearV C p := by
  rw [nearV_eq hp, show (10000 - p).toNat = (9999 - p).toNat + 1 by omega, Int.pow_succ]
  obtain ⟨h1, h2, _⟩ := near_mid (C := C) (two_pos (9999 - p).toNat)
  exact ⟨h1, h2⟩
/-- An interval of numbers of limited size, and its middle. -/
structure OkI (A B C : Int) : Prop where
  a : DyOk A
  b : DyOk B
  c : DyOk C
  la : A.natAbs ≤ 2 ^ kMid
  lb : B.natAbs ≤ 2 ^ kMid
  le : A ≤ B
  dv : ∃ q, A + B = q * 2 ^ (kLow + 1)
  mid : A + B = C * 2
theorem OkI.near {A B C : Int} (h : OkI A B C) (p : Int) : (nearV C p).natAbs < 2 ^ kLim := by
  have h1 := near_lim C p
  have h2 := mid_lim h.la h.lb
  have := h.mid
  omega
section
variable {L : List Slot} {i j k l : Nat} {A B C V p : Int}
theorem v25dec_con (h : OkI A B C) (hp0 : 0 ≤ p) (hp1 : p ≤ 512) : Con Tryz.prog TabAt 31 [IvK A B, IsV (.int .i64 p)] (IsV (.bool (decide (B - A ≤ 2 ^ (9999 - p).toNat)))) := by
  have hl := (sum_lim h.la h.lb).2
  have hw := ok_sub h.b h.a hl
  obtain ⟨hu, _, _⟩ := unit_ok (p := p + 1) (by omega) (by omega)
  have huc := v9unit_con (p := p + 1) (by omega) (by omega)
  have e : (10000 - (p + 1)).toNat = (9999 - p).toNat := by omega
  rw [e] at hu huc
  generalize (2 : Int) ^ (9999 - p).toNat = U at hu huc ⊢
  obtain ⟨r, hr⟩ : ∃ r, decide (B - A ≤ U) = r := ⟨_, rfl⟩
  have hc := (sign_le (B - A) U).trans hr
  have hwr : IntKind.i64.wrap (p + 1) = p + 1 := wrap_small (by omega) (by omega)
  rw [hr]
  cases r
  · exact slots_con [vS A, vS B, valS (intV .i64 p), vS (B - A), valS (intV .i64 (p + 1)), vS U, valS (intV .i64 (B - A - U).sign)] mix (F := [⟨.bin .add, s0 2, .int .i64 1, s0 4⟩, ⟨.bin .leq, s0 6, .int .i64 0, .bool false⟩])
      (T := [⟨74, [ivP 0 1], .tup [dP 3, .int .i64 0]⟩, ⟨35, [s0 4], .tup [dP 5, .int .i64 0]⟩, ⟨19, [dP 3, dP 5], s0 6⟩]) (pats := [ivP 0 1, s0 2]) (res := .bool false) (by kernel_rfl)
      (fcons (fact_add rfl (gam0 rfl) (fun _ => rfl) (gam0 rfl) hwr) (fcons (fact_leq (gam0 rfl) (fun _ => rfl) hc) fnil)) (econs (slots_ent (v10width_con h.a h.b hl) (outC (outo_ivP h.a h.b rfl rfl) out0) (into_two (into_vP hw rfl) into_int)) rfl (econs (slots_ent huc (outC (outo0 rfl) out0) (into_two (into_vP hu rfl) into_int)) rfl (econs (e8cmp hw hu rfl rfl rfl) rfl enil))) rfl (inC (into_ivP h.a h.b rfl rfl) (inC (into0 rfl) in0)) outo_bool
  · exact slots_con [vS A, vS B, valS (intV .i64 p), vS (B - A), valS (intV .i64 (p + 1)), vS U, valS (intV .i64 (B - A - U).sign)] mix (F := [⟨.bin .add, s0 2, .int .i64 1, s0 4⟩, ⟨.bin .leq, s0 6, .int .i64 0, .bool true⟩])
      (T := [⟨74, [ivP 0 1], .tup [dP 3, .int .i64 0]⟩, ⟨35, [s0 4], .tup [dP 5, .int .i64 0]⟩, ⟨19, [dP 3, dP 5], s0 6⟩]) (pats := [ivP 0 1, s0 2]) (res := .bool true) (by kernel_rfl)
      (fcons (fact_add rfl (gam0 rfl) (fun _ => rfl) (gam0 rfl) hwr) (fcons (fact_leq (gam0 rfl) (fun _ => rfl) hc) fnil)) (econs (slots_ent (v10width_con h.a h.b hl) (outC (outo_ivP h.a h.b rfl rfl) out0) (into_two (into_vP hw rfl) into_int)) rfl (econs (slots_ent huc (outC (outo0 rfl) out0) (into_two (into_vP hu rfl) into_int)) rfl (econs (e8cmp hw hu rfl rfl rfl) rfl enil))) rfl (inC (into_ivP h.a h.b rfl rfl) (inC (into0 rfl) in0)) outo_bool
theorem dyK_zero : ∀ w v, DyE 0 0 w v → DyK 0 w v := fun w v h => ⟨0, 0, h, .inl ⟨rfl, rfl⟩, by decide, (valD_zero _).symm, Nat.pow_pos (by decide)⟩
theorem v25pick_con (h : OkI A B C) : Con Tryz.prog TabAt 9 [IvK A B, IsV (.int .i64 p)] (Two_ (DyK (pickV A B C p)) (IsV (.bool (decB A B p)))) := by
  have hS := v11small_con h.a h.b
  rw [decide_eq_true h.le] at hS
  have hno : decB A B p = false → Two_ (DyK (pickV A B C p)) (IsV (.bool (decB A B p))) = Two_ (DyK 0) (IsV (.bool false)) := fun e => by
    have e2 : pickV A B C p = 0 := by unfold pickV; rw [e]; rfl
    rw [e2, e]
  by_cases hp0 : p < 0
  · rw [hno (by unfold decB; rw [decide_eq_false (by omega)]; rfl)]
    exact slots_con [vS A, vS B, valS (intV .i64 p)] mix (F := [⟨.bin .lss, s0 2, .int .i64 0, .bool true⟩]) (T := []) (pats := [ivP 0 1, s0 2]) (res := .tup [dZ, .bool false]) (by kernel_rfl)
      (fcons (fact_lss (gam0 rfl) (fun _ => rfl) (decide_eq_true hp0)) fnil) enil rfl (inC (into_ivP h.a h.b rfl rfl) (inC (into0 rfl) in0)) (outo_two (@Outo.to ⟨_⟩ _ _ _ _ outo_dZ dyK_zero) outo_bool)
  by_cases hp1 : 512 < p
  · rw [hno (by unfold decB; rw [decide_eq_false (show ¬ p ≤ 512 by omega), Bool.and_false, Bool.false_and])]
    exact slots_con [vS A, vS B, valS (intV .i64 p)] mix (F := [⟨.bin .lss, s0 2, .int .i64 0, .bool false⟩, ⟨.bin .gtr, s0 2, .int .i64 512, .bool true⟩]) (T := []) (pats := [ivP 0 1, s0 2]) (res := .tup [dZ, .bool false]) (by kernel_rfl)
      (fcons (fact_lss (gam0 rfl) (fun _ => rfl) (decide_eq_false hp0)) (fcons (fact_gtr (gam0 rfl) (fun _ => rfl) (decide_eq_true hp1)) fnil)) enil rfl (inC (into_ivP h.a h.b rfl rfl) (inC (into0 rfl) in0)) (outo_two (@Outo.to ⟨_⟩ _ _ _ _ outo_dZ dyK_zero) outo_bool)
  have hd := v25dec_con h (p := p) (by omega) (by omega)
  have hdec : decB A B p = decide (B - A ≤ 2 ^ (9999 - p).toNat) := by
    unfold decB
    rw [decide_eq_true (show 0 ≤ p by omega), decide_eq_true (show p ≤ 512 by omega), decide_eq_true h.le]; rfl
  rw [← hdec] at hd
  cases hr : decB A B p
  · have := hno hr
    rw [hr] at this hd
    rw [this]
    exact slots_con [vS A, vS B, valS (intV .i64 p)] mix (F := [⟨.bin .lss, s0 2, .int .i64 0, .bool false⟩, ⟨.bin .gtr, s0 2, .int .i64 512, .bool false⟩]) (T := [⟨30, [ivP 0 1], .bool true⟩, ⟨31, [ivP 0 1, s0 2], .bool false⟩]) (pats := [ivP 0 1, s0 2]) (res := .tup [dZ, .bool false]) (by kernel_rfl)
      (fcons (fact_lss (gam0 rfl) (fun _ => rfl) (decide_eq_false hp0)) (fcons (fact_gtr (gam0 rfl) (fun _ => rfl) (decide_eq_false hp1)) fnil)) (econs (slots_ent hS (outC (outo_ivP h.a h.b rfl rfl) out0) into_bool) rfl (econs (slots_ent hd (outC (outo_ivP h.a h.b rfl rfl) (outC (outo0 rfl) out0)) into_bool) rfl enil)) rfl (inC (into_ivP h.a h.b rfl rfl) (inC (into0 rfl) in0)) (outo_two (@Outo.to ⟨_⟩ _ _ _ _ outo_dZ dyK_zero) outo_bool)
  · have e2 : pickV A B C p = nearV C p := by unfold pickV; rw [hr]; rfl
    rw [hr] at hd
    rw [e2]
    obtain ⟨hm, hc⟩ := v10mid_con h.a h.b (sum_lim h.la h.lb).1 h.dv h.mid
    have hn := v9near_con (p := p) hc (by omega) (by omega) (h.near p)
    have hN := ok_near (p := p) hc (by omega) (by omega) (h.near p)
    exact slots_con [vS A, vS B, valS (intV .i64 p), vS C, vS (nearV C p)] mix (F := [⟨.bin .lss, s0 2, .int .i64 0, .bool false⟩, ⟨.bin .gtr, s0 2, .int .i64 512, .bool false⟩])
      (T := [⟨30, [ivP 0 1], .bool true⟩, ⟨31, [ivP 0 1, s0 2], .bool true⟩, ⟨32, [ivP 0 1], .tup [dP 3, .int .i64 0]⟩, ⟨33, [dP 3, s0 2], .tup [dP 4, .int .i64 0]⟩]) (pats := [ivP 0 1, s0 2]) (res := .tup [dP 4, .bool true]) (by kernel_rfl)
      (fcons (fact_lss (gam0 rfl) (fun _ => rfl) (decide_eq_false hp0)) (fcons (fact_gtr (gam0 rfl) (fun _ => rfl) (decide_eq_false hp1)) fnil)) (econs (slots_ent hS (outC (outo_ivP h.a h.b rfl rfl) out0) into_bool) rfl (econs (slots_ent hd (outC (outo_ivP h.a h.b rfl rfl) (outC (outo0 rfl) out0)) into_bool) rfl
        (econs (slots_ent hm (outC (outo_ivP h.a h.b rfl rfl) out0) (into_two (into_vP hc rfl) into_int)) rfl (econs (slots_ent hn (outC (outo_vP hc rfl) (outC (outo0 rfl) out0)) (into_two (into_vP hN rfl) into_int)) rfl enil)))) rfl (inC (into_ivP h.a h.b rfl rfl) (inC (into0 rfl) in0)) (outo_two (outo_vP hN rfl) outo_bool)
def kUp : Nat := 11500
theorem up_lim {D U : Int} {p : Int} (hD : D.natAbs ≤ 2 ^ kUp) (hp : 0 ≤ p) (hU : U = 2 ^ (10000 - p).toNat) : (D + U).natAbs < 2 ^ kLim ∧ (D - U).natAbs < 2 ^ kLim := by
  have h1 : U.natAbs ≤ 2 ^ kUp := by
    have e : Int.natAbs 2 = 2 := rfl
    rw [hU, Int.natAbs_pow, e]
    have h : (10000 - p).toNat ≤ kUp := by show _ ≤ 11500; omega
    generalize kUp = M at h ⊢
    exact Nat.pow_le_pow_right (by decide) h
  have h : kUp + 1 < kLim := by decide
  generalize kUp = M at hD h1 h
  generalize kLim = K at h ⊢
  have := Nat.pow_lt_pow_right (a := 2) (by decide) h
  rw [Nat.pow_succ] at this
  omega
theorem v25right_con {D : Int} (hD : DyOk D) (hA : DyOk A) (hB : DyOk B) (hp0 : 0 ≤ p) (hp1 : p ≤ 512) (hl : D.natAbs ≤ 2 ^ kUp) (h1 : A ≤ D + 2 ^ (10000 - p).toNat) (h2 : D - 2 ^ (10000 - p).toNat ≤ B) : Con Tryz.prog TabAt 11 [DyK D, IvK A B, IsV (.int .i64 p)] (IsV (.bool true)) := by
  obtain ⟨hu, _, _⟩ := unit_ok (p := p) (by omega) (by omega)
  have huc := v9unit_con (p := p) (by omega) (by omega)
  obtain ⟨hl1, hl2⟩ := up_lim hl hp0 rfl
  generalize (2 : Int) ^ (10000 - p).toNat = U at hu huc h1 h2 hl1 hl2
  have hE := ok_sub hD hu hl2
  have hH := ok_add hD hu hl1
  exact slots_con [vS D, vS A, vS B, valS (intV .i64 p), vS U, vS (D - U), vS (D + U)] mix (F := [])
    (T := [⟨35, [s0 3], .tup [dP 4, .int .i64 0]⟩, ⟨36, [dP 0, dP 4], .tup [dP 5, .int .i64 0]⟩, ⟨22, [dP 0, dP 4], .tup [dP 6, .int .i64 0]⟩, ⟨37, [ivP 5 6, ivP 1 2], .int .i64 0⟩]) (pats := [dP 0, ivP 1 2, s0 3]) (res := .bool true) (by kernel_rfl)
    fnil (econs (slots_ent huc (outC (outo0 rfl) out0) (into_two (into_vP hu rfl) into_int)) rfl (econs (slots_ent (v8sub_con hD hu hl2) (outC (outo_vP hD rfl) (outC (outo_vP hu rfl) out0)) (into_two (into_vP hE rfl) into_int)) rfl (econs (slots_ent (v8add_con hD hu hl1) (outC (outo_vP hD rfl) (outC (outo_vP hu rfl) out0)) (into_two (into_vP hH rfl) into_int)) rfl
      (econs (slots_ent (v10cmp_con hE hH hA hB h1 h2) (outC (outo_ivP hE hH rfl rfl) (outC (outo_ivP hA hB rfl rfl) out0)) into_int) rfl enil)))) rfl (inC (into_vP hD rfl) (inC (into_ivP hA hB rfl rfl) (inC (into0 rfl) in0))) outo_bool
/-- The number that Pick gives is right. -/
theorem right_pick (h : OkI A B C) (hr : decB A B p = true) : Con Tryz.prog TabAt 11 [DyK (pickV A B C p), IvK A B, IsV (.int .i64 p)] (IsV (.bool true)) := by
  have e2 : pickV A B C p = nearV C p := by unfold pickV; rw [hr]; rfl
  rw [e2]
  unfold decB at hr
  simp only [Bool.and_eq_true, decide_eq_true_eq] at hr
  obtain ⟨⟨hp0, hp1⟩, _, hw⟩ := hr
  have hc : DyOk C := h.c
  obtain ⟨d1, d2⟩ := near_dist (C := C) (p := p) (by omega)
  have hm := h.mid
  have hN := ok_near (p := p) hc hp0 hp1 (h.near p)
  have e : (2 : Int) ^ (10000 - p).toNat = 2 ^ (9999 - p).toNat * 2 := by rw [show (10000 - p).toNat = (9999 - p).toNat + 1 by omega, Int.pow_succ]
  have hpos := two_pos (9999 - p).toNat
  refine v25right_con hN h.a h.b hp0 hp1 ?_ ?_ ?_
  · have h1 := near_lim C p
    have h2 := h.la
    have h3 := h.lb
    have h4 : kMid + 1 < kUp := by decide
    generalize kMid = M at h2 h3 h4
    generalize kUp = K at h4 ⊢
    have := Nat.pow_lt_pow_right (a := 2) (by decide) h4
    rw [Nat.pow_succ] at this
    omega
  · rw [e]
    generalize (2 : Int) ^ (9999 - p).toNat = U at *
    omega
  · rw [e]
    generalize (2 : Int) ^ (9999 - p).toNat = U at *
    omega
theorem dyO_own {w : World} {base : Nat} {x : Value} {V : Int} (h : DyO w base x V) (w2 : World) (hw : ∀ b, base ≤ b → b < w.heap.size → w2.heap[b]? = w.heap[b]?) : DyV w2 x V := by
  obtain ⟨m, e, ⟨v, e1, h1⟩, h2, h3, h4, h5⟩ := h
  exact ⟨m, e, ⟨v, e1, natF_own h1 w2 hw⟩, h2, h3, h4, h5⟩
/-- What the program picks. -/
theorem ppick_con (h : OkI A B C) : Con Tryz.prog TabAt 8 [IvK A B, IsV (.int .i64 p)] (Two_ (DyK (pickV A B C p)) (IsV (.bool (decB A B p)))) :=
  con2 fun w x y hx hy hT => by
    obtain rfl : y = _ := hy
    refine (pick_calls hx h.la h.lb h.dv h.mid (h.near p) hT).mono ?_
    rintro en w' ⟨d, rfl, hd, hb⟩
    exact ⟨_, rfl, fun w2 hw2 => ⟨_, _, rfl, dyO_own hd w2 hw2, rfl⟩, hb⟩
end
end Go.Proofs.YtkpjikaobjpkoaaGreatDoor
/-
  The mill on symbols: Mod, Int, Dyadic, Interval, Thin.
-/
namespace Go.Proofs.YtkpjikaobjpkoaaGreatDoor
open Go.RowKit Go.Ev

/-! ### Raw lists -/
def RawK (l : List Nat) : World → Value → Prop := fun w v => NatSl w v l
theorem rawK_one {l : List Nat} (w : World) (v : Value) (h : RawK l w v) : v.oneCell' = true := by
  obtain ⟨a, c, x, rfl, _⟩ := NatSl.form h
  rfl
theorem rawK_len {l : List Nat} (w : World) (v : Value) (h : RawK l w v) : ∃ ad k c, v = .slice ad k c ∧ (intV .i64 (l.length : Nat)).v = .int .i64 (k : Nat) := by
  obtain ⟨a, c, x, rfl, _⟩ := NatSl.form h
  exact ⟨a, _, c, rfl, rfl⟩
def rawS (l : List Nat) (v0 v1 : OneVal) : Slot := ⟨RawK l, rawK_one, v0, v1, intV .i64 (l.length : Nat), true, fun _ => rawK_len⟩
section
variable {L : List Slot} {T : World → Prop} {i j k : Nat} {l : List Nat} {a b : OneVal}
theorem into_raw (h : nthS L j = rawS l a b) : @Into ⟨rhoS L⟩ (tabsL T L) (RawK l) (sA j) := intoA (by rw [h]; rfl)
theorem outo_raw (h : nthS L j = rawS l a b) : @Outo ⟨rhoS L⟩ (tabsL T L) (sA j) (RawK l) := outoA (by rw [h]; rfl)
end
section
variable {L : List Slot} {i j k : Nat} {l l' : List Nat} {b b' : Bool} {e e' v n : Int} {A B C : Int}
theorem rtrimRaw_con (hl : l.length ≤ 1000000) : Con Tryz.prog TabAt 104 [RawK l] (NatK (val l)) :=
  con1 fun w x h _ => (rtrim_calls h (by omega)).mono fun _ _ h => own_natP h
theorem r5natRaw_con (hl : l.length ≤ 1000000) : Con Tryz.prog TabAt 49 [IsV (.bool b), RawK l] (IntK (sgnI b (val l))) := by
  have hab : (sgnI b (val l)).natAbs = val l := sgn_abs b (val l)
  have ht := rtrimRaw_con (l := l) hl
  obtain ⟨r, hr⟩ : ∃ r, decide (sgnI b (val l) < 0) = r := ⟨_, rfl⟩
  cases b
  · obtain rfl : r = false := by rw [← hr]; exact decide_eq_false (by unfold sgnI; simp)
    exact slots_con [rawS l default default, nS (val l)] mix (F := []) (T := [⟨104, [sA 0], sA 1⟩]) (pats := [.bool false, sA 0]) (res := iPb false 1) (by kernel_rfl)
      fnil (econs (slots_ent ht (outC (outo_raw rfl) out0) (into_nat rfl)) rfl enil) rfl (inC into_bool (inC (into_raw rfl) in0)) (outo_iPb hr (x := default) (y := default) (by rw [hab]; rfl))
  · have h1 : decide (0 < (limbN (val l) : Int)) = r := by
      rw [limb_gt_any, ← hr]
      unfold sgnI
      rw [Bool.eq_iff_iff]; simp; omega
    cases r
    · exact slots_con [rawS l default default, nS (val l)] mix (F := [⟨.bin .gtr, s2 1, .int .i64 0, .bool false⟩]) (T := [⟨104, [sA 0], sA 1⟩]) (pats := [.bool true, sA 0]) (res := iPb false 1) (by kernel_rfl)
        (fcons (fact_gtr (gam2 rfl) (fun _ => rfl) h1) fnil) (econs (slots_ent ht (outC (outo_raw rfl) out0) (into_nat rfl)) rfl enil) rfl (inC into_bool (inC (into_raw rfl) in0)) (outo_iPb hr (x := default) (y := default) (by rw [hab]; rfl))
    · exact slots_con [rawS l default default, nS (val l)] mix (F := [⟨.bin .gtr, s2 1, .int .i64 0, .bool true⟩]) (T := [⟨104, [sA 0], sA 1⟩]) (pats := [.bool true, sA 0]) (res := iPb true 1) (by kernel_rfl)
        (fcons (fact_gtr (gam2 rfl) (fun _ => rfl) h1) fnil) (econs (slots_ent ht (outC (outo_raw rfl) out0) (into_nat rfl)) rfl enil) rfl (inC into_bool (inC (into_raw rfl) in0)) (outo_iPb hr (x := default) (y := default) (by rw [hab]; rfl))
theorem mmod_con (hn : 0 < n) (hn1 : n ≤ 100000) : Con Tryz.prog TabAt 6 [IsV (.int .i64 v), IsV (.int .i64 n)] (IsV (.int .i64 (v % n))) := by
  have e1 : v.tmod n = v % n ∨ (v.tmod n < 0 ∧ v.tmod n + n = v % n) := by
    have h0 := Int.emod_nonneg v (Int.ne_of_gt hn)
    have h1 := Int.emod_lt_of_pos v hn
    have h2 := Int.tmod_def v n
    have h3 := Int.emod_def v n
    rcases Int.lt_or_le v 0 with hv | hv
    · have h4 := Int.tmod_eq_emod (a := v) (b := n)
      split at h4
      · exact .inl (by omega)
      · exact .inr ⟨by omega, by omega⟩
    · exact .inl (Int.tmod_eq_emod_of_nonneg hv)
  have h0 := Int.emod_nonneg v (Int.ne_of_gt hn)
  have h1 := Int.emod_lt_of_pos v hn
  rcases e1 with e1 | ⟨e0, e1⟩
  · exact slots_con [valS (intV .i64 v), valS (intV .i64 n), valS (intV .i64 (v % n))] mix (F := [⟨.bin .rem, s0 0, s0 1, s0 2⟩, ⟨.bin .lss, s0 2, .int .i64 0, .bool false⟩]) (T := []) (pats := [s0 0, s0 1]) (res := s0 2) (by kernel_rfl)
      (fcons (fact_rem rfl (gam0 rfl) (gam0 rfl) (gam0 rfl) (by omega) e1) (fcons (fact_lss (gam0 rfl) (fun _ => rfl) (decide_eq_false (by omega))) fnil)) enil rfl (inC (into0 rfl) (inC (into0 rfl) in0)) (outo0 rfl)
  · exact slots_con [valS (intV .i64 v), valS (intV .i64 n), valS (intV .i64 (v.tmod n)), valS (intV .i64 (v % n))] mix (F := [⟨.bin .rem, s0 0, s0 1, s0 2⟩, ⟨.bin .lss, s0 2, .int .i64 0, .bool true⟩, ⟨.bin .add, s0 2, s0 1, s0 3⟩]) (T := []) (pats := [s0 0, s0 1]) (res := s0 3) (by kernel_rfl)
      (fcons (fact_rem rfl (gam0 rfl) (gam0 rfl) (gam0 rfl) (by omega) rfl) (fcons (fact_lss (gam0 rfl) (fun _ => rfl) (decide_eq_true e0)) (fcons (fact_add rfl (gam0 rfl) (gam0 rfl) (gam0 rfl) (by rw [e1]; exact wrap_small (by omega) (by omega))) fnil))) enil rfl (inC (into0 rfl) (inC (into0 rfl) in0)) (outo0 rfl)
/-! ### The mill's dyadic numbers -/
/-- The integer that the mill makes of a list of at most four elements. -/
def millI (b : Bool) (l : List Nat) : Int := bif decide (l.length ≤ 4) then sgnI b (val l) else 0
def RawI (b : Bool) (l : List Nat) : World → Value → Prop := Agg2 (IsV (.bool b)) (RawK l)
theorem int_nil (w : World) (v : Value) (h : Agg2 (IsV (.bool false)) (IsV (.slice none 0 0)) w v) : IntK 0 w v := by
  obtain ⟨a, u, rfl, h1, h2⟩ := h
  obtain rfl : a = _ := h1
  obtain rfl : u = _ := h2
  exact ⟨_, rfl, (natF_nil w 0).r⟩
theorem mint_con : Con Tryz.prog TabAt 45 [RawI b l, IsV (.int .i64 4)] (Two_ (IntK (millI b l)) (IsV (.bool (decide (l.length ≤ 4))))) := by
  obtain ⟨r, hr⟩ : ∃ r, decide (l.length ≤ 4) = r := ⟨_, rfl⟩
  unfold millI
  rw [hr]
  have hin : ∀ {L : List Slot}, nthS L 0 = rawS l (boolV b) default → @Into ⟨rhoS L⟩ (tabsL TabAt L) (RawI b l) (iP 0) := fun {L} h =>
    letI : Rho := ⟨rhoS L⟩
    into_agg2 (into0 (x := .bool b) (by rw [h]; rfl)) (into_raw h)
  cases r
  · have hlt : decide ((4 : Int) < (l.length : Nat)) = true := decide_eq_true (by have := of_decide_eq_false hr; omega)
    exact slots_con [rawS l (boolV b) default] mix (F := [⟨.bin .gtr, s2 0, .int .i64 4, .bool true⟩]) (T := []) (pats := [iP 0, .int .i64 4]) (res := .tup [.agg [.bool false, .slcNil], .bool false]) (by kernel_rfl)
      (fcons (fact_gtr (gam2 rfl) (fun _ => rfl) hlt) fnil) enil rfl (inC (hin rfl) (inC into_int in0)) (outo_two (@Outo.to ⟨_⟩ _ _ _ _ (@outo_agg2 ⟨_⟩ _ _ _ _ _ outo_bool (fun w v h => h)) int_nil) outo_bool)
  · have h4 := of_decide_eq_true hr
    have hlt : decide ((4 : Int) < (l.length : Nat)) = false := decide_eq_false (by omega)
    exact slots_con [rawS l (boolV b) default, iS (sgnI b (val l))] mix (F := [⟨.bin .gtr, s2 0, .int .i64 4, .bool false⟩]) (T := [⟨49, [s0 0, sA 0], iP 1⟩]) (pats := [iP 0, .int .i64 4]) (res := .tup [iP 1, .bool true]) (by kernel_rfl)
      (fcons (fact_gtr (gam2 rfl) (fun _ => rfl) hlt) fnil) (econs (slots_ent (r5natRaw_con (b := b) (l := l) (by omega)) (outC (outo0 rfl) (outC (outo_raw rfl) out0)) (into_iP rfl)) rfl enil) rfl (inC (hin rfl) (inC into_int in0)) (outo_two (outo_iP rfl) outo_bool)
theorem outo_dZ0 {L : List Slot} {T : World → Prop} : @Outo ⟨rhoS L⟩ (tabsL T L) dZ (DyK 0) := @Outo.to ⟨_⟩ _ _ _ _ outo_dZ dyK_zero
def kSix : Nat := 10200
def kDiv : Nat := 9900
/-- A number as the mill makes them. -/
structure Md (V : Int) : Prop where
  ok : DyOk V
  le : V.natAbs ≤ 2 ^ kSix
  dv : ∃ q, V = q * 2 ^ kDiv
theorem md_zero : Md 0 := ⟨⟨0, 0, .inl ⟨rfl, rfl⟩, by decide, (valD_zero _).symm, Nat.pow_pos (by decide)⟩, Nat.zero_le _, 0, by rw [Int.zero_mul]⟩
theorem pow_le_lim {a : Nat} {k : Nat} (h : a ≤ 2 ^ k) (hk : k < kLim) : a < 2 ^ kLim := Nat.lt_of_le_of_lt h (by generalize kLim = K at hk ⊢; exact Nat.pow_lt_pow_right (by decide) hk)
theorem md_val {m e : Int} (hm : m.natAbs < 2 ^ 128) (he : -60 ≤ e) (he1 : e ≤ 60) : Md (valD m e) := by
  have hl : (valD m e).natAbs ≤ 2 ^ kSix := by
    rw [valD_abs]
    have h1 : m.natAbs * 2 ^ (e + 10000).toNat ≤ 2 ^ 128 * 2 ^ (e + 10000).toNat := Nat.mul_le_mul_right _ (Nat.le_of_lt hm)
    rw [← Nat.pow_add] at h1
    refine Nat.le_trans h1 ?_
    have h : 128 + (e + 10000).toNat ≤ kSix := by unfold kSix; omega
    generalize kSix = K at h ⊢
    exact Nat.pow_le_pow_right (by decide) h
  refine ⟨dyOk_make (by omega) rfl (pow_le_lim hl (by decide)), hl, m * 2 ^ ((e + 10000).toNat - kDiv), ?_⟩
  unfold valD
  rw [Int.mul_assoc, ← Int.pow_add]
  congr 2
  unfold kDiv; omega
def millV (b : Bool) (l : List Nat) (e : Int) : Int := bif decide (l.length ≤ 4) then valD (sgnI b (val l)) (e % 121 - 60) else 0
theorem mill_md (hl : Limbs l) : Md (millV b l e) := by
  unfold millV
  by_cases h : l.length ≤ 4
  · rw [decide_eq_true h]
    refine md_val ?_ (by omega) (by omega)
    rw [sgn_abs]
    exact Nat.lt_of_lt_of_le (val_lt_bits hl) (Nat.pow_le_pow_right (by decide) (by omega))
  · rw [decide_eq_false h]
    exact md_zero
def RawD (b : Bool) (l : List Nat) (e : Int) : World → Value → Prop := Agg3 (IsV (.bool b)) (RawK l) (IsV (.int .i64 e))
theorem mdy_con (hl : Limbs l) : Con Tryz.prog TabAt 18 [RawD b l e, IsV (.int .i64 4), IsV (.int .i64 60)] (Two_ (DyK (millV b l e)) (IsV (.bool (decide (l.length ≤ 4))))) := by
  have hmd := mill_md (b := b) (e := e) hl
  have hi := mint_con (b := b) (l := l)
  obtain ⟨r, hr⟩ : ∃ r, decide (l.length ≤ 4) = r := ⟨_, rfl⟩
  have hin : ∀ {L : List Slot}, nthS L 0 = rawS l (boolV b) (intV .i64 e) → @Into ⟨rhoS L⟩ (tabsL TabAt L) (RawD b l e) (dP 0) := fun {L} h =>
    letI : Rho := ⟨rhoS L⟩
    into_agg3 (into0 (x := .bool b) (by rw [h]; rfl)) (into_raw h) (into1 (x := .int .i64 e) (by rw [h]; rfl))
  have hout : ∀ {L : List Slot}, nthS L 0 = rawS l (boolV b) (intV .i64 e) → @Outo ⟨rhoS L⟩ (tabsL TabAt L) (iP 0) (RawI b l) := fun {L} h =>
    letI : Rho := ⟨rhoS L⟩
    outo_agg2 (outo0 (x := .bool b) (by rw [h]; rfl)) (outo_raw h)
  unfold millV at hmd ⊢
  unfold millI at hi
  rw [hr] at hmd hi ⊢
  cases r
  · exact slots_con [rawS l (boolV b) (intV .i64 e), iS 0] mix (F := []) (T := [⟨45, [iP 0, .int .i64 4], .tup [iP 1, .bool false]⟩]) (pats := [dP 0, .int .i64 4, .int .i64 60]) (res := .tup [dZ, .bool false]) (by kernel_rfl)
      fnil (econs (slots_ent hi (outC (hout rfl) (outC outo_int out0)) (into_two (into_iP rfl) into_bool)) rfl enil) rfl (inC (hin rfl) (inC into_int (inC into_int in0))) (outo_two outo_dZ0 outo_bool)
  · have hmod := mmod_con (v := e) (n := 121) (by decide) (by decide)
    have hmk := v8make_con (m := sgnI b (val l)) (e := e % 121 - 60) (by omega) (by omega) rfl hmd.ok.lim
    exact slots_con [rawS l (boolV b) (intV .i64 e), iS (sgnI b (val l)), valS (intV .i64 (e % 121)), valS (intV .i64 (e % 121 - 60)), vS (valD (sgnI b (val l)) (e % 121 - 60))] mix (F := [⟨.bin .sub, s0 2, .int .i64 60, s0 3⟩])
      (T := [⟨45, [iP 0, .int .i64 4], .tup [iP 1, .bool true]⟩, ⟨6, [s1 0, .int .i64 121], s0 2⟩, ⟨20, [iP 1, s0 3], .tup [dP 4, .int .i64 0]⟩]) (pats := [dP 0, .int .i64 4, .int .i64 60]) (res := .tup [dP 4, .bool true]) (by kernel_rfl)
      (fcons (fact_sub rfl (gam0 rfl) (fun _ => rfl) (gam0 rfl) (wrap_small (by omega) (by omega))) fnil) (econs (slots_ent hi (outC (hout rfl) (outC outo_int out0)) (into_two (into_iP rfl) into_bool)) rfl (econs (slots_ent hmod (outC (outo1 rfl) (outC outo_int out0)) (into0 rfl)) rfl
        (econs (slots_ent hmk (outC (outo_iP rfl) (outC (outo0 rfl) out0)) (into_two (into_vP hmd.ok rfl) into_int)) rfl enil))) rfl (inC (hin rfl) (inC into_int (inC into_int in0))) (outo_two (outo_vP hmd.ok rfl) outo_bool)
/-! ### The mill's intervals -/
def RawV (b : Bool) (l : List Nat) (e : Int) (b' : Bool) (l' : List Nat) (e' : Int) : World → Value → Prop := Agg6 (IsV (.bool b)) (RawK l) (IsV (.int .i64 e)) (IsV (.bool b')) (RawK l') (IsV (.int .i64 e'))
theorem miv_con (hl : Limbs l) (hl' : Limbs l') : ∃ A B r, Md A ∧ Md B ∧ A ≤ B ∧ Con Tryz.prog TabAt 5 [RawV b l e b' l' e', IsV (.int .i64 4), IsV (.int .i64 60)] (Two_ (IvK A B) (IsV (.bool r))) := by
  have m1 := mill_md (b := b) (e := e) hl
  have m2 := mill_md (b := b') (e := e') hl'
  have d1 := mdy_con (b := b) (e := e) hl
  have d2 := mdy_con (b := b') (e := e') hl'
  generalize millV b l e = X at m1 d1
  generalize millV b' l' e' = Y at m2 d2
  generalize decide (l.length ≤ 4) = r1 at d1
  generalize decide (l'.length ≤ 4) = r2 at d2
  have hin : ∀ {L : List Slot}, nthS L 0 = rawS l (boolV b) (intV .i64 e) → nthS L 1 = rawS l' (boolV b') (intV .i64 e') → @Into ⟨rhoS L⟩ (tabsL TabAt L) (RawV b l e b' l' e') (ivP 0 1) := fun {L} h h' =>
    letI : Rho := ⟨rhoS L⟩
    into_agg6 (into0 (x := .bool b) (by rw [h]; rfl)) (into_raw h) (into1 (x := .int .i64 e) (by rw [h]; rfl)) (into0 (x := .bool b') (by rw [h']; rfl)) (into_raw h') (into1 (x := .int .i64 e') (by rw [h']; rfl))
  have ho : ∀ {L : List Slot} {j : Nat} {l : List Nat} {b : Bool} {e : Int}, nthS L j = rawS l (boolV b) (intV .i64 e) → @Outo ⟨rhoS L⟩ (tabsL TabAt L) (dP j) (RawD b l e) := fun {L} {j} {l} {b} {e} h =>
    letI : Rho := ⟨rhoS L⟩
    outo_agg3 (outo0 (x := .bool b) (by rw [h]; rfl)) (outo_raw h) (outo1 (x := .int .i64 e) (by rw [h]; rfl))
  obtain ⟨s, hs⟩ : ∃ s, decide (Y < X) = s := ⟨_, rfl⟩
  have hc := (sign_gt X Y).trans hs
  cases s
  · refine ⟨X, Y, r1 && r2, m1, m2, by have := of_decide_eq_false hs; omega, ?_⟩
    cases r1 <;> cases r2
    · exact slots_con [rawS l (boolV b) (intV .i64 e), rawS l' (boolV b') (intV .i64 e'), vS X, vS Y, valS (intV .i64 (X - Y).sign)] mix (F := [⟨.bin .gtr, s0 4, .int .i64 0, .bool false⟩]) (T := [⟨18, [dP 0, .int .i64 4, .int .i64 60], .tup [dP 2, .bool false]⟩, ⟨18, [dP 1, .int .i64 4, .int .i64 60], .tup [dP 3, .bool false]⟩, ⟨19, [dP 2, dP 3], s0 4⟩]) (pats := [ivP 0 1, .int .i64 4, .int .i64 60]) (res := .tup [ivP 2 3, .bool false]) (by kernel_rfl) (fcons (fact_gtr (gam0 rfl) (fun _ => rfl) hc) fnil)
        (econs (slots_ent d1 (outC (ho rfl) (outC outo_int (outC outo_int out0))) (into_two (into_vP m1.ok rfl) into_bool)) rfl (econs (slots_ent d2 (outC (ho rfl) (outC outo_int (outC outo_int out0))) (into_two (into_vP m2.ok rfl) into_bool)) rfl (econs (e8cmp m1.ok m2.ok rfl rfl rfl) rfl enil))) rfl (inC (hin rfl rfl) (inC into_int (inC into_int in0))) (outo_two (outo_ivP m1.ok m2.ok rfl rfl) outo_bool)
    · exact slots_con [rawS l (boolV b) (intV .i64 e), rawS l' (boolV b') (intV .i64 e'), vS X, vS Y, valS (intV .i64 (X - Y).sign)] mix (F := [⟨.bin .gtr, s0 4, .int .i64 0, .bool false⟩]) (T := [⟨18, [dP 0, .int .i64 4, .int .i64 60], .tup [dP 2, .bool false]⟩, ⟨18, [dP 1, .int .i64 4, .int .i64 60], .tup [dP 3, .bool true]⟩, ⟨19, [dP 2, dP 3], s0 4⟩]) (pats := [ivP 0 1, .int .i64 4, .int .i64 60]) (res := .tup [ivP 2 3, .bool false]) (by kernel_rfl) (fcons (fact_gtr (gam0 rfl) (fun _ => rfl) hc) fnil)
        (econs (slots_ent d1 (outC (ho rfl) (outC outo_int (outC outo_int out0))) (into_two (into_vP m1.ok rfl) into_bool)) rfl (econs (slots_ent d2 (outC (ho rfl) (outC outo_int (outC outo_int out0))) (into_two (into_vP m2.ok rfl) into_bool)) rfl (econs (e8cmp m1.ok m2.ok rfl rfl rfl) rfl enil))) rfl (inC (hin rfl rfl) (inC into_int (inC into_int in0))) (outo_two (outo_ivP m1.ok m2.ok rfl rfl) outo_bool)
    · exact slots_con [rawS l (boolV b) (intV .i64 e), rawS l' (boolV b') (intV .i64 e'), vS X, vS Y, valS (intV .i64 (X - Y).sign)] mix (F := [⟨.bin .gtr, s0 4, .int .i64 0, .bool false⟩]) (T := [⟨18, [dP 0, .int .i64 4, .int .i64 60], .tup [dP 2, .bool true]⟩, ⟨18, [dP 1, .int .i64 4, .int .i64 60], .tup [dP 3, .bool false]⟩, ⟨19, [dP 2, dP 3], s0 4⟩]) (pats := [ivP 0 1, .int .i64 4, .int .i64 60]) (res := .tup [ivP 2 3, .bool false]) (by kernel_rfl) (fcons (fact_gtr (gam0 rfl) (fun _ => rfl) hc) fnil)
        (econs (slots_ent d1 (outC (ho rfl) (outC outo_int (outC outo_int out0))) (into_two (into_vP m1.ok rfl) into_bool)) rfl (econs (slots_ent d2 (outC (ho rfl) (outC outo_int (outC outo_int out0))) (into_two (into_vP m2.ok rfl) into_bool)) rfl (econs (e8cmp m1.ok m2.ok rfl rfl rfl) rfl enil))) rfl (inC (hin rfl rfl) (inC into_int (inC into_int in0))) (outo_two (outo_ivP m1.ok m2.ok rfl rfl) outo_bool)
    · exact slots_con [rawS l (boolV b) (intV .i64 e), rawS l' (boolV b') (intV .i64 e'), vS X, vS Y, valS (intV .i64 (X - Y).sign)] mix (F := [⟨.bin .gtr, s0 4, .int .i64 0, .bool false⟩]) (T := [⟨18, [dP 0, .int .i64 4, .int .i64 60], .tup [dP 2, .bool true]⟩, ⟨18, [dP 1, .int .i64 4, .int .i64 60], .tup [dP 3, .bool true]⟩, ⟨19, [dP 2, dP 3], s0 4⟩]) (pats := [ivP 0 1, .int .i64 4, .int .i64 60]) (res := .tup [ivP 2 3, .bool true]) (by kernel_rfl) (fcons (fact_gtr (gam0 rfl) (fun _ => rfl) hc) fnil)
        (econs (slots_ent d1 (outC (ho rfl) (outC outo_int (outC outo_int out0))) (into_two (into_vP m1.ok rfl) into_bool)) rfl (econs (slots_ent d2 (outC (ho rfl) (outC outo_int (outC outo_int out0))) (into_two (into_vP m2.ok rfl) into_bool)) rfl (econs (e8cmp m1.ok m2.ok rfl rfl rfl) rfl enil))) rfl (inC (hin rfl rfl) (inC into_int (inC into_int in0))) (outo_two (outo_ivP m1.ok m2.ok rfl rfl) outo_bool)
  · refine ⟨Y, X, r1 && r2, m2, m1, by have := of_decide_eq_true hs; omega, ?_⟩
    cases r1 <;> cases r2
    · exact slots_con [rawS l (boolV b) (intV .i64 e), rawS l' (boolV b') (intV .i64 e'), vS X, vS Y, valS (intV .i64 (X - Y).sign)] mix (F := [⟨.bin .gtr, s0 4, .int .i64 0, .bool true⟩]) (T := [⟨18, [dP 0, .int .i64 4, .int .i64 60], .tup [dP 2, .bool false]⟩, ⟨18, [dP 1, .int .i64 4, .int .i64 60], .tup [dP 3, .bool false]⟩, ⟨19, [dP 2, dP 3], s0 4⟩]) (pats := [ivP 0 1, .int .i64 4, .int .i64 60]) (res := .tup [ivP 3 2, .bool false]) (by kernel_rfl) (fcons (fact_gtr (gam0 rfl) (fun _ => rfl) hc) fnil)
        (econs (slots_ent d1 (outC (ho rfl) (outC outo_int (outC outo_int out0))) (into_two (into_vP m1.ok rfl) into_bool)) rfl (econs (slots_ent d2 (outC (ho rfl) (outC outo_int (outC outo_int out0))) (into_two (into_vP m2.ok rfl) into_bool)) rfl (econs (e8cmp m1.ok m2.ok rfl rfl rfl) rfl enil))) rfl (inC (hin rfl rfl) (inC into_int (inC into_int in0))) (outo_two (outo_ivP m2.ok m1.ok rfl rfl) outo_bool)
    · exact slots_con [rawS l (boolV b) (intV .i64 e), rawS l' (boolV b') (intV .i64 e'), vS X, vS Y, valS (intV .i64 (X - Y).sign)] mix (F := [⟨.bin .gtr, s0 4, .int .i64 0, .bool true⟩]) (T := [⟨18, [dP 0, .int .i64 4, .int .i64 60], .tup [dP 2, .bool false]⟩, ⟨18, [dP 1, .int .i64 4, .int .i64 60], .tup [dP 3, .bool true]⟩, ⟨19, [dP 2, dP 3], s0 4⟩]) (pats := [ivP 0 1, .int .i64 4, .int .i64 60]) (res := .tup [ivP 3 2, .bool false]) (by kernel_rfl) (fcons (fact_gtr (gam0 rfl) (fun _ => rfl) hc) fnil)
        (econs (slots_ent d1 (outC (ho rfl) (outC outo_int (outC outo_int out0))) (into_two (into_vP m1.ok rfl) into_bool)) rfl (econs (slots_ent d2 (outC (ho rfl) (outC outo_int (outC outo_int out0))) (into_two (into_vP m2.ok rfl) into_bool)) rfl (econs (e8cmp m1.ok m2.ok rfl rfl rfl) rfl enil))) rfl (inC (hin rfl rfl) (inC into_int (inC into_int in0))) (outo_two (outo_ivP m2.ok m1.ok rfl rfl) outo_bool)
    · exact slots_con [rawS l (boolV b) (intV .i64 e), rawS l' (boolV b') (intV .i64 e'), vS X, vS Y, valS (intV .i64 (X - Y).sign)] mix (F := [⟨.bin .gtr, s0 4, .int .i64 0, .bool true⟩]) (T := [⟨18, [dP 0, .int .i64 4, .int .i64 60], .tup [dP 2, .bool true]⟩, ⟨18, [dP 1, .int .i64 4, .int .i64 60], .tup [dP 3, .bool false]⟩, ⟨19, [dP 2, dP 3], s0 4⟩]) (pats := [ivP 0 1, .int .i64 4, .int .i64 60]) (res := .tup [ivP 3 2, .bool false]) (by kernel_rfl) (fcons (fact_gtr (gam0 rfl) (fun _ => rfl) hc) fnil)
        (econs (slots_ent d1 (outC (ho rfl) (outC outo_int (outC outo_int out0))) (into_two (into_vP m1.ok rfl) into_bool)) rfl (econs (slots_ent d2 (outC (ho rfl) (outC outo_int (outC outo_int out0))) (into_two (into_vP m2.ok rfl) into_bool)) rfl (econs (e8cmp m1.ok m2.ok rfl rfl rfl) rfl enil))) rfl (inC (hin rfl rfl) (inC into_int (inC into_int in0))) (outo_two (outo_ivP m2.ok m1.ok rfl rfl) outo_bool)
    · exact slots_con [rawS l (boolV b) (intV .i64 e), rawS l' (boolV b') (intV .i64 e'), vS X, vS Y, valS (intV .i64 (X - Y).sign)] mix (F := [⟨.bin .gtr, s0 4, .int .i64 0, .bool true⟩]) (T := [⟨18, [dP 0, .int .i64 4, .int .i64 60], .tup [dP 2, .bool true]⟩, ⟨18, [dP 1, .int .i64 4, .int .i64 60], .tup [dP 3, .bool true]⟩, ⟨19, [dP 2, dP 3], s0 4⟩]) (pats := [ivP 0 1, .int .i64 4, .int .i64 60]) (res := .tup [ivP 3 2, .bool true]) (by kernel_rfl) (fcons (fact_gtr (gam0 rfl) (fun _ => rfl) hc) fnil)
        (econs (slots_ent d1 (outC (ho rfl) (outC outo_int (outC outo_int out0))) (into_two (into_vP m1.ok rfl) into_bool)) rfl (econs (slots_ent d2 (outC (ho rfl) (outC outo_int (outC outo_int out0))) (into_two (into_vP m2.ok rfl) into_bool)) rfl (econs (e8cmp m1.ok m2.ok rfl rfl rfl) rfl enil))) rfl (inC (hin rfl rfl) (inC into_int (inC into_int in0))) (outo_two (outo_ivP m2.ok m1.ok rfl rfl) outo_bool)
/-- The upper end that Thin leaves. -/
def thinZ (A B n : Int) : Int := bif decide (A + 2 ^ (10000 - n).toNat < B) then A + 2 ^ (10000 - n).toNat else B
theorem pow_unit {n : Int} (h1 : 1 ≤ n) (h2 : n ≤ 90) : ((2 : Int) ^ (10000 - n).toNat).natAbs < 2 ^ kBig ∧ ∃ q, (2 : Int) ^ (10000 - n).toNat = q * 2 ^ kDiv := by
  constructor
  · have e : Int.natAbs 2 = 2 := rfl
    have h : (10000 - n).toNat < kBig := by show _ < 10000; omega
    rw [Int.natAbs_pow, e]
    generalize kBig = K at h ⊢
    exact Nat.pow_lt_pow_right (by decide) h
  · refine ⟨2 ^ ((10000 - n).toNat - kDiv), ?_⟩
    rw [← Int.pow_add]
    congr 1
    unfold kDiv; omega
/-- A number of an interval, or a little above. -/
structure Md1 (V : Int) : Prop where
  ok : DyOk V
  le : V.natAbs ≤ 2 ^ (kSix + 1)
  dv : ∃ q, V = q * 2 ^ kDiv
theorem Md.up {V : Int} (h : Md V) : Md1 V := ⟨h.ok, Nat.le_trans h.le (Nat.pow_le_pow_right (by decide) (Nat.le_succ _)), h.dv⟩
theorem add_unit {U : Int} (hA : Md A) (hU : U.natAbs < 2 ^ kBig) (hd : ∃ q, U = q * 2 ^ kDiv) (ho : DyOk U) : Md1 (A + U) := by
  have h2 : 2 ^ kBig ≤ 2 ^ kSix := Nat.pow_le_pow_right (by decide) (by decide)
  have hl : (A + U).natAbs ≤ 2 ^ (kSix + 1) := by
    have h1 := hA.le
    rw [Nat.pow_succ]
    generalize 2 ^ kBig = K at *
    generalize 2 ^ kSix = M at *
    omega
  obtain ⟨q1, h3⟩ := hA.dv
  obtain ⟨q2, h4⟩ := hd
  exact ⟨ok_add hA.ok ho (pow_le_lim hl (by decide)), hl, q1 + q2, by rw [h3, h4, Int.add_mul]⟩
theorem thin_md (hA : Md A) (hB : Md B) (hle : A ≤ B) (h1 : 1 ≤ n) (h2 : n ≤ 90) : Md1 (thinZ A B n) ∧ A ≤ thinZ A B n := by
  obtain ⟨u1, u2⟩ := pow_unit h1 h2
  obtain ⟨u3, _, _⟩ := unit_ok (p := n) (by omega) (by omega)
  have hpos := two_pos (10000 - n).toNat
  unfold thinZ
  generalize (2 : Int) ^ (10000 - n).toNat = U at *
  cases decide (A + U < B)
  · exact ⟨hB.up, hle⟩
  · exact ⟨add_unit hA u1 u2 u3, by show A ≤ A + U; omega⟩
theorem mthin_con (hA : Md A) (hB : Md B) (h1 : 1 ≤ n) (h2 : n ≤ 90) : Con Tryz.prog TabAt 7 [IvK A B, IsV (.int .i64 n)] (IvK A (thinZ A B n)) := by
  obtain ⟨u1, u2⟩ := pow_unit h1 h2
  obtain ⟨u3, u4, u5⟩ := unit_ok (p := n) (by omega) (by omega)
  have hmk := v8make_con (m := 1) (e := -n) (by omega) (by omega) u4 u5
  unfold thinZ
  generalize (2 : Int) ^ (10000 - n).toNat = U at *
  have hS := add_unit hA u1 u2 u3
  have hSl := pow_le_lim hS.le (by decide)
  have hw : IntKind.i64.wrap (-n) = -n := wrap_small (by omega) (by omega)
  obtain ⟨r, hr⟩ : ∃ r, decide (A + U < B) = r := ⟨_, rfl⟩
  have hc := (sign_lt (A + U) B).trans hr
  rw [hr]
  cases r
  · exact slots_con [vS A, vS B, valS (intV .i64 n), iS 1, valS (intV .i64 (-n)), vS U, vS (A + U), valS (intV .i64 (A + U - B).sign)] mix (F := [⟨.neg, s0 2, s0 2, s0 4⟩, ⟨.bin .lss, s0 7, .int .i64 0, .bool false⟩])
      (T := [⟨21, [.int .i64 1], iP 3⟩, ⟨20, [iP 3, s0 4], .tup [dP 5, .int .i64 0]⟩, ⟨22, [dP 0, dP 5], .tup [dP 6, .int .i64 0]⟩, ⟨19, [dP 6, dP 1], s0 7⟩]) (pats := [ivP 0 1, s0 2]) (res := ivP 0 1) (by kernel_rfl)
      (fcons (fact_neg rfl (gam0 rfl) (gam0 rfl) hw) (fcons (fact_lss (gam0 rfl) (fun _ => rfl) hc) fnil)) (econs (slots_ent r5of1_con (outC outo_int out0) (into_iP rfl)) rfl (econs (slots_ent hmk (outC (outo_iP rfl) (outC (outo0 rfl) out0)) (into_two (into_vP u3 rfl) into_int)) rfl (econs (slots_ent (v8add_con hA.ok u3 hSl) (outC (outo_vP hA.ok rfl) (outC (outo_vP u3 rfl) out0)) (into_two (into_vP hS.ok rfl) into_int)) rfl
        (econs (e8cmp hS.ok hB.ok rfl rfl rfl) rfl enil)))) rfl (inC (into_ivP hA.ok hB.ok rfl rfl) (inC (into0 rfl) in0)) (outo_ivP hA.ok hB.ok rfl rfl)
  · exact slots_con [vS A, vS B, valS (intV .i64 n), iS 1, valS (intV .i64 (-n)), vS U, vS (A + U), valS (intV .i64 (A + U - B).sign)] mix (F := [⟨.neg, s0 2, s0 2, s0 4⟩, ⟨.bin .lss, s0 7, .int .i64 0, .bool true⟩])
      (T := [⟨21, [.int .i64 1], iP 3⟩, ⟨20, [iP 3, s0 4], .tup [dP 5, .int .i64 0]⟩, ⟨22, [dP 0, dP 5], .tup [dP 6, .int .i64 0]⟩, ⟨19, [dP 6, dP 1], s0 7⟩]) (pats := [ivP 0 1, s0 2]) (res := ivP 0 6) (by kernel_rfl)
      (fcons (fact_neg rfl (gam0 rfl) (gam0 rfl) hw) (fcons (fact_lss (gam0 rfl) (fun _ => rfl) hc) fnil)) (econs (slots_ent r5of1_con (outC outo_int out0) (into_iP rfl)) rfl (econs (slots_ent hmk (outC (outo_iP rfl) (outC (outo0 rfl) out0)) (into_two (into_vP u3 rfl) into_int)) rfl (econs (slots_ent (v8add_con hA.ok u3 hSl) (outC (outo_vP hA.ok rfl) (outC (outo_vP u3 rfl) out0)) (into_two (into_vP hS.ok rfl) into_int)) rfl
        (econs (e8cmp hS.ok hB.ok rfl rfl rfl) rfl enil)))) rfl (inC (into_ivP hA.ok hB.ok rfl rfl) (inC (into0 rfl) in0)) (outo_ivP hA.ok hS.ok rfl rfl)
/-- The intervals that the statement looks at. -/
theorem okI_of (hA : Md A) (hB : Md1 B) (hle : A ≤ B) : ∃ C, OkI A B C := by
  have hA1 := hA.up
  obtain ⟨q1, h3⟩ := hA.dv
  obtain ⟨q2, h4⟩ := hB.dv
  have e : A + B = (q1 + q2) * 2 ^ (kDiv - 1) * 2 := by rw [Int.mul_assoc, ← Int.pow_succ, h3, h4, ← Int.add_mul]; rfl
  have hd : ∃ q, A + B = q * 2 ^ (kLow + 1) := ⟨(q1 + q2) * 2 ^ (kDiv - (kLow + 1)), by
    rw [Int.mul_assoc, ← Int.pow_add, h3, h4, ← Int.add_mul]; rfl⟩
  have hm : kSix + 1 ≤ kMid := by decide
  have la := Nat.le_trans hA1.le (Nat.pow_le_pow_right (by decide) hm)
  have lb := Nat.le_trans hB.le (Nat.pow_le_pow_right (by decide) hm)
  obtain ⟨_, hc⟩ := v10mid_con hA.ok hB.ok (sum_lim la lb).1 hd e
  exact ⟨_, hA.ok, hB.ok, hc, la, lb, hle, hd, e⟩
end
end Go.Proofs.YtkpjikaobjpkoaaGreatDoor
