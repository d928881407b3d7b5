/-
  The reference's naturals and integers, on symbols.
-/
import Derived.Test.YtkpjikaobjpkoaaGreatDoorPkTa
import Derived.Test.YtkpjikaobjpkoaaGreatDoorPkTc
namespace Go.Proofs.YtkpjikaobjpkoaaGreatDoor
open Go.RowKit Go.Ev

/-! ### Naturals -/
theorem nat_lim {w : World} {x : Value} {n : Nat} (h : NatK n w x) (hs : Sm n) : ∃ l, NatSl w x l ∧ szN l = l.length ∧ val l = n ∧ l.length ≤ 1000000 := NatR.lim h hs
theorem rtrim_con {n : Nat} (hs : Sm n) : Con Tryz.prog TabAt 104 [NatK n] (NatK n) :=
  con1 fun w x h _ => by
    obtain ⟨l, h1, h2, rfl, h4⟩ := nat_lim h hs
    exact (rtrim_calls h1 (by omega)).mono fun _ _ h => own_natP h
theorem rof_con {n : Nat} (hn : n < 18446744073709551616) : Con Tryz.prog TabAt 52 [IsV (.int .u64 (n : Int))] (NatK n) :=
  con1 fun w x h _ => by
    obtain rfl : x = _ := h
    exact (rof_calls n hn).mono fun _ _ h => own_natP h
theorem rbits_con {n : Nat} (hs : Sm n) : Con Tryz.prog TabAt 107 [NatK n] (IsV (.int .i64 (blen n : Nat))) :=
  con1 fun w x h _ => by
    obtain ⟨l, h1, h2, rfl, h4⟩ := nat_lim h hs
    exact (rbits_any h1 h4).mono fun _ _ h => own_pure h
theorem rzeros_con {n : Nat} (hs : Sm n) : Con Tryz.prog TabAt 48 [NatK n] (IsV (.int .i64 (tzN n : Nat))) :=
  con1 fun w x h _ => by
    obtain ⟨l, h1, h2, rfl, h4⟩ := nat_lim h hs
    exact (rzeros_any h1 h4).mono fun _ _ h => own_pure h
theorem rbit0_con {n : Nat} (hs : Sm n) : Con Tryz.prog TabAt 103 [NatK n, IsV (.int .i64 0)] (IsV (.bool (decide (n % 2 = 1)))) :=
  con2 fun w x y h h' _ => by
    obtain ⟨l, h1, h2, rfl, h4⟩ := nat_lim h hs
    obtain rfl : y = _ := h'
    have := (rbit_any h1 0 (by omega)).mono fun _ _ h => own_pure h
    unfold bitB at this
    rw [Nat.pow_zero, Nat.div_one] at this
    exact this
theorem rvalid_con {n : Nat} : Con Tryz.prog TabAt 155 [NatK n] (IsV (.bool true)) :=
  con1 fun _w _x h _ => (rvalid_calls h).mono fun _ _ h => own_pure h
theorem rcmp_con {n m : Nat} (hs : Sm n) (hs' : Sm m) : Con Tryz.prog TabAt 109 [NatK n, NatK m] (IsV (.int .i64 (cmpI n m))) :=
  con2 fun w x y h h' _ => by
    obtain ⟨l, h1, h2, rfl, h4⟩ := nat_lim h hs
    obtain ⟨l', h1', h2', rfl, h4'⟩ := nat_lim h' hs'
    exact (rcmp_any h1 h1' (by omega) (by omega)).mono fun _ _ h => own_pure h
theorem rsame_con {n m : Nat} (hs : Sm n) (hs' : Sm m) : Con Tryz.prog TabAt 80 [NatK n, NatK m] (IsV (.bool (decide (n = m)))) :=
  con2 fun _w _x _y h h' _ => (rsame_calls h h' hs hs').mono fun _ _ h => own_pure h
theorem radd_con {n m : Nat} (hs : Sm n) (hs' : Sm m) : Con Tryz.prog TabAt 108 [NatK n, NatK m] (NatK (n + m)) :=
  con2 fun w x y h h' _ => by
    obtain ⟨l, h1, h2, rfl, h4⟩ := nat_lim h hs
    obtain ⟨l', h1', h2', rfl, h4'⟩ := nat_lim h' hs'
    exact (radd_any h1 h1' (by omega) (by omega)).mono fun _ _ h => own_natP h
theorem rless_con {n m : Nat} (hs : Sm n) (hle : m ≤ n) : Con Tryz.prog TabAt 110 [NatK n, NatK m] (NatK (n - m)) :=
  con2 fun w x y h h' _ => by
    obtain ⟨l, h1, h2, rfl, h4⟩ := nat_lim h hs
    obtain ⟨l', h1', h2', rfl, h4'⟩ := nat_lim h' (sm_le hs hle)
    exact (rless_any h1 h1' hle h2 (by omega) (by omega)).mono fun _ _ h => own_natP h
theorem rshl_con {n k : Nat} (hs : Sm n) (hk : k ≤ 1048576) : Con Tryz.prog TabAt 102 [NatK n, IsV (.int .i64 (k : Int))] (NatK (n * 2 ^ k)) :=
  con2 fun w x y h h' _ => by
    obtain ⟨l, h1, h2, rfl, h4⟩ := nat_lim h hs
    obtain rfl : y = _ := h'
    exact (rshl_any h1 (by omega) k hk).mono fun _ _ h => own_natP h
theorem rshr_con {n k : Nat} (hs : Sm n) (hk : k ≤ 1048576) : Con Tryz.prog TabAt 50 [NatK n, IsV (.int .i64 (k : Int))] (NatK (n / 2 ^ k)) :=
  con2 fun w x y h h' _ => by
    obtain ⟨l, h1, h2, rfl, h4⟩ := nat_lim h hs
    obtain rfl : y = _ := h'
    exact (rshr_any h1 (by omega) k hk).mono fun _ _ h => own_natP h
section
variable {L : List Slot} {i j k : Nat} {n m : Nat} {p q z : Int} {b : Bool} {u v u' v' : OneVal}
theorem limb_pos (hn : n ≠ 0) (h : ∃ l, Limbs l ∧ szN l = l.length ∧ val l = n) : 0 < limbN n := Nat.pos_of_ne_zero fun e => hn (limbN_eq_zero e h)
theorem natK_ex {w : World} {x : Value} (h : NatK n w x) : ∃ l, Limbs l ∧ szN l = l.length ∧ val l = n := by
  obtain ⟨l, h1, h2, h3⟩ := h
  exact ⟨l, h1.2, h2, h3⟩
/-- Every number is that of a list. -/
theorem nat_ex : ∀ n : Nat, ∃ l, Limbs l ∧ szN l = l.length ∧ val l = n := by
  intro n
  induction n using Nat.strongRecOn with
  | _ n ih =>
    by_cases h0 : n = 0
    · exact ⟨[], fun x hx => by simp at hx, rfl, h0.symm⟩
    · obtain ⟨l, h1, h2, h3⟩ := ih (n / 4294967296) (by omega)
      refine ⟨n % 4294967296 :: l, fun x hx => ?_, ?_, ?_⟩
      · rcases List.mem_cons.1 hx with rfl | hx
        · omega
        · exact h1 x hx
      · have hz := szN_le (n % 4294967296 :: l)
        refine Nat.le_antisymm hz (Nat.le_of_not_lt fun hlt => ?_)
        have hb := val_lt_sz (l := n % 4294967296 :: l) (m := n % 4294967296 :: l)
        by_cases hl : l = []
        · subst hl
          have : n / 4294967296 = 0 := h3.symm
          have hn0 : n % 4294967296 ≠ 0 := by omega
          simp [szN] at hlt
          omega
        · have : l.length ≠ 0 := fun e => hl (List.eq_nil_of_length_eq_zero e)
          have hs : szN (n % 4294967296 :: l) = szN l + 1 := by
            simp only [szN]
            split <;> omega
          rw [hs, h2] at hlt
          simp at hlt
      · simp only [val]; rw [h3]; omega
theorem limb_gt (hn : n ≠ 0) : decide (0 < (limbN n : Int)) = true := by
  have := limb_pos hn (nat_ex n)
  exact decide_eq_true (by omega)
theorem limb_eq (n : Nat) : decide ((limbN n : Int) = 0) = decide (n = 0) := by
  by_cases h : n = 0
  · subst h; rw [limbN_zero]; rfl
  · have := limb_pos h (nat_ex n)
    rw [decide_eq_false h]
    exact decide_eq_false (by omega)
theorem limb_gt_any (n : Nat) : decide (0 < (limbN n : Int)) = decide (n ≠ 0) := by
  by_cases h : n = 0
  · subst h; rw [limbN_zero]; rfl
  · rw [limb_gt h]; exact (decide_eq_true h).symm
theorem e_trim (hs : Sm n) (h1 : nthS L i = natS n u v) (h2 : nthS L j = natS n u' v') : @EntOk ⟨rhoS L⟩ Tryz.prog (tabsL TabAt L) ⟨104, [sA i], sA j⟩ := slots_ent (rtrim_con hs) (outC (outo_nat h1) out0) (into_nat h2)
theorem r5nat_con (hs : Sm n) : Con Tryz.prog TabAt 49 [IsV (.bool b), NatK n] (IntK (sgnI b n)) := by
  have key : ∀ r, decide (sgnI b n < 0) = r → (b = true → decide (0 < (limbN n : Int)) = r) → (b = false → r = false) → Con Tryz.prog TabAt 49 [IsV (.bool b), NatK n] (IntK (sgnI b n)) := by
    intro r hr h1 h2
    have hab : (sgnI b n).natAbs = n := sgn_abs b n
    cases b
    · obtain rfl := h2 rfl
      exact slots_con [nS n, nS n] mix (F := []) (T := [⟨104, [sA 0], sA 1⟩]) (pats := [.bool false, sA 0]) (res := iPb false 1) (by kernel_rfl)
        fnil (econs (e_trim hs rfl rfl) rfl enil) rfl (inC into_bool (inC (into_nat rfl) in0)) (outo_iPb hr (x := default) (y := default) (by rw [hab]; rfl))
    · cases r
      · exact slots_con [nS n, nS n] mix (F := [⟨.bin .gtr, s2 1, .int .i64 0, .bool false⟩]) (T := [⟨104, [sA 0], sA 1⟩]) (pats := [.bool true, sA 0]) (res := iPb false 1) (by kernel_rfl)
          (fcons (fact_gtr (gam2 rfl) (fun _ => rfl) (h1 rfl)) fnil) (econs (e_trim hs rfl rfl) rfl enil) rfl (inC into_bool (inC (into_nat rfl) in0)) (outo_iPb hr (x := default) (y := default) (by rw [hab]; rfl))
      · exact slots_con [nS n, nS n] mix (F := [⟨.bin .gtr, s2 1, .int .i64 0, .bool true⟩]) (T := [⟨104, [sA 0], sA 1⟩]) (pats := [.bool true, sA 0]) (res := iPb true 1) (by kernel_rfl)
          (fcons (fact_gtr (gam2 rfl) (fun _ => rfl) (h1 rfl)) fnil) (econs (e_trim hs rfl rfl) rfl enil) rfl (inC into_bool (inC (into_nat rfl) in0)) (outo_iPb hr (x := default) (y := default) (by rw [hab]; rfl))
  refine key _ rfl (fun hb => ?_) fun hb => ?_
  · subst hb
    rw [limb_gt_any]
    unfold sgnI
    rw [Bool.eq_iff_iff]; simp; omega
  · subst hb
    exact decide_eq_false (by unfold sgnI; simp)
theorem e_nat (hs : Sm n) (hz : sgnI b n = z) (h1 : nthS L i = natS n u v) (h2 : nthS L j = iS z) : @EntOk ⟨rhoS L⟩ Tryz.prog (tabsL TabAt L) ⟨49, [.bool b, sA i], iP j⟩ :=
  slots_ent (r5nat_con hs) (outC outo_bool (outC (outo_nat h1) out0)) (into_iP (by rw [hz]; exact h2))
end
/-! ### Integers -/
section
variable {L : List Slot} {i j k : Nat} {n m : Nat} {p q z : Int} {b : Bool} {u v u' v' : OneVal}
theorem r5of1_con : Con Tryz.prog TabAt 21 [IsV (.int .i64 1)] (IntK 1) :=
  slots_con [nS 1, iS 1] mix (F := []) (T := [⟨52, [.int .u64 1], sA 0⟩, ⟨49, [.bool false, sA 0], iP 1⟩]) (pats := [.int .i64 1]) (res := iP 1) (by kernel_rfl)
    fnil (econs (slots_ent (rof_con (n := 1) (by decide)) (outC outo_int out0) (into_nat rfl)) rfl (econs (e_nat (sm_of (k := 1) (by decide) (by decide)) rfl rfl rfl) rfl enil)) rfl (inC into_int in0) (outo_iP rfl)
theorem r5sign_con : Con Tryz.prog TabAt 100 [IntK z] (IsV (.int .i64 z.sign)) := by
  by_cases h0 : z = 0
  · subst h0
    exact slots_con [iS 0] mix (F := [⟨.bin .eql, s2 0, .int .i64 0, .bool true⟩]) (T := []) (pats := [iP 0]) (res := .int .i64 0) (by kernel_rfl)
      (fcons (fact_eql (gam2 rfl) (fun _ => rfl) (limb_eq 0)) fnil) enil rfl (inC (into_iP rfl) in0) outo_int
  · have hl : decide ((limbN z.natAbs : Int) = 0) = false := by rw [limb_eq]; exact decide_eq_false (by omega)
    by_cases hn : z < 0
    · rw [Int.sign_eq_neg_one_of_neg hn]
      exact slots_con [iS z] mix (F := [⟨.bin .eql, s2 0, .int .i64 0, .bool false⟩]) (T := []) (pats := [iPb true 0]) (res := .int .i64 (-1)) (by kernel_rfl)
        (fcons (fact_eql (gam2 rfl) (fun _ => rfl) hl) fnil) enil rfl (inC (into_iPb (decide_eq_true hn) rfl) in0) outo_int
    · rw [Int.sign_eq_one_of_pos (by omega)]
      exact slots_con [iS z] mix (F := [⟨.bin .eql, s2 0, .int .i64 0, .bool false⟩]) (T := []) (pats := [iPb false 0]) (res := .int .i64 1) (by kernel_rfl)
        (fcons (fact_eql (gam2 rfl) (fun _ => rfl) hl) fnil) enil rfl (inC (into_iPb (decide_eq_false hn) rfl) in0) outo_int
theorem r5neg_con (hs : Sm p.natAbs) : Con Tryz.prog TabAt 128 [IntK p] (IntK (-p)) := by
  have hz := sgnI_not p
  cases hb : decide (p < 0) <;> rw [hb] at hz
  · exact slots_con [iS p, iS (-p)] mix (F := []) (T := [⟨49, [.bool true, sA 0], iP 1⟩]) (pats := [iPb false 0]) (res := iP 1) (by kernel_rfl)
      fnil (econs (e_nat hs hz rfl rfl) rfl enil) rfl (inC (into_iPb hb rfl) in0) (outo_iP rfl)
  · exact slots_con [iS p, iS (-p)] mix (F := []) (T := [⟨49, [.bool false, sA 0], iP 1⟩]) (pats := [iPb true 0]) (res := iP 1) (by kernel_rfl)
      fnil (econs (e_nat hs hz rfl rfl) rfl enil) rfl (inC (into_iPb hb rfl) in0) (outo_iP rfl)
theorem e5neg (hs : Sm p.natAbs) (h1 : nthS L i = iS p) (h2 : nthS L j = iS (-p)) : @EntOk ⟨rhoS L⟩ Tryz.prog (tabsL TabAt L) ⟨128, [iP i], iP j⟩ := slots_ent (r5neg_con hs) (outC (outo_iP h1) out0) (into_iP h2)
theorem r5add_con (hs : Sm (p.natAbs + q.natAbs)) : Con Tryz.prog TabAt 53 [IntK p, IntK q] (IntK (p + q)) := by
  have hsp := sm_le hs (Nat.le_add_right p.natAbs q.natAbs)
  have hsq := sm_le hs (Nat.le_add_left q.natAbs p.natAbs)
  have same : ∀ b, decide (p < 0) = b → decide (q < 0) = b → Con Tryz.prog TabAt 53 [IntK p, IntK q] (IntK (p + q)) := fun b hp hq => by
    have hz : sgnI b (p.natAbs + q.natAbs) = p + q := by rw [← hp]; exact add_same (hp.trans hq.symm)
    cases b
    · exact slots_con [iS p, iS q, nS (p.natAbs + q.natAbs), iS (p + q)] mix (F := []) (T := [⟨108, [sA 0, sA 1], sA 2⟩, ⟨49, [.bool false, sA 2], iP 3⟩]) (pats := [iPb false 0, iPb false 1]) (res := iP 3) (by kernel_rfl)
        fnil (econs (slots_ent (radd_con hsp hsq) (outC (outo_nat rfl) (outC (outo_nat rfl) out0)) (into_nat rfl)) rfl (econs (e_nat hs hz rfl rfl) rfl enil)) rfl (inC (into_iPb hp rfl) (inC (into_iPb hq rfl) in0)) (outo_iP rfl)
    · exact slots_con [iS p, iS q, nS (p.natAbs + q.natAbs), iS (p + q)] mix (F := []) (T := [⟨108, [sA 0, sA 1], sA 2⟩, ⟨49, [.bool true, sA 2], iP 3⟩]) (pats := [iPb true 0, iPb true 1]) (res := iP 3) (by kernel_rfl)
        fnil (econs (slots_ent (radd_con hsp hsq) (outC (outo_nat rfl) (outC (outo_nat rfl) out0)) (into_nat rfl)) rfl (econs (e_nat hs hz rfl rfl) rfl enil)) rfl (inC (into_iPb hp rfl) (inC (into_iPb hq rfl) in0)) (outo_iP rfl)
  have diff : ∀ b, decide (p < 0) = b → decide (q < 0) = (!b) → Con Tryz.prog TabAt 53 [IntK p, IntK q] (IntK (p + q)) := fun b hp hq => by
    have hne : decide (p < 0) ≠ decide (q < 0) := by rw [hp, hq]; cases b <;> simp
    by_cases hlt : p.natAbs < q.natAbs
    · have hc : decide (cmpI p.natAbs q.natAbs < 0) = true := by rw [cmpI_lt hlt]; rfl
      have hz : sgnI (!b) (q.natAbs - p.natAbs) = p + q := by rw [← hq]; exact add_lt hne (by omega)
      have hsd : Sm (q.natAbs - p.natAbs) := sm_le hsq (Nat.sub_le _ _)
      cases b
      · exact slots_con [iS p, iS q, valS (intV .i64 (cmpI p.natAbs q.natAbs)), nS (q.natAbs - p.natAbs), iS (p + q)] mix (F := [⟨.bin .lss, s0 2, .int .i64 0, .bool true⟩]) (T := [⟨109, [sA 0, sA 1], s0 2⟩, ⟨110, [sA 1, sA 0], sA 3⟩, ⟨49, [.bool true, sA 3], iP 4⟩]) (pats := [iPb false 0, iPb true 1]) (res := iP 4) (by kernel_rfl)
          (fcons (fact_lss (gam0 rfl) (fun _ => rfl) hc) fnil) (econs (slots_ent (rcmp_con hsp hsq) (outC (outo_nat rfl) (outC (outo_nat rfl) out0)) (into0 rfl)) rfl (econs (slots_ent (rless_con hsq (by omega)) (outC (outo_nat rfl) (outC (outo_nat rfl) out0)) (into_nat rfl)) rfl (econs (e_nat hsd hz rfl rfl) rfl enil))) rfl (inC (into_iPb hp rfl) (inC (into_iPb hq rfl) in0)) (outo_iP rfl)
      · exact slots_con [iS p, iS q, valS (intV .i64 (cmpI p.natAbs q.natAbs)), nS (q.natAbs - p.natAbs), iS (p + q)] mix (F := [⟨.bin .lss, s0 2, .int .i64 0, .bool true⟩]) (T := [⟨109, [sA 0, sA 1], s0 2⟩, ⟨110, [sA 1, sA 0], sA 3⟩, ⟨49, [.bool false, sA 3], iP 4⟩]) (pats := [iPb true 0, iPb false 1]) (res := iP 4) (by kernel_rfl)
          (fcons (fact_lss (gam0 rfl) (fun _ => rfl) hc) fnil) (econs (slots_ent (rcmp_con hsp hsq) (outC (outo_nat rfl) (outC (outo_nat rfl) out0)) (into0 rfl)) rfl (econs (slots_ent (rless_con hsq (by omega)) (outC (outo_nat rfl) (outC (outo_nat rfl) out0)) (into_nat rfl)) rfl (econs (e_nat hsd hz rfl rfl) rfl enil))) rfl (inC (into_iPb hp rfl) (inC (into_iPb hq rfl) in0)) (outo_iP rfl)
    · have hc : decide (cmpI p.natAbs q.natAbs < 0) = false := decide_eq_false (by unfold cmpI; rw [if_neg hlt]; split <;> omega)
      have hz : sgnI b (p.natAbs - q.natAbs) = p + q := by rw [← hp]; exact add_ge hne (by omega)
      have hsd : Sm (p.natAbs - q.natAbs) := sm_le hsp (Nat.sub_le _ _)
      cases b
      · exact slots_con [iS p, iS q, valS (intV .i64 (cmpI p.natAbs q.natAbs)), nS (p.natAbs - q.natAbs), iS (p + q)] mix (F := [⟨.bin .lss, s0 2, .int .i64 0, .bool false⟩]) (T := [⟨109, [sA 0, sA 1], s0 2⟩, ⟨110, [sA 0, sA 1], sA 3⟩, ⟨49, [.bool false, sA 3], iP 4⟩]) (pats := [iPb false 0, iPb true 1]) (res := iP 4) (by kernel_rfl)
          (fcons (fact_lss (gam0 rfl) (fun _ => rfl) hc) fnil) (econs (slots_ent (rcmp_con hsp hsq) (outC (outo_nat rfl) (outC (outo_nat rfl) out0)) (into0 rfl)) rfl (econs (slots_ent (rless_con hsp (by omega)) (outC (outo_nat rfl) (outC (outo_nat rfl) out0)) (into_nat rfl)) rfl (econs (e_nat hsd hz rfl rfl) rfl enil))) rfl (inC (into_iPb hp rfl) (inC (into_iPb hq rfl) in0)) (outo_iP rfl)
      · exact slots_con [iS p, iS q, valS (intV .i64 (cmpI p.natAbs q.natAbs)), nS (p.natAbs - q.natAbs), iS (p + q)] mix (F := [⟨.bin .lss, s0 2, .int .i64 0, .bool false⟩]) (T := [⟨109, [sA 0, sA 1], s0 2⟩, ⟨110, [sA 0, sA 1], sA 3⟩, ⟨49, [.bool true, sA 3], iP 4⟩]) (pats := [iPb true 0, iPb false 1]) (res := iP 4) (by kernel_rfl)
          (fcons (fact_lss (gam0 rfl) (fun _ => rfl) hc) fnil) (econs (slots_ent (rcmp_con hsp hsq) (outC (outo_nat rfl) (outC (outo_nat rfl) out0)) (into0 rfl)) rfl (econs (slots_ent (rless_con hsp (by omega)) (outC (outo_nat rfl) (outC (outo_nat rfl) out0)) (into_nat rfl)) rfl (econs (e_nat hsd hz rfl rfl) rfl enil))) rfl (inC (into_iPb hp rfl) (inC (into_iPb hq rfl) in0)) (outo_iP rfl)
  cases hp : decide (p < 0) <;> cases hq : decide (q < 0)
  · exact same false hp hq
  · exact diff false hp hq
  · exact diff true hp hq
  · exact same true hp hq
theorem e5add (hs : Sm (p.natAbs + q.natAbs)) (h1 : nthS L i = iS p) (h2 : nthS L j = iS q) (h3 : nthS L k = iS (p + q)) : @EntOk ⟨rhoS L⟩ Tryz.prog (tabsL TabAt L) ⟨53, [iP i, iP j], iP k⟩ := slots_ent (r5add_con hs) (outC (outo_iP h1) (outC (outo_iP h2) out0)) (into_iP h3)
theorem r5sub_con (hs : Sm (p.natAbs + q.natAbs)) : Con Tryz.prog TabAt 101 [IntK p, IntK q] (IntK (p - q)) :=
  slots_con [iS p, iS q, iS (-q), iS (p - q)] mix (F := []) (T := [⟨128, [iP 1], iP 2⟩, ⟨53, [iP 0, iP 2], iP 3⟩]) (pats := [iP 0, iP 1]) (res := iP 3) (by kernel_rfl)
    fnil (econs (e5neg (sm_le hs (Nat.le_add_left _ _)) rfl rfl) rfl (econs (e5add (by rw [Int.natAbs_neg]; exact hs) rfl rfl (by rw [← Int.sub_eq_add_neg]; rfl)) rfl enil)) rfl (inC (into_iP rfl) (inC (into_iP rfl) in0)) (outo_iP rfl)
theorem e5sub (hs : Sm (p.natAbs + q.natAbs)) (h1 : nthS L i = iS p) (h2 : nthS L j = iS q) (h3 : nthS L k = iS (p - q)) : @EntOk ⟨rhoS L⟩ Tryz.prog (tabsL TabAt L) ⟨101, [iP i, iP j], iP k⟩ := slots_ent (r5sub_con hs) (outC (outo_iP h1) (outC (outo_iP h2) out0)) (into_iP h3)
theorem r5cmp_con (hs : Sm (p.natAbs + q.natAbs)) : Con Tryz.prog TabAt 46 [IntK p, IntK q] (IsV (.int .i64 (p - q).sign)) :=
  slots_con [iS p, iS q, iS (p - q), valS (intV .i64 (p - q).sign)] mix (F := []) (T := [⟨101, [iP 0, iP 1], iP 2⟩, ⟨100, [iP 2], s0 3⟩]) (pats := [iP 0, iP 1]) (res := s0 3) (by kernel_rfl)
    fnil (econs (e5sub hs rfl rfl rfl) rfl (econs (slots_ent r5sign_con (outC (outo_iP rfl) out0) (into0 rfl)) rfl enil)) rfl (inC (into_iP rfl) (inC (into_iP rfl) in0)) (outo0 rfl)
end
end Go.Proofs.YtkpjikaobjpkoaaGreatDoor
