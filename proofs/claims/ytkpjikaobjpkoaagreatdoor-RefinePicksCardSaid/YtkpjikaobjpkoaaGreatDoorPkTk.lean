/-
  The law RefinePicks: it returns true.
-/
import Derived.Test.YtkpjikaobjpkoaaGreatDoorPkTj
namespace Go.Proofs.YtkpjikaobjpkoaaGreatDoor
open Go.RowKit Go.Ev

theorem three_of {f0 f1 f2 : Bool} (h1 : f0 = true → f1 = true) (h2 : f1 = true → f2 = true) : Three f0 f1 f2 := by
  cases f0 <;> cases f1 <;> cases f2 <;> first | exact .c0 | exact .c1 | exact .c2 | exact .c3 | (cases h1 rfl; done) | (cases h2 rfl; done)
theorem eapp {P : Ent → Prop} {l m : List Ent} (h : ∀ e ∈ l, P e) (h' : ∀ e ∈ m, P e) : ∀ e ∈ l ++ m, P e := fun e he => (List.mem_append.1 he).elim (h e) (h' e)
theorem fapp {P : Fact → Prop} {l m : List Fact} (h : ∀ e ∈ l, P e) (h' : ∀ e ∈ m, P e) : ∀ e ∈ l ++ m, P e := fun e he => (List.mem_append.1 he).elim (h e) (h' e)
/-- One interval and one precision. -/
structure Look (A B k D : Int) (f : Bool) : Prop where
  okA : DyOk A
  okB : DyOk B
  okD : DyOk D
  prog : Con Tryz.prog TabAt 8 [IvK A B, IsV (.int .i64 k)] (Two_ (DyK D) (IsV (.bool f)))
  ref : Con Tryz.prog TabAt 9 [IvK A B, IsV (.int .i64 k)] (Two_ (DyK D) (IsV (.bool f)))
  right : f = true → Con Tryz.prog TabAt 11 [DyK D, IvK A B, IsV (.int .i64 k)] (IsV (.bool true))
/-- One precision. -/
structure Row (A B k m B1 B2 D0 D1 D2 : Int) (f0 f1 f2 : Bool) : Prop where
  mod : Con Tryz.prog TabAt 6 [IsV (.int .i64 k), IsV (.int .i64 80)] (IsV (.int .i64 m))
  w1 : IntKind.i64.wrap (m + 1) = m + 1
  w2 : IntKind.i64.wrap (m + 2) = m + 2
  t1 : Con Tryz.prog TabAt 7 [IvK A B, IsV (.int .i64 (m + 1))] (IvK A B1)
  t2 : Con Tryz.prog TabAt 7 [IvK A B, IsV (.int .i64 (m + 2))] (IvK A B2)
  l0 : Look A B k D0 f0
  l1 : Look A B1 k D1 f1
  l2 : Look A B2 k D2 f2
theorem look_of {A B C k : Int} (h : OkI A B C) : Look A B k (pickV A B C k) (decB A B k) := by
  refine ⟨h.a, h.b, ?_, ppick_con h, v25pick_con h, fun hr => right_pick h hr⟩
  cases hr : decB A B k
  · rw [show pickV A B C k = 0 by unfold pickV; rw [hr]; rfl]
    exact md_zero.ok
  · rw [show pickV A B C k = nearV C k by unfold pickV; rw [hr]; rfl]
    unfold decB at hr
    simp only [Bool.and_eq_true, decide_eq_true_eq] at hr
    exact ok_near h.c hr.1.1 hr.1.2 (h.near k)
theorem dec_mono {A B B' k : Int} (hA : A ≤ B') (hB : B' ≤ B) (h : decB A B k = true) : decB A B' k = true := by
  unfold decB at h ⊢
  simp only [Bool.and_eq_true, decide_eq_true_eq] at h ⊢
  exact ⟨h.1, hA, by omega⟩
theorem thin_le (A B n : Int) : thinZ A B n ≤ B := by
  unfold thinZ
  cases hr : decide (A + 2 ^ (10000 - n).toNat < B)
  · exact Int.le_refl _
  · have := of_decide_eq_true hr
    show A + 2 ^ (10000 - n).toNat ≤ B
    omega
theorem thin_mono {A B n : Int} (h : n ≤ 200) : thinZ A B (n + 1) ≤ thinZ A B n := by
  have e : (2 : Int) ^ (10000 - n).toNat = 2 ^ (10000 - (n + 1)).toNat * 2 := by rw [show (10000 - n).toNat = (10000 - (n + 1)).toNat + 1 by omega, Int.pow_succ]
  have hpos := two_pos (10000 - (n + 1)).toNat
  unfold thinZ
  rw [e]
  generalize (2 : Int) ^ (10000 - (n + 1)).toNat = U at *
  cases hr : decide (A + U < B) <;> cases hs : decide (A + U * 2 < B) <;> simp at hr hs ⊢ <;> omega
theorem row_of {A B : Int} (hA : Md A) (hB : Md B) (hle : A ≤ B) (k : Int) : ∃ m B1 B2 D0 D1 D2 f0 f1 f2, Three f0 f1 f2 ∧ Row A B k m B1 B2 D0 D1 D2 f0 f1 f2 := by
  have m0 := Int.emod_nonneg k (show (80 : Int) ≠ 0 by decide)
  have m1 := Int.emod_lt_of_pos k (show (0 : Int) < 80 by decide)
  obtain ⟨a1, a2⟩ := thin_md (n := k % 80 + 1) hA hB hle (by omega) (by omega)
  obtain ⟨b1, b2⟩ := thin_md (n := k % 80 + 2) hA hB hle (by omega) (by omega)
  obtain ⟨C0, h0⟩ := okI_of hA hB.up hle
  obtain ⟨C1, h1⟩ := okI_of hA a1 a2
  obtain ⟨C2, h2⟩ := okI_of hA b1 b2
  refine ⟨k % 80, _, _, _, _, _, _, _, _, three_of (fun h => dec_mono a2 (thin_le A B _) h) (fun h => dec_mono b2 ?_ h), mmod_con (by decide) (by decide), wrap_small (by omega) (by omega), wrap_small (by omega) (by omega), mthin_con hA hB (by omega) (by omega), mthin_con hA hB (by omega) (by omega), look_of h0, look_of h1, look_of h2⟩
  have := thin_mono (A := A) (B := B) (n := k % 80 + 1) (by omega)
  rwa [Int.add_assoc, show (1 : Int) + 1 = 2 from rfl] at this
section
variable {L : List Slot}
def Eo (L : List Slot) (e : Ent) : Prop := @EntOk ⟨rhoS L⟩ Tryz.prog (tabsL TabAt L) e ∧ okPs e.args = true
theorem look_ents {A B k D : Int} {f : Bool} {i j q d : Nat} (h : Look A B k D f) (hi : nthS L i = vS A) (hj : nthS L j = vS B) (hq : (nthS L q).v0.v = .int .i64 k) (hd : nthS L d = vS D) : ∀ e ∈ pickE d q i j f ++ rightE d q i j f, Eo L e := by
  refine eapp (econs (slots_ent h.prog (outC (outo_ivP h.okA h.okB hi hj) (outC (outo0 hq) out0)) (into_two (into_vP h.okD hd) into_bool)) rfl (econs (slots_ent h.ref (outC (outo_ivP h.okA h.okB hi hj) (outC (outo0 hq) out0)) (into_two (into_vP h.okD hd) into_bool)) rfl (econs (slots_ent (show Con Tryz.prog TabAt 10 [DyK D, DyK D] (IsV (.bool true)) from by have := v8same_con h.okD h.okD; rwa [decide_eq_true rfl] at this) (outC (outo_vP h.okD hd) (outC (outo_vP h.okD hd) out0)) into_bool) rfl enil))) ?_
  cases f
  · exact enil
  · exact econs (slots_ent (h.right rfl) (outC (outo_vP h.okD hd) (outC (outo_ivP h.okA h.okB hi hj) (outC (outo0 hq) out0))) into_bool) rfl enil
theorem row_ents {A B k m B1 B2 D0 D1 D2 : Int} {f0 f1 f2 : Bool} {q b : Nat} (h : Row A B k m B1 B2 D0 D1 D2 f0 f1 f2) (h3 : nthS L 3 = vS A) (h4 : nthS L 4 = vS B) (hq : (nthS L q).v0.v = .int .i64 k)
    (e0 : (nthS L b).v0.v = .int .i64 m) (e1 : (nthS L (b + 1)).v0.v = .int .i64 (m + 1)) (e2 : (nthS L (b + 2)).v0.v = .int .i64 (m + 2)) (e3 : nthS L (b + 3) = vS B1) (e4 : nthS L (b + 4) = vS B2)
    (e5 : nthS L (b + 5) = vS D0) (e6 : nthS L (b + 6) = vS D1) (e7 : nthS L (b + 7) = vS D2) : ∀ e ∈ rowE q b f0 f1 f2, Eo L e := by
  have hA := h.l0.okA
  have hB := h.l0.okB
  refine eapp (econs (slots_ent h.mod (outC (outo0 hq) (outC outo_int out0)) (into0 e0)) rfl (econs (slots_ent h.t1 (outC (outo_ivP hA hB h3 h4) (outC (outo0 e1) out0)) (into_ivP hA h.l1.okB h3 e3)) rfl (econs (slots_ent h.t2 (outC (outo_ivP hA hB h3 h4) (outC (outo0 e2) out0)) (into_ivP hA h.l2.okB h3 e4)) rfl enil))) (eapp (look_ents h.l0 h3 h4 hq e5) (eapp (look_ents h.l1 h3 e3 hq e6) (look_ents h.l2 h3 e4 hq e7)))
theorem row_facts {m : Int} {b : Nat} (w1 : IntKind.i64.wrap (m + 1) = m + 1) (w2 : IntKind.i64.wrap (m + 2) = m + 2) (e0 : (nthS L b).v0.v = .int .i64 m) (e1 : (nthS L (b + 1)).v0.v = .int .i64 (m + 1)) (e2 : (nthS L (b + 2)).v0.v = .int .i64 (m + 2)) : ∀ f ∈ rowF b, @FactOk ⟨rhoS L⟩ f :=
  fcons (fact_add rfl (gam0 e0) (fun _ => rfl) (gam0 e1) w1) (fcons (fact_add rfl (gam0 e0) (fun _ => rfl) (gam0 e2) w2) fnil)
end
section
variable {L : List Slot} {l l' : List Nat} {b b' : Bool} {e e' v : Int}
theorem into_rawV {i j : Nat} (h : nthS L i = rawS l (boolV b) (intV .i64 e)) (h' : nthS L j = rawS l' (boolV b') (intV .i64 e')) : @Into ⟨rhoS L⟩ (tabsL TabAt L) (RawV b l e b' l' e') (ivP i j) :=
  letI : Rho := ⟨rhoS L⟩
  into_agg6 (into0 (x := .bool b) (by rw [h]; rfl)) (into_raw h) (into1 (x := .int .i64 e) (by rw [h]; rfl)) (into0 (x := .bool b') (by rw [h']; rfl)) (into_raw h') (into1 (x := .int .i64 e') (by rw [h']; rfl))
theorem outo_rawV {i j : Nat} (h : nthS L i = rawS l (boolV b) (intV .i64 e)) (h' : nthS L j = rawS l' (boolV b') (intV .i64 e')) : @Outo ⟨rhoS L⟩ (tabsL TabAt L) (ivP i j) (RawV b l e b' l' e') :=
  letI : Rho := ⟨rhoS L⟩
  outo_agg6 (outo0 (x := .bool b) (by rw [h]; rfl)) (outo_raw h) (outo1 (x := .int .i64 e) (by rw [h]; rfl)) (outo0 (x := .bool b') (by rw [h']; rfl)) (outo_raw h') (outo1 (x := .int .i64 e') (by rw [h']; rfl))
theorem law_con (hl : Limbs l) (hl' : Limbs l') : Con Tryz.prog TabAt 3 [RawV b l e b' l' e', IsV (.int .i64 v)] (IsV (.bool true)) := by
  obtain ⟨A, B, r, hA, hB, hle, hiv⟩ := miv_con (b := b) (e := e) (b' := b') (e' := e') hl hl'
  cases r
  · exact slots_con [rawS l (boolV b) (intV .i64 e), rawS l' (boolV b') (intV .i64 e'), valS (intV .i64 v), vS A, vS B] mix (F := []) (T := [⟨4, [], .bool true⟩, ⟨5, [ivP 0 1, .int .i64 4, .int .i64 60], .tup [ivP 3 4, .bool false]⟩]) (pats := [ivP 0 1, s0 2]) (res := .bool true) (by kernel_rfl)
      fnil (econs (slots_ent awake_con out0 into_bool) rfl (econs (slots_ent hiv (outC (outo_rawV rfl rfl) (outC outo_int (outC outo_int out0))) (into_two (into_ivP hA.ok hB.ok rfl rfl) into_bool)) rfl enil)) rfl (inC (into_rawV rfl rfl) (inC (into0 rfl) in0)) outo_bool
  · obtain ⟨m0, X1, X2, X3, X4, X5, f0, f1, f2, hf, R0⟩ := row_of hA hB hle v
    obtain ⟨m1, Y1, Y2, Y3, Y4, Y5, g0, g1, g2, hg, R1⟩ := row_of hA hB hle (v % 60)
    obtain ⟨m2, Z1, Z2, Z3, Z4, Z5, h0, h1, h2, hh, R2⟩ := row_of hA hB hle (511 + v % 3)
    have q1 := mmod_con (v := v) (n := 60) (by decide) (by decide)
    have q2 := mmod_con (v := v) (n := 3) (by decide) (by decide)
    have w3 : IntKind.i64.wrap (511 + v % 3) = 511 + v % 3 := wrap_small (by omega) (by omega)
    let vv : Nat → OneVal := fun i => ([boolV b, intV .i64 e, boolV b', intV .i64 e', intV .i64 v, intV .i64 (v % 60), intV .i64 (v % 3), intV .i64 (511 + v % 3), intV .i64 m0, intV .i64 (m0 + 1), intV .i64 (m0 + 2), intV .i64 m1, intV .i64 (m1 + 1), intV .i64 (m1 + 2), intV .i64 m2, intV .i64 (m2 + 1), intV .i64 (m2 + 2)] : List OneVal).getD i default
    let nn : Nat → Int := fun i => ([A, B, X1, X2, X3, X4, X5, Y1, Y2, Y3, Y4, Y5, Z1, Z2, Z3, Z4, Z5] : List Int).getD i 0
    exact slots_con [rawS l (boolV b) (intV .i64 e), rawS l' (boolV b') (intV .i64 e'), valS (intV .i64 v), vS A, vS B, valS (intV .i64 (v % 60)), valS (intV .i64 (v % 3)), valS (intV .i64 (511 + v % 3)), valS (intV .i64 m0), valS (intV .i64 (m0 + 1)), valS (intV .i64 (m0 + 2)), vS X1, vS X2, vS X3, vS X4, vS X5, valS (intV .i64 m1), valS (intV .i64 (m1 + 1)), valS (intV .i64 (m1 + 2)), vS Y1, vS Y2, vS Y3, vS Y4, vS Y5, valS (intV .i64 m2), valS (intV .i64 (m2 + 1)), valS (intV .i64 (m2 + 2)), vS Z1, vS Z2, vS Z3, vS Z4, vS Z5]
      mix (F := lawF) (T := lawE f0 f1 f2 g0 g1 g2 h0 h1 h2) (pats := [ivP 0 1, s0 2]) (res := .bool true) (law_run hf hg hh l l' vv nn)
      (fapp (fcons (fact_add rfl (fun _ => rfl) (gam0 rfl) (gam0 rfl) w3) fnil) (fapp (row_facts R0.w1 R0.w2 rfl rfl rfl) (fapp (row_facts R1.w1 R1.w2 rfl rfl rfl) (row_facts R2.w1 R2.w2 rfl rfl rfl))))
      (eapp (econs (slots_ent awake_con out0 into_bool) rfl (econs (slots_ent hiv (outC (outo_rawV rfl rfl) (outC outo_int (outC outo_int out0))) (into_two (into_ivP hA.ok hB.ok rfl rfl) into_bool)) rfl (econs (slots_ent q1 (outC (outo0 rfl) (outC outo_int out0)) (into0 rfl)) rfl (econs (slots_ent q2 (outC (outo0 rfl) (outC outo_int out0)) (into0 rfl)) rfl enil))))
        (eapp (row_ents R0 rfl rfl rfl rfl rfl rfl rfl rfl rfl rfl rfl) (eapp (row_ents R1 rfl rfl rfl rfl rfl rfl rfl rfl rfl rfl rfl) (row_ents R2 rfl rfl rfl rfl rfl rfl rfl rfl rfl rfl rfl)))) rfl (inC (into_rawV rfl rfl) (inC (into0 rfl) in0)) outo_bool
end
end Go.Proofs.YtkpjikaobjpkoaaGreatDoor
