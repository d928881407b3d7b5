/-
  Naturals by their elements: plain facts on sums of elements; walk of Cmp.
-/
import Derived.Test.YtkpjikaobjpkoaaGreatDoorPkNaNb
import Derived.Deep.QuietTactic
import Derived.Laws.OwnMore
namespace Go.Proofs.YtkpjikaobjpkoaaGreatDoor
open Go.RowKit

/-- The call returns v; the heap may have grown, nothing that was there has changed. -/
def Quiet (v : Value) (w : World) (e : Ending) (w' : World) : Prop := e = .returned v ∧ Below w.heap.size w w'

theorem below_drewN {B : Nat} {w w' : World} (h : Below B w w') (n : Nat) : Below B w (w'.drewN n) := ⟨h.os, h.tape, h.output, h.size, h.block⟩

/-- The value of the first n elements. -/
def valF (f : Nat → Nat) : Nat → Nat
  | 0 => 0
  | n + 1 => valF f n + 4294967296 ^ n * f n
/-- The i-th element. -/
def el (l : List Nat) (i : Nat) : Nat := l.getD i 0

theorem valF_cons (x : Nat) (l : List Nat) : ∀ n, valF (el (x :: l)) (n + 1) = x + 4294967296 * valF (el l) n
  | 0 => by simp [valF, el]
  | n + 1 => by
    have ih := valF_cons x l n
    show valF (el (x :: l)) (n + 1) + 4294967296 ^ (n + 1) * el (x :: l) (n + 1) = x + 4294967296 * (valF (el l) n + 4294967296 ^ n * el l n)
    have e : el (x :: l) (n + 1) = el l n := by simp [el]
    rw [ih, e, Nat.pow_succ, Nat.mul_add, Nat.mul_comm (4294967296 ^ n) 4294967296, Nat.mul_assoc, Nat.add_assoc]
theorem val_valF : ∀ l : List Nat, val l = valF (el l) l.length
  | [] => rfl
  | x :: l => by rw [List.length_cons, valF_cons, ← val_valF l]; rfl
theorem valF_zero {f : Nat → Nat} {k : Nat} : ∀ {n : Nat}, k ≤ n → (∀ j, k ≤ j → j < n → f j = 0) → valF f n = valF f k
  | 0, h, _ => by rw [show k = 0 by omega]
  | n + 1, h, hz => by
    by_cases e : k = n + 1
    · rw [e]
    · show valF f n + 4294967296 ^ n * f n = _
      rw [hz n (by omega) (by omega), Nat.mul_zero, Nat.add_zero, valF_zero (by omega) fun j h1 h2 => hz j h1 (by omega)]
theorem valF_bound {f : Nat → Nat} (hf : ∀ j, f j < 4294967296) : ∀ n, valF f n < 4294967296 ^ n
  | 0 => by simp [valF]
  | n + 1 => by
    have ih := valF_bound hf n
    have h1 := hf n
    have h2 : 4294967296 ^ n * (f n + 1) ≤ 4294967296 ^ n * 4294967296 := Nat.mul_le_mul_left _ (by omega)
    rw [Nat.mul_add, Nat.mul_one] at h2
    show valF f n + 4294967296 ^ n * f n < 4294967296 ^ (n + 1)
    rw [Nat.pow_succ]; omega
theorem valF_lt {f g : Nat → Nat} (hf : ∀ j, f j < 4294967296) {i : Nat} (hlt : f i < g i) : ∀ {n : Nat}, i < n → (∀ j, i < j → j < n → f j = g j) → valF f n < valF g n
  | 0, h, _ => by omega
  | n + 1, h, he => by
    show valF f n + 4294967296 ^ n * f n < valF g n + 4294967296 ^ n * g n
    by_cases e : i = n
    · subst e
      have h1 := valF_bound hf i
      have h2 : 4294967296 ^ i * (f i + 1) ≤ 4294967296 ^ i * g i := Nat.mul_le_mul_left _ hlt
      rw [Nat.mul_add, Nat.mul_one] at h2
      omega
    · have ih := valF_lt hf hlt (n := n) (by omega) fun j h1 h2 => he j h1 (by omega)
      rw [he n (by omega) (by omega)]
      omega
theorem valF_eq {f g : Nat → Nat} : ∀ {n : Nat}, (∀ j, j < n → f j = g j) → valF f n = valF g n
  | 0, _ => rfl
  | n + 1, h => by
    show valF f n + 4294967296 ^ n * f n = valF g n + 4294967296 ^ n * g n
    rw [valF_eq fun j hj => h j (by omega), h n (by omega)]

theorem szN_zero : ∀ (l : List Nat) (i : Nat), szN l ≤ i → el l i = 0
  | [], i, _ => by simp [el]
  | x :: l, i, h => by
    unfold szN at h
    by_cases e : x = 0 ∧ szN l = 0
    · cases i with
      | zero => simp [el, e.1]
      | succ i => have := szN_zero l i (by omega); simpa [el] using this
    · rw [if_neg e] at h
      cases i with
      | zero => omega
      | succ i => have := szN_zero l i (by omega); simpa [el] using this
theorem szN_top : ∀ l : List Nat, 0 < szN l → el l (szN l - 1) ≠ 0
  | [], h => by simp [szN] at h
  | x :: l, h => by
    by_cases e : x = 0 ∧ szN l = 0
    · simp [szN, e] at h
    · have es : szN (x :: l) = szN l + 1 := by simp only [szN, if_neg e]
      rw [es, Nat.add_sub_cancel]
      by_cases e0 : szN l = 0
      · rw [e0]
        have : x ≠ 0 := fun hx => e ⟨hx, e0⟩
        simpa [el] using this
      · have := szN_top l (by omega)
        obtain ⟨k, hk⟩ : ∃ k, szN l = k + 1 := ⟨szN l - 1, by omega⟩
        rw [hk] at this ⊢
        simpa [el] using this
theorem val_szN (l : List Nat) : val l = valF (el l) (szN l) := by
  rw [val_valF]
  exact valF_zero (szN_le l) fun j h1 _ => szN_zero l j h1
theorem el_lt {l : List Nat} (h : Limbs l) (i : Nat) : el l i < 4294967296 := limbs_get h i
theorem val_lt_sz {l m : List Nat} (hl : Limbs l) (h : szN l < szN m) : val l < val m := by
  rw [val_szN l, val_szN m]
  have h1 := valF_bound (el_lt hl) (szN l)
  obtain ⟨k, hk⟩ : ∃ k, szN m = k + 1 := ⟨szN m - 1, by omega⟩
  have ht := szN_top m (by omega)
  rw [hk, Nat.add_sub_cancel] at ht
  rw [hk]
  show _ < valF (el m) k + 4294967296 ^ k * el m k
  have h2 : 4294967296 ^ szN l ≤ 4294967296 ^ k := Nat.pow_le_pow_right (by omega) (by omega)
  have h3 : 4294967296 ^ k * 1 ≤ 4294967296 ^ k * el m k := Nat.mul_le_mul_left _ (by omega)
  omega

/-- How two numbers compare. -/
def cmpI (a b : Nat) : Int := if a < b then -1 else if b < a then 1 else 0
theorem cmpI_lt {a b : Nat} (h : a < b) : cmpI a b = -1 := if_pos h
theorem cmpI_gt {a b : Nat} (h : b < a) : cmpI a b = 1 := by unfold cmpI; rw [if_neg (by omega), if_pos h]
theorem cmpI_eq {a b : Nat} (h : a = b) : cmpI a b = 0 := by unfold cmpI; rw [if_neg (by omega), if_neg (by omega)]

section
variable {w : World}

set_option maxHeartbeats 1000000 in
theorem cmp_any {v u : Value} {l m : List Nat} (h : NatSl w v l) (h' : NatSl w u m) : Calls Tryz.prog 117 #[v, u] w (Quiet (.int .i64 (cmpI (val l) (val m))) w) := by
  have HS := Lib.hid (size_any h)
  have HS' := Lib.hid (size_any h')
  have HL := Lib.hid h.2
  have HM := Lib.hid h'.2
  have hn1 := szN_le l
  have hn2 := szN_le m
  obtain ⟨a, c, x, rfl, ha, hc, hm, hcell⟩ := h.form
  obtain ⟨a', c', x', rfl, ha', hc', hm', hcell'⟩ := h'.form
  have HC := Lib.hid (fun w' (hb : Below w.heap.size w w') i (hi : i < l.length) => (hb.cell (World.block_lt_of_cell? w _ (hcell i hi))).trans (hcell i hi))
  have HC' := Lib.hid (fun w' (hb : Below w.heap.size w w') i (hi : i < m.length) => (hb.cell (World.block_lt_of_cell? w _ (hcell' i hi))).trans (hcell' i hi))
  have HA := Lib.hid ha
  have HA' := Lib.hid ha'
  unfold maxLen at hm hm'
  clear h h' hcell hcell' ha ha'
  obtain ⟨n, hn⟩ : ∃ n, szN l = n := ⟨_, rfl⟩
  obtain ⟨n', hn'⟩ : ∃ n, szN m = n := ⟨_, rfl⟩
  rw [hn] at HS hn1
  rw [hn'] at HS' hn2
  have HN := Lib.hid hn
  have HN' := Lib.hid hn'
  clear hn hn'
  go_enter Tryz.func117, Tryz.ntmps117
  go_wp2_with fail
  refine HS.out.mono ?_
  rintro e w' ⟨rfl, rfl⟩
  go_wp2_with fail
  refine HS'.out.mono ?_
  rintro e w' ⟨rfl, rfl⟩
  rcases Nat.lt_trichotomy n n' with hlt | rfl | hlt
  · have hi1 : (n : Int) < n' := by omega
    go_wp2_with fail
    go_ret
    exact ⟨by rw [cmpI_lt (val_lt_sz HL.out (by rw [HN.out, HN'.out]; exact hlt))]; rfl, Below.refl _ _⟩
  · go_wp2_with fail
    go_loopg [7] n (fun g iv wr => ∃ k : Nat, g = k ∧ k ≤ n ∧ ((k = 0 ∧ iv = .int .i64 (-1)) ∨ (0 < k ∧ iv = .int .i64 ((k - 1 : Nat) : Int))) ∧ (∀ j, k ≤ j → j < n → el l j = el m j) ∧ Below w.heap.size w wr)
    case atStart =>
      refine ⟨n, rfl, Nat.le_refl _, ?_, fun j h1 h2 => by omega, Below.refl _ _⟩
      by_cases e : n = 0
      · exact .inl ⟨e, by subst e; rfl⟩
      · exact .inr ⟨by omega, by congr 1; omega⟩
    case round =>
      obtain ⟨k, rfl, hk, hiv, heq, hb⟩ := hrel
      have HE := Lib.hid heq
      have HB := Lib.hid hb
      clear heq hb
      rcases hiv with ⟨rfl, rfl⟩ | ⟨hk0, rfl⟩
      · go_wp2_with fail
        go_ret
        exact ⟨by rw [cmpI_eq (by rw [val_szN l, val_szN m, HN.out, HN'.out]; exact valF_eq fun j hj => HE.out j (Nat.zero_le _) hj)]; rfl, HB.out⟩
      · obtain ⟨i, hi⟩ : ∃ i, gk - 1 = i := ⟨_, rfl⟩
        rw [hi]
        have hin : i < n := by omega
        have hgi : gk = i + 1 := by omega
        subst hgi
        clear hi
        obtain rfl := HA.out (by omega)
        obtain rfl := HA'.out (by omega)
        have q1 := HC.out _ HB.out i (by omega)
        have q2 := HC'.out _ HB.out i (by omega)
        obtain ⟨d1, hd1⟩ : ∃ d, l.getD i 0 = d := ⟨_, rfl⟩
        obtain ⟨d2, hd2⟩ : ∃ d, m.getD i 0 = d := ⟨_, rfl⟩
        rw [hd1] at q1
        rw [hd2] at q2
        have i0 : (0 : Int) ≤ i := by omega
        have i1 : (i : Int) < l.length := by omega
        have i2 : (i : Int) < m.length := by omega
        have HD1 := Lib.hid (show el l i = d1 from hd1)
        have HD2 := Lib.hid (show el m i = d2 from hd2)
        clear hd1 hd2
        rcases Nat.lt_trichotomy d1 d2 with hlt | hde | hlt
        · have hi1 : (d1 : Int) < d2 := by omega
          go_wp2_with fail
          go_quiet (fail)
          go_wp2_with fail
          go_ret
          exact ⟨by rw [cmpI_lt (by rw [val_szN l, val_szN m, HN.out, HN'.out]; exact valF_lt (el_lt HL.out) (i := i) (by rw [HD1.out, HD2.out]; exact hlt) hin fun j h1 h2 => HE.out j h1 h2)]; rfl, below_drewN HB.out _⟩
        · subst hde
          go_wp2_with fail
          go_quiet (fail)
          go_wp2_with fail
          go_quiet (fail)
          go_wp2_with fail
          go_roundg i
          case measure => omega
          case rel =>
            refine ⟨i, rfl, by omega, ?_, fun j h1 h2 => ?_, below_drewN HB.out _⟩
            · by_cases e : i = 0
              · exact .inl ⟨e, by subst e; rfl⟩
              · exact .inr ⟨by omega, by congr 1; omega⟩
            · by_cases e : j = i
              · rw [e, HD1.out, HD2.out]
              · exact HE.out j (by omega) h2
        · have hi1 : (d2 : Int) < d1 := by omega
          have hi2 : ¬ (d1 : Int) < d2 := by omega
          go_wp2_with fail
          go_quiet (fail)
          go_wp2_with fail
          go_quiet (fail)
          go_wp2_with fail
          go_ret
          exact ⟨by rw [cmpI_gt (by rw [val_szN l, val_szN m, HN.out, HN'.out]; exact valF_lt (el_lt HM.out) (i := i) (by rw [HD1.out, HD2.out]; exact hlt) hin fun j h1 h2 => (HE.out j h1 h2).symm)]; rfl, below_drewN (below_drewN HB.out _) _⟩
  · have hi1 : (n' : Int) < n := by omega
    have hi2 : ¬ (n : Int) < n' := by omega
    go_wp2_with fail
    go_ret
    exact ⟨by rw [cmpI_gt (val_lt_sz HM.out (by rw [HN.out, HN'.out]; exact hlt))]; rfl, Below.refl _ _⟩
end

end Go.Proofs.YtkpjikaobjpkoaaGreatDoor
/-
  Naturals: walk of Add.
-/
namespace Go.Proofs.YtkpjikaobjpkoaaGreatDoor
open Go.RowKit

theorem u32_zeros (n : Nat) : (madeCells (Value.int .u32 0).cells (n * 1)).toList = u32Cells (List.replicate n 0) := by
  show (madeCells #[.int .u32 0] (n * 1)).toList = _
  rw [toList_madeCells_one, Nat.mul_one]
  simp [u32Cells]
theorem limbs_zeros (n : Nat) : Limbs (List.replicate n 0) := fun x hx => by rw [(List.mem_replicate.1 hx).2]; decide
theorem el_set {l : List Nat} {k : Nat} (d : Nat) (hk : k < l.length) (j : Nat) : el (l.set k d) j = if j = k then d else el l j := by
  unfold el
  rw [List.getD_eq_getElem?_getD, List.getElem?_set, List.getD_eq_getElem?_getD]
  by_cases e : k = j
  · subst e; simp [hk]
  · rw [if_neg e, if_neg (fun h => e h.symm)]
theorem limbs_set {l : List Nat} (h : Limbs l) (k : Nat) {d : Nat} (hd : d < 4294967296) : Limbs (l.set k d) := fun x hx => by
  rcases List.mem_or_eq_of_mem_set hx with h1 | rfl
  · exact h x h1
  · exact hd
theorem u32_set (l : List Nat) (k d : Nat) : u32Cells (l.set k d) = (u32Cells l).set k (.int .u32 (d : Int)) := by simp [u32Cells, List.map_set]
/-- An element of a row of one's own is written. -/
theorem NatOw.set {w : World} {base g n cap : Nat} {l : List Nat} (h : NatOw w base (.slice (some ⟨g, 0, none⟩) n cap) l) {k d : Nat} (hd : d < 4294967296) :
    NatOw (w.setCell ⟨g, k, none⟩ (.int .u32 (d : Int))) base (.slice (some ⟨g, 0, none⟩) n cap) (l.set k d) := by
  refine ⟨?_, limbs_set h.2 k hd⟩
  have e : n = l.length := by
    rcases h.1.2 with ⟨e, _⟩ | ⟨_, _, _, e, _⟩
    · cases e
    · cases e; rfl
  subst e
  have := (h.1.stored k (.int .u32 (d : Int))).1
  rw [u32_set, List.length_set]
  exact this
theorem valF_set {l : List Nat} {k d : Nat} (hk : k < l.length) : valF (el (l.set k d)) (k + 1) = valF (el l) k + 4294967296 ^ k * d := by
  show valF (el (l.set k d)) k + 4294967296 ^ k * el (l.set k d) k = _
  rw [el_set d hk k, if_pos rfl, valF_eq (f := el (l.set k d)) (g := el l) fun j hj => by rw [el_set d hk j, if_neg (by omega)]]
/-- One step of an addition. -/
theorem add_step {p a b s k cr cr' d x y : Nat} (h : s + p * cr = a + b) (hc : cr + x + y = d + 4294967296 * cr') (hp : p = 4294967296 ^ k) : s + p * d + 4294967296 ^ (k + 1) * cr' = (a + p * x) + (b + p * y) := by
  have : p * (cr + x + y) = p * (d + 4294967296 * cr') := by rw [hc]
  rw [Nat.mul_add, Nat.mul_add, Nat.mul_add, ← Nat.mul_assoc] at this
  rw [Nat.pow_succ, ← hp]
  omega

section
variable {w : World}

set_option maxHeartbeats 2000000 in
/-- Add, where the first is at least as long. -/
theorem add_le {v u : Value} {l m : List Nat} (h : NatSl w v l) (h' : NatSl w u m) (hlen : m.length ≤ l.length) (hn : l.length ≤ 100000000) : Calls Tryz.prog 123 #[v, u] w (NatP (val l + val m) w) := by
  have HL := Lib.hid h.2
  have HM := Lib.hid h'.2
  obtain ⟨a, c, x, rfl, ha, hc, hm, hcell⟩ := h.form
  obtain ⟨a', c', x', rfl, ha', hc', hm', hcell'⟩ := h'.form
  have HC := Lib.hid (fun w' (hb : Below w.heap.size w w') i (hi : i < l.length) => (hb.cell (World.block_lt_of_cell? w _ (hcell i hi))).trans (hcell i hi))
  have HC' := Lib.hid (fun w' (hb : Below w.heap.size w w') i (hi : i < m.length) => (hb.cell (World.block_lt_of_cell? w _ (hcell' i hi))).trans (hcell' i hi))
  have HA := Lib.hid ha
  have HA' := Lib.hid ha'
  unfold maxLen at hm hm'
  clear h h' hcell hcell' ha ha'
  have hi1 : ¬ (l.length : Int) < m.length := by omega
  obtain ⟨i0, hi0, hz0, hz1, hz2⟩ := info_parts infoU32
  go_enter Tryz.func123, Tryz.ntmps123
  go_wp2_with (refine wpList_make_full w rfl (.tmp 18) (.tmp 18) 22 rfl w.heap.size 143 i0 _ 1 Tryz.underlying22 hi0 hz0 hz1 _ _ _ _ (l.length + 1) rfl rfl (by omega) (by omega) (by rw [hz2]; omega) (by unfold maxLen; omega) (Nat.le_refl _) ?_; intro w1 ho hg)
  have hb1 : Below w.heap.size w w1 := (Below.refl _ _).grown hg (Nat.le_refl _) (by intro k hk; cases hk)
  rw [u32_zeros] at ho
  have hO : NatOw w1 w.heap.size (.slice (some ⟨w.heap.size, 0, none⟩) (l.length + 1) (l.length + 1)) (List.replicate (l.length + 1) 0) := ⟨by rw [List.length_replicate]; exact ho, limbs_zeros _⟩
  have HO := Lib.hid hO
  have HB1 := Lib.hid hb1
  clear ho hg hb1 hO hi0 hz0 hz1 hz2
  go_wp2_with fail
  obtain ⟨g, hg⟩ : ∃ g, w.heap.size = g := ⟨_, rfl⟩
  rw [hg] at HO ⊢
  have HG := Lib.hid hg
  clear hg
  go_loopg [6, 22] l.length (fun gh cv iv wr => ∃ (k cr : Nat) (o : List Nat), gh + k = l.length ∧ iv = .int .i64 k ∧ cv = .int .u64 cr ∧ cr < 2 ∧ o.length = l.length + 1 ∧ NatOw wr g (.slice (some ⟨g, 0, none⟩) (l.length + 1) (l.length + 1)) o ∧
    valF (el o) k + 4294967296 ^ k * cr = valF (el l) k + valF (el m) k ∧ Below w.heap.size w wr)
  case atStart => exact ⟨0, 0, _, rfl, rfl, rfl, by decide, List.length_replicate, HO.out, by simp [valF], HB1.out⟩
  case round =>
    obtain ⟨k, cr, o, hk, rfl, rfl, hcr, hol, hO, hv, hb⟩ := hrel
    have HK := Lib.hid hk
    have HOL := Lib.hid hol
    have HV := Lib.hid hv
    have HB := Lib.hid hb
    have hk63 : (k : Int) ≤ 100000000 := by omega
    by_cases hlt : k < l.length
    · obtain rfl := HA.out (by omega)
      have hO1 := hO.1
      rw [hol] at hO1
      have hfr := hO1.frozenAt k
      obtain ⟨cu, hcu⟩ : ∃ cu, wr.cell? ⟨g, k, none⟩ = some cu := ⟨_, own_cell hO1 (u32_get (by omega))⟩
      clear hO1
      have HOW := Lib.hid hO
      have q1 := HC.out _ hb k hlt
      obtain ⟨x1, hx1⟩ : ∃ d, l.getD k 0 = d := ⟨_, rfl⟩
      rw [hx1] at q1
      have bx : x1 < 4294967296 := by rw [← hx1]; exact limbs_get HL.out k
      have HX1 := Lib.hid (show el l k = x1 from hx1)
      have hlt' : (k : Int) < l.length := by omega
      have hlt2 : (k : Int) < (l.length : Int) + 1 := by omega
      have hk0 : (0 : Int) ≤ k := by omega
      clear hx1 hk hol hv hb hO
      by_cases hm2 : k < m.length
      · obtain rfl := HA'.out (by omega)
        have q2 := HC'.out _ HB.out k hm2
        obtain ⟨y1, hy1⟩ : ∃ d, m.getD k 0 = d := ⟨_, rfl⟩
        rw [hy1] at q2
        have byy : y1 < 4294967296 := by rw [← hy1]; exact limbs_get HM.out k
        have HY1 := Lib.hid (show el m k = y1 from hy1)
        have hm2' : (k : Int) < m.length := by omega
        clear hy1
        obtain ⟨s, hs⟩ : ∃ s, cr + x1 + y1 = s := ⟨_, rfl⟩
        obtain ⟨d, hd⟩ : ∃ d, s % 4294967296 = d := ⟨_, rfl⟩
        obtain ⟨cr', hcr'⟩ : ∃ c, s / 4294967296 = c := ⟨_, rfl⟩
        have e0 : (cr : Int) + (x1 : Int) + (y1 : Int) = (s : Int) := by omega
        have e1 : (s : Int) % 4294967296 = (d : Int) := by omega
        have e2 : (s : Int) / 4294967296 = (cr' : Int) := by omega
        have HS := Lib.hid (show cr + x1 + y1 = d + 4294967296 * cr' by omega)
        have HD := Lib.hid (show d < 4294967296 by omega)
        have HCR := Lib.hid (show cr' < 2 by omega)
        clear hs hd hcr'
        go_wp2_with fail
        go_roundg (l.length - (k + 1))
        case measure => have := HK.out; omega
        case rel =>
          refine ⟨k + 1, cr', o.set k d, by have := HK.out; omega, by go_num, rfl, HCR.out, by rw [List.length_set]; exact HOL.out, HOW.out.set HD.out, ?_, HB.out.setCell (by rw [HG.out]; exact Nat.le_refl _) _⟩
          rw [valF_set (by rw [HOL.out]; omega)]
          show _ = valF (el l) k + 4294967296 ^ k * el l k + (valF (el m) k + 4294967296 ^ k * el m k)
          rw [HX1.out, HY1.out]
          exact add_step HV.out HS.out rfl
      · have hm2' : ¬ (k : Int) < m.length := by omega
        have HY1 := Lib.hid (show el m k = 0 by unfold el; rw [List.getD_eq_getElem?_getD, List.getElem?_eq_none (by omega)]; rfl)
        obtain ⟨s, hs⟩ : ∃ s, cr + x1 = s := ⟨_, rfl⟩
        obtain ⟨d, hd⟩ : ∃ d, s % 4294967296 = d := ⟨_, rfl⟩
        obtain ⟨cr', hcr'⟩ : ∃ c, s / 4294967296 = c := ⟨_, rfl⟩
        have e0 : (cr : Int) + (x1 : Int) = (s : Int) := by omega
        have e1 : (s : Int) % 4294967296 = (d : Int) := by omega
        have e2 : (s : Int) / 4294967296 = (cr' : Int) := by omega
        have HS := Lib.hid (show cr + x1 + 0 = d + 4294967296 * cr' by omega)
        have HD := Lib.hid (show d < 4294967296 by omega)
        have HCR := Lib.hid (show cr' < 2 by omega)
        clear hs hd hcr'
        go_wp2_with fail
        go_roundg (l.length - (k + 1))
        case measure => have := HK.out; omega
        case rel =>
          refine ⟨k + 1, cr', o.set k d, by have := HK.out; omega, by go_num, rfl, HCR.out, by rw [List.length_set]; exact HOL.out, HOW.out.set HD.out, ?_, HB.out.setCell (by rw [HG.out]; exact Nat.le_refl _) _⟩
          rw [valF_set (by rw [HOL.out]; omega)]
          show _ = valF (el l) k + 4294967296 ^ k * el l k + (valF (el m) k + 4294967296 ^ k * el m k)
          rw [HX1.out, HY1.out]
          exact add_step HV.out HS.out rfl
    · obtain rfl : k = l.length := by omega
      have hlt' : ¬ (l.length : Int) < l.length := by omega
      have hO1 := hO.1
      rw [hol] at hO1
      have hfr := hO1.frozenAt l.length
      obtain ⟨cu, hcu⟩ : ∃ cu, wr.cell? ⟨g, l.length, none⟩ = some cu := ⟨_, own_cell hO1 (u32_get (by omega))⟩
      clear hO1
      have hlt2 : (l.length : Int) < (l.length : Int) + 1 := by omega
      have e1 : (cr : Int) % 4294967296 = (cr : Int) := by omega
      obtain ⟨wz, hwz⟩ : ∃ wz, wz = wr.setCell ⟨g, l.length, none⟩ (.int .u32 (cr : Int)) := ⟨_, rfl⟩
      have hz : NatOw wz g (.slice (some ⟨g, 0, none⟩) (l.length + 1) (l.length + 1)) (o.set l.length cr) := by rw [hwz]; exact hO.set (by omega)
      have hbz : Below w.heap.size w wz := by rw [hwz]; exact hb.setCell (by rw [HG.out]; exact Nat.le_refl _) _
      have hval : val (o.set l.length cr) = val l + val m := by
        rw [val_valF (o.set l.length cr), List.length_set, hol, valF_set (by omega), hv, ← val_valF l]
        have : valF (el m) l.length = val m := by
          rw [val_valF m]
          exact valF_zero hlen fun j h1 _ => by unfold el; rw [List.getD_eq_getElem?_getD, List.getElem?_eq_none (by omega)]; rfl
        rw [this]
      have hs1 := szN_le (o.set l.length cr)
      rw [List.length_set, hol] at hs1
      have HZ := Lib.hid (size_any hz.sl)
      have HT := Lib.hid hz.trim
      have HBZ := Lib.hid hbz
      have HVAL := Lib.hid hval
      have HWZ := Lib.hid hwz
      obtain ⟨r, hr⟩ : ∃ r, szN (o.set l.length cr) = r := ⟨_, rfl⟩
      rw [hr] at HZ HT hs1
      have b1 : (0 : Int) ≤ r := by omega
      have b2 : (r : Int) ≤ (l.length : Int) + 1 := by omega
      clear hz hbz hval hwz hr hO hb hv hol hk HV HB HOL HO HB1
      go_wp2_with fail
      rw [← HWZ.out]
      refine HZ.out.mono ?_
      rintro e w' ⟨rfl, rfl⟩
      go_wp2_with fail
      go_ret
      exact ⟨_, rfl, HVAL.out ▸ HT.out.base (by rw [HG.out]; exact Nat.le_refl _), HBZ.out⟩
end

end Go.Proofs.YtkpjikaobjpkoaaGreatDoor
/-
  Naturals: walk of Add, the other case; walks of product.Small, quotient.Small.
-/
namespace Go.Proofs.YtkpjikaobjpkoaaGreatDoor
open Go.RowKit

section
variable {w : World}

set_option maxHeartbeats 2000000 in
/-- Add, where the second is longer: the text of the other case behind the swap. -/
theorem add_gt {v u : Value} {l m : List Nat} (h' : NatSl w v m) (h : NatSl w u l) (hlt0 : m.length < l.length) (hn : l.length ≤ 100000000) : Calls Tryz.prog 123 #[v, u] w (NatP (val l + val m) w) := by
  have hlen : m.length ≤ l.length := Nat.le_of_lt hlt0
  have HL := Lib.hid h.2
  have HM := Lib.hid h'.2
  obtain ⟨a, c, x, rfl, ha, hc, hm, hcell⟩ := h.form
  obtain ⟨a', c', x', rfl, ha', hc', hm', hcell'⟩ := h'.form
  have HC := Lib.hid (fun w' (hb : Below w.heap.size w w') i (hi : i < l.length) => (hb.cell (World.block_lt_of_cell? w _ (hcell i hi))).trans (hcell i hi))
  have HC' := Lib.hid (fun w' (hb : Below w.heap.size w w') i (hi : i < m.length) => (hb.cell (World.block_lt_of_cell? w _ (hcell' i hi))).trans (hcell' i hi))
  have HA := Lib.hid ha
  have HA' := Lib.hid ha'
  unfold maxLen at hm hm'
  clear h h' hcell hcell' ha ha'
  have hi1 : (m.length : Int) < l.length := by omega
  obtain ⟨i0, hi0, hz0, hz1, hz2⟩ := info_parts infoU32
  go_enter Tryz.func123, Tryz.ntmps123
  go_wp2_with (refine wpList_make_full w rfl (.tmp 18) (.tmp 18) 22 rfl w.heap.size 143 i0 _ 1 Tryz.underlying22 hi0 hz0 hz1 _ _ _ _ (l.length + 1) rfl rfl (by omega) (by omega) (by rw [hz2]; omega) (by unfold maxLen; omega) (Nat.le_refl _) ?_; intro w1 ho hg)
  have hb1 : Below w.heap.size w w1 := (Below.refl _ _).grown hg (Nat.le_refl _) (by intro k hk; cases hk)
  rw [u32_zeros] at ho
  have hO : NatOw w1 w.heap.size (.slice (some ⟨w.heap.size, 0, none⟩) (l.length + 1) (l.length + 1)) (List.replicate (l.length + 1) 0) := ⟨by rw [List.length_replicate]; exact ho, limbs_zeros _⟩
  have HO := Lib.hid hO
  have HB1 := Lib.hid hb1
  clear ho hg hb1 hO hi0 hz0 hz1 hz2
  go_wp2_with fail
  obtain ⟨g, hg⟩ : ∃ g, w.heap.size = g := ⟨_, rfl⟩
  rw [hg] at HO ⊢
  have HG := Lib.hid hg
  clear hg
  go_loopg [6, 22] l.length (fun gh cv iv wr => ∃ (k cr : Nat) (o : List Nat), gh + k = l.length ∧ iv = .int .i64 k ∧ cv = .int .u64 cr ∧ cr < 2 ∧ o.length = l.length + 1 ∧ NatOw wr g (.slice (some ⟨g, 0, none⟩) (l.length + 1) (l.length + 1)) o ∧
    valF (el o) k + 4294967296 ^ k * cr = valF (el l) k + valF (el m) k ∧ Below w.heap.size w wr)
  case atStart => exact ⟨0, 0, _, rfl, rfl, rfl, by decide, List.length_replicate, HO.out, by simp [valF], HB1.out⟩
  case round =>
    obtain ⟨k, cr, o, hk, rfl, rfl, hcr, hol, hO, hv, hb⟩ := hrel
    have HK := Lib.hid hk
    have HOL := Lib.hid hol
    have HV := Lib.hid hv
    have HB := Lib.hid hb
    have hk63 : (k : Int) ≤ 100000000 := by omega
    by_cases hlt : k < l.length
    · obtain rfl := HA.out (by omega)
      have hO1 := hO.1
      rw [hol] at hO1
      have hfr := hO1.frozenAt k
      obtain ⟨cu, hcu⟩ : ∃ cu, wr.cell? ⟨g, k, none⟩ = some cu := ⟨_, own_cell hO1 (u32_get (by omega))⟩
      clear hO1
      have HOW := Lib.hid hO
      have q1 := HC.out _ hb k hlt
      obtain ⟨x1, hx1⟩ : ∃ d, l.getD k 0 = d := ⟨_, rfl⟩
      rw [hx1] at q1
      have bx : x1 < 4294967296 := by rw [← hx1]; exact limbs_get HL.out k
      have HX1 := Lib.hid (show el l k = x1 from hx1)
      have hlt' : (k : Int) < l.length := by omega
      have hlt2 : (k : Int) < (l.length : Int) + 1 := by omega
      have hk0 : (0 : Int) ≤ k := by omega
      clear hx1 hk hol hv hb hO
      by_cases hm2 : k < m.length
      · obtain rfl := HA'.out (by omega)
        have q2 := HC'.out _ HB.out k hm2
        obtain ⟨y1, hy1⟩ : ∃ d, m.getD k 0 = d := ⟨_, rfl⟩
        rw [hy1] at q2
        have byy : y1 < 4294967296 := by rw [← hy1]; exact limbs_get HM.out k
        have HY1 := Lib.hid (show el m k = y1 from hy1)
        have hm2' : (k : Int) < m.length := by omega
        clear hy1
        obtain ⟨s, hs⟩ : ∃ s, cr + x1 + y1 = s := ⟨_, rfl⟩
        obtain ⟨d, hd⟩ : ∃ d, s % 4294967296 = d := ⟨_, rfl⟩
        obtain ⟨cr', hcr'⟩ : ∃ c, s / 4294967296 = c := ⟨_, rfl⟩
        have e0 : (cr : Int) + (x1 : Int) + (y1 : Int) = (s : Int) := by omega
        have e1 : (s : Int) % 4294967296 = (d : Int) := by omega
        have e2 : (s : Int) / 4294967296 = (cr' : Int) := by omega
        have HS := Lib.hid (show cr + x1 + y1 = d + 4294967296 * cr' by omega)
        have HD := Lib.hid (show d < 4294967296 by omega)
        have HCR := Lib.hid (show cr' < 2 by omega)
        clear hs hd hcr'
        go_wp2_with fail
        go_roundg (l.length - (k + 1))
        case measure => have := HK.out; omega
        case rel =>
          refine ⟨k + 1, cr', o.set k d, by have := HK.out; omega, by go_num, rfl, HCR.out, by rw [List.length_set]; exact HOL.out, HOW.out.set HD.out, ?_, HB.out.setCell (by rw [HG.out]; exact Nat.le_refl _) _⟩
          rw [valF_set (by rw [HOL.out]; omega)]
          show _ = valF (el l) k + 4294967296 ^ k * el l k + (valF (el m) k + 4294967296 ^ k * el m k)
          rw [HX1.out, HY1.out]
          exact add_step HV.out HS.out rfl
      · have hm2' : ¬ (k : Int) < m.length := by omega
        have HY1 := Lib.hid (show el m k = 0 by unfold el; rw [List.getD_eq_getElem?_getD, List.getElem?_eq_none (by omega)]; rfl)
        obtain ⟨s, hs⟩ : ∃ s, cr + x1 = s := ⟨_, rfl⟩
        obtain ⟨d, hd⟩ : ∃ d, s % 4294967296 = d := ⟨_, rfl⟩
        obtain ⟨cr', hcr'⟩ : ∃ c, s / 4294967296 = c := ⟨_, rfl⟩
        have e0 : (cr : Int) + (x1 : Int) = (s : Int) := by omega
        have e1 : (s : Int) % 4294967296 = (d : Int) := by omega
        have e2 : (s : Int) / 4294967296 = (cr' : Int) := by omega
        have HS := Lib.hid (show cr + x1 + 0 = d + 4294967296 * cr' by omega)
        have HD := Lib.hid (show d < 4294967296 by omega)
        have HCR := Lib.hid (show cr' < 2 by omega)
        clear hs hd hcr'
        go_wp2_with fail
        go_roundg (l.length - (k + 1))
        case measure => have := HK.out; omega
        case rel =>
          refine ⟨k + 1, cr', o.set k d, by have := HK.out; omega, by go_num, rfl, HCR.out, by rw [List.length_set]; exact HOL.out, HOW.out.set HD.out, ?_, HB.out.setCell (by rw [HG.out]; exact Nat.le_refl _) _⟩
          rw [valF_set (by rw [HOL.out]; omega)]
          show _ = valF (el l) k + 4294967296 ^ k * el l k + (valF (el m) k + 4294967296 ^ k * el m k)
          rw [HX1.out, HY1.out]
          exact add_step HV.out HS.out rfl
    · obtain rfl : k = l.length := by omega
      have hlt' : ¬ (l.length : Int) < l.length := by omega
      have hO1 := hO.1
      rw [hol] at hO1
      have hfr := hO1.frozenAt l.length
      obtain ⟨cu, hcu⟩ : ∃ cu, wr.cell? ⟨g, l.length, none⟩ = some cu := ⟨_, own_cell hO1 (u32_get (by omega))⟩
      clear hO1
      have hlt2 : (l.length : Int) < (l.length : Int) + 1 := by omega
      have e1 : (cr : Int) % 4294967296 = (cr : Int) := by omega
      obtain ⟨wz, hwz⟩ : ∃ wz, wz = wr.setCell ⟨g, l.length, none⟩ (.int .u32 (cr : Int)) := ⟨_, rfl⟩
      have hz : NatOw wz g (.slice (some ⟨g, 0, none⟩) (l.length + 1) (l.length + 1)) (o.set l.length cr) := by rw [hwz]; exact hO.set (by omega)
      have hbz : Below w.heap.size w wz := by rw [hwz]; exact hb.setCell (by rw [HG.out]; exact Nat.le_refl _) _
      have hval : val (o.set l.length cr) = val l + val m := by
        rw [val_valF (o.set l.length cr), List.length_set, hol, valF_set (by omega), hv, ← val_valF l]
        have : valF (el m) l.length = val m := by
          rw [val_valF m]
          exact valF_zero hlen fun j h1 _ => by unfold el; rw [List.getD_eq_getElem?_getD, List.getElem?_eq_none (by omega)]; rfl
        rw [this]
      have hs1 := szN_le (o.set l.length cr)
      rw [List.length_set, hol] at hs1
      have HZ := Lib.hid (size_any hz.sl)
      have HT := Lib.hid hz.trim
      have HBZ := Lib.hid hbz
      have HVAL := Lib.hid hval
      have HWZ := Lib.hid hwz
      obtain ⟨r, hr⟩ : ∃ r, szN (o.set l.length cr) = r := ⟨_, rfl⟩
      rw [hr] at HZ HT hs1
      have b1 : (0 : Int) ≤ r := by omega
      have b2 : (r : Int) ≤ (l.length : Int) + 1 := by omega
      clear hz hbz hval hwz hr hO hb hv hol hk HV HB HOL HO HB1
      go_wp2_with fail
      rw [← HWZ.out]
      refine HZ.out.mono ?_
      rintro e w' ⟨rfl, rfl⟩
      go_wp2_with fail
      go_ret
      exact ⟨_, rfl, HVAL.out ▸ HT.out.base (by rw [HG.out]; exact Nat.le_refl _), HBZ.out⟩

theorem add_any {v u : Value} {l m : List Nat} (h : NatSl w v l) (h' : NatSl w u m) (hn : l.length ≤ 100000000) (hm : m.length ≤ 100000000) : Calls Tryz.prog 123 #[v, u] w (NatP (val l + val m) w) := by
  by_cases e : m.length ≤ l.length
  · exact add_le h h' e hn
  · rw [Nat.add_comm]
    exact add_gt h h' (by omega) hm
end

end Go.Proofs.YtkpjikaobjpkoaaGreatDoor
