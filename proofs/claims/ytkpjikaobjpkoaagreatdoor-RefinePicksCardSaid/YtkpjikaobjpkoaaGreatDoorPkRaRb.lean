/-
  Naturals: walks of places and Shr.
-/
import Derived.Test.YtkpjikaobjpkoaaGreatDoorPkNcNdNe
import Derived.Lib.EndianBits
namespace Go.Proofs.YtkpjikaobjpkoaaGreatDoor
open Go.RowKit

/-! ### plain facts -/
theorem pow_pos_b (n : Nat) : 0 < 4294967296 ^ n := Nat.pow_pos (by decide)
/-- 2^32 is the product of 2^r and 2^(32 - r). -/
theorem pow_split {r : Nat} (hr : r < 32) : 2 ^ r * 2 ^ (32 - r) = 4294967296 := by
  rw [← Nat.pow_add, show r + (32 - r) = 32 by omega]
theorem shr_limb {R S x y : Nat} (hR : 0 < R) (h : R * S = 4294967296) (hx : x < 4294967296) : R * ((x + 4294967296 * y) / R % 4294967296) + x % R = x + 4294967296 * (y % R) := by
  have e1 : (x + 4294967296 * y) / R = x / R + S * y := by
    rw [← h, Nat.mul_assoc, Nat.add_mul_div_left _ _ hR]
  have hS : x / R < S := by rw [Nat.div_lt_iff_lt_mul hR, Nat.mul_comm, h]; exact hx
  have e2 : (x / R + S * y) % 4294967296 = x / R + S * (y % R) := by
    have h1 : S * y = S * (y % R) + 4294967296 * (y / R) := by
      have := Nat.div_add_mod y R
      calc S * y = S * (R * (y / R) + y % R) := by rw [this]
        _ = S * (y % R) + R * S * (y / R) := by rw [Nat.mul_add, Nat.add_comm, ← Nat.mul_assoc, Nat.mul_comm S R]
        _ = _ := by rw [h]
    rw [h1, ← Nat.add_assoc, Nat.add_mul_mod_self_left, Nat.mod_eq_of_lt]
    have h2 : y % R + 1 ≤ R := Nat.mod_lt _ hR
    have h3 : S * (y % R) + S ≤ 4294967296 := by
      rw [← h, Nat.mul_comm R S]
      exact Nat.le_trans (by rw [Nat.mul_add, Nat.mul_one]; exact Nat.le_refl _) (Nat.mul_le_mul_left S h2)
    omega
  rw [e1, e2, Nat.mul_add, ← Nat.mul_assoc, h]
  have := Nat.div_add_mod x R
  omega
theorem valF_succ (f : Nat → Nat) (n : Nat) : valF f (n + 1) = valF f n + 4294967296 ^ n * f n := rfl
theorem shr_step {f : Nat → Nat} {R S k d s0 s : Nat} (hR : 0 < R) (h : R * S = 4294967296) (hf : f k < 4294967296) (hd : (f k + 4294967296 * f (k + 1)) / R % 4294967296 = d)
    (hv : valF f k + 4294967296 ^ k * (f k % R) = s0 + R * s) : valF f (k + 1) + 4294967296 ^ (k + 1) * (f (k + 1) % R) = s0 + R * (s + 4294967296 ^ k * d) := by
  have e := shr_limb (y := f (k + 1)) hR h hf
  rw [hd] at e
  rw [valF_succ, Nat.pow_succ, Nat.mul_add, ← Nat.add_assoc, ← hv, ← Nat.mul_assoc R, Nat.mul_comm R, Nat.mul_assoc _ R d]
  have : 4294967296 ^ k * (R * d) + 4294967296 ^ k * (f k % R) = 4294967296 ^ k * f k + 4294967296 ^ k * (4294967296 * (f (k + 1) % R)) := by
    rw [← Nat.mul_add, ← Nat.mul_add, e]
  rw [Nat.mul_assoc (4294967296 ^ k)]
  omega
/-- The elements from the w-th on. -/
theorem valF_shift (f : Nat → Nat) (w : Nat) : ∀ m, valF f (w + m) = valF f w + 4294967296 ^ w * valF (fun i => f (i + w)) m
  | 0 => by simp [valF]
  | m + 1 => by
    rw [← Nat.add_assoc, valF_succ, valF_shift f w m, valF_succ, Nat.mul_add, ← Nat.mul_assoc, ← Nat.pow_add, Nat.add_comm m w, Nat.add_assoc]
theorem val_high {l : List Nat} (hl : Limbs l) {w m : Nat} (h : l.length = w + m) : val l / 4294967296 ^ w = valF (fun i => el l (i + w)) m := by
  rw [val_valF, h, valF_shift, Nat.add_mul_div_left _ _ (pow_pos_b w), Nat.div_eq_of_lt (valF_bound (fun j => el_lt hl j) w), Nat.zero_add]
theorem pow_words (n : Nat) : 2 ^ n = 4294967296 ^ (n / 32) * 2 ^ (n % 32) := by
  rw [show 4294967296 = 2 ^ 32 by decide, ← Nat.pow_mul, ← Nat.pow_add, Nat.div_add_mod]
theorem shr_end {l o : List Nat} {n m : Nat} (hl : Limbs l) (hm : l.length = n / 32 + m) (ho : o.length = m)
    (hv : valF (fun i => el l (i + n / 32)) m + 4294967296 ^ m * (el l (m + n / 32) % 2 ^ (n % 32)) = el l (n / 32) % 2 ^ (n % 32) + 2 ^ (n % 32) * valF (el o) m) : val o = val l / 2 ^ n := by
  have h0 : el l (m + n / 32) = 0 := by unfold el; rw [List.getD_eq_getElem?_getD, List.getElem?_eq_none (by omega)]; rfl
  rw [h0, Nat.zero_mod, Nat.mul_zero, Nat.add_zero] at hv
  rw [pow_words n, ← Nat.div_div_eq_div_mul, val_high hl hm, hv, Nat.add_mul_div_left _ _ (Nat.pow_pos (by decide)), Nat.div_eq_of_lt (Nat.mod_lt _ (Nat.pow_pos (by decide))), Nat.zero_add, val_valF, ho]

theorem bits_or_comm (k : IntKind) (x y : Int) : bits .or k x y = bits .or k y x := by
  unfold bits
  simp only
  congr 2
  exact Nat.or_comm _ _
theorem div_pow_cast (s r : Nat) : (s : Int) / 2 ^ r = ((s / 2 ^ r : Nat) : Int) := by
  rw [Int.natCast_ediv, Int.natCast_pow]; rfl
section
variable {w : World}
theorem places_any (n : Nat) (hn : n ≤ 1048576) : Calls Tryz.prog 165 #[.int .i64 (n : Int)] w (Pure0 (.int .i64 (n : Int)) w) := by
  have h1 : max (n : Int) 0 = n := by omega
  have h2 : min (n : Int) 1048576 = n := by omega
  go_enter Tryz.func165, Tryz.ntmps165
  go_wp2_with fail
  go_ret
  exact pure_mk rfl
theorem natF_nil (w : World) (base : Nat) : NatF w base (.slice none 0 0) 0 := ⟨[], ⟨World.ownsRow_nil _ _ _ _, fun x hx => by cases hx⟩, rfl, rfl⟩
set_option maxRecDepth 100000 in
set_option maxHeartbeats 4000000 in
theorem shr_any {v : Value} {l : List Nat} (h : NatSl w v l) (hn : l.length ≤ 100000000) (n : Nat) (hn1 : n ≤ 1048576) : Calls Tryz.prog 122 #[v, .int .i64 (n : Int)] w (NatP (val l / 2 ^ n) w) := by
  have HL := Lib.hid h.2
  have HP := Lib.hid (places_any (w := w) n hn1)
  obtain ⟨a, c, x, rfl, ha, hc, hm, hcell⟩ := h.form
  have HC := Lib.hid (fun w' (hb : Below w.heap.size w w') i (hi : i < l.length) => (hb.cell (World.block_lt_of_cell? w _ (hcell i hi))).trans (hcell i hi))
  have HA := Lib.hid ha
  unfold maxLen at hm
  clear h hcell ha
  obtain ⟨q, hq⟩ : ∃ q, n / 32 = q := ⟨_, rfl⟩
  obtain ⟨r, hr⟩ : ∃ r, n % 32 = r := ⟨_, rfl⟩
  have hq1 : (n : Int).tdiv 32 = (q : Int) := by rw [Int.tdiv_eq_ediv_of_nonneg (by omega)]; omega
  have hr1 : (n : Int).tmod 32 = (r : Int) := by rw [Int.tmod_eq_emod_of_nonneg (by omega)]; omega
  have hr32 : r < 32 := by omega
  have hr2 : (r : Int) % 18446744073709551616 = (r : Int) := by omega
  have hqb : q ≤ 32768 := by omega
  have HQ := Lib.hid (And.intro hq hr)
  clear hq hr
  go_enter Tryz.func122, Tryz.ntmps122
  go_wp2_with fail
  refine HP.out.mono ?_
  rintro e w' ⟨rfl, rfl⟩
  by_cases hlen : l.length ≤ q
  · have hlen' : (l.length : Int) ≤ (q : Int) := by omega
    have HV := Lib.hid (show val l / 2 ^ n = 0 by
      rw [pow_words n, HQ.out.1]
      refine Nat.div_eq_of_lt (Nat.lt_of_lt_of_le ?_ (Nat.le_mul_of_pos_right _ (Nat.pow_pos (by decide))))
      rw [val_valF]
      exact Nat.lt_of_lt_of_le (valF_bound (fun j => el_lt HL.out j) _) (Nat.pow_le_pow_right (by decide) hlen))
    go_wp2_with fail
    go_ret
    exact ⟨_, rfl, by rw [HV.out]; exact natF_nil _ _, Below.refl _ _⟩
  · have hlen' : ¬ (l.length : Int) ≤ (q : Int) := by omega
    obtain ⟨m, hm0⟩ : ∃ m, l.length = q + m := ⟨l.length - q, by omega⟩
    have HM := Lib.hid hm0
    have e0 : (l.length : Int) - (q : Int) = (m : Int) := by omega
    have hmb : m ≤ 100000000 := by omega
    obtain rfl := HA.out (by omega)
    obtain ⟨i0, hi0, hz0, hz1, hz2⟩ := info_parts infoU32
    clear hm0
    go_wp2_with (refine wpList_make_full w rfl (.tmp 24) (.tmp 24) 22 rfl w.heap.size 143 i0 _ 1 Tryz.underlying22 hi0 hz0 hz1 _ _ _ _ m rfl rfl rfl rfl (by rw [hz2]; omega) (by unfold maxLen; omega) (Nat.le_refl _) ?_; intro w1 ho hg)
    have hb1 : Below w.heap.size w w1 := (Below.refl _ _).grown hg (Nat.le_refl _) (by intro k hk; cases hk)
    rw [u32_zeros] at ho
    have hO : NatOw w1 w.heap.size (.slice (some ⟨w.heap.size, 0, none⟩) m m) (List.replicate m 0) := ⟨by rw [List.length_replicate]; exact ho, limbs_zeros _⟩
    have HO := Lib.hid hO
    have HB1 := Lib.hid hb1
    clear ho hg hb1 hO hi0 hz0 hz1 hz2
    go_wp2_with fail
    obtain ⟨g, hg⟩ : ∃ g, w.heap.size = g := ⟨_, rfl⟩
    rw [hg] at HO ⊢
    have HG := Lib.hid hg
    clear hg
    go_loopg [28] m (fun gh iv wr => ∃ (k : Nat) (o : List Nat), gh + k = m ∧ iv = .int .i64 k ∧ o.length = m ∧ NatOw wr g (.slice (some ⟨g, 0, none⟩) m m) o ∧
      valF (fun i => el l (i + q)) k + 4294967296 ^ k * (el l (k + q) % 2 ^ r) = el l q % 2 ^ r + 2 ^ r * valF (el o) k ∧ Below w.heap.size w wr)
    case atStart => exact ⟨0, _, rfl, rfl, List.length_replicate, HO.out, by simp [valF], HB1.out⟩
    case round =>
      obtain ⟨k, o, hk, rfl, hol, hO, hv, hb⟩ := hrel
      have HK := Lib.hid hk
      have HOL := Lib.hid hol
      have HV := Lib.hid hv
      have HB := Lib.hid hb
      have hk63 : (k : Int) ≤ 100000000 := by omega
      by_cases hlt : k < m
      · have hO1 := hO.1
        rw [hol] at hO1
        have hfr := hO1.frozenAt k
        obtain ⟨cu, hcu⟩ : ∃ cu, wr.cell? ⟨g, k, none⟩ = some cu := ⟨_, own_cell hO1 (u32_get (by omega))⟩
        clear hO1
        have HOW := Lib.hid hO
        obtain ⟨j, hj⟩ : ∃ j, k + q = j := ⟨_, rfl⟩
        have ej : (k : Int) + (q : Int) = (j : Int) := by omega
        obtain ⟨j1, hj1⟩ : ∃ j1, j + 1 = j1 := ⟨_, rfl⟩
        have ej1 : (j : Int) + 1 = (j1 : Int) := by omega
        have hjl : j < l.length := by rw [HM.out]; omega
        have q1 := HC.out _ hb j hjl
        obtain ⟨x1, hx1⟩ : ∃ d, l.getD j 0 = d := ⟨_, rfl⟩
        rw [hx1] at q1
        have bx : x1 < 4294967296 := by rw [← hx1]; exact limbs_get HL.out j
        have HX1 := Lib.hid (show el l j = x1 from hx1)
        have hjl' : (j : Int) < l.length := by omega
        have hj0 : (0 : Int) ≤ j := by omega
        have hlt2 : (k : Int) < (m : Int) := by omega
        have hk0 : (0 : Int) ≤ k := by omega
        have HJ := Lib.hid (And.intro hj hj1)
        have hj1b : (j1 : Int) ≤ 200000000 := by omega
        clear hx1 hk hol hv hb hO hj hj1
        by_cases hm2 : j1 < l.length
        · have hm2' : (j1 : Int) < l.length := by omega
          have hj10 : (0 : Int) ≤ j1 := by omega
          have q2 := HC.out _ HB.out j1 hm2
          obtain ⟨y1, hy1⟩ : ∃ d, l.getD j1 0 = d := ⟨_, rfl⟩
          rw [hy1] at q2
          have byy : y1 < 4294967296 := by rw [← hy1]; exact limbs_get HL.out j1
          have HY1 := Lib.hid (show el l j1 = y1 from hy1)
          clear hy1
          obtain ⟨s, hs⟩ : ∃ s, x1 + 4294967296 * y1 = s := ⟨_, rfl⟩
          have eor : bits .or .u64 (x1 : Int) ((y1 : Int) * 4294967296) = (s : Int) := by
            rw [bits_or_comm, bits_join .u64 64 (by decide) wraps_u64 32 ((y1 : Int) * 4294967296) (x1 : Int) (by omega) (by omega) (by omega) (by omega) (by omega) (by omega)]
            omega
          obtain ⟨t, ht⟩ : ∃ t, s / 2 ^ r = t := ⟨_, rfl⟩
          obtain ⟨d, hd⟩ : ∃ d, t % 4294967296 = d := ⟨_, rfl⟩
          have e2 : (s : Int) / 2 ^ r = (t : Int) := by rw [← ht]; exact div_pow_cast s r
          have e3 : (t : Int) % 4294967296 = (d : Int) := by omega
          have HD := Lib.hid (show d < 4294967296 by omega)
          have HS := Lib.hid (show (el l (k + q) + 4294967296 * el l (k + 1 + q)) / 2 ^ r % 4294967296 = d by rw [show k + 1 + q = j1 by have := HJ.out; omega, show k + q = j from HJ.out.1, HX1.out, HY1.out, ← hd, ← ht, ← hs])
          clear hs ht hd
          go_wp2_with fail
          go_roundg (m - (k + 1))
          case measure => have := HK.out; omega
          case rel =>
            refine ⟨k + 1, o.set k d, by have := HK.out; omega, by go_num, by rw [List.length_set]; exact HOL.out, HOW.out.set HD.out, ?_, HB.out.setCell (by rw [HG.out]; exact Nat.le_refl _) _⟩
            rw [valF_set (by rw [HOL.out]; omega)]
            exact shr_step (f := fun i => el l (i + q)) (Nat.pow_pos (by decide)) (pow_split hr32) (el_lt HL.out _) HS.out HV.out
        · have hm2' : ¬ (j1 : Int) < l.length := by omega
          have HY1 := Lib.hid (show el l j1 = 0 by unfold el; rw [List.getD_eq_getElem?_getD, List.getElem?_eq_none (by omega)]; rfl)
          obtain ⟨s, hs⟩ : ∃ s, x1 = s := ⟨_, rfl⟩
          obtain ⟨t, ht⟩ : ∃ t, s / 2 ^ r = t := ⟨_, rfl⟩
          obtain ⟨d, hd⟩ : ∃ d, t % 4294967296 = d := ⟨_, rfl⟩
          have e2 : (x1 : Int) / 2 ^ r = (t : Int) := by rw [← ht, hs]; exact div_pow_cast s r
          have e3 : (t : Int) % 4294967296 = (d : Int) := by omega
          have HD := Lib.hid (show d < 4294967296 by omega)
          have HS := Lib.hid (show (el l (k + q) + 4294967296 * el l (k + 1 + q)) / 2 ^ r % 4294967296 = d by rw [show k + 1 + q = j1 by have := HJ.out; omega, show k + q = j from HJ.out.1, HX1.out, HY1.out, Nat.mul_zero, Nat.add_zero, ← hd, ← ht, ← hs])
          clear hs ht hd
          go_wp2_with fail
          go_roundg (m - (k + 1))
          case measure => have := HK.out; omega
          case rel =>
            refine ⟨k + 1, o.set k d, by have := HK.out; omega, by go_num, by rw [List.length_set]; exact HOL.out, HOW.out.set HD.out, ?_, HB.out.setCell (by rw [HG.out]; exact Nat.le_refl _) _⟩
            rw [valF_set (by rw [HOL.out]; omega)]
            exact shr_step (f := fun i => el l (i + q)) (Nat.pow_pos (by decide)) (pow_split hr32) (el_lt HL.out _) HS.out HV.out
      · obtain rfl : k = m := by omega
        have hval : val o = val l / 2 ^ n := shr_end HL.out (by rw [HM.out, HQ.out.1]) hol (by rw [HQ.out.1, HQ.out.2]; exact hv)
        have hs1 := szN_le o
        rw [hol] at hs1
        have HZ := Lib.hid (size_any hO.sl)
        have HT := Lib.hid hO.trim
        have HVAL := Lib.hid hval
        obtain ⟨z, hz⟩ : ∃ z, szN o = z := ⟨_, rfl⟩
        rw [hz] at HZ HT hs1
        have b1 : (0 : Int) ≤ z := by omega
        have b2 : (z : Int) ≤ (k : Int) := by omega
        clear hval hz hO hb hv hol hk HV HOL HO HB1 hlt
        go_wp2_with fail
        refine HZ.out.mono ?_
        rintro e w' ⟨rfl, rfl⟩
        go_wp2_with fail
        go_ret
        exact ⟨_, rfl, HVAL.out ▸ HT.out.base (by rw [HG.out]; exact Nat.le_refl _), HB.out⟩
end
end Go.Proofs.YtkpjikaobjpkoaaGreatDoor
/-
  Naturals: walk of Shl.
-/
namespace Go.Proofs.YtkpjikaobjpkoaaGreatDoor
open Go.RowKit

theorem el_zeros (n j : Nat) : el (List.replicate n 0) j = 0 := by
  unfold el
  rw [List.getD_eq_getElem?_getD]
  rcases Nat.lt_or_ge j n with h | h
  · rw [List.getElem?_eq_getElem (by rw [List.length_replicate]; exact h), List.getElem_replicate]; rfl
  · rw [List.getElem?_eq_none (by rw [List.length_replicate]; exact h)]; rfl
theorem valF_zeros {f : Nat → Nat} (h : ∀ j, f j = 0) : ∀ n, valF f n = 0
  | 0 => rfl
  | n + 1 => by rw [valF_succ, valF_zeros h n, h n, Nat.mul_zero]
/-- What a limb becomes: its low part is a multiple of 2^r, its high part is less than 2^r. -/
theorem shl_limb {R S x : Nat} (hR : 0 < R) (h : R * S = 4294967296) (hx : x < 4294967296) : (x * R) % 4294967296 % R = 0 ∧ x * R / 4294967296 < R := by
  constructor
  · rw [← h, Nat.mod_mul_right_mod, Nat.mul_mod_left]
  · rw [Nat.div_lt_iff_lt_mul (by decide)]
    rw [Nat.mul_comm]
    exact Nat.mul_lt_mul_of_pos_left hx hR
theorem shl_low {R S x u : Nat} (hR : 0 < R) (h : R * S = 4294967296) (hx : x < 4294967296) (hu : u < R) : (x * R) % 4294967296 + u < 4294967296 := by
  have h1 := (shl_limb hR h hx).1
  obtain ⟨c, hc⟩ := Nat.dvd_of_mod_eq_zero h1
  have h2 : (x * R) % 4294967296 < 4294967296 := Nat.mod_lt _ (by decide)
  rw [hc] at h2 ⊢
  rw [← h] at h2 ⊢
  have h3 : c < S := Nat.lt_of_mul_lt_mul_left h2
  calc R * c + u < R * c + R := by omega
    _ = R * (c + 1) := by rw [Nat.mul_add, Nat.mul_one]
    _ ≤ R * S := Nat.mul_le_mul_left R h3
theorem shl_val {R q k x u lo hi s t : Nat} (hs : s + 4294967296 ^ (k + q) * u = 4294967296 ^ q * (R * t)) (hx : lo + 4294967296 * hi = x * R) :
    s + 4294967296 ^ (k + q) * (lo + u) + 4294967296 ^ (k + q + 1) * hi = 4294967296 ^ q * (R * (t + 4294967296 ^ k * x)) := by
  have e : 4294967296 ^ q * (R * (t + 4294967296 ^ k * x)) = 4294967296 ^ q * (R * t) + 4294967296 ^ (k + q) * (x * R) := by
    rw [Nat.mul_add, Nat.mul_add, Nat.pow_add, Nat.mul_comm R (_ * x), Nat.mul_assoc (4294967296 ^ k) x R, Nat.mul_comm (4294967296 ^ k) (4294967296 ^ q), Nat.mul_assoc (4294967296 ^ q) (4294967296 ^ k)]
  rw [e, ← hs, ← hx, Nat.mul_add, Nat.mul_add, Nat.pow_succ, Nat.mul_assoc]
  omega
theorem shl_end {l : List Nat} {n : Nat} : 4294967296 ^ (n / 32) * (2 ^ (n % 32) * valF (el l) (szN l)) = val l * 2 ^ n := by
  rw [← val_szN, ← Nat.mul_assoc, ← pow_words, Nat.mul_comm]

theorem shl_round {o : List Nat} {j d hi : Nat} (hj : j + 1 < o.length) : valF (el ((o.set j d).set (j + 1) hi)) (j + 1) = valF (el o) j + 4294967296 ^ j * d ∧ el ((o.set j d).set (j + 1) hi) (j + 1) = hi ∧ ∀ i, j + 1 < i → el ((o.set j d).set (j + 1) hi) i = el o i := by
  have hl : j + 1 < (o.set j d).length := by rw [List.length_set]; exact hj
  refine ⟨?_, by rw [el_set hi hl, if_pos rfl], fun i hi' => by rw [el_set hi hl, if_neg (by omega), el_set d (by omega), if_neg (by omega)]⟩
  rw [← valF_set (by omega)]
  exact valF_eq fun i hi' => by rw [el_set hi hl, if_neg (by omega)]
theorem mul_pow_cast (x r : Nat) : (x : Int) * 2 ^ r = ((x * 2 ^ r : Nat) : Int) := by
  rw [Int.natCast_mul, Int.natCast_pow]; rfl
theorem pow_le_31 {r : Nat} (hr : r < 32) : 2 ^ r ≤ 2147483648 := Nat.pow_le_pow_right (by decide) (show r ≤ 31 by omega)

section
variable {w : World}
set_option maxRecDepth 100000 in
set_option maxHeartbeats 4000000 in
theorem shl_any {v : Value} {l : List Nat} (h : NatSl w v l) (hn : l.length ≤ 100000000) (n : Nat) (hn1 : n ≤ 1048576) : Calls Tryz.prog 163 #[v, .int .i64 (n : Int)] w (NatP (val l * 2 ^ n) w) := by
  have HL := Lib.hid h.2
  have HP := Lib.hid (places_any (w := w) n hn1)
  have HS := Lib.hid (size_any h)
  have hs := szN_le l
  obtain ⟨a, c, x, rfl, ha, hc, hm, hcell⟩ := h.form
  have HC := Lib.hid (fun w' (hb : Below w.heap.size w w') i (hi : i < l.length) => (hb.cell (World.block_lt_of_cell? w _ (hcell i hi))).trans (hcell i hi))
  have HA := Lib.hid ha
  unfold maxLen at hm
  clear h hcell ha
  obtain ⟨q, hq⟩ : ∃ q, n / 32 = q := ⟨_, rfl⟩
  obtain ⟨r, hr⟩ : ∃ r, n % 32 = r := ⟨_, rfl⟩
  have hq1 : (n : Int).tdiv 32 = (q : Int) := by rw [Int.tdiv_eq_ediv_of_nonneg (by omega)]; omega
  have hr1 : (n : Int).tmod 32 = (r : Int) := by rw [Int.tmod_eq_emod_of_nonneg (by omega)]; omega
  have hr32 : r < 32 := by omega
  have hr2 : (r : Int) % 18446744073709551616 = (r : Int) := by omega
  have hqb : q ≤ 32768 := by omega
  have HQ := Lib.hid (And.intro hq hr)
  obtain ⟨z, hz⟩ : ∃ z, szN l = z := ⟨_, rfl⟩
  have HZ := Lib.hid hz
  rw [hz] at HS hs
  clear hq hr hz
  have hz0 : (0 : Int) ≤ (z : Int) := by omega
  have hz1 : (z : Int) ≤ (l.length : Int) := by omega
  go_enter Tryz.func163, Tryz.ntmps163
  go_wp2_with fail
  refine HP.out.mono ?_
  rintro e w' ⟨rfl, rfl⟩
  go_wp2_with fail
  refine HS.out.mono ?_
  rintro e w' ⟨rfl, rfl⟩
  by_cases h0 : z = 0
  · have HV := Lib.hid (show val l * 2 ^ n = 0 by rw [val_szN, HZ.out, h0]; simp [valF])
    subst h0
    go_wp2_with fail
    go_ret
    exact ⟨_, rfl, by rw [HV.out]; exact natF_nil _ _, Below.refl _ _⟩
  · have hzb : ((z : Int) == 0) = false := by simpa using h0
    have hzn : ¬ (z : Int) = 0 := by omega
    obtain rfl := HA.out (by omega)
    obtain ⟨m, hm0⟩ : ∃ m, z + q + 1 = m := ⟨_, rfl⟩
    have e0 : (z : Int) + (q : Int) + 1 = (m : Int) := by omega
    have hmb : m ≤ 200000000 := by omega
    have HM := Lib.hid hm0
    obtain ⟨i0, hi0, hzz0, hzz1, hzz2⟩ := info_parts infoU32
    clear hm0
    go_wp2_with (refine wpList_make_full w rfl (.tmp 29) (.tmp 29) 22 rfl w.heap.size 143 i0 _ 1 Tryz.underlying22 hi0 hzz0 hzz1 _ _ _ _ m rfl rfl rfl rfl (by rw [hzz2]; omega) (by unfold maxLen; omega) (Nat.le_refl _) ?_; intro w1 ho hg)
    have hb1 : Below w.heap.size w w1 := (Below.refl _ _).grown hg (Nat.le_refl _) (by intro k hk; cases hk)
    rw [u32_zeros] at ho
    have hO : NatOw w1 w.heap.size (.slice (some ⟨w.heap.size, 0, none⟩) m m) (List.replicate m 0) := ⟨by rw [List.length_replicate]; exact ho, limbs_zeros _⟩
    have HO := Lib.hid hO
    have HB1 := Lib.hid hb1
    clear ho hg hb1 hO hi0 hzz0 hzz1 hzz2
    go_wp2_with fail
    obtain ⟨g, hg⟩ : ∃ g, w.heap.size = g := ⟨_, rfl⟩
    rw [hg] at HO ⊢
    have HG := Lib.hid hg
    clear hg
    go_loopg [33] z (fun gh iv wr => ∃ (k : Nat) (o : List Nat), gh + k = z ∧ iv = .int .i64 k ∧ o.length = m ∧ NatOw wr g (.slice (some ⟨g, 0, none⟩) m m) o ∧
      valF (el o) (k + q) + 4294967296 ^ (k + q) * el o (k + q) = 4294967296 ^ q * (2 ^ r * valF (el l) k) ∧ el o (k + q) < 2 ^ r ∧ (∀ j, k + q < j → el o j = 0) ∧ Below w.heap.size w wr)
    case atStart => exact ⟨0, _, rfl, rfl, List.length_replicate, HO.out, by rw [valF_zeros (el_zeros m), el_zeros]; simp [valF], by rw [el_zeros]; exact Nat.pow_pos (by decide), fun j _ => el_zeros m j, HB1.out⟩
    case round =>
      obtain ⟨k, o, hk, rfl, hol, hO, hv, hu, hze, hb⟩ := hrel
      have HK := Lib.hid hk
      have HOL := Lib.hid hol
      have HV := Lib.hid (And.intro hv (And.intro hu hze))
      have HB := Lib.hid hb
      have hk63 : (k : Int) ≤ 100000000 := by omega
      by_cases hlt : k < z
      · have hO1 := hO.1
        rw [hol] at hO1
        have HOW := Lib.hid hO
        obtain ⟨j, hj⟩ : ∃ j, k + q = j := ⟨_, rfl⟩
        have ej : (k : Int) + (q : Int) = (j : Int) := by omega
        obtain ⟨j1, hj1⟩ : ∃ j1, j + 1 = j1 := ⟨_, rfl⟩
        have ej1 : (j : Int) + 1 = (j1 : Int) := by omega
        have hfr := hO1.frozenAt j
        have hfr1 := hO1.frozenAt j1
        obtain ⟨u, hu1⟩ : ∃ u, el o j = u := ⟨_, rfl⟩
        have hcu : wr.cell? ⟨g, j, none⟩ = some (.int .u32 (u : Int)) := by rw [← hu1]; exact own_cell hO1 (u32_get (by have := HM.out; omega))
        obtain ⟨cu1, hcu1⟩ : ∃ cu, wr.cell? ⟨g, j1, none⟩ = some cu := ⟨_, own_cell hO1 (u32_get (by have := HM.out; omega))⟩
        have q1 := HC.out _ hb k (by omega)
        obtain ⟨x1, hx1⟩ : ∃ d, l.getD k 0 = d := ⟨_, rfl⟩
        rw [hx1] at q1
        have bx : x1 < 4294967296 := by rw [← hx1]; exact limbs_get HL.out k
        have HX1 := Lib.hid (show el l k = x1 from hx1)
        have HU := Lib.hid hu1
        have hjm : (j : Int) < (m : Int) := by have := HM.out; omega
        have hj1m : (j1 : Int) < (m : Int) := by have := HM.out; omega
        have hj0 : (0 : Int) ≤ j := by omega
        have hj10 : (0 : Int) ≤ j1 := by omega
        have hlt2 : (k : Int) < (z : Int) := by omega
        have hk0 : (0 : Int) ≤ k := by omega
        have HJ := Lib.hid (And.intro hj hj1)
        have hj1b : (j1 : Int) ≤ 200000000 := by omega
        have hne : ¬ j1 = j := by omega
        have hne2 : ¬ j = j1 := by omega
        clear hO1 hx1 hk hol hv hb hO hj hj1 hu1 hu hze
        have hlim := shl_limb (Nat.pow_pos (n := r) (by decide)) (pow_split hr32) bx
        have hlow := shl_low (u := u) (Nat.pow_pos (n := r) (by decide)) (pow_split hr32) bx (by rw [← HU.out, ← HJ.out.1]; exact HV.out.2.1)
        have hr31 := pow_le_31 hr32
        obtain ⟨y, hy⟩ : ∃ y, x1 * 2 ^ r = y := ⟨_, rfl⟩
        rw [hy] at hlim hlow
        obtain ⟨lo, hlo⟩ : ∃ lo, y % 4294967296 = lo := ⟨_, rfl⟩
        obtain ⟨hi, hhi⟩ : ∃ hi, y / 4294967296 = hi := ⟨_, rfl⟩
        rw [hlo] at hlim hlow
        rw [hhi] at hlim
        have hur : u < 2 ^ r := by rw [← HU.out, ← HJ.out.1]; exact HV.out.2.1
        have ewr : IntKind.u64.wrap ((x1 : Int) * 2 ^ r) = (y : Int) := by rw [mul_pow_cast, hy]; exact wraps_u64 _ (by omega) (by omega)
        have elo : (y : Int) % 4294967296 = (lo : Int) := by omega
        have ehi : (y : Int) / 4294967296 = (hi : Int) := by omega
        have ehi2 : (hi : Int) % 4294967296 = (hi : Int) := by omega
        obtain ⟨d, hd⟩ : ∃ d, lo + u = d := ⟨_, rfl⟩
        have eor : bits .or .u32 (u : Int) (lo : Int) = (d : Int) := by
          rw [bits_or_comm, bits_join .u32 32 (by decide) wraps_u32 r (lo : Int) (u : Int) (by omega) (by exact_mod_cast hlim.1) (by omega) (by omega) (by exact_mod_cast hur) (by omega)]
          omega
        have HD := Lib.hid (And.intro (show d < 4294967296 by omega) (show hi < 4294967296 by omega))
        have HE := Lib.hid (show lo + 4294967296 * hi = x1 * 2 ^ r by rw [hy]; omega)
        have HHI := Lib.hid hlim.2
        have HLO := Lib.hid hd
        clear hlim hlow hr31 hy hlo hhi hur hd
        go_wp2_with fail
        go_roundg (z - (k + 1))
        case measure => have := HK.out; omega
        case rel =>
          have hj2 : j + 1 < o.length := by rw [HOL.out]; have := HM.out; have := HJ.out; omega
          obtain ⟨r1, r2, r3⟩ := shl_round (o := o) (d := d) (hi := hi) hj2
          have ejk : k + 1 + q = j + 1 := by have := HJ.out; omega
          rw [← HJ.out.2]
          refine ⟨k + 1, (o.set j d).set (j + 1) hi, by have := HK.out; omega, by go_num, by rw [List.length_set, List.length_set]; exact HOL.out, (HOW.out.set HD.out.1).set HD.out.2, ?_, by rw [ejk, r2]; exact HHI.out, fun i hi' => by rw [r3 i (by omega)]; exact HV.out.2.2 i (by have := HJ.out; omega), (HB.out.setCell (by rw [HG.out]; exact Nat.le_refl _) _).setCell (by rw [HG.out]; exact Nat.le_refl _) _⟩
          rw [ejk, r1, r2, ← HLO.out]
          have hv := HV.out.1
          rw [HJ.out.1, HU.out] at hv
          have hv2 := shl_val (k := k) (q := q) (lo := lo) (hi := hi) (x := x1) (u := u) (s := valF (el o) j) (by rw [HJ.out.1]; exact hv) HE.out
          rw [HJ.out.1] at hv2
          rw [hv2, valF_succ, HX1.out]
      · obtain rfl : k = z := by omega
        have hval : val o = val l * 2 ^ n := by
          rw [val_valF o, hol, ← HM.out, valF_succ, hv, ← HQ.out.1, ← HQ.out.2, ← HZ.out]
          exact shl_end
        have hs1 := szN_le o
        rw [hol] at hs1
        have HZZ := Lib.hid (size_any hO.sl)
        have HT := Lib.hid hO.trim
        have HVAL := Lib.hid hval
        obtain ⟨zz, hzz⟩ : ∃ zz, szN o = zz := ⟨_, rfl⟩
        rw [hzz] at HZZ HT hs1
        have b1 : (0 : Int) ≤ zz := by omega
        have b2 : (zz : Int) ≤ (m : Int) := by omega
        clear hval hzz hO hb hv hol hk HV HOL HO HB1 hlt hu hze
        go_wp2_with fail
        refine HZZ.out.mono ?_
        rintro e w' ⟨rfl, rfl⟩
        go_wp2_with fail
        go_ret
        exact ⟨_, rfl, HVAL.out ▸ HT.out.base (by rw [HG.out]; exact Nat.le_refl _), HB.out⟩
end
end Go.Proofs.YtkpjikaobjpkoaaGreatDoor
