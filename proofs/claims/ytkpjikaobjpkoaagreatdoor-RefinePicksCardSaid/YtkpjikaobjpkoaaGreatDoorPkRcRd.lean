/-
  Walk of math/bits.Sub32.
-/
import Derived.Test.YtkpjikaobjpkoaaGreatDoorPkRaRb
namespace Go.Proofs.YtkpjikaobjpkoaaGreatDoor
open Go.RowKit

/-- 1 if the difference of x and y + b is negative. -/
def borrowN (x y b : Nat) : Nat := if x < y + b then 1 else 0
def diffN (x y b : Nat) : Nat := (x + 4294967296 - y - b) % 4294967296
theorem top_of {n : Nat} (h : n < 4294967296) : n.testBit 31 = decide (2147483648 ≤ n) := by
  rw [Nat.testBit_eq_decide_div_mod_eq, show (2 : Nat) ^ 31 = 2147483648 by decide]
  rw [Bool.eq_iff_iff, decide_eq_true_iff, decide_eq_true_iff]
  omega
theorem lt_32 {n : Nat} (h : n < 4294967296) : n < 2 ^ 32 := h
theorem borrow_bits {x y b : Nat} (hx : x < 4294967296) (hy : y < 4294967296) (hb : b ≤ 1) :
    (((4294967295 ^^^ x) &&& y) ||| ((4294967295 ^^^ (x ^^^ y)) &&& diffN x y b)) / 2147483648 = borrowN x y b := by
  have hd : diffN x y b < 4294967296 := Nat.mod_lt _ (by decide)
  obtain ⟨d, hdd⟩ : ∃ d, diffN x y b = d := ⟨_, rfl⟩
  rw [hdd] at hd ⊢
  obtain ⟨o, ho⟩ : ∃ o, (((4294967295 ^^^ x) &&& y) ||| ((4294967295 ^^^ (x ^^^ y)) &&& d)) = o := ⟨_, rfl⟩
  have hlt : o < 4294967296 := by
    rw [← ho]
    exact Nat.or_lt_two_pow (n := 32) (Nat.and_lt_two_pow _ (lt_32 hy)) (Nat.and_lt_two_pow _ (lt_32 hd))
  have ht : o.testBit 31 = ((!x.testBit 31 && y.testBit 31) || (!(x.testBit 31 ^^ y.testBit 31) && d.testBit 31)) := by
    rw [← ho, Nat.testBit_or, Nat.testBit_and, Nat.testBit_and, Nat.testBit_xor, Nat.testBit_xor, Nat.testBit_xor, show (4294967295 : Nat).testBit 31 = true by decide]
    cases x.testBit 31 <;> cases y.testBit 31 <;> rfl
  rw [ho]
  rw [top_of hlt, top_of hx, top_of hy, top_of hd] at ht
  unfold borrowN
  unfold diffN at hdd
  by_cases h1 : 2147483648 ≤ x <;> by_cases h2 : 2147483648 ≤ y <;> by_cases h3 : 2147483648 ≤ d <;> by_cases h4 : 2147483648 ≤ o <;> simp only [h1, h2, h3, h4, decide_true, decide_false] at ht <;> first | (exfalso; revert ht; decide) | (split <;> omega)
theorem bits_xor32 {a b : Nat} (ha : a < 4294967296) (hb : b < 4294967296) : bits .xor .u32 (a : Int) (b : Int) = ((a ^^^ b : Nat) : Int) := by
  have ha' : a % 2 ^ IntKind.u32.bits = a := Nat.mod_eq_of_lt ha
  have hb' : b % 2 ^ IntKind.u32.bits = b := Nat.mod_eq_of_lt hb
  simp only [bits, BitVec.ofInt_natCast, BitVec.toNat_xor, BitVec.toNat_ofNat, ha', hb']
  have := Nat.xor_lt_two_pow (n := 32) ha hb
  rw [IntKind.wrap_u32]
  omega
theorem borrow_int {x y b : Nat} (hx : x < 4294967296) (hy : y < 4294967296) (hb : b ≤ 1) :
    bits .or .u32 (bits .and .u32 (bits .xor .u32 IntKind.u32.max (x : Int)) (y : Int)) (bits .and .u32 (bits .xor .u32 IntKind.u32.max (bits .xor .u32 (x : Int) (y : Int))) (diffN x y b : Int)) / 2147483648 = (borrowN x y b : Int) := by
  have hd : diffN x y b < 4294967296 := Nat.mod_lt _ (by decide)
  have hxy : x ^^^ y < 4294967296 := Nat.xor_lt_two_pow (n := 32) hx hy
  have h1 : 4294967295 ^^^ x < 4294967296 := Nat.xor_lt_two_pow (n := 32) (by decide) hx
  have h2 : 4294967295 ^^^ (x ^^^ y) < 4294967296 := Nat.xor_lt_two_pow (n := 32) (by decide) hxy
  have a1 : (4294967295 ^^^ x) &&& y < 4294967296 := Nat.and_lt_two_pow (n := 32) _ (lt_32 hy)
  have a2 : (4294967295 ^^^ (x ^^^ y)) &&& diffN x y b < 4294967296 := Nat.and_lt_two_pow (n := 32) _ (lt_32 hd)
  rw [show (IntKind.u32.max : Int) = ((4294967295 : Nat) : Int) by rfl, bits_xor32 hx hy, bits_xor32 (by decide) hx, bits_xor32 (by decide) hxy,
    (bits_nat .u32 32 (by decide) wraps_u32 _ _ (lt_32 h1) (lt_32 hy)).1, (bits_nat .u32 32 (by decide) wraps_u32 _ _ (lt_32 h2) (lt_32 hd)).1, (bits_nat .u32 32 (by decide) wraps_u32 _ _ (lt_32 a1) (lt_32 a2)).2, ← borrow_bits hx hy hb]
  exact (Int.natCast_ediv _ 2147483648).symm

section
variable {w : World}
theorem sub32_any (x y b : Nat) (hx : x < 4294967296) (hy : y < 4294967296) (hb : b ≤ 1) : Calls Tryz.prog 166 #[.int .u32 (x : Int), .int .u32 (y : Int), .int .u32 (b : Int)] w (Pure0 (.tuple #[.int .u32 (diffN x y b : Int), .int .u32 (borrowN x y b : Int)]) w) := by
  have hD : ((x : Int) - (y : Int) - (b : Int)) % 4294967296 = (diffN x y b : Int) := by unfold diffN; omega
  have hB := borrow_int hx hy hb
  go_enter Tryz.func166, Tryz.ntmps166
  go_wp2_with fail
  go_ret2
  exact pure_mk rfl
end
end Go.Proofs.YtkpjikaobjpkoaaGreatDoor
/-
  Naturals: walk of Sub.
-/
namespace Go.Proofs.YtkpjikaobjpkoaaGreatDoor
open Go.RowKit

theorem sub_limb {x y b : Nat} (hx : x < 4294967296) (hy : y < 4294967296) (hb : b ≤ 1) : diffN x y b + y + b = x + 4294967296 * borrowN x y b := by
  unfold diffN borrowN
  split <;> omega
theorem borrow_le (x y b : Nat) : borrowN x y b ≤ 1 := by unfold borrowN; split <;> omega
theorem diff_lt (x y b : Nat) : diffN x y b < 4294967296 := Nat.mod_lt _ (by decide)
theorem sub_step {p s a t d y x b b' : Nat} (h : s + t = a + p * b) (hd : d + y + b = x + 4294967296 * b') : s + p * d + (t + p * y) = a + p * x + p * 4294967296 * b' := by
  have e : p * d + p * y + p * b = p * x + p * 4294967296 * b' := by rw [← Nat.mul_add, ← Nat.mul_add, hd, Nat.mul_add, Nat.mul_assoc]
  omega
theorem el_high {l : List Nat} {k : Nat} (h : l.length ≤ k) : el l k = 0 := by unfold el; rw [List.getD_eq_getElem?_getD, List.getElem?_eq_none (by omega)]; rfl
theorem sub_end {l m o : List Nat} {b : Nat} (hl : Limbs l) (ho : Limbs o) (hle : val m ≤ val l) (hol : o.length = szN l) (_hm : Limbs m)
    (hv : valF (el o) (szN l) + valF (el m) (szN l) = valF (el l) (szN l) + 4294967296 ^ szN l * b) : val o = val l - val m := by
  have hs : szN m ≤ szN l := Nat.le_of_not_lt fun h => by have := val_lt_sz hl h; omega
  have e1 : valF (el m) (szN l) = val m := by rw [val_szN m]; exact valF_zero hs fun j h1 _ => szN_zero m j h1
  have e2 : valF (el o) (szN l) = val o := by rw [val_valF o, hol]
  have e3 : valF (el o) (szN l) < 4294967296 ^ szN l := valF_bound (fun j => el_lt ho j) _
  rw [← val_szN, e1] at hv
  rw [← e2]
  have : b = 0 := by
    rcases Nat.eq_zero_or_pos b with h | h
    · exact h
    · have : 4294967296 ^ szN l ≤ 4294967296 ^ szN l * b := Nat.le_mul_of_pos_right _ h
      omega
  rw [this, Nat.mul_zero] at hv
  omega
/-- What Sub answers. -/
def SubP (a b : Nat) (w : World) (e : Ending) (w' : World) : Prop := (a < b ∧ e = .returned (.tuple #[.slice none 0 0, .bool false]) ∧ Below w.heap.size w w') ∨ (b ≤ a ∧ ∃ v, e = .returned (.tuple #[v, .bool true]) ∧ NatF w' w.heap.size v (a - b) ∧ Below w.heap.size w w')

section
variable {w : World}
set_option maxRecDepth 100000 in
set_option maxHeartbeats 4000000 in
theorem sub_any {v u : Value} {l m : List Nat} (h : NatSl w v l) (h' : NatSl w u m) (hn : l.length ≤ 100000000) (hn' : m.length ≤ 100000000) : Calls Tryz.prog 124 #[v, u] w (SubP (val l) (val m) w) := by
  have HL := Lib.hid (And.intro h h')
  have HCM := Lib.hid (cmp_any h h')
  have hs := szN_le l
  obtain ⟨a, c, x, rfl, ha, hc, hm, hcell⟩ := h.form
  obtain ⟨a', c', x', rfl, ha', hc', hm', hcell'⟩ := h'.form
  have HC := Lib.hid (fun w' (hb : Below w.heap.size w w') i (hi : i < l.length) => (hb.cell (World.block_lt_of_cell? w _ (hcell i hi))).trans (hcell i hi))
  have HC' := Lib.hid (fun w' (hb : Below w.heap.size w w') i (hi : i < m.length) => (hb.cell (World.block_lt_of_cell? w _ (hcell' i hi))).trans (hcell' i hi))
  have HA := Lib.hid ha
  have HA' := Lib.hid ha'
  unfold maxLen at hm hm'
  clear h h' hcell ha hcell' ha'
  go_enter Tryz.func124, Tryz.ntmps124
  go_wp2_with fail
  refine HCM.out.mono ?_
  rintro e w1 ⟨rfl, hb⟩
  have HB := Lib.hid hb
  clear hb
  by_cases hlt0 : val l < val m
  · have HLT := Lib.hid hlt0
    rw [cmpI_lt hlt0]
    clear hlt0
    go_wp2_with fail
    go_ret2
    exact .inl ⟨HLT.out, rfl, HB.out⟩
  · have HLE := Lib.hid (show val m ≤ val l by omega)
    obtain ⟨cc, hcc, hcc0⟩ : ∃ cc : Int, cmpI (val l) (val m) = cc ∧ 0 ≤ cc := ⟨_, rfl, by unfold cmpI; rw [if_neg hlt0]; split <;> omega⟩
    rw [hcc]
    have hcc1 : ¬ cc < 0 := by omega
    clear hcc hlt0
    obtain ⟨z, hz⟩ : ∃ z, szN l = z := ⟨_, rfl⟩
    have HZ := Lib.hid hz
    rw [hz] at hs
    clear hz
    have HS := Lib.hid (size_any (HL.out.1.below HB.out))
    have HSZ := Lib.hid (show Calls Tryz.prog 160 #[.slice a l.length c] w1 (Pure0 (.int .i64 (z : Int)) w1) by rw [← HZ.out]; exact HS.out)
    have hz0 : (0 : Int) ≤ (z : Int) := by omega
    have hz1 : (z : Int) ≤ (l.length : Int) := by omega
    obtain ⟨i0, hi0, hzz0, hzz1, hzz2⟩ := info_parts infoU32
    go_wp2_with fail
    refine HSZ.out.mono ?_
    rintro e w' ⟨rfl, rfl⟩
    go_wp2_with (refine wpList_make_full w1 rfl (.tmp 15) (.tmp 15) 22 rfl w1.heap.size 143 i0 _ 1 Tryz.underlying22 hi0 hzz0 hzz1 _ _ _ _ z rfl rfl rfl rfl (by rw [hzz2]; omega) (by unfold maxLen; omega) (Nat.le_refl _) ?_; intro w2 ho hg)
    have hb1 : Below w1.heap.size w1 w2 := (Below.refl _ _).grown hg (Nat.le_refl _) (by intro k hk; cases hk)
    rw [u32_zeros] at ho
    have hO : NatOw w2 w1.heap.size (.slice (some ⟨w1.heap.size, 0, none⟩) z z) (List.replicate z 0) := ⟨by rw [List.length_replicate]; exact ho, limbs_zeros _⟩
    have HO := Lib.hid hO
    have HB1 := Lib.hid (HB.out.trans (hb1.mono HB.out.size))
    clear ho hg hb1 hO hi0 hzz0 hzz1 hzz2
    go_wp2_with fail
    obtain ⟨g, hg⟩ : ∃ g, w1.heap.size = g := ⟨_, rfl⟩
    have hgw : w.heap.size ≤ g := by rw [← hg]; exact HB.out.size
    rw [hg] at HO ⊢
    have HG := Lib.hid hgw
    clear hg hgw
    go_loopg [7, 19] z (fun gh bv iv wr => ∃ (k b : Nat) (o : List Nat), gh + k = z ∧ iv = .int .i64 k ∧ bv = .int .u32 b ∧ b ≤ 1 ∧ o.length = z ∧ NatOw wr g (.slice (some ⟨g, 0, none⟩) z z) o ∧
      valF (el o) k + valF (el m) k = valF (el l) k + 4294967296 ^ k * b ∧ Below w.heap.size w wr)
    case atStart => exact ⟨0, 0, _, rfl, rfl, rfl, by decide, List.length_replicate, HO.out, by simp [valF], HB1.out⟩
    case round =>
      obtain ⟨k, b, o, hk, rfl, rfl, hbb, hol, hO, hv, hb⟩ := hrel
      have HK := Lib.hid hk
      have HOL := Lib.hid hol
      have HV := Lib.hid hv
      have HB2 := Lib.hid hb
      have hk63 : (k : Int) ≤ 100000000 := by omega
      by_cases hlt : k < z
      · have hO1 := hO.1
        rw [hol] at hO1
        have HOW := Lib.hid hO
        have hfr := hO1.frozenAt k
        obtain ⟨cu, hcu⟩ : ∃ cu, wr.cell? ⟨g, k, none⟩ = some cu := ⟨_, own_cell hO1 (u32_get (by omega))⟩
        obtain rfl := HA.out (by omega)
        have q1 := HC.out _ hb k (by omega)
        obtain ⟨x1, hx1⟩ : ∃ d, l.getD k 0 = d := ⟨_, rfl⟩
        rw [hx1] at q1
        have bx : x1 < 4294967296 := by rw [← hx1]; exact limbs_get HL.out.1.2 k
        have HX1 := Lib.hid (show el l k = x1 from hx1)
        have hlt2 : (k : Int) < (z : Int) := by omega
        have hlt3 : (k : Int) < (l.length : Int) := by omega
        have hk0 : (0 : Int) ≤ k := by omega
        clear hO1 hx1 hk hol hv hb hO
        by_cases hmk : k < m.length
        · have hmk' : (k : Int) < (m.length : Int) := by omega
          obtain rfl := HA'.out (by omega)
          have q2 := HC'.out _ HB2.out k hmk
          obtain ⟨y1, hy1⟩ : ∃ d, m.getD k 0 = d := ⟨_, rfl⟩
          rw [hy1] at q2
          have byy : y1 < 4294967296 := by rw [← hy1]; exact limbs_get HL.out.2.2 k
          have HY1 := Lib.hid (show el m k = y1 from hy1)
          have HQ := Lib.hid (fun w' : World => sub32_any (w := w') x1 y1 b bx byy hbb)
          have HR := Lib.hid (And.intro bx (And.intro byy hbb))
          clear hy1
          go_wp2_with fail
          refine (HQ.out _).mono ?_
          rintro e w' ⟨rfl, rfl⟩
          go_wp2_with fail
          go_roundg (z - (k + 1))
          case measure => have := HK.out; omega
          case rel =>
            refine ⟨k + 1, borrowN x1 y1 b, o.set k (diffN x1 y1 b), by have := HK.out; omega, by go_num, rfl, borrow_le _ _ _, by rw [List.length_set]; exact HOL.out, HOW.out.set (diff_lt _ _ _), ?_, HB2.out.setCell HG.out _⟩
            rw [valF_set (by rw [HOL.out]; omega), valF_succ (el m), valF_succ (el l), HX1.out, HY1.out, Nat.pow_succ]
            exact sub_step HV.out (sub_limb HR.out.1 HR.out.2.1 HR.out.2.2)
        · have hmk' : ¬ (k : Int) < (m.length : Int) := by omega
          have HY1 := Lib.hid (el_high (l := m) (k := k) (by omega))
          have HQ := Lib.hid (fun w' : World => sub32_any (w := w') x1 0 b bx (by decide) hbb)
          have HR := Lib.hid (And.intro bx hbb)
          go_wp2_with fail
          refine (HQ.out _).mono ?_
          rintro e w' ⟨rfl, rfl⟩
          go_wp2_with fail
          go_roundg (z - (k + 1))
          case measure => have := HK.out; omega
          case rel =>
            refine ⟨k + 1, borrowN x1 0 b, o.set k (diffN x1 0 b), by have := HK.out; omega, by go_num, rfl, borrow_le _ _ _, by rw [List.length_set]; exact HOL.out, HOW.out.set (diff_lt _ _ _), ?_, HB2.out.setCell HG.out _⟩
            rw [valF_set (by rw [HOL.out]; omega), valF_succ (el m), valF_succ (el l), HX1.out, HY1.out, Nat.pow_succ]
            exact sub_step HV.out (sub_limb HR.out.1 (by decide) HR.out.2)
      · obtain rfl : k = z := by omega
        have hval : val o = val l - val m := sub_end HL.out.1.2 hO.2 HLE.out (by rw [hol, HZ.out]) HL.out.2.2 (by rw [HZ.out]; exact hv)
        have hs1 := szN_le o
        rw [hol] at hs1
        have HZZ := Lib.hid (size_any hO.sl)
        have HT := Lib.hid hO.trim
        have HVAL := Lib.hid hval
        obtain ⟨zz, hzz⟩ : ∃ zz, szN o = zz := ⟨_, rfl⟩
        rw [hzz] at HZZ HT hs1
        have b1 : (0 : Int) ≤ zz := by omega
        have b2 : (zz : Int) ≤ (k : Int) := by omega
        clear hval hzz hO hb hv hol hk HV HOL HO HB1 hlt
        go_wp2_with fail
        refine HZZ.out.mono ?_
        rintro e w' ⟨rfl, rfl⟩
        go_wp2_with fail
        go_ret2
        exact .inr ⟨HLE.out, _, rfl, HVAL.out ▸ HT.out.base HG.out, HB2.out⟩
end
end Go.Proofs.YtkpjikaobjpkoaaGreatDoor
