/-
  The reference's naturals: append of an element; walk of Add.
-/
import Derived.Test.YtkpjikaobjpkoaaGreatDoorPkScSd
import Derived.Deep.AppendLies
namespace Go.Proofs.YtkpjikaobjpkoaaGreatDoor
open Go.RowKit

theorem el_app_old {o : List Nat} {d j : Nat} (h : j < o.length) : el (o ++ [d]) j = el o j := by
  unfold el; rw [List.getD_eq_getElem?_getD, List.getD_eq_getElem?_getD, List.getElem?_append_left h]
theorem el_app_new {o : List Nat} {d : Nat} : el (o ++ [d]) o.length = d := by
  unfold el; rw [List.getD_eq_getElem?_getD, List.getElem?_append_right (Nat.le_refl _)]; simp
theorem valF_app {o : List Nat} {d k : Nat} (h : o.length = k) : valF (el (o ++ [d])) (k + 1) = valF (el o) k + 4294967296 ^ k * d := by
  subst h
  rw [valF_succ, el_app_new, valF_eq fun j hj => el_app_old hj]
theorem limbs_app {o : List Nat} {d : Nat} (h : Limbs o) (hd : d < 4294967296) : Limbs (o ++ [d]) := fun x hx => by
  rcases List.mem_append.1 hx with h1 | h1
  · exact h x h1
  · simp at h1; omega
/-- append of one element to a row of one's own. -/
theorem app32 {ops : Array Oper} {rest : List Oper} {oo : Oper} {a : Act} {w : World} {Q : Exit → Act → World → Prop} (hgd : oo.guard = none) (s x : Operand) (ho : oo.op = .call { callee := .builtin .append, args := #[s, x], argTypes := #[22, 22] })
    (base : Nat) (hbase : base ≤ w.heap.size) (v : Value) (o : List Nat) (n : Nat) (hn : o.length = n) (hs : a.eval s = v) (hown : NatOw w base v o) (B d : Nat) (hx : a.eval x = .slice (some ⟨B, 0, none⟩) 1 1)
    (hB : w.heap[B]? = some (.cells #[.int .u32 (d : Int)] 143 (0, 0))) (hd : d < 4294967296) (hnb : n ≤ 100000000)
    (h : ∀ g cap w', NatOw w' base (.slice (some ⟨g, 0, none⟩) (n + 1) cap) (o ++ [d]) → (∀ W, Below base W w → Below base W w') →
      wpList Tryz.prog ops Q rest (a.put oo.dst (.slice (some ⟨g, 0, none⟩) (n + 1) cap)) w') : wpList Tryz.prog ops Q (oo :: rest) a w := by
  subst hn
  obtain ⟨i0, hi0, hz0, hz1, hz2⟩ := info_parts infoU32
  refine wpList_append_lies w hgd s x 22 ho base 143 i0 _ 1 4 Tryz.underlying22 hi0 hz0 hz1 hz2 rfl (by decide) v o.length (u32Cells o) hs hown.1 ⟨B, 0, none⟩ 1 1 [.int .u32 (d : Int)] hx rfl (World.news_of_block (cs := #[.int .u32 (d : Int)]) hB)
    (by intro u hu; simp at hu; rw [hu]; rfl) (by omega) (by unfold maxLen; omega) (by omega) hbase w.heap.size rfl ?_
  intro g cap w' h2 h3 h4 _
  refine h g cap w' ⟨?_, limbs_app hown.2 hd⟩ fun W hW => hW.grown h3 hbase (fun j hj => (hown.1.lt j hj).1)
  rw [List.length_append]
  have e : u32Cells (o ++ [d]) = u32Cells o ++ [.int .u32 (d : Int)] := by simp [u32Cells]
  rw [e]; exact h2
theorem natOw_alloc {w : World} {base : Nat} {v : Value} {o : List Nat} (h : NatOw w base v o) (c : Obj) : NatOw (w.alloc c) base v o := ⟨h.1.alloc c, h.2⟩
theorem add_end {l m o : List Nat} {n cr : Nat} (hl : Limbs l) (hm : Limbs m) (h1 : l.length ≤ n) (h2 : m.length ≤ n) (ho : o.length = n + 1) (hv : valF (el o) (n + 1) + 4294967296 ^ (n + 1) * cr = valF (el l) (n + 1) + valF (el m) (n + 1)) : val o = val l + val m := by
  rw [val_upto (Nat.le_of_eq ho), val_upto (l := l) (n := n + 1) (by omega), val_upto (l := m) (n := n + 1) (by omega)]
  have b1 := valF_bound (el_lt hl) n
  have b2 := valF_bound (el_lt hm) n
  have e1 : valF (el l) (n + 1) = valF (el l) n := by rw [valF_succ, el_past h1, Nat.mul_zero, Nat.add_zero]
  have e2 : valF (el m) (n + 1) = valF (el m) n := by rw [valF_succ, el_past h2, Nat.mul_zero, Nat.add_zero]
  have hc : cr = 0 := by
    refine Nat.eq_zero_of_not_pos fun hp => ?_
    have := Nat.mul_le_mul_left (4294967296 ^ (n + 1)) hp
    rw [Nat.pow_succ] at this hv
    rw [e1, e2] at hv
    omega
  rw [hc, Nat.mul_zero, Nat.add_zero] at hv
  exact hv

section
variable {w : World}
set_option maxRecDepth 100000 in
set_option maxHeartbeats 2000000 in
theorem radd_any {v u : Value} {l m : List Nat} (h : NatSl w v l) (h' : NatSl w u m) (hn : l.length ≤ 10000000) (hn' : m.length ≤ 10000000) : Calls Tryz.prog 108 #[v, u] w (NatP (val l + val m) w) := by
  have HA := Lib.hid (fun w' (hb : Below w.heap.size w w') k => rat_calls (h.below hb) k)
  have HB := Lib.hid (fun w' (hb : Below w.heap.size w w') k => rat_calls (h'.below hb) k)
  have HL := Lib.hid h.2
  have HM := Lib.hid h'.2
  obtain ⟨a, c, x, rfl, _⟩ := h.form
  obtain ⟨a', c', x', rfl, _⟩ := h'.form
  clear h h'
  obtain ⟨n, hm⟩ : ∃ n, max l.length m.length = n := ⟨_, rfl⟩
  have HN := Lib.hid (show l.length ≤ n ∧ m.length ≤ n by omega)
  have e1 : max (l.length : Int) (m.length : Int) = (n : Int) := by omega
  have hnb : n ≤ 10000000 := by omega
  clear hm
  go_enter Tryz.func108, Tryz.ntmps108
  go_wp2_with fail
  go_loopg [5, 6, 7] (n + 1) (fun gh ov cv iv wr => ∃ (k cr : Nat) (o : List Nat), gh + k = n + 1 ∧ iv = .int .i64 k ∧ cv = .int .u64 cr ∧ cr < 2 ∧ o.length = k ∧ NatOw wr w.heap.size ov o ∧
    valF (el o) k + 4294967296 ^ k * cr = valF (el l) k + valF (el m) k ∧ Below w.heap.size w wr)
  case atStart => exact ⟨0, 0, [], rfl, rfl, rfl, by decide, rfl, ⟨World.ownsRow_nil _ _ _ _, fun x hx => by simp at hx⟩, by simp [valF], Below.refl _ _⟩
  case round =>
    obtain ⟨k, cr, o, hk, rfl, rfl, hcr, hol, hO, hv, hb⟩ := hrel
    have HK := Lib.hid hk
    have HO := Lib.hid hO
    have HOL := Lib.hid hol
    have HV := Lib.hid hv
    have HBW := Lib.hid hb
    have hk63 : (k : Int) ≤ 100000001 := by omega
    clear hO hv hb hol
    by_cases hlt : k < n + 1
    · have hlt' : (k : Int) ≤ n := by omega
      have HQ1 := Lib.hid (HA.out _ HBW.out k)
      have HQ2 := Lib.hid (HB.out _ HBW.out k)
      have b1 := el_lt HL.out k
      have b2 := el_lt HM.out k
      obtain ⟨d1, hd1⟩ : ∃ d, el l k = d := ⟨_, rfl⟩
      obtain ⟨d2, hd2⟩ : ∃ d, el m k = d := ⟨_, rfl⟩
      rw [hd1] at HQ1 b1
      rw [hd2] at HQ2 b2
      have HD := Lib.hid (And.intro hd1 hd2)
      obtain ⟨s1, hs1⟩ : ∃ s, cr + d1 = s := ⟨_, rfl⟩
      obtain ⟨s, hs⟩ : ∃ t, s1 + d2 = t := ⟨_, rfl⟩
      obtain ⟨d, hd⟩ : ∃ d, s % 4294967296 = d := ⟨_, rfl⟩
      obtain ⟨cr', hcr'⟩ : ∃ c, s / 4294967296 = c := ⟨_, rfl⟩
      have e2 : (cr : Int) + (d1 : Int) = (s1 : Int) := by omega
      have e3 : (s1 : Int) + (d2 : Int) = (s : Int) := by omega
      have e4 : (s : Int) % 4294967296 = (d : Int) := by omega
      have e5 : (s : Int) / 4294967296 = (cr' : Int) := by omega
      have hsb : s1 < 18446744073709551616 ∧ s < 18446744073709551616 := by omega
      obtain ⟨hsb1, hsb2⟩ := hsb
      have HS := Lib.hid (show cr + d1 + d2 = d + 4294967296 * cr' by omega)
      have HDD := Lib.hid (show d < 4294967296 by omega)
      have HCR := Lib.hid (show cr' < 2 by omega)
      clear hd1 hd2 hs1 hs hd hcr'
      go_wp2_with fail
      refine HQ1.out.mono ?_
      rintro e w' ⟨rfl, rfl⟩
      go_wp2_with fail
      refine HQ2.out.mono ?_
      rintro e w' ⟨rfl, rfl⟩
      go_wp2_with (at_builtin; refine app32 rfl _ _ rfl w.heap.size (by have := HBW.out.size; simp; omega) _ o k HOL.out rfl (natOw_alloc HO.out _) wr.heap.size d rfl (heap_alloc_new wr _) HDD.out (by omega) ?_; intro gg capn w5 hown5 hbel5; have HO5 := Lib.hid hown5; have HB5 := Lib.hid (hbel5 w (HBW.out.alloc HBW.out.size _)); clear hown5 hbel5)
      go_roundg (n + 1 - (k + 1))
      case measure => have := HK.out; omega
      case rel =>
        refine ⟨k + 1, cr', o ++ [d], by have := HK.out; omega, by go_num, rfl, HCR.out, by rw [List.length_append, HOL.out]; rfl, HO5.out, ?_, HB5.out⟩
        rw [valF_app HOL.out, valF_succ (el l), valF_succ (el m), HD.out.1, HD.out.2]
        exact add_step HV.out HS.out rfl
    · obtain rfl : k = n + 1 := by omega
      have hlt' : ¬ ((n + 1 : Nat) : Int) ≤ n := by omega
      have hlt2 : ¬ ((n : Int) + 1 ≤ n) := by omega
      have HE := Lib.hid (add_end HL.out HM.out HN.out.1 HN.out.2 HOL.out HV.out)
      have HT := Lib.hid (rtrim_calls HO.out.sl (by rw [HOL.out]; omega))
      go_wp2_with fail
      refine HT.out.mono ?_
      rintro e w' ⟨v', rfl, hf, hb⟩
      have HF := Lib.hid (show NatF w' w.heap.size v' (val l + val m) from HE.out ▸ hf.base HBW.out.size)
      have HB9 := Lib.hid (HBW.out.trans (hb.mono HBW.out.size))
      clear hf hb
      go_wp2_with fail
      go_ret
      exact ⟨_, rfl, HF.out, HB9.out⟩
end
end Go.Proofs.YtkpjikaobjpkoaaGreatDoor
/-
  The reference's naturals: walks of Sub, Less.
-/
namespace Go.Proofs.YtkpjikaobjpkoaaGreatDoor
open Go.RowKit

/-- The call returns a natural of its own, and true. -/
def RSubP (n : Nat) (w : World) (e : Ending) (w' : World) : Prop := ∃ x, e = .returned (.tuple #[x, .bool true]) ∧ NatF w' w.heap.size x n ∧ Below w.heap.size w w'

section
variable {w : World}
set_option maxRecDepth 100000 in
set_option maxHeartbeats 2000000 in
theorem rsub_any {v u : Value} {l m : List Nat} (h : NatSl w v l) (h' : NatSl w u m) (hle : val m ≤ val l) (hz : szN l = l.length) (hn : l.length ≤ 10000000) (hn' : m.length ≤ 10000000) : Calls Tryz.prog 156 #[v, u] w (RSubP (val l - val m) w) := by
  have HA := Lib.hid (fun w' (hb : Below w.heap.size w w') k => rat_calls (h.below hb) k)
  have HB := Lib.hid (fun w' (hb : Below w.heap.size w w') k => rat_calls (h'.below hb) k)
  have HC := Lib.hid (rcmp_any h h' (by omega) (by omega))
  have HL := Lib.hid h.2
  have HM := Lib.hid h'.2
  obtain ⟨cz, hcz, hc0⟩ : ∃ c, cmpI (val l) (val m) = c ∧ 0 ≤ c := ⟨_, rfl, by unfold cmpI; rw [if_neg (by omega)]; split <;> omega⟩
  rw [hcz] at HC
  have hc1 : ¬ cz < 0 := by omega
  have HZ := Lib.hid (And.intro hz hle)
  obtain ⟨a, c, x, rfl, _⟩ := h.form
  obtain ⟨a', c', x', rfl, _⟩ := h'.form
  clear h h' hcz hz hle
  go_enter Tryz.func156, Tryz.ntmps156
  go_wp2_with fail
  refine HC.out.mono ?_
  rintro e w' ⟨rfl, rfl⟩
  go_wp2_with fail
  go_loopg [6, 7, 8] l.length (fun gh ov cv iv wr => ∃ (k cr : Nat) (o : List Nat), gh + k = l.length ∧ iv = .int .i64 k ∧ cv = .int .u64 cr ∧ cr ≤ 1 ∧ o.length = k ∧ NatOw wr w.heap.size ov o ∧
    valF (el o) k + valF (el m) k = valF (el l) k + 4294967296 ^ k * cr ∧ Below w.heap.size w wr)
  case atStart => exact ⟨0, 0, [], rfl, rfl, rfl, by decide, rfl, ⟨World.ownsRow_nil _ _ _ _, fun x hx => by simp at hx⟩, by simp [valF], Below.refl _ _⟩
  case round =>
    obtain ⟨k, cr, o, hk, rfl, rfl, hcr, hol, hO, hv, hb⟩ := hrel
    have HK := Lib.hid hk
    have HO := Lib.hid hO
    have HOL := Lib.hid hol
    have HV := Lib.hid hv
    have HBW := Lib.hid hb
    have hk63 : (k : Int) ≤ 100000000 := by omega
    clear hO hv hb hol
    by_cases hlt : k < l.length
    · have hlt' : (k : Int) < l.length := by omega
      have HQ1 := Lib.hid (HA.out _ HBW.out k)
      have HQ2 := Lib.hid (HB.out _ HBW.out k)
      have b1 := el_lt HL.out k
      have b2 := el_lt HM.out k
      obtain ⟨d1, hd1⟩ : ∃ d, el l k = d := ⟨_, rfl⟩
      obtain ⟨d2, hd2⟩ : ∃ d, el m k = d := ⟨_, rfl⟩
      rw [hd1] at HQ1 b1
      rw [hd2] at HQ2 b2
      have HD := Lib.hid (And.intro hd1 hd2)
      obtain ⟨y, hy⟩ : ∃ s, d2 + cr = s := ⟨_, rfl⟩
      have e2 : (d2 : Int) + (cr : Int) = (y : Int) := by omega
      have hyb : y ≤ 4294967296 := by omega
      by_cases hxy : d1 < y
      · have hxy' : (d1 : Int) < y := by omega
        obtain ⟨x2, hx2⟩ : ∃ s, d1 + 4294967296 = s := ⟨_, rfl⟩
        obtain ⟨d, hd⟩ : ∃ d, x2 - y = d := ⟨_, rfl⟩
        have e3 : (d1 : Int) + 4294967296 = (x2 : Int) := by omega
        have e4 : (x2 : Int) - (y : Int) = (d : Int) := by omega
        have hdb : d < 4294967296 := by omega
        have hxb : x2 < 8589934592 := by omega
        have HS := Lib.hid (show d + d2 + cr = d1 + 4294967296 * 1 by omega)
        have HDD := Lib.hid hdb
        clear hd1 hd2 hy hx2 hd
        go_wp2_with fail
        refine HQ1.out.mono ?_
        rintro e w' ⟨rfl, rfl⟩
        go_wp2_with fail
        refine HQ2.out.mono ?_
        rintro e w' ⟨rfl, rfl⟩
        go_wp2_with (at_builtin; refine app32 rfl _ _ rfl w.heap.size (by have := HBW.out.size; simp; omega) _ o k HOL.out rfl (natOw_alloc HO.out _) wr.heap.size d rfl (heap_alloc_new wr _) HDD.out (by omega) ?_; intro gg capn w5 hown5 hbel5; have HO5 := Lib.hid hown5; have HB5 := Lib.hid (hbel5 w (HBW.out.alloc HBW.out.size _)); clear hown5 hbel5)
        go_roundg (l.length - (k + 1))
        case measure => have := HK.out; omega
        case rel =>
          refine ⟨k + 1, 1, o ++ [d], by have := HK.out; omega, by go_num, rfl, Nat.le_refl _, by rw [List.length_append, HOL.out]; rfl, HO5.out, ?_, HB5.out⟩
          rw [valF_app HOL.out, valF_succ (el l), valF_succ (el m), HD.out.1, HD.out.2, Nat.pow_succ]
          exact sub_step HV.out HS.out
      · have hxy' : ¬ (d1 : Int) < y := by omega
        obtain ⟨d, hd⟩ : ∃ d, d1 - y = d := ⟨_, rfl⟩
        have e4 : (d1 : Int) - (y : Int) = (d : Int) := by omega
        have hdb : d < 4294967296 := by omega
        have HS := Lib.hid (show d + d2 + cr = d1 + 4294967296 * 0 by omega)
        have HDD := Lib.hid hdb
        clear hd1 hd2 hy hd
        go_wp2_with fail
        refine HQ1.out.mono ?_
        rintro e w' ⟨rfl, rfl⟩
        go_wp2_with fail
        refine HQ2.out.mono ?_
        rintro e w' ⟨rfl, rfl⟩
        go_wp2_with (at_builtin; refine app32 rfl _ _ rfl w.heap.size (by have := HBW.out.size; simp; omega) _ o k HOL.out rfl (natOw_alloc HO.out _) wr.heap.size d rfl (heap_alloc_new wr _) HDD.out (by omega) ?_; intro gg capn w5 hown5 hbel5; have HO5 := Lib.hid hown5; have HB5 := Lib.hid (hbel5 w (HBW.out.alloc HBW.out.size _)); clear hown5 hbel5)
        go_roundg (l.length - (k + 1))
        case measure => have := HK.out; omega
        case rel =>
          refine ⟨k + 1, 0, o ++ [d], by have := HK.out; omega, by go_num, rfl, Nat.zero_le _, by rw [List.length_append, HOL.out]; rfl, HO5.out, ?_, HB5.out⟩
          rw [valF_app HOL.out, valF_succ (el l), valF_succ (el m), HD.out.1, HD.out.2, Nat.pow_succ]
          exact sub_step HV.out HS.out
    · obtain rfl : k = l.length := by omega
      have hlt' : ¬ (l.length : Int) < l.length := by omega
      have HE := Lib.hid (show val o = val l - val m from sub_end HL.out HO.out.2 HZ.out.2 (by rw [HZ.out.1, HOL.out]) HM.out (b := cr) (by rw [HZ.out.1]; exact HV.out))
      have HT := Lib.hid (rtrim_calls HO.out.sl (by rw [HOL.out]; omega))
      go_wp2_with fail
      refine HT.out.mono ?_
      rintro e w' ⟨v', rfl, hf, hb⟩
      have HF := Lib.hid (show NatF w' w.heap.size v' (val l - val m) from HE.out ▸ hf.base HBW.out.size)
      have HB9 := Lib.hid (HBW.out.trans (hb.mono HBW.out.size))
      clear hf hb
      go_wp2_with fail
      go_ret2
      exact ⟨_, rfl, HF.out, HB9.out⟩
theorem rless_any {v u : Value} {l m : List Nat} (h : NatSl w v l) (h' : NatSl w u m) (hle : val m ≤ val l) (hz : szN l = l.length) (hn : l.length ≤ 10000000) (hn' : m.length ≤ 10000000) : Calls Tryz.prog 110 #[v, u] w (NatP (val l - val m) w) := by
  have HS := Lib.hid (rsub_any h h' hle hz hn hn')
  obtain ⟨a, c, x, rfl, _⟩ := h.form
  obtain ⟨a', c', x', rfl, _⟩ := h'.form
  clear h h' hle hz hn hn'
  go_enter Tryz.func110, Tryz.ntmps110
  go_wp2_with fail
  refine HS.out.mono ?_
  rintro e w' ⟨x1, rfl, hf, hb⟩
  have HF := Lib.hid (And.intro hf hb)
  clear hf hb
  go_wp2_with fail
  go_ret
  exact ⟨_, rfl, HF.out.1, HF.out.2⟩
end
end Go.Proofs.YtkpjikaobjpkoaaGreatDoor
