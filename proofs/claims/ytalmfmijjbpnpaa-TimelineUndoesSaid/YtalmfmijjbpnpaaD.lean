/-
  Walks of the binary searches for a name.
-/
import Derived.Test.YtalmfmijjbpnpaaC
namespace Go.Proofs.Ytalmfmijjbpnpaa
open Go.RowKit

set_option maxHeartbeats 400000 in
theorem branch1_any (nm name : ByteArray) (hd rv : Value) (w : World) :
    Calls Try.prog 64 #[.agg #[.string nm, hd, rv], .string name] w (Quiet (.int .i64 (ordI nm name)) w) := by
  go_enter Try.func64, Try.ntmps64
  go_wp2_with (go_at_call 65; refine (order_any _ _ _).mono ?_; rintro e w' ⟨rfl, rfl⟩)
  go_ret
  exact ⟨rfl, (Below.refl _ _).alloc (Nat.le_refl _) _⟩

set_option maxHeartbeats 400000 in
theorem snapshot1_any (nm name : ByteArray) (v : Value) (w : World) :
    Calls Try.prog 74 #[.agg #[.string nm, v], .string name] w (Quiet (.int .i64 (ordI nm name)) w) := by
  go_enter Try.func74, Try.ntmps74
  go_wp2_with (go_at_call 65; refine (order_any _ _ _).mono ?_; rintro e w' ⟨rfl, rfl⟩)
  go_ret
  exact ⟨rfl, (Below.refl _ _).alloc (Nat.le_refl _) _⟩

theorem wrap_u64_in (n : Int) (h0 : 0 ≤ n) (h1 : n < 18446744073709551616) : IntKind.u64.wrap n = n := by
  simp [IntKind.wrap, IntKind.bits, IntKind.signed]; omega

theorem ret_ib {a : Int} {b b' : Bool} (h : b = b') : Ending.returned (.tuple #[.int .i64 a, .bool b]) = .returned (.tuple #[.int .i64 a, .bool b']) := by rw [h]
theorem ordI_nonneg {a b : ByteArray} (h : ltN a b = false) : (0 : Int) ≤ ordI a b := by
  by_cases e : a = b
  · subst e; rw [ordI_eq]; omega
  · rw [ordI_gt h e]; omega
theorem ltN_false_mono {a b c : ByteArray} (h1 : ltN a b = true) (h2 : ltN a c = false) : ltN b c = false := by
  rw [Bool.eq_false_iff]
  intro h
  rw [ltN_trans h1 h] at h2
  cases h2
theorem found_eq {a b : ByteArray} {i n : Nat} (hi : i < n) (h : ltN a b = false) : (ordI a b == 0) = decide (i < n ∧ a = b) := by
  by_cases e : a = b
  · subst e; rw [ordI_eq]; simp [hi]
  · rw [ordI_gt h e]; simp [e]

set_option maxHeartbeats 400000 in
theorem bsearch63 (a0 : Option Addr) (g n cap : Nat) (nm : Nat → ByteArray) (hdv rv : Nat → Value) (name : ByteArray) (w : World) (hn : n ≤ 4611686018427387903)
    (hc0 : ∀ k, k < n → w.cell? ⟨g, k * 3, none⟩ = some (.string (nm k)))
    (hc1 : ∀ k, k < n → w.cell? ⟨g, k * 3 + 1, none⟩ = some (hdv k))
    (hc2 : ∀ k, k < n → w.cell? ⟨g, k * 3 + 2, none⟩ = some (rv k))
    (hs : ∀ j k, j < k → k < n → ltN (nm j) (nm k) = true)
    (hg : 0 < n → g < w.heap.size) (ha : 0 < n → a0 = some ⟨g, 0, none⟩) :
    Calls Try.prog 63 #[.slice a0 n cap, .string name, .func (.func 64) #[] #[]] w
      fun e w' => ∃ i : Nat, i ≤ n ∧ (∀ k, k < i → ltN (nm k) name = true) ∧ (∀ k, i ≤ k → k < n → ltN (nm k) name = false) ∧
        Quiet (.tuple #[.int .i64 i, .bool (decide (i < n ∧ nm i = name))]) w e w' := by
  have HC0 := Lib.hid hc0
  have HC1 := Lib.hid hc1
  have HC2 := Lib.hid hc2
  have HS := Lib.hid hs
  clear hc0 hc1 hc2 hs
  go_enter Try.func63, Try.ntmps63
  go_wp2_with fail
  go_loopw [9, 10] (fun i j wr => ∃ lo hi : Nat, lo ≤ hi ∧ hi ≤ n ∧ i = .int .i64 lo ∧ j = .int .i64 hi ∧ (∀ k, k < lo → ltN (nm k) name = true) ∧ (∀ k, hi ≤ k → k < n → ltN (nm k) name = false) ∧ Below w.heap.size w wr)
     (fun i j _ => (intOf j).toNat - (intOf i).toNat)
  case atStart => exact ⟨0, n, Nat.zero_le _, Nat.le_refl _, rfl, rfl, fun k h => absurd h (Nat.not_lt_zero _), fun k h h' => absurd h' (by omega), Below.refl _ _⟩
  case round =>
    obtain ⟨lo, hi, hlh, hhn, rfl, rfl, hlo, hhi, hb⟩ := hrel
    have HLO := Lib.hid hlo
    have HHI := Lib.hid hhi
    have HB := Lib.hid hb
    clear hlo hhi hb
    by_cases hlt : lo < hi
    · have hu : IntKind.u64.wrap ((lo : Int) + hi) = (lo : Int) + hi := wrap_u64_in _ (by omega) (by omega)
      have hgl := hg (by omega)
      obtain rfl := ha (by omega)
      have hh : (lo + hi) / 2 < n := by omega
      have hA0 : wr.cell? ⟨g, (lo + hi) / 2 * 3, none⟩ = some (.string (nm ((lo + hi) / 2))) := by rw [HB.out.cell hgl]; exact HC0.out _ hh
      have hA1 : wr.cell? ⟨g, (lo + hi) / 2 * 3 + 1, none⟩ = some (hdv ((lo + hi) / 2)) := by rw [HB.out.cell hgl]; exact HC1.out _ hh
      have hA2 : wr.cell? ⟨g, (lo + hi) / 2 * 3 + 2, none⟩ = some (rv ((lo + hi) / 2)) := by rw [HB.out.cell hgl]; exact HC2.out _ hh
      have hlt' : (lo : Int) < hi := by omega
      cases hc : ltN (nm ((lo + hi) / 2)) name
      · have HC := Lib.hid hc
        clear hc
        go_wp2_with fail
        refine (branch1_any _ _ _ _ _).mono ?_
        rintro e w1 ⟨rfl, hb1⟩
        have h01 : (0 : Int) ≤ ordI (nm ((lo + hi) / 2)) name := ordI_nonneg HC.out
        have HB1 := Lib.hid hb1
        clear hb1
        go_wp2_with fail
        go_roundw
        case rel =>
          refine ⟨lo, (lo + hi) / 2, by omega, by omega, rfl, by go_num, HLO.out, fun k hk hk' => ?_, HB.out.trans (HB1.out.mono HB.out.size)⟩
          by_cases e : k = (lo + hi) / 2
          · subst e; exact HC.out
          · exact ltN_false_mono (HS.out _ k (by omega) hk') HC.out
        case measure => simp [intOf]; omega
      · have HC := Lib.hid hc
        clear hc
        go_wp2_with fail
        refine (branch1_any _ _ _ _ _).mono ?_
        rintro e w1 ⟨rfl, hb1⟩
        have h01 : ordI (nm ((lo + hi) / 2)) name < 0 := by rw [ordI_lt HC.out]; decide
        have HB1 := Lib.hid hb1
        clear hb1
        go_wp2_with fail
        go_roundw
        case rel =>
          refine ⟨(lo + hi) / 2 + 1, hi, by omega, by omega, by go_num, rfl, fun k hk => ?_, HHI.out, HB.out.trans (HB1.out.mono HB.out.size)⟩
          by_cases e : k = (lo + hi) / 2
          · subst e; exact HC.out
          · exact ltN_trans (HS.out k _ (by omega) (by omega)) HC.out
        case measure => simp [intOf]; omega
    · by_cases hln : lo < n
      · have hgl := hg (by omega)
        obtain rfl := ha (by omega)
        have hA0 : wr.cell? ⟨g, lo * 3, none⟩ = some (.string (nm lo)) := by rw [HB.out.cell hgl]; exact HC0.out _ hln
        have hA1 : wr.cell? ⟨g, lo * 3 + 1, none⟩ = some (hdv lo) := by rw [HB.out.cell hgl]; exact HC1.out _ hln
        have hA2 : wr.cell? ⟨g, lo * 3 + 2, none⟩ = some (rv lo) := by rw [HB.out.cell hgl]; exact HC2.out _ hln
        have hln' : (lo : Int) < n := by omega
        go_wp2_with fail
        refine (branch1_any _ _ _ _ _).mono ?_
        rintro e w1 ⟨rfl, hb1⟩
        have HB1 := Lib.hid hb1
        clear hb1
        go_wp2_with fail
        go_ret2
        refine ⟨lo, by omega, HLO.out, fun k hk hk' => HHI.out k (by omega) hk', ?_, HB.out.trans (HB1.out.mono HB.out.size)⟩
        refine ret_ib ?_
        exact found_eq hln (HHI.out lo (by omega) hln)
      · have hln' : ¬ (lo : Int) < n := by omega
        have hd : decide ((lo : Int) < n) = false := by simpa using hln'
        go_wp2_with fail
        go_ret2
        refine ⟨lo, by omega, HLO.out, fun k hk hk' => HHI.out k (by omega) hk', ?_, HB.out⟩
        refine ret_ib ?_
        simp [hln]

set_option maxHeartbeats 400000 in
theorem bsearch73 (a0 : Option Addr) (g n cap : Nat) (nm : Nat → ByteArray) (hdv : Nat → Value) (name : ByteArray) (w : World) (hn : n ≤ 4611686018427387903)
    (hc0 : ∀ k, k < n → w.cell? ⟨g, k * 2, none⟩ = some (.string (nm k)))
    (hc1 : ∀ k, k < n → w.cell? ⟨g, k * 2 + 1, none⟩ = some (hdv k))
    (hs : ∀ j k, j < k → k < n → ltN (nm j) (nm k) = true)
    (hg : 0 < n → g < w.heap.size) (ha : 0 < n → a0 = some ⟨g, 0, none⟩) :
    Calls Try.prog 73 #[.slice a0 n cap, .string name, .func (.func 74) #[] #[]] w
      fun e w' => ∃ i : Nat, i ≤ n ∧ (∀ k, k < i → ltN (nm k) name = true) ∧ (∀ k, i ≤ k → k < n → ltN (nm k) name = false) ∧
        Quiet (.tuple #[.int .i64 i, .bool (decide (i < n ∧ nm i = name))]) w e w' := by
  have HC0 := Lib.hid hc0
  have HC1 := Lib.hid hc1
  have HS := Lib.hid hs
  clear hc0 hc1 hs
  go_enter Try.func73, Try.ntmps73
  go_wp2_with fail
  go_loopw [9, 10] (fun i j wr => ∃ lo hi : Nat, lo ≤ hi ∧ hi ≤ n ∧ i = .int .i64 lo ∧ j = .int .i64 hi ∧ (∀ k, k < lo → ltN (nm k) name = true) ∧ (∀ k, hi ≤ k → k < n → ltN (nm k) name = false) ∧ Below w.heap.size w wr)
     (fun i j _ => (intOf j).toNat - (intOf i).toNat)
  case atStart => exact ⟨0, n, Nat.zero_le _, Nat.le_refl _, rfl, rfl, fun k h => absurd h (Nat.not_lt_zero _), fun k h h' => absurd h' (by omega), Below.refl _ _⟩
  case round =>
    obtain ⟨lo, hi, hlh, hhn, rfl, rfl, hlo, hhi, hb⟩ := hrel
    have HLO := Lib.hid hlo
    have HHI := Lib.hid hhi
    have HB := Lib.hid hb
    clear hlo hhi hb
    by_cases hlt : lo < hi
    · have hu : IntKind.u64.wrap ((lo : Int) + hi) = (lo : Int) + hi := wrap_u64_in _ (by omega) (by omega)
      have hgl := hg (by omega)
      obtain rfl := ha (by omega)
      have hh : (lo + hi) / 2 < n := by omega
      have hA0 : wr.cell? ⟨g, (lo + hi) / 2 * 2, none⟩ = some (.string (nm ((lo + hi) / 2))) := by rw [HB.out.cell hgl]; exact HC0.out _ hh
      have hA1 : wr.cell? ⟨g, (lo + hi) / 2 * 2 + 1, none⟩ = some (hdv ((lo + hi) / 2)) := by rw [HB.out.cell hgl]; exact HC1.out _ hh
      have hlt' : (lo : Int) < hi := by omega
      cases hc : ltN (nm ((lo + hi) / 2)) name
      · have HC := Lib.hid hc
        clear hc
        go_wp2_with fail
        refine (snapshot1_any _ _ _ _).mono ?_
        rintro e w1 ⟨rfl, hb1⟩
        have h01 : (0 : Int) ≤ ordI (nm ((lo + hi) / 2)) name := ordI_nonneg HC.out
        have HB1 := Lib.hid hb1
        clear hb1
        go_wp2_with fail
        go_roundw
        case rel =>
          refine ⟨lo, (lo + hi) / 2, by omega, by omega, rfl, by go_num, HLO.out, fun k hk hk' => ?_, HB.out.trans (HB1.out.mono HB.out.size)⟩
          by_cases e : k = (lo + hi) / 2
          · subst e; exact HC.out
          · exact ltN_false_mono (HS.out _ k (by omega) hk') HC.out
        case measure => simp [intOf]; omega
      · have HC := Lib.hid hc
        clear hc
        go_wp2_with fail
        refine (snapshot1_any _ _ _ _).mono ?_
        rintro e w1 ⟨rfl, hb1⟩
        have h01 : ordI (nm ((lo + hi) / 2)) name < 0 := by rw [ordI_lt HC.out]; decide
        have HB1 := Lib.hid hb1
        clear hb1
        go_wp2_with fail
        go_roundw
        case rel =>
          refine ⟨(lo + hi) / 2 + 1, hi, by omega, by omega, by go_num, rfl, fun k hk => ?_, HHI.out, HB.out.trans (HB1.out.mono HB.out.size)⟩
          by_cases e : k = (lo + hi) / 2
          · subst e; exact HC.out
          · exact ltN_trans (HS.out k _ (by omega) (by omega)) HC.out
        case measure => simp [intOf]; omega
    · by_cases hln : lo < n
      · have hgl := hg (by omega)
        obtain rfl := ha (by omega)
        have hA0 : wr.cell? ⟨g, lo * 2, none⟩ = some (.string (nm lo)) := by rw [HB.out.cell hgl]; exact HC0.out _ hln
        have hA1 : wr.cell? ⟨g, lo * 2 + 1, none⟩ = some (hdv lo) := by rw [HB.out.cell hgl]; exact HC1.out _ hln
        have hln' : (lo : Int) < n := by omega
        go_wp2_with fail
        refine (snapshot1_any _ _ _ _).mono ?_
        rintro e w1 ⟨rfl, hb1⟩
        have HB1 := Lib.hid hb1
        clear hb1
        go_wp2_with fail
        go_ret2
        refine ⟨lo, by omega, HLO.out, fun k hk hk' => HHI.out k (by omega) hk', ?_, HB.out.trans (HB1.out.mono HB.out.size)⟩
        refine ret_ib ?_
        exact found_eq hln (HHI.out lo (by omega) hln)
      · have hln' : ¬ (lo : Int) < n := by omega
        have hd : decide ((lo : Int) < n) = false := by simpa using hln'
        go_wp2_with fail
        go_ret2
        refine ⟨lo, by omega, HLO.out, fun k hk hk' => HHI.out k (by omega) hk', ?_, HB.out⟩
        refine ret_ib ?_
        simp [hln]


/-! ### the place of a name in a sorted list -/
def SortedN (l : List ByteArray) : Prop := l.Pairwise fun a b => ltN a b = true

def rank (name : ByteArray) : List ByteArray → Nat
  | [] => 0
  | a :: l => if ltN a name then rank name l + 1 else 0

def hasN (name : ByteArray) (l : List ByteArray) : Bool := decide (l[rank name l]? = some name)

theorem rank_le (name : ByteArray) : ∀ l : List ByteArray, rank name l ≤ l.length
  | [] => Nat.le_refl _
  | a :: l => by unfold rank; split <;> simp [rank_le name l]

theorem rank_unique (name : ByteArray) : ∀ (l : List ByteArray) (i : Nat), i ≤ l.length → (∀ k a, k < i → l[k]? = some a → ltN a name = true) → (∀ a, l[i]? = some a → ltN a name = false) → i = rank name l
  | [], i, h, _, _ => by simpa [rank] using h
  | a :: l, 0, _, _, h2 => by
    have := h2 a rfl
    simp [rank, this]
  | a :: l, i + 1, h, h1, h2 => by
    have h0 := h1 0 a (Nat.succ_pos _) rfl
    simp only [rank, h0, if_true]
    congr 1
    exact rank_unique name l i (by simpa using h) (fun k b hk hb => h1 (k + 1) b (by omega) (by simpa using hb)) (fun b hb => h2 b (by simpa using hb))

end Go.Proofs.Ytalmfmijjbpnpaa
