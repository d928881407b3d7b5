/-
  Walks of the binary searches for a name.
-/
import Derived.Test.YtalmfmijjbpnpaaLoABC
import Derived.Deep.RegionHeld3
import Derived.StillTactics
namespace Go.Proofs.Ytalmfmijjbpnpaa
open Go.RowKit

set_option maxHeartbeats 400000 in
theorem branch1_any (nm name : ByteArray) (hd rv : Value) (w : World) :
    Calls Try.prog 64 #[.agg #[.string nm, hd, rv], .string name] w (Quiet (.int .i64 (ordI nm name)) w) := by
  go_enter Try.func64, Try.ntmps64
  go_wp2_with (go_at_call 65; refine (order_any _ _ _).mono ?_; rintro e w' ⟨rfl, rfl⟩)
  go_ret
  exact ⟨rfl, (Below.refl _ _).alloc (Nat.le_refl _) _⟩

set_option maxHeartbeats 400000 in
theorem snapshot1_any (nm name : ByteArray) (v : Value) (w : World) :
    Calls Try.prog 74 #[.agg #[.string nm, v], .string name] w (Quiet (.int .i64 (ordI nm name)) w) := by
  go_enter Try.func74, Try.ntmps74
  go_wp2_with (go_at_call 65; refine (order_any _ _ _).mono ?_; rintro e w' ⟨rfl, rfl⟩)
  go_ret
  exact ⟨rfl, (Below.refl _ _).alloc (Nat.le_refl _) _⟩

theorem wrap_u64_in (n : Int) (h0 : 0 ≤ n) (h1 : n < 18446744073709551616) : IntKind.u64.wrap n = n := by
  simp [IntKind.wrap, IntKind.bits, IntKind.signed]; omega

theorem ret_ib {a : Int} {b b' : Bool} (h : b = b') : Ending.returned (.tuple #[.int .i64 a, .bool b]) = .returned (.tuple #[.int .i64 a, .bool b']) := by rw [h]
theorem ordI_nonneg {a b : ByteArray} (h : ltN a b = false) : (0 : Int) ≤ ordI a b := by
  by_cases e : a = b
  · subst e; rw [ordI_eq]; omega
  · rw [ordI_gt h e]; omega
theorem ltN_false_mono {a b c : ByteArray} (h1 : ltN a b = true) (h2 : ltN a c = false) : ltN b c = false := by
  rw [Bool.eq_false_iff]
  intro h
  rw [ltN_trans h1 h] at h2
  cases h2
theorem found_eq {a b : ByteArray} {i n : Nat} (hi : i < n) (h : ltN a b = false) : (ordI a b == 0) = decide (i < n ∧ a = b) := by
  by_cases e : a = b
  · subst e; rw [ordI_eq]; simp [hi]
  · rw [ordI_gt h e]; simp [e]

set_option maxHeartbeats 400000 in
theorem bsearch63 (a0 : Option Addr) (g n cap : Nat) (nm : Nat → ByteArray) (hdv rv : Nat → Value) (name : ByteArray) (w : World) (hn : n ≤ 4611686018427387903)
    (hc0 : ∀ k, k < n → w.cell? ⟨g, k * 3, none⟩ = some (.string (nm k)))
    (hc1 : ∀ k, k < n → w.cell? ⟨g, k * 3 + 1, none⟩ = some (hdv k))
    (hc2 : ∀ k, k < n → w.cell? ⟨g, k * 3 + 2, none⟩ = some (rv k))
    (hs : ∀ j k, j < k → k < n → ltN (nm j) (nm k) = true)
    (hg : 0 < n → g < w.heap.size) (ha : 0 < n → a0 = some ⟨g, 0, none⟩) :
    Calls Try.prog 63 #[.slice a0 n cap, .string name, .func (.func 64) #[] #[]] w
      fun e w' => ∃ i : Nat, i ≤ n ∧ (∀ k, k < i → ltN (nm k) name = true) ∧ (∀ k, i ≤ k → k < n → ltN (nm k) name = false) ∧
        Quiet (.tuple #[.int .i64 i, .bool (decide (i < n ∧ nm i = name))]) w e w' := by
  have HC0 := Lib.hid hc0
  have HC1 := Lib.hid hc1
  have HC2 := Lib.hid hc2
  have HS := Lib.hid hs
  clear hc0 hc1 hc2 hs
  go_enter Try.func63, Try.ntmps63
  go_wp2_with fail
  go_loopw [9, 10] (fun i j wr => ∃ lo hi : Nat, lo ≤ hi ∧ hi ≤ n ∧ i = .int .i64 lo ∧ j = .int .i64 hi ∧ (∀ k, k < lo → ltN (nm k) name = true) ∧ (∀ k, hi ≤ k → k < n → ltN (nm k) name = false) ∧ Below w.heap.size w wr)
     (fun i j _ => (intOf j).toNat - (intOf i).toNat)
  case atStart => exact ⟨0, n, Nat.zero_le _, Nat.le_refl _, rfl, rfl, fun k h => absurd h (Nat.not_lt_zero _), fun k h h' => absurd h' (by omega), Below.refl _ _⟩
  case round =>
    obtain ⟨lo, hi, hlh, hhn, rfl, rfl, hlo, hhi, hb⟩ := hrel
    have HLO := Lib.hid hlo
    have HHI := Lib.hid hhi
    have HB := Lib.hid hb
    clear hlo hhi hb
    by_cases hlt : lo < hi
    · have hu : IntKind.u64.wrap ((lo : Int) + hi) = (lo : Int) + hi := wrap_u64_in _ (by omega) (by omega)
      have hgl := hg (by omega)
      obtain rfl := ha (by omega)
      have hh : (lo + hi) / 2 < n := by omega
      have hA0 : wr.cell? ⟨g, (lo + hi) / 2 * 3, none⟩ = some (.string (nm ((lo + hi) / 2))) := by rw [HB.out.cell hgl]; exact HC0.out _ hh
      have hA1 : wr.cell? ⟨g, (lo + hi) / 2 * 3 + 1, none⟩ = some (hdv ((lo + hi) / 2)) := by rw [HB.out.cell hgl]; exact HC1.out _ hh
      have hA2 : wr.cell? ⟨g, (lo + hi) / 2 * 3 + 2, none⟩ = some (rv ((lo + hi) / 2)) := by rw [HB.out.cell hgl]; exact HC2.out _ hh
      have hlt' : (lo : Int) < hi := by omega
      cases hc : ltN (nm ((lo + hi) / 2)) name
      · have HC := Lib.hid hc
        clear hc
        go_wp2_with fail
        refine (branch1_any _ _ _ _ _).mono ?_
        rintro e w1 ⟨rfl, hb1⟩
        have h01 : (0 : Int) ≤ ordI (nm ((lo + hi) / 2)) name := ordI_nonneg HC.out
        have HB1 := Lib.hid hb1
        clear hb1
        go_wp2_with fail
        go_roundw
        case rel =>
          refine ⟨lo, (lo + hi) / 2, by omega, by omega, rfl, by go_num, HLO.out, fun k hk hk' => ?_, HB.out.trans (HB1.out.mono HB.out.size)⟩
          by_cases e : k = (lo + hi) / 2
          · subst e; exact HC.out
          · exact ltN_false_mono (HS.out _ k (by omega) hk') HC.out
        case measure => simp [intOf]; omega
      · have HC := Lib.hid hc
        clear hc
        go_wp2_with fail
        refine (branch1_any _ _ _ _ _).mono ?_
        rintro e w1 ⟨rfl, hb1⟩
        have h01 : ordI (nm ((lo + hi) / 2)) name < 0 := by rw [ordI_lt HC.out]; decide
        have HB1 := Lib.hid hb1
        clear hb1
        go_wp2_with fail
        go_roundw
        case rel =>
          refine ⟨(lo + hi) / 2 + 1, hi, by omega, by omega, by go_num, rfl, fun k hk => ?_, HHI.out, HB.out.trans (HB1.out.mono HB.out.size)⟩
          by_cases e : k = (lo + hi) / 2
          · subst e; exact HC.out
          · exact ltN_trans (HS.out k _ (by omega) (by omega)) HC.out
        case measure => simp [intOf]; omega
    · by_cases hln : lo < n
      · have hgl := hg (by omega)
        obtain rfl := ha (by omega)
        have hA0 : wr.cell? ⟨g, lo * 3, none⟩ = some (.string (nm lo)) := by rw [HB.out.cell hgl]; exact HC0.out _ hln
        have hA1 : wr.cell? ⟨g, lo * 3 + 1, none⟩ = some (hdv lo) := by rw [HB.out.cell hgl]; exact HC1.out _ hln
        have hA2 : wr.cell? ⟨g, lo * 3 + 2, none⟩ = some (rv lo) := by rw [HB.out.cell hgl]; exact HC2.out _ hln
        have hln' : (lo : Int) < n := by omega
        go_wp2_with fail
        refine (branch1_any _ _ _ _ _).mono ?_
        rintro e w1 ⟨rfl, hb1⟩
        have HB1 := Lib.hid hb1
        clear hb1
        go_wp2_with fail
        go_ret2
        refine ⟨lo, by omega, HLO.out, fun k hk hk' => HHI.out k (by omega) hk', ?_, HB.out.trans (HB1.out.mono HB.out.size)⟩
        refine ret_ib ?_
        exact found_eq hln (HHI.out lo (by omega) hln)
      · have hln' : ¬ (lo : Int) < n := by omega
        have hd : decide ((lo : Int) < n) = false := by simpa using hln'
        go_wp2_with fail
        go_ret2
        refine ⟨lo, by omega, HLO.out, fun k hk hk' => HHI.out k (by omega) hk', ?_, HB.out⟩
        refine ret_ib ?_
        simp [hln]

set_option maxHeartbeats 400000 in
theorem bsearch73 (a0 : Option Addr) (g n cap : Nat) (nm : Nat → ByteArray) (hdv : Nat → Value) (name : ByteArray) (w : World) (hn : n ≤ 4611686018427387903)
    (hc0 : ∀ k, k < n → w.cell? ⟨g, k * 2, none⟩ = some (.string (nm k)))
    (hc1 : ∀ k, k < n → w.cell? ⟨g, k * 2 + 1, none⟩ = some (hdv k))
    (hs : ∀ j k, j < k → k < n → ltN (nm j) (nm k) = true)
    (hg : 0 < n → g < w.heap.size) (ha : 0 < n → a0 = some ⟨g, 0, none⟩) :
    Calls Try.prog 73 #[.slice a0 n cap, .string name, .func (.func 74) #[] #[]] w
      fun e w' => ∃ i : Nat, i ≤ n ∧ (∀ k, k < i → ltN (nm k) name = true) ∧ (∀ k, i ≤ k → k < n → ltN (nm k) name = false) ∧
        Quiet (.tuple #[.int .i64 i, .bool (decide (i < n ∧ nm i = name))]) w e w' := by
  have HC0 := Lib.hid hc0
  have HC1 := Lib.hid hc1
  have HS := Lib.hid hs
  clear hc0 hc1 hs
  go_enter Try.func73, Try.ntmps73
  go_wp2_with fail
  go_loopw [9, 10] (fun i j wr => ∃ lo hi : Nat, lo ≤ hi ∧ hi ≤ n ∧ i = .int .i64 lo ∧ j = .int .i64 hi ∧ (∀ k, k < lo → ltN (nm k) name = true) ∧ (∀ k, hi ≤ k → k < n → ltN (nm k) name = false) ∧ Below w.heap.size w wr)
     (fun i j _ => (intOf j).toNat - (intOf i).toNat)
  case atStart => exact ⟨0, n, Nat.zero_le _, Nat.le_refl _, rfl, rfl, fun k h => absurd h (Nat.not_lt_zero _), fun k h h' => absurd h' (by omega), Below.refl _ _⟩
  case round =>
    obtain ⟨lo, hi, hlh, hhn, rfl, rfl, hlo, hhi, hb⟩ := hrel
    have HLO := Lib.hid hlo
    have HHI := Lib.hid hhi
    have HB := Lib.hid hb
    clear hlo hhi hb
    by_cases hlt : lo < hi
    · have hu : IntKind.u64.wrap ((lo : Int) + hi) = (lo : Int) + hi := wrap_u64_in _ (by omega) (by omega)
      have hgl := hg (by omega)
      obtain rfl := ha (by omega)
      have hh : (lo + hi) / 2 < n := by omega
      have hA0 : wr.cell? ⟨g, (lo + hi) / 2 * 2, none⟩ = some (.string (nm ((lo + hi) / 2))) := by rw [HB.out.cell hgl]; exact HC0.out _ hh
      have hA1 : wr.cell? ⟨g, (lo + hi) / 2 * 2 + 1, none⟩ = some (hdv ((lo + hi) / 2)) := by rw [HB.out.cell hgl]; exact HC1.out _ hh
      have hlt' : (lo : Int) < hi := by omega
      cases hc : ltN (nm ((lo + hi) / 2)) name
      · have HC := Lib.hid hc
        clear hc
        go_wp2_with fail
        refine (snapshot1_any _ _ _ _).mono ?_
        rintro e w1 ⟨rfl, hb1⟩
        have h01 : (0 : Int) ≤ ordI (nm ((lo + hi) / 2)) name := ordI_nonneg HC.out
        have HB1 := Lib.hid hb1
        clear hb1
        go_wp2_with fail
        go_roundw
        case rel =>
          refine ⟨lo, (lo + hi) / 2, by omega, by omega, rfl, by go_num, HLO.out, fun k hk hk' => ?_, HB.out.trans (HB1.out.mono HB.out.size)⟩
          by_cases e : k = (lo + hi) / 2
          · subst e; exact HC.out
          · exact ltN_false_mono (HS.out _ k (by omega) hk') HC.out
        case measure => simp [intOf]; omega
      · have HC := Lib.hid hc
        clear hc
        go_wp2_with fail
        refine (snapshot1_any _ _ _ _).mono ?_
        rintro e w1 ⟨rfl, hb1⟩
        have h01 : ordI (nm ((lo + hi) / 2)) name < 0 := by rw [ordI_lt HC.out]; decide
        have HB1 := Lib.hid hb1
        clear hb1
        go_wp2_with fail
        go_roundw
        case rel =>
          refine ⟨(lo + hi) / 2 + 1, hi, by omega, by omega, by go_num, rfl, fun k hk => ?_, HHI.out, HB.out.trans (HB1.out.mono HB.out.size)⟩
          by_cases e : k = (lo + hi) / 2
          · subst e; exact HC.out
          · exact ltN_trans (HS.out k _ (by omega) (by omega)) HC.out
        case measure => simp [intOf]; omega
    · by_cases hln : lo < n
      · have hgl := hg (by omega)
        obtain rfl := ha (by omega)
        have hA0 : wr.cell? ⟨g, lo * 2, none⟩ = some (.string (nm lo)) := by rw [HB.out.cell hgl]; exact HC0.out _ hln
        have hA1 : wr.cell? ⟨g, lo * 2 + 1, none⟩ = some (hdv lo) := by rw [HB.out.cell hgl]; exact HC1.out _ hln
        have hln' : (lo : Int) < n := by omega
        go_wp2_with fail
        refine (snapshot1_any _ _ _ _).mono ?_
        rintro e w1 ⟨rfl, hb1⟩
        have HB1 := Lib.hid hb1
        clear hb1
        go_wp2_with fail
        go_ret2
        refine ⟨lo, by omega, HLO.out, fun k hk hk' => HHI.out k (by omega) hk', ?_, HB.out.trans (HB1.out.mono HB.out.size)⟩
        refine ret_ib ?_
        exact found_eq hln (HHI.out lo (by omega) hln)
      · have hln' : ¬ (lo : Int) < n := by omega
        have hd : decide ((lo : Int) < n) = false := by simpa using hln'
        go_wp2_with fail
        go_ret2
        refine ⟨lo, by omega, HLO.out, fun k hk hk' => HHI.out k (by omega) hk', ?_, HB.out⟩
        refine ret_ib ?_
        simp [hln]


/-! ### the place of a name in a sorted list -/
def SortedN (l : List ByteArray) : Prop := l.Pairwise fun a b => ltN a b = true

def rank (name : ByteArray) : List ByteArray → Nat
  | [] => 0
  | a :: l => if ltN a name then rank name l + 1 else 0

def hasN (name : ByteArray) (l : List ByteArray) : Bool := decide (l[rank name l]? = some name)

theorem rank_le (name : ByteArray) : ∀ l : List ByteArray, rank name l ≤ l.length
  | [] => Nat.le_refl _
  | a :: l => by unfold rank; split <;> simp [rank_le name l]

theorem rank_unique (name : ByteArray) : ∀ (l : List ByteArray) (i : Nat), i ≤ l.length → (∀ k a, k < i → l[k]? = some a → ltN a name = true) → (∀ a, l[i]? = some a → ltN a name = false) → i = rank name l
  | [], i, h, _, _ => by simpa [rank] using h
  | a :: l, 0, _, _, h2 => by
    have := h2 a rfl
    simp [rank, this]
  | a :: l, i + 1, h, h1, h2 => by
    have h0 := h1 0 a (Nat.succ_pos _) rfl
    simp only [rank, h0, if_true]
    congr 1
    exact rank_unique name l i (by simpa using h) (fun k b hk hb => h1 (k + 1) b (by omega) (by simpa using hb)) (fun b hb => h2 b (by simpa using hb))

end Go.Proofs.Ytalmfmijjbpnpaa
/-
  Walks of branch, snapshot, current, Head, missing, taken: what the program's timeline finds.
-/
namespace Go.Proofs.Ytalmfmijjbpnpaa
open Go.RowKit

theorem lnCells_get : ∀ (ml : List (Ln × Value)) (k : Nat) (x : Ln × Value), ml[k]? = some x →
    (lnCells ml)[k * 3]? = some (.string x.1.nm) ∧ (lnCells ml)[k * 3 + 1]? = some (.int .i64 x.1.hd) ∧ (lnCells ml)[k * 3 + 2]? = some x.2
  | [], k, x, h => by simp at h
  | y :: ml, 0, x, h => by
    simp only [List.getElem?_cons_zero, Option.some.injEq] at h
    subst h
    exact ⟨rfl, rfl, rfl⟩
  | y :: ml, k + 1, x, h => by
    have ih := lnCells_get ml k x (by simpa using h)
    have e : lnCells (y :: ml) = [.string y.1.nm, .int .i64 y.1.hd, y.2] ++ lnCells ml := rfl
    have sh : ∀ j, (lnCells (y :: ml))[(j + 3)]? = (lnCells ml)[j]? := fun j => by rw [e]; rfl
    rw [show (k + 1) * 3 = k * 3 + 3 by omega, show k * 3 + 3 + 1 = k * 3 + 1 + 3 by omega, show k * 3 + 3 + 2 = k * 3 + 2 + 3 by omega, sh, sh, sh]
    exact ih

theorem lbCells_get : ∀ (ml : List Lb) (k : Nat) (x : Lb), ml[k]? = some x →
    (lbCells ml)[k * 2]? = some (.string x.nm) ∧ (lbCells ml)[k * 2 + 1]? = some (.int .i64 x.ver)
  | [], k, x, h => by simp at h
  | y :: ml, 0, x, h => by
    simp only [List.getElem?_cons_zero, Option.some.injEq] at h
    subst h
    exact ⟨rfl, rfl⟩
  | y :: ml, k + 1, x, h => by
    have ih := lbCells_get ml k x (by simpa using h)
    have e : lbCells (y :: ml) = [.string y.nm, .int .i64 y.ver] ++ lbCells ml := rfl
    have sh : ∀ j, (lbCells (y :: ml))[(j + 2)]? = (lbCells ml)[j]? := fun j => by rw [e]; rfl
    rw [show (k + 1) * 2 = k * 2 + 2 by omega, show k * 2 + 2 + 1 = k * 2 + 1 + 2 by omega, sh, sh]
    exact ih

theorem verCells_get : ∀ (ml : List Ver) (k : Nat) (x : Ver), ml[k]? = some x →
    (verCells ml)[k * 2]? = some (.int .i64 x.par) ∧ (verCells ml)[k * 2 + 1]? = some (.int .i64 x.root)
  | [], k, x, h => by simp at h
  | y :: ml, 0, x, h => by
    simp only [List.getElem?_cons_zero, Option.some.injEq] at h
    subst h
    exact ⟨rfl, rfl⟩
  | y :: ml, k + 1, x, h => by
    have ih := verCells_get ml k x (by simpa using h)
    have e : verCells (y :: ml) = [.int .i64 y.par, .int .i64 y.root] ++ verCells ml := rfl
    have sh : ∀ j, (verCells (y :: ml))[(j + 2)]? = (verCells ml)[j]? := fun j => by rw [e]; rfl
    rw [show (k + 1) * 2 = k * 2 + 2 by omega, show k * 2 + 2 + 1 = k * 2 + 1 + 2 by omega, sh, sh]
    exact ih

theorem own_cell {w : World} {base : Nat} {e : TypeId} {size g n cap : Nat} {xs : List Value} (h : w.ownsRow base e size (.slice (some ⟨g, 0, none⟩) n cap) n xs) {j : Nat} {u : Value}
    (hu : xs[j]? = some u) : w.cell? ⟨g, j, none⟩ = some u := by
  have hj : j < xs.length := (List.getElem?_eq_some_iff.1 hu).1
  rw [h.cellAt j (by rw [← h.1]; exact hj), hu]

/-- A slice value's address, in the one form that serves both ways. -/
theorem own_addr {w : World} {base : Nat} {e : TypeId} {size : Nat} {v : Value} {n : Nat} {xs : List Value} (h : w.ownsRow base e size v n xs) :
    ∃ (a : Option Addr) (g cap : Nat), v = .slice a n cap ∧ (0 < n → a = some ⟨g, 0, none⟩) ∧ (0 < n → g < w.heap.size) ∧ n ≤ cap ∧ cap ≤ maxLen ∧
      (∀ j u, xs[j]? = some u → w.cell? ⟨g, j, none⟩ = some u) := by
  rcases h.2 with ⟨rfl, rfl⟩ | ⟨g, cap, cur, rfl, hb, hgg, h1, h2, h3⟩
  · refine ⟨none, 0, 0, rfl, fun h => absurd h (Nat.lt_irrefl _), fun h => absurd h (Nat.lt_irrefl _), Nat.le_refl _, by unfold maxLen; omega, ?_⟩
    intro j u hu
    have := h.1
    simp at this
    subst this
    simp at hu
  · exact ⟨_, g, cap, rfl, fun _ => rfl, fun _ => (Array.getElem?_eq_some_iff.1 hgg).1, h1, h2, fun j u hu => own_cell h hu⟩

def bnames (H : Hist) : List ByteArray := H.bs.map (·.nm)
def snames (H : Hist) : List ByteArray := H.ss.map (·.nm)

theorem sorted_get {l : List ByteArray} (h : SortedN l) {j k : Nat} (hjk : j < k) (hk : k < l.length) : ltN (l.getD j ByteArray.empty) (l.getD k ByteArray.empty) = true := by
  rw [List.getD_eq_getElem?_getD, List.getD_eq_getElem?_getD, List.getElem?_eq_getElem (by omega), List.getElem?_eq_getElem hk]
  exact List.pairwise_iff_getElem.1 h j k (by omega) hk hjk

theorem rank_of_bounds {name : ByteArray} {l : List ByteArray} {i : Nat} (hi : i ≤ l.length) (h1 : ∀ k, k < i → ltN (l.getD k ByteArray.empty) name = true)
    (h2 : ∀ k, i ≤ k → k < l.length → ltN (l.getD k ByteArray.empty) name = false) :
    i = rank name l ∧ decide (i < l.length ∧ l.getD i ByteArray.empty = name) = hasN name l := by
  have hr : i = rank name l := by
    refine rank_unique name l i hi (fun k a hk ha => ?_) (fun a ha => ?_)
    · have := h1 k hk
      rw [List.getD_eq_getElem?_getD, ha] at this
      exact this
    · have := h2 i (Nat.le_refl _) (List.getElem?_eq_some_iff.1 ha).1
      rw [List.getD_eq_getElem?_getD, ha] at this
      exact this
  refine ⟨hr, ?_⟩
  unfold hasN
  rw [← hr, Bool.eq_iff_iff, decide_eq_true_eq, decide_eq_true_eq]
  constructor
  · rintro ⟨h, e⟩
    rw [List.getElem?_eq_getElem h]
    rw [List.getD_eq_getElem?_getD, List.getElem?_eq_getElem h] at e
    exact congrArg some e
  · intro e
    refine ⟨(List.getElem?_eq_some_iff.1 e).1, ?_⟩
    rw [List.getD_eq_getElem?_getD, e]; rfl

section
variable {w : World} {t : Nat} {H : Hist} {m : View}

set_option maxHeartbeats 400000 in
theorem branch34 (h : Rep w 67 t H m) (hs : SortedN (bnames H)) (hn : H.bs.length ≤ 1000) (name : ByteArray) :
    Calls Try.prog 34 #[.pointer (some ⟨t, 0, none⟩), .string name] w (Quiet (.tuple #[.int .i64 (rank name (bnames H)), .bool (hasN name (bnames H))]) w) := by
  obtain ⟨a, g, cap, hbv, ha, hg, hcap, hcm, hcell⟩ := own_addr h.bs
  have hml := h.ml
  have hlen : m.ml.length = H.bs.length := by rw [hml, List.length_map]
  have hnmk : ∀ k, k < m.ml.length → ∃ x, m.ml[k]? = some x ∧ x.1.nm = (bnames H).getD k ByteArray.empty := fun k hk => by
    refine ⟨m.ml[k], List.getElem?_eq_getElem hk, ?_⟩
    unfold bnames
    rw [hml, List.getD_eq_getElem?_getD, List.map_map, List.getElem?_map, List.getElem?_eq_getElem hk]; rfl
  have hblen : (bnames H).length = m.ml.length := by rw [hlen]; simp [bnames]
  have c1 : w.cell? ⟨t, 1, none⟩ = some (.slice a m.ml.length cap) := by rw [cell_of_blk h.blk, ← hbv]; rfl
  have hB : Hid (Calls Try.prog 63 #[.slice a m.ml.length cap, .string name, .func (.func 64) #[] #[]] w (Quiet (.tuple #[.int .i64 (rank name (bnames H)), .bool (hasN name (bnames H))]) w)) := by
    refine Lib.hid ?_
    refine (bsearch63 a g m.ml.length cap (fun k => (bnames H).getD k ByteArray.empty) (fun k => ((lnCells m.ml)[k * 3 + 1]?).getD undef) (fun k => ((lnCells m.ml)[k * 3 + 2]?).getD undef) name w (by omega) ?_ ?_ ?_ ?_ hg ha).mono ?_
    · intro k hk
      obtain ⟨x, hx, hxn⟩ := hnmk k hk
      rw [hcell _ _ (lnCells_get _ _ _ hx).1, hxn]
    · intro k hk
      obtain ⟨x, hx, hxn⟩ := hnmk k hk
      rw [hcell _ _ (lnCells_get _ _ _ hx).2.1, (lnCells_get _ _ _ hx).2.1]; rfl
    · intro k hk
      obtain ⟨x, hx, hxn⟩ := hnmk k hk
      rw [hcell _ _ (lnCells_get _ _ _ hx).2.2, (lnCells_get _ _ _ hx).2.2]; rfl
    · intro j k hjk hk
      exact sorted_get hs hjk (by rw [hblen]; exact hk)
    · rintro e w' ⟨i, hi, h1, h2, he, hb⟩
      obtain ⟨e1, e2⟩ := rank_of_bounds (by rw [hblen]; exact hi) h1 (fun k h h' => h2 k h (by rw [← hblen]; exact h'))
      refine ⟨?_, hb⟩
      rw [he, ← e2, ← e1, hblen]
  clear hnmk hblen hcell hlen hml hbv ha hg hcap hcm hn hs
  clear h
  go_enter Try.func34, Try.ntmps34
  go_wp2_with fail
  refine hB.out.mono ?_
  rintro e w1 ⟨rfl, hb1⟩
  have HB1 := Lib.hid hb1
  clear hb1
  go_wp2_with fail
  go_ret2
  exact ⟨rfl, HB1.out⟩

set_option maxHeartbeats 400000 in
theorem snapshot38 (h : Rep w 67 t H m) (hs : SortedN (snames H)) (hn : H.ss.length ≤ 1000) (name : ByteArray) :
    Calls Try.prog 38 #[.pointer (some ⟨t, 0, none⟩), .string name] w (Quiet (.tuple #[.int .i64 (rank name (snames H)), .bool (hasN name (snames H))]) w) := by
  obtain ⟨a, g, cap, hbv, ha, hg, hcap, hcm, hcell⟩ := own_addr h.ss
  have hnmk : ∀ k, k < H.ss.length → ∃ x, H.ss[k]? = some x ∧ x.nm = (snames H).getD k ByteArray.empty := fun k hk => by
    refine ⟨H.ss[k], List.getElem?_eq_getElem hk, ?_⟩
    unfold snames
    rw [List.getD_eq_getElem?_getD, List.getElem?_map, List.getElem?_eq_getElem hk]; rfl
  have hblen : (snames H).length = H.ss.length := by simp [snames]
  have c1 : w.cell? ⟨t, 2, none⟩ = some (.slice a H.ss.length cap) := by rw [cell_of_blk h.blk, ← hbv]; rfl
  have hB : Hid (Calls Try.prog 73 #[.slice a H.ss.length cap, .string name, .func (.func 74) #[] #[]] w (Quiet (.tuple #[.int .i64 (rank name (snames H)), .bool (hasN name (snames H))]) w)) := by
    refine Lib.hid ?_
    refine (bsearch73 a g H.ss.length cap (fun k => (snames H).getD k ByteArray.empty) (fun k => ((lbCells H.ss)[k * 2 + 1]?).getD undef) name w (by omega) ?_ ?_ ?_ hg ha).mono ?_
    · intro k hk
      obtain ⟨x, hx, hxn⟩ := hnmk k hk
      rw [hcell _ _ (lbCells_get _ _ _ hx).1, hxn]
    · intro k hk
      obtain ⟨x, hx, hxn⟩ := hnmk k hk
      rw [hcell _ _ (lbCells_get _ _ _ hx).2, (lbCells_get _ _ _ hx).2]; rfl
    · intro j k hjk hk
      exact sorted_get hs hjk (by rw [hblen]; exact hk)
    · rintro e w' ⟨i, hi, h1, h2, he, hb⟩
      obtain ⟨e1, e2⟩ := rank_of_bounds (by rw [hblen]; exact hi) h1 (fun k h h' => h2 k h (by rw [← hblen]; exact h'))
      refine ⟨?_, hb⟩
      rw [he, ← e2, ← e1, hblen]
  clear hnmk hblen hcell hbv ha hg hcap hcm hn hs
  clear h
  go_enter Try.func38, Try.ntmps38
  go_wp2_with fail
  refine hB.out.mono ?_
  rintro e w1 ⟨rfl, hb1⟩
  have HB1 := Lib.hid hb1
  clear hb1
  go_wp2_with fail
  go_ret2
  exact ⟨rfl, HB1.out⟩

/-- missing: the first error of an operation on a name that has to exist. -/
def missE (name : ByteArray) (ok : Bool) : Int := if wordB name then (if ok then 0 else 8) else 1

set_option maxHeartbeats 400000 in
theorem missing36 (f : Nat) (hff : f = 34 ∨ f = 38) (p : Value) (name : ByteArray) (hnm : name.size ≤ maxLen) (i : Int) (ok : Bool)
    (hf : Calls Try.prog f #[p, .string name] w (Quiet (.tuple #[.int .i64 i, .bool ok]) w)) :
    Calls Try.prog 36 #[.string name, .func (.func f) #[p] #[]] w (Quiet (.int .i64 (missE name ok)) w) := by
  rcases hff with rfl | rfl
  all_goals
    have HF := Lib.hid hf
    clear hf
    cases hw : wordB name
    · have e : missE name ok = 1 := by simp [missE, hw]
      rw [e]
      have HW := Lib.hid hw
      clear hw e
      go_enter Try.func36, Try.ntmps36
      go_wp2_with (go_at_call 68; refine (lexWord_any _ hnm _).mono ?_; rintro e w' ⟨rfl, rfl⟩; rw [HW.out])
      go_ret
      exact ⟨rfl, Below.refl _ _⟩
    · cases ok
      · have e : missE name false = 8 := by simp [missE, hw]
        rw [e]
        have HW := Lib.hid hw
        clear hw e
        go_enter Try.func36, Try.ntmps36
        go_wp2_with (go_at_call 68; refine (lexWord_any _ hnm _).mono ?_; rintro e w' ⟨rfl, rfl⟩; rw [HW.out])
        refine HF.out.mono ?_
        rintro e w1 ⟨rfl, hb1⟩
        have HB1 := Lib.hid hb1
        clear hb1
        go_wp2_with fail
        go_ret
        exact ⟨rfl, HB1.out⟩
      · have e : missE name true = 0 := by simp [missE, hw]
        rw [e]
        have HW := Lib.hid hw
        clear hw e
        go_enter Try.func36, Try.ntmps36
        go_wp2_with (go_at_call 68; refine (lexWord_any _ hnm _).mono ?_; rintro e w' ⟨rfl, rfl⟩; rw [HW.out])
        refine HF.out.mono ?_
        rintro e w1 ⟨rfl, hb1⟩
        have HB1 := Lib.hid hb1
        clear hb1
        go_wp2_with fail
        go_ret
        exact ⟨rfl, HB1.out⟩

/-- taken: the error of a name that must not exist yet, of which there are n. -/
def takenE (name : ByteArray) (ok : Bool) (n : Nat) : Int := if wordB name then (if ok then 16 else if 16 ≤ n then 7 else 0) else 1

set_option maxHeartbeats 400000 in
theorem taken33 (f : Nat) (hff : f = 34 ∨ f = 38) (p : Value) (name : ByteArray) (hnm : name.size ≤ maxLen) (i : Int) (ok : Bool) (n : Nat) (hn : n ≤ 1000)
    (hf : Calls Try.prog f #[p, .string name] w (Quiet (.tuple #[.int .i64 i, .bool ok]) w)) :
    Calls Try.prog 33 #[.string name, .func (.func f) #[p] #[], .int .i64 n] w (Quiet (.int .i64 (takenE name ok n)) w) := by
  have HM : Hid (Calls Try.prog 36 #[.string name, .func (.func f) #[p] #[]] w (Quiet (.int .i64 (missE name ok)) w)) := Lib.hid (missing36 f hff p name hnm i ok hf)
  clear hf
  have hcase : (missE name ok = 1 ∧ takenE name ok n = 1) ∨ (missE name ok = 0 ∧ takenE name ok n = 16) ∨ (missE name ok = 8 ∧ 16 ≤ n ∧ takenE name ok n = 7) ∨ (missE name ok = 8 ∧ n < 16 ∧ takenE name ok n = 0) := by
    unfold missE takenE
    cases wordB name <;> cases ok <;> simp <;> by_cases h : 16 ≤ n <;> simp [h] <;> omega
  rcases hcase with ⟨h1, h2⟩ | ⟨h1, h2⟩ | ⟨h1, h3, h2⟩ | ⟨h1, h3, h2⟩
  all_goals
    rw [h2]
    rw [h1] at HM
    clear h1 h2
    go_enter Try.func33, Try.ntmps33
    go_wp2_with fail
    refine HM.out.mono ?_
    rintro e w1 ⟨rfl, hb1⟩
    have HB1 := Lib.hid hb1
    clear hb1
    go_wp2_with fail
    go_ret
    exact ⟨rfl, HB1.out⟩

end

end Go.Proofs.Ytalmfmijjbpnpaa
/-
  Well-formed histories; walks of current, Head, Root.
-/
namespace Go.Proofs.Ytalmfmijjbpnpaa
open Go.RowKit

instance : Inhabited Ln := ⟨⟨ByteArray.empty, 0, []⟩⟩
instance : Inhabited Ver := ⟨⟨0, 0⟩⟩
instance : Inhabited Lb := ⟨⟨ByteArray.empty, 0⟩⟩

/-- The versions to redo lead on from a head, the list read from its end. -/
def leadsR (vs : List Ver) : Int → List Int → Prop
  | _, [] => True
  | a, r :: rs => 0 ≤ r ∧ r < vs.length ∧ (vs.getD r.toNat default).par = a ∧ leadsR vs r rs

structure WF (H : Hist) : Prop where
  v1 : 1 ≤ H.vs.length
  v2 : H.vs.length ≤ 1000
  b1 : 1 ≤ H.bs.length
  b2 : H.bs.length ≤ 16
  s2 : H.ss.length ≤ 16
  sb : SortedN (bnames H)
  sn : SortedN (snames H)
  cur : hasN H.cur (bnames H) = true
  bw : ∀ b ∈ H.bs, wordB b.nm = true
  sw : ∀ b ∈ H.ss, wordB b.nm = true
  par0 : (H.vs.getD 0 default).par = -1
  par : ∀ i, 0 < i → i < H.vs.length → 0 ≤ (H.vs.getD i default).par ∧ (H.vs.getD i default).par < i
  hd : ∀ b ∈ H.bs, 0 ≤ b.hd ∧ b.hd < H.vs.length
  rd : ∀ b ∈ H.bs, leadsR H.vs b.hd b.rd.reverse
  sv : ∀ s ∈ H.ss, 0 ≤ s.ver ∧ s.ver < H.vs.length

def ci (H : Hist) : Nat := rank H.cur (bnames H)
def curLn (H : Hist) : Ln := H.bs.getD (ci H) default

theorem ci_lt {H : Hist} (h : WF H) : ci H < H.bs.length ∧ (curLn H).nm = H.cur ∧ curLn H ∈ H.bs := by
  have hc := h.cur
  unfold hasN at hc
  rw [decide_eq_true_eq] at hc
  have hl := (List.getElem?_eq_some_iff.1 hc).1
  have hl' : ci H < H.bs.length := by simpa [bnames, ci] using hl
  refine ⟨hl', ?_, ?_⟩
  · unfold bnames at hc
    rw [List.getElem?_map] at hc
    unfold curLn
    rw [List.getD_eq_getElem?_getD]
    unfold ci bnames
    revert hc
    cases H.bs[rank H.cur (H.bs.map (·.nm))]? with
    | none => intro hc; cases hc
    | some x => intro hc; simpa using hc
  · unfold curLn
    rw [List.getD_eq_getElem?_getD, List.getElem?_eq_getElem hl']
    exact List.getElem_mem _

section
variable {w : World} {T t : Nat} {H : Hist} {m : View}

/-- What stands in memory for the current branch. -/
theorem cur_mem (h : Rep w T t H m) (hw : WF H) : ∃ (g cap : Nat) (rv : Value), m.bv = .slice (some ⟨g, 0, none⟩) m.ml.length cap ∧ m.ml.length = H.bs.length ∧ m.ml.length ≤ cap ∧
    m.ml[ci H]? = some (curLn H, rv) ∧ w.cell? ⟨g, ci H * 3, none⟩ = some (.string H.cur) ∧ w.cell? ⟨g, ci H * 3 + 1, none⟩ = some (.int .i64 (curLn H).hd) ∧
    w.cell? ⟨g, ci H * 3 + 2, none⟩ = some rv ∧ g < w.heap.size ∧ g ≠ t ∧ w.ownsRow 0 3 1 rv (curLn H).rd.length (intCells (curLn H).rd) := by
  obtain ⟨hl, hnm, hmem⟩ := ci_lt hw
  have hml := h.ml
  have hlen : m.ml.length = H.bs.length := by rw [hml, List.length_map]
  have hb1 := hw.b1
  obtain ⟨g, cap, hbv, hc1, hc2, hg⟩ := own_form h.bs (by omega)
  have hown := h.bs
  rw [hbv] at hown
  have hgt : m.ml[ci H]? = some (m.ml[ci H]'(by omega)) := List.getElem?_eq_getElem (by omega)
  have hfst : (m.ml[ci H]'(by omega)).1 = curLn H := by
    unfold curLn
    rw [List.getD_eq_getElem?_getD, hml, List.getElem?_map, hgt]; rfl
  have hcells := lnCells_get m.ml (ci H) _ hgt
  refine ⟨g, cap, (m.ml[ci H]'(by omega)).2, hbv, hlen, hc1, ?_, ?_, ?_, ?_, hg, ?_, ?_⟩
  · rw [hgt, ← hfst]
  · rw [own_cell hown hcells.1, hfst, hnm]
  · rw [own_cell hown hcells.2.1, hfst]
  · exact own_cell hown hcells.2.2
  · rintro rfl
    obtain ⟨cur, hcur⟩ := own_block hown (k := g) rfl
    have hb := h.blk
    rw [hcur] at hb
    have htt := h.tt
    cases hb
    omega
  · have := h.rd _ (List.getElem_mem (show ci H < m.ml.length by omega))
    rw [hfst] at this
    exact this

set_option maxHeartbeats 400000 in
theorem current32 (h : Rep w 67 t H m) (hw : WF H) {g cap : Nat} (hbv : m.bv = .slice (some ⟨g, 0, none⟩) m.ml.length cap) :
    Calls Try.prog 32 #[.pointer (some ⟨t, 0, none⟩)] w (Quiet (.pointer (some ⟨g, ci H * 3, none⟩)) w) := by
  have hB := Lib.hid (branch34 h hw.sb (by have := hw.b2; omega) H.cur)
  have hl := (ci_lt hw).1
  have hlen : m.ml.length = H.bs.length := by rw [h.ml, List.length_map]
  have c1 : w.cell? ⟨t, 1, none⟩ = some (.slice (some ⟨g, 0, none⟩) m.ml.length cap) := by rw [cell_of_blk h.blk, ← hbv]; rfl
  have c3 : w.cell? ⟨t, 3, none⟩ = some (.string H.cur) := by rw [cell_of_blk h.blk]; rfl
  have ht : t < w.heap.size := h.lt (.inl rfl)
  have hci : rank H.cur (bnames H) = ci H := rfl
  rw [hci] at hB
  have hl1 : (ci H : Int) < m.ml.length := by omega
  have hl0 : (0 : Int) ≤ ci H := by omega
  clear hlen hl hci hbv h
  go_enter Try.func32, Try.ntmps32
  go_wp2_with fail
  refine hB.out.mono ?_
  rintro e w1 ⟨rfl, hb1⟩
  obtain ⟨hc, _⟩ := bcell hb1
  have HB1 := Lib.hid hb1
  clear hb1
  go_wp2_with fail
  go_ret
  exact ⟨rfl, HB1.out⟩

def hdN (H : Hist) : Nat := (curLn H).hd.toNat
theorem hd_eq (hw : WF H) : (curLn H).hd = ((hdN H : Nat) : Int) ∧ hdN H < H.vs.length := by
  have := hw.hd _ (ci_lt hw).2.2
  unfold hdN
  omega

set_option maxHeartbeats 400000 in
theorem head13 (h : Rep w 67 t H m) (hw : WF H) :
    Calls Try.prog 13 #[.pointer (some ⟨t, 0, none⟩)] w (Quiet (.int .i64 (hdN H)) w) := by
  obtain ⟨g, cap, rv, hbv, hlen, hcap, hml, k0, k1, k2, hg, hgt, hrow⟩ := cur_mem h hw
  have hB := Lib.hid (current32 h hw hbv)
  rw [(hd_eq hw).1] at k1
  clear hlen hcap hml k0 k2 hbv h hrow
  go_enter Try.func13, Try.ntmps13
  go_wp2_with fail
  refine hB.out.mono ?_
  rintro e w1 ⟨rfl, hb1⟩
  obtain ⟨hc, _⟩ := bcell hb1
  have HB1 := Lib.hid hb1
  clear hb1
  go_wp2_with fail
  go_ret
  exact ⟨rfl, HB1.out⟩

def rootOf (H : Hist) : Int := (H.vs.getD (hdN H) default).root

/-- What stands in memory for the versions. -/
theorem ver_mem (h : Rep w T t H m) (hw : WF H) : ∃ (g cap : Nat), m.vv = .slice (some ⟨g, 0, none⟩) H.vs.length cap ∧ H.vs.length ≤ cap ∧ cap ≤ maxLen ∧ g < w.heap.size ∧ g ≠ t ∧
    ∀ k, k < H.vs.length → w.cell? ⟨g, k * 2, none⟩ = some (.int .i64 (H.vs.getD k default).par) ∧ w.cell? ⟨g, k * 2 + 1, none⟩ = some (.int .i64 (H.vs.getD k default).root) := by
  have hv1 := hw.v1
  obtain ⟨g, cap, hvv, hc1, hc2, hg⟩ := own_form h.vs (by omega)
  have hown := h.vs
  rw [hvv] at hown
  refine ⟨g, cap, hvv, hc1, hc2, hg, ?_, fun k hk => ?_⟩
  · rintro rfl
    obtain ⟨cur, hcur⟩ := own_block hown (k := g) rfl
    have hb := h.blk
    rw [hcur] at hb
    have htt := h.tt
    cases hb
    omega
  · have hcells := verCells_get H.vs k _ (List.getElem?_eq_getElem hk)
    rw [List.getD_eq_getElem?_getD, List.getElem?_eq_getElem hk]
    exact ⟨own_cell hown hcells.1, own_cell hown hcells.2⟩

set_option maxHeartbeats 400000 in
theorem root19 (h : Rep w 67 t H m) (hw : WF H) :
    Calls Try.prog 19 #[.pointer (some ⟨t, 0, none⟩)] w (Quiet (.int .i64 (rootOf H)) w) := by
  obtain ⟨g, cap, hvv, hc1, hc2, hg, hgt, hver⟩ := ver_mem h hw
  have hlt := (hd_eq hw).2
  have k1 := (hver (hdN H) hlt).2
  have c0 : w.cell? ⟨t, 0, none⟩ = some (.slice (some ⟨g, 0, none⟩) H.vs.length cap) := by rw [cell_of_blk h.blk, ← hvv]; rfl
  have hroot : (H.vs.getD (hdN H) default).root = rootOf H := rfl
  rw [hroot] at k1
  have hl1 : (hdN H : Int) < H.vs.length := by omega
  have hl0 : (0 : Int) ≤ hdN H := by omega
  have ht : t < w.heap.size := h.lt (.inl rfl)
  clear hver hroot hlt hvv
  have HR := Lib.hid h
  have HW := Lib.hid hw
  clear h hw
  go_enter Try.func19, Try.ntmps19
  go_wp2_with fail
  go_region_held3 (fun w' => w'.cell? ⟨t, 0, none⟩ = some (.slice (some ⟨g, 0, none⟩) H.vs.length cap) ∧ w'.cell? ⟨g, hdN H * 2 + 1, none⟩ = some (.int .i64 (rootOf H)) ∧ Below w.heap.size w w')
    (first | (exact ⟨c0, k1, (Below.refl _ _).drew⟩) | (exact ⟨(hb1.cell (p := ⟨t, 0, none⟩) ht).trans c0, (hb1.cell (p := ⟨g, _, none⟩) hg).trans k1, ((Below.refl _ _).drew).trans (hb1.mono (Nat.le_refl w.heap.size))⟩))
    ((go_at_call 13; refine (head13 (HR.out.below ((Below.refl _ _).drew)) HW.out).mono ?_; rintro e w1 ⟨rfl, hb1⟩))
  go_wp2
  go_ret
  exact ⟨rfl, ((Below.refl _ _).drew).trans (hb1.mono (Nat.le_refl w.heap.size))⟩

end

end Go.Proofs.Ytalmfmijjbpnpaa
