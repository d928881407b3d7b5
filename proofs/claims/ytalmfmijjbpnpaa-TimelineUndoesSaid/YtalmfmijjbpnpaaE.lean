/-
  Walks of branch, snapshot, current, Head, missing, taken: what the program's timeline finds.
-/
import Derived.Test.YtalmfmijjbpnpaaD
namespace Go.Proofs.Ytalmfmijjbpnpaa
open Go.RowKit

theorem lnCells_get : ∀ (ml : List (Ln × Value)) (k : Nat) (x : Ln × Value), ml[k]? = some x →
    (lnCells ml)[k * 3]? = some (.string x.1.nm) ∧ (lnCells ml)[k * 3 + 1]? = some (.int .i64 x.1.hd) ∧ (lnCells ml)[k * 3 + 2]? = some x.2
  | [], k, x, h => by simp at h
  | y :: ml, 0, x, h => by
    simp only [List.getElem?_cons_zero, Option.some.injEq] at h
    subst h
    exact ⟨rfl, rfl, rfl⟩
  | y :: ml, k + 1, x, h => by
    have ih := lnCells_get ml k x (by simpa using h)
    have e : lnCells (y :: ml) = [.string y.1.nm, .int .i64 y.1.hd, y.2] ++ lnCells ml := rfl
    have sh : ∀ j, (lnCells (y :: ml))[(j + 3)]? = (lnCells ml)[j]? := fun j => by rw [e]; rfl
    rw [show (k + 1) * 3 = k * 3 + 3 by omega, show k * 3 + 3 + 1 = k * 3 + 1 + 3 by omega, show k * 3 + 3 + 2 = k * 3 + 2 + 3 by omega, sh, sh, sh]
    exact ih

theorem lbCells_get : ∀ (ml : List Lb) (k : Nat) (x : Lb), ml[k]? = some x →
    (lbCells ml)[k * 2]? = some (.string x.nm) ∧ (lbCells ml)[k * 2 + 1]? = some (.int .i64 x.ver)
  | [], k, x, h => by simp at h
  | y :: ml, 0, x, h => by
    simp only [List.getElem?_cons_zero, Option.some.injEq] at h
    subst h
    exact ⟨rfl, rfl⟩
  | y :: ml, k + 1, x, h => by
    have ih := lbCells_get ml k x (by simpa using h)
    have e : lbCells (y :: ml) = [.string y.nm, .int .i64 y.ver] ++ lbCells ml := rfl
    have sh : ∀ j, (lbCells (y :: ml))[(j + 2)]? = (lbCells ml)[j]? := fun j => by rw [e]; rfl
    rw [show (k + 1) * 2 = k * 2 + 2 by omega, show k * 2 + 2 + 1 = k * 2 + 1 + 2 by omega, sh, sh]
    exact ih

theorem verCells_get : ∀ (ml : List Ver) (k : Nat) (x : Ver), ml[k]? = some x →
    (verCells ml)[k * 2]? = some (.int .i64 x.par) ∧ (verCells ml)[k * 2 + 1]? = some (.int .i64 x.root)
  | [], k, x, h => by simp at h
  | y :: ml, 0, x, h => by
    simp only [List.getElem?_cons_zero, Option.some.injEq] at h
    subst h
    exact ⟨rfl, rfl⟩
  | y :: ml, k + 1, x, h => by
    have ih := verCells_get ml k x (by simpa using h)
    have e : verCells (y :: ml) = [.int .i64 y.par, .int .i64 y.root] ++ verCells ml := rfl
    have sh : ∀ j, (verCells (y :: ml))[(j + 2)]? = (verCells ml)[j]? := fun j => by rw [e]; rfl
    rw [show (k + 1) * 2 = k * 2 + 2 by omega, show k * 2 + 2 + 1 = k * 2 + 1 + 2 by omega, sh, sh]
    exact ih

theorem own_cell {w : World} {base : Nat} {e : TypeId} {size g n cap : Nat} {xs : List Value} (h : w.ownsRow base e size (.slice (some ⟨g, 0, none⟩) n cap) n xs) {j : Nat} {u : Value}
    (hu : xs[j]? = some u) : w.cell? ⟨g, j, none⟩ = some u := by
  have hj : j < xs.length := (List.getElem?_eq_some_iff.1 hu).1
  rw [h.cellAt j (by rw [← h.1]; exact hj), hu]

/-- A slice value's address, in the one form that serves both ways. -/
theorem own_addr {w : World} {base : Nat} {e : TypeId} {size : Nat} {v : Value} {n : Nat} {xs : List Value} (h : w.ownsRow base e size v n xs) :
    ∃ (a : Option Addr) (g cap : Nat), v = .slice a n cap ∧ (0 < n → a = some ⟨g, 0, none⟩) ∧ (0 < n → g < w.heap.size) ∧ n ≤ cap ∧ cap ≤ maxLen ∧
      (∀ j u, xs[j]? = some u → w.cell? ⟨g, j, none⟩ = some u) := by
  rcases h.2 with ⟨rfl, rfl⟩ | ⟨g, cap, cur, rfl, hb, hgg, h1, h2, h3⟩
  · refine ⟨none, 0, 0, rfl, fun h => absurd h (Nat.lt_irrefl _), fun h => absurd h (Nat.lt_irrefl _), Nat.le_refl _, by unfold maxLen; omega, ?_⟩
    intro j u hu
    have := h.1
    simp at this
    subst this
    simp at hu
  · exact ⟨_, g, cap, rfl, fun _ => rfl, fun _ => (Array.getElem?_eq_some_iff.1 hgg).1, h1, h2, fun j u hu => own_cell h hu⟩

def bnames (H : Hist) : List ByteArray := H.bs.map (·.nm)
def snames (H : Hist) : List ByteArray := H.ss.map (·.nm)

theorem sorted_get {l : List ByteArray} (h : SortedN l) {j k : Nat} (hjk : j < k) (hk : k < l.length) : ltN (l.getD j ByteArray.empty) (l.getD k ByteArray.empty) = true := by
  rw [List.getD_eq_getElem?_getD, List.getD_eq_getElem?_getD, List.getElem?_eq_getElem (by omega), List.getElem?_eq_getElem hk]
  exact List.pairwise_iff_getElem.1 h j k (by omega) hk hjk

theorem rank_of_bounds {name : ByteArray} {l : List ByteArray} {i : Nat} (hi : i ≤ l.length) (h1 : ∀ k, k < i → ltN (l.getD k ByteArray.empty) name = true)
    (h2 : ∀ k, i ≤ k → k < l.length → ltN (l.getD k ByteArray.empty) name = false) :
    i = rank name l ∧ decide (i < l.length ∧ l.getD i ByteArray.empty = name) = hasN name l := by
  have hr : i = rank name l := by
    refine rank_unique name l i hi (fun k a hk ha => ?_) (fun a ha => ?_)
    · have := h1 k hk
      rw [List.getD_eq_getElem?_getD, ha] at this
      exact this
    · have := h2 i (Nat.le_refl _) (List.getElem?_eq_some_iff.1 ha).1
      rw [List.getD_eq_getElem?_getD, ha] at this
      exact this
  refine ⟨hr, ?_⟩
  unfold hasN
  rw [← hr, Bool.eq_iff_iff, decide_eq_true_eq, decide_eq_true_eq]
  constructor
  · rintro ⟨h, e⟩
    rw [List.getElem?_eq_getElem h]
    rw [List.getD_eq_getElem?_getD, List.getElem?_eq_getElem h] at e
    exact congrArg some e
  · intro e
    refine ⟨(List.getElem?_eq_some_iff.1 e).1, ?_⟩
    rw [List.getD_eq_getElem?_getD, e]; rfl

section
variable {w : World} {t : Nat} {H : Hist} {m : View}

set_option maxHeartbeats 400000 in
theorem branch34 (h : Rep w 67 t H m) (hs : SortedN (bnames H)) (hn : H.bs.length ≤ 1000) (name : ByteArray) :
    Calls Try.prog 34 #[.pointer (some ⟨t, 0, none⟩), .string name] w (Quiet (.tuple #[.int .i64 (rank name (bnames H)), .bool (hasN name (bnames H))]) w) := by
  obtain ⟨a, g, cap, hbv, ha, hg, hcap, hcm, hcell⟩ := own_addr h.bs
  have hml := h.ml
  have hlen : m.ml.length = H.bs.length := by rw [hml, List.length_map]
  have hnmk : ∀ k, k < m.ml.length → ∃ x, m.ml[k]? = some x ∧ x.1.nm = (bnames H).getD k ByteArray.empty := fun k hk => by
    refine ⟨m.ml[k], List.getElem?_eq_getElem hk, ?_⟩
    unfold bnames
    rw [hml, List.getD_eq_getElem?_getD, List.map_map, List.getElem?_map, List.getElem?_eq_getElem hk]; rfl
  have hblen : (bnames H).length = m.ml.length := by rw [hlen]; simp [bnames]
  have c1 : w.cell? ⟨t, 1, none⟩ = some (.slice a m.ml.length cap) := by rw [cell_of_blk h.blk, ← hbv]; rfl
  have hB : Hid (Calls Try.prog 63 #[.slice a m.ml.length cap, .string name, .func (.func 64) #[] #[]] w (Quiet (.tuple #[.int .i64 (rank name (bnames H)), .bool (hasN name (bnames H))]) w)) := by
    refine Lib.hid ?_
    refine (bsearch63 a g m.ml.length cap (fun k => (bnames H).getD k ByteArray.empty) (fun k => ((lnCells m.ml)[k * 3 + 1]?).getD undef) (fun k => ((lnCells m.ml)[k * 3 + 2]?).getD undef) name w (by omega) ?_ ?_ ?_ ?_ hg ha).mono ?_
    · intro k hk
      obtain ⟨x, hx, hxn⟩ := hnmk k hk
      rw [hcell _ _ (lnCells_get _ _ _ hx).1, hxn]
    · intro k hk
      obtain ⟨x, hx, hxn⟩ := hnmk k hk
      rw [hcell _ _ (lnCells_get _ _ _ hx).2.1, (lnCells_get _ _ _ hx).2.1]; rfl
    · intro k hk
      obtain ⟨x, hx, hxn⟩ := hnmk k hk
      rw [hcell _ _ (lnCells_get _ _ _ hx).2.2, (lnCells_get _ _ _ hx).2.2]; rfl
    · intro j k hjk hk
      exact sorted_get hs hjk (by rw [hblen]; exact hk)
    · rintro e w' ⟨i, hi, h1, h2, he, hb⟩
      obtain ⟨e1, e2⟩ := rank_of_bounds (by rw [hblen]; exact hi) h1 (fun k h h' => h2 k h (by rw [← hblen]; exact h'))
      refine ⟨?_, hb⟩
      rw [he, ← e2, ← e1, hblen]
  clear hnmk hblen hcell hlen hml hbv ha hg hcap hcm hn hs
  clear h
  go_enter Try.func34, Try.ntmps34
  go_wp2_with fail
  refine hB.out.mono ?_
  rintro e w1 ⟨rfl, hb1⟩
  have HB1 := Lib.hid hb1
  clear hb1
  go_wp2_with fail
  go_ret2
  exact ⟨rfl, HB1.out⟩

set_option maxHeartbeats 400000 in
theorem snapshot38 (h : Rep w 67 t H m) (hs : SortedN (snames H)) (hn : H.ss.length ≤ 1000) (name : ByteArray) :
    Calls Try.prog 38 #[.pointer (some ⟨t, 0, none⟩), .string name] w (Quiet (.tuple #[.int .i64 (rank name (snames H)), .bool (hasN name (snames H))]) w) := by
  obtain ⟨a, g, cap, hbv, ha, hg, hcap, hcm, hcell⟩ := own_addr h.ss
  have hnmk : ∀ k, k < H.ss.length → ∃ x, H.ss[k]? = some x ∧ x.nm = (snames H).getD k ByteArray.empty := fun k hk => by
    refine ⟨H.ss[k], List.getElem?_eq_getElem hk, ?_⟩
    unfold snames
    rw [List.getD_eq_getElem?_getD, List.getElem?_map, List.getElem?_eq_getElem hk]; rfl
  have hblen : (snames H).length = H.ss.length := by simp [snames]
  have c1 : w.cell? ⟨t, 2, none⟩ = some (.slice a H.ss.length cap) := by rw [cell_of_blk h.blk, ← hbv]; rfl
  have hB : Hid (Calls Try.prog 73 #[.slice a H.ss.length cap, .string name, .func (.func 74) #[] #[]] w (Quiet (.tuple #[.int .i64 (rank name (snames H)), .bool (hasN name (snames H))]) w)) := by
    refine Lib.hid ?_
    refine (bsearch73 a g H.ss.length cap (fun k => (snames H).getD k ByteArray.empty) (fun k => ((lbCells H.ss)[k * 2 + 1]?).getD undef) name w (by omega) ?_ ?_ ?_ hg ha).mono ?_
    · intro k hk
      obtain ⟨x, hx, hxn⟩ := hnmk k hk
      rw [hcell _ _ (lbCells_get _ _ _ hx).1, hxn]
    · intro k hk
      obtain ⟨x, hx, hxn⟩ := hnmk k hk
      rw [hcell _ _ (lbCells_get _ _ _ hx).2, (lbCells_get _ _ _ hx).2]; rfl
    · intro j k hjk hk
      exact sorted_get hs hjk (by rw [hblen]; exact hk)
    · rintro e w' ⟨i, hi, h1, h2, he, hb⟩
      obtain ⟨e1, e2⟩ := rank_of_bounds (by rw [hblen]; exact hi) h1 (fun k h h' => h2 k h (by rw [← hblen]; exact h'))
      refine ⟨?_, hb⟩
      rw [he, ← e2, ← e1, hblen]
  clear hnmk hblen hcell hbv ha hg hcap hcm hn hs
  clear h
  go_enter Try.func38, Try.ntmps38
  go_wp2_with fail
  refine hB.out.mono ?_
  rintro e w1 ⟨rfl, hb1⟩
  have HB1 := Lib.hid hb1
  clear hb1
  go_wp2_with fail
  go_ret2
  exact ⟨rfl, HB1.out⟩

/-- missing: the first error of an operation on a name that has to exist. -/
def missE (name : ByteArray) (ok : Bool) : Int := if wordB name then (if ok then 0 else 8) else 1

set_option maxHeartbeats 400000 in
theorem missing36 (f : Nat) (hff : f = 34 ∨ f = 38) (p : Value) (name : ByteArray) (hnm : name.size ≤ maxLen) (i : Int) (ok : Bool)
    (hf : Calls Try.prog f #[p, .string name] w (Quiet (.tuple #[.int .i64 i, .bool ok]) w)) :
    Calls Try.prog 36 #[.string name, .func (.func f) #[p] #[]] w (Quiet (.int .i64 (missE name ok)) w) := by
  rcases hff with rfl | rfl
  all_goals
    have HF := Lib.hid hf
    clear hf
    cases hw : wordB name
    · have e : missE name ok = 1 := by simp [missE, hw]
      rw [e]
      have HW := Lib.hid hw
      clear hw e
      go_enter Try.func36, Try.ntmps36
      go_wp2_with (go_at_call 68; refine (lexWord_any _ hnm _).mono ?_; rintro e w' ⟨rfl, rfl⟩; rw [HW.out])
      go_ret
      exact ⟨rfl, Below.refl _ _⟩
    · cases ok
      · have e : missE name false = 8 := by simp [missE, hw]
        rw [e]
        have HW := Lib.hid hw
        clear hw e
        go_enter Try.func36, Try.ntmps36
        go_wp2_with (go_at_call 68; refine (lexWord_any _ hnm _).mono ?_; rintro e w' ⟨rfl, rfl⟩; rw [HW.out])
        refine HF.out.mono ?_
        rintro e w1 ⟨rfl, hb1⟩
        have HB1 := Lib.hid hb1
        clear hb1
        go_wp2_with fail
        go_ret
        exact ⟨rfl, HB1.out⟩
      · have e : missE name true = 0 := by simp [missE, hw]
        rw [e]
        have HW := Lib.hid hw
        clear hw e
        go_enter Try.func36, Try.ntmps36
        go_wp2_with (go_at_call 68; refine (lexWord_any _ hnm _).mono ?_; rintro e w' ⟨rfl, rfl⟩; rw [HW.out])
        refine HF.out.mono ?_
        rintro e w1 ⟨rfl, hb1⟩
        have HB1 := Lib.hid hb1
        clear hb1
        go_wp2_with fail
        go_ret
        exact ⟨rfl, HB1.out⟩

/-- taken: the error of a name that must not exist yet, of which there are n. -/
def takenE (name : ByteArray) (ok : Bool) (n : Nat) : Int := if wordB name then (if ok then 16 else if 16 ≤ n then 7 else 0) else 1

set_option maxHeartbeats 400000 in
theorem taken33 (f : Nat) (hff : f = 34 ∨ f = 38) (p : Value) (name : ByteArray) (hnm : name.size ≤ maxLen) (i : Int) (ok : Bool) (n : Nat) (hn : n ≤ 1000)
    (hf : Calls Try.prog f #[p, .string name] w (Quiet (.tuple #[.int .i64 i, .bool ok]) w)) :
    Calls Try.prog 33 #[.string name, .func (.func f) #[p] #[], .int .i64 n] w (Quiet (.int .i64 (takenE name ok n)) w) := by
  have HM : Hid (Calls Try.prog 36 #[.string name, .func (.func f) #[p] #[]] w (Quiet (.int .i64 (missE name ok)) w)) := Lib.hid (missing36 f hff p name hnm i ok hf)
  clear hf
  have hcase : (missE name ok = 1 ∧ takenE name ok n = 1) ∨ (missE name ok = 0 ∧ takenE name ok n = 16) ∨ (missE name ok = 8 ∧ 16 ≤ n ∧ takenE name ok n = 7) ∨ (missE name ok = 8 ∧ n < 16 ∧ takenE name ok n = 0) := by
    unfold missE takenE
    cases wordB name <;> cases ok <;> simp <;> by_cases h : 16 ≤ n <;> simp [h] <;> omega
  rcases hcase with ⟨h1, h2⟩ | ⟨h1, h2⟩ | ⟨h1, h3, h2⟩ | ⟨h1, h3, h2⟩
  all_goals
    rw [h2]
    rw [h1] at HM
    clear h1 h2
    go_enter Try.func33, Try.ntmps33
    go_wp2_with fail
    refine HM.out.mono ?_
    rintro e w1 ⟨rfl, hb1⟩
    have HB1 := Lib.hid hb1
    clear hb1
    go_wp2_with fail
    go_ret
    exact ⟨rfl, HB1.out⟩

end

end Go.Proofs.Ytalmfmijjbpnpaa
