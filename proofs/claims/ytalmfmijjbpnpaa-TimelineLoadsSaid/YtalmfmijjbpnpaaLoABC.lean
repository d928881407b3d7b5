/-
  Walks of the small functions: order, Light, Mod, isLetter, isDigit, inWord, Word (of the lexer and of the reference).
-/
import Derived.Test.YtalmfmijjbpnpaaRows
import Derived.WalkKit
import Derived.WalkSpells
import Derived.WalkLawsBesides
import Derived.BigQuiet
import Derived.Lib.Hide
namespace Go.Proofs.Ytalmfmijjbpnpaa
open Go.RowKit

/-- The call returns v, and nothing but the count of draws has moved. -/
def Same (v : Value) (w : World) (e : Ending) (w' : World) : Prop := e = .returned v ∧ ∃ n, w' = w.drewN n

/-- The call returns v, and nothing at all has moved. -/
def Pure0 (v : Value) (w : World) (e : Ending) (w' : World) : Prop := e = .returned v ∧ w = w'

theorem pure_mk {v v' : Value} {w : World} (h : v' = v) : Pure0 v w (.returned v') w := ⟨by rw [h], rfl⟩
theorem pure_bool {b b' : Bool} {w : World} (h : b' = b) : Pure0 (.bool b) w (.returned (.bool b')) w := pure_mk (by rw [h])
theorem pure_int {k : IntKind} {b b' : Int} {w : World} (h : b' = b) : Pure0 (.int k b) w (.returned (.int k b')) w := pure_mk (by rw [h])
theorem same_mk {v v' : Value} {w : World} (h : v' = v) : Same v w (.returned v') w := ⟨by rw [h], 0, rfl⟩
theorem same_bool {b b' : Bool} {w : World} (h : b' = b) : Same (.bool b) w (.returned (.bool b')) w := same_mk (by rw [h])
theorem same_int {k : IntKind} {b b' : Int} {w : World} (h : b' = b) : Same (.int k b) w (.returned (.int k b')) w := same_mk (by rw [h])
theorem same_drew {v v' : Value} {w : World} {n : Nat} (h : v' = v) : Same v w (.returned v') (w.drewN n) := ⟨by rw [h], n, rfl⟩

def isLetB (c : UInt8) : Bool := (97 ≤ c && c ≤ 122) || (65 ≤ c && c ≤ 90)
def isDigB (c : UInt8) : Bool := 48 ≤ c && c ≤ 57
def inWordB (c : UInt8) : Bool := isLetB c || isDigB c || c == 95

set_option maxHeartbeats 400000 in
theorem isLetter_any (c : UInt8) (w : World) :
    Calls Try.prog 87 #[.int .u8 c.toNat] w (Pure0 (.bool (isLetB c)) w) := by
  go_enter Try.func87, Try.ntmps87
  go_wp2
  all_goals go_ret
  all_goals
    refine pure_bool ?_
    rw [Bool.eq_iff_iff]; simp [isLetB, UInt8.le_iff_toNat_le]; omega

set_option maxHeartbeats 400000 in
theorem isDigit_any (c : UInt8) (w : World) :
    Calls Try.prog 93 #[.int .u8 c.toNat] w (Pure0 (.bool (isDigB c)) w) := by
  go_enter Try.func93, Try.ntmps93
  go_wp2
  all_goals go_ret
  all_goals
    refine pure_bool ?_
    rw [Bool.eq_iff_iff]; simp [isDigB, UInt8.le_iff_toNat_le]; omega

set_option maxHeartbeats 400000 in
theorem letter_any (c : UInt8) (w : World) :
    Calls Try.prog 90 #[.int .u8 c.toNat] w (Pure0 (.bool (isLetB c)) w) := by
  go_enter Try.func90, Try.ntmps90
  go_wp2
  all_goals go_ret
  all_goals
    refine pure_bool ?_
    rw [Bool.eq_iff_iff]; simp [isLetB, UInt8.le_iff_toNat_le]; omega

set_option maxHeartbeats 400000 in
theorem digit_any (c : UInt8) (w : World) :
    Calls Try.prog 91 #[.int .u8 c.toNat] w (Pure0 (.bool (isDigB c)) w) := by
  go_enter Try.func91, Try.ntmps91
  go_wp2
  all_goals go_ret
  all_goals
    refine pure_bool ?_
    rw [Bool.eq_iff_iff]; simp [isDigB, UInt8.le_iff_toNat_le]; omega

set_option maxHeartbeats 400000 in
theorem inWord_any (c : UInt8) (w : World) :
    Calls Try.prog 88 #[.int .u8 c.toNat] w (Pure0 (.bool (inWordB c)) w) := by
  cases hl : isLetB c <;> cases hd : isDigB c
  all_goals
    have H : inWordB c = (isLetB c || isDigB c || c == 95) := rfl
    rw [hl, hd] at H
    have H' := Lib.hid H
    clear H
    have HL := Lib.hid hl
    have HD := Lib.hid hd
    clear hl hd
    go_enter Try.func88, Try.ntmps88
    go_wp2_with fail
    refine (isLetter_any _ _).mono ?_
    rintro e w' ⟨rfl, rfl⟩
    rw [HL.out]
    go_wp2_with (go_at_call 93; refine (isDigit_any _ _).mono ?_; rintro e w' ⟨rfl, rfl⟩; rw [HD.out])
    all_goals go_ret
    all_goals refine pure_mk ?_
    all_goals rw [H'.out]
    all_goals refine congrArg Value.bool ?_
    all_goals (rw [Bool.eq_iff_iff]; simp [← UInt8.toNat_inj]; try omega)

def ordI (a b : ByteArray) : Int := if Op.bytesLess a.toList b.toList then -1 else if a.toList = b.toList then 0 else 1

set_option maxHeartbeats 400000 in
theorem order_any (a b : ByteArray) (w : World) :
    Calls Try.prog 65 #[.string a, .string b] w (Pure0 (.int .i64 (ordI a b)) w) := by
  go_enter Try.func65, Try.ntmps65
  go_wp2
  all_goals go_ret
  all_goals
    refine pure_int ?_
  all_goals simp_all [ordI]

theorem tmod_cases (v n : Int) (hn : 1 ≤ n) : (v % n = v.tmod n ∧ 0 ≤ v.tmod n) ∨ (v % n = v.tmod n + n ∧ v.tmod n < 0 ∧ -n < v.tmod n) := by
  have hm0 := Int.emod_nonneg v (b := n) (by omega)
  have hm1 := Int.emod_lt_of_pos v (b := n) (by omega)
  rcases Int.le_total 0 v with h | h
  · exact .inl ⟨(Int.tmod_eq_emod_of_nonneg h).symm, by rw [Int.tmod_eq_emod_of_nonneg h]; exact hm0⟩
  · have e : v.tmod n = -((-v) % n) := by
      have := Int.neg_tmod v n
      rw [Int.tmod_eq_emod_of_nonneg (a := -v) (by omega)] at this
      omega
    have hk0 := Int.emod_nonneg (-v) (b := n) (by omega)
    have hk1 := Int.emod_lt_of_pos (-v) (b := n) (by omega)
    have hd := Int.emod_add_mul_ediv (-v) n
    by_cases hz : (-v) % n = 0
    · left
      have : v % n = 0 := by
        have h1 : n ∣ -v := Int.dvd_of_emod_eq_zero hz
        exact Int.emod_eq_zero_of_dvd ((Int.dvd_neg).1 h1)
      rw [e, hz, this]; simp
    · right
      have : v % n = n - (-v) % n := by
        have h2 : v = (n - (-v) % n) + n * (-((-v) / n) - 1) := by
          have := Int.mul_sub n (-((-v) / n)) 1
          have h3 := Int.mul_neg n ((-v) / n)
          omega
        have h4 := Int.add_mul_emod_self_left (n - (-v) % n) n (-((-v) / n) - 1)
        rw [← h2] at h4
        rw [h4]
        exact Int.emod_eq_of_lt (by omega) (by omega)
      omega

theorem mod_neg (v n : Int) (hn : 1 ≤ n) (hn' : n ≤ 9223372036854775807) (_hv : -9223372036854775808 ≤ v) (h : v.tmod n < 0) : wrap64 (v.tmod n + n) = v % n := by
  rcases tmod_cases v n hn with ⟨_, h2⟩ | ⟨h1, _, h3⟩
  · omega
  · rw [h1]; exact IntWalk.wrap64_in _ ⟨by omega, by omega⟩

theorem mod_pos (v n : Int) (hn : 1 ≤ n) (h : 0 ≤ v.tmod n) : v.tmod n = v % n := by
  rcases tmod_cases v n hn with ⟨h1, _⟩ | ⟨_, h2, _⟩
  · exact h1.symm
  · omega

set_option maxHeartbeats 400000 in
theorem mod_any (v n : Int) (hn : 1 ≤ n) (hn' : n ≤ 9223372036854775807) (hv : -9223372036854775808 ≤ v) (_hv' : v ≤ 9223372036854775807) (w : World) :
    Calls Try.prog 12 #[.int .i64 v, .int .i64 n] w (Pure0 (.int .i64 (v % n)) w) := by
  go_enter Try.func12, Try.ntmps12
  go_wp2
  all_goals go_ret
  all_goals refine pure_int ?_
  · rename_i h
    exact mod_neg v n hn hn' hv h
  · rename_i h
    exact mod_pos v n hn h

set_option maxHeartbeats 400000 in
theorem light_any (a : Option Addr) (n c : Nat) (w : World) (hn : n ≤ 9223372036854775807) :
    Calls Try.prog 9 #[.slice a n c] w (Pure0 (.bool (decide (n ≤ 120))) w) := by
  go_enter Try.func9, Try.ntmps9
  go_wp2
  go_ret
  refine pure_bool ?_
  rw [Bool.eq_iff_iff]; simp; try omega

end Go.Proofs.Ytalmfmijjbpnpaa
/-
  Walks of Word (of the lexer and of the reference).
-/
namespace Go.Proofs.Ytalmfmijjbpnpaa
open Go.RowKit

def wordL : List UInt8 → Bool
  | [] => false
  | c :: l => decide (l.length ≤ 23) && isLetB c && l.all inWordB

def wordB (s : ByteArray) : Bool := wordL s.data.toList

theorem inWord_of_letter {c : UInt8} (h : isLetB c = true) : inWordB c = true := by simp [inWordB, h]

theorem size_len (s : ByteArray) : s.data.toList.length = s.size := by rw [Array.length_toList]; exact ByteArray.size_data
theorem get_list (s : ByteArray) (k : Nat) (h : k < s.size) : s.data.toList[k]? = some s[k] := by
  rw [List.getElem?_eq_getElem (by rw [size_len]; exact h)]; rfl

theorem wordB_false {s : ByteArray} (h : 24 < s.size ∨ (∃ h0 : 0 < s.size, isLetB s[0] = false) ∨ ∃ k, ∃ h : k < s.size, inWordB s[k] = false) : wordB s = false := by
  unfold wordB
  have e := size_len s
  have g := get_list s
  generalize s.data.toList = l at e g
  cases l with
  | nil => rfl
  | cons c l =>
    rw [Bool.eq_false_iff]
    intro hw
    simp only [wordL, Bool.and_eq_true, decide_eq_true_eq, List.all_eq_true] at hw
    obtain ⟨⟨h1, h2⟩, h3⟩ := hw
    simp only [List.length_cons] at e
    rcases h with h | ⟨h0, h⟩ | ⟨k, hk, h⟩
    · omega
    · have := g 0 h0
      simp at this
      rw [← this, h2] at h
      cases h
    · have := g k hk
      cases k with
      | zero => simp at this; rw [← this, inWord_of_letter h2] at h; cases h
      | succ k =>
        simp only [List.getElem?_cons_succ] at this
        rw [h3 _ (List.mem_of_getElem? this)] at h
        cases h

theorem wordB_true {s : ByteArray} (h1 : s.size ≤ 24) (h0 : 0 < s.size) (h2 : isLetB s[0] = true) (h3 : ∀ k, ∀ h : k < s.size, inWordB s[k] = true) : wordB s = true := by
  unfold wordB
  have e := size_len s
  have g := get_list s
  generalize s.data.toList = l at e g
  cases l with
  | nil => simp at e; omega
  | cons c l =>
    simp only [List.length_cons] at e
    simp only [wordL, Bool.and_eq_true, decide_eq_true_eq, List.all_eq_true]
    refine ⟨⟨by omega, ?_⟩, ?_⟩
    · have := g 0 h0
      simp at this
      rw [this]; exact h2
    · intro x hx
      obtain ⟨k, hk, rfl⟩ := List.getElem_of_mem hx
      have := g (k + 1) (by omega)
      simp only [List.getElem?_cons_succ, List.getElem?_eq_getElem hk, Option.some.injEq] at this
      rw [this]; exact h3 _ _

theorem nonempty_of (s : ByteArray) (h : ¬ s.size = 0) : s.toList.isEmpty = false := by
  rw [Bool.eq_false_iff]
  intro hh
  rw [List.isEmpty_iff] at hh
  apply h
  have : s.toList.length = 0 := by rw [hh]; rfl
  rw [ByteArray.toList_eq s] at this
  rw [← size_len]; exact this

set_option maxHeartbeats 400000 in
theorem lexWord_any (s : ByteArray) (hs : s.size ≤ maxLen) (w : World) :
    Calls Try.prog 68 #[.string s] w (Pure0 (.bool (wordB s)) w) := by
  unfold maxLen at hs
  by_cases h0 : s.size = 0
  · obtain ⟨⟨l⟩⟩ := s
    have hl : l = [] := List.eq_nil_of_length_eq_zero h0
    subst hl
    go_enter Try.func68, Try.ntmps68
    go_wp2
    all_goals go_ret
    all_goals exact pure_bool rfl
  · have hne := nonempty_of s h0
    by_cases h1 : 24 < s.size
    · go_enter Try.func68, Try.ntmps68
      go_wp2
      all_goals go_ret
      all_goals exact pure_bool (wordB_false (.inl h1)).symm
    · cases hl : isLetB s[0]
      · have HL := Lib.hid hl
        clear hl
        go_enter Try.func68, Try.ntmps68
        go_wp2_with (go_at_call 87; refine (isLetter_any _ _).mono ?_; rintro e w' ⟨rfl, rfl⟩; rw [HL.out])
        all_goals go_ret
        all_goals exact pure_bool (wordB_false (.inr (.inl ⟨by omega, HL.out⟩))).symm
      · have HL := Lib.hid hl
        clear hl
        have hd24 : decide (24 < (s.size : Int)) = false := by simp; omega
        go_enter Try.func68, Try.ntmps68
        go_wp2_with (go_at_call 87; refine (isLetter_any _ _).mono ?_; rintro e w' ⟨rfl, rfl⟩; rw [HL.out])
        go_loop [19] (fun i => ∃ k : Nat, k ≤ s.size ∧ i = .int .i64 k ∧ ∀ j, ∀ h : j < s.size, j < k → inWordB s[j] = true) (fun i => s.size - (intOf i).toNat)
        case atStart => exact ⟨0, Nat.zero_le _, rfl, fun j _ h => absurd h (Nat.not_lt_zero _)⟩
        case round =>
          obtain ⟨k, hk, rfl, hall⟩ := hrel
          have HA := Lib.hid hall
          clear hall
          by_cases hlt : k < s.size
          · cases hw : inWordB s[k]
            · have HW := Lib.hid hw
              clear hw
              go_wp2_with (go_at_call 88; refine (inWord_any _ _).mono ?_; rintro e w' ⟨rfl, rfl⟩; rw [HW.out])
              go_ret
              exact pure_bool (wordB_false (.inr (.inr ⟨k, hlt, HW.out⟩))).symm
            · have HW := Lib.hid hw
              clear hw
              go_wp2_with (go_at_call 88; refine (inWord_any _ _).mono ?_; rintro e w' ⟨rfl, rfl⟩; rw [HW.out])
              go_round
              case rel =>
                refine ⟨k + 1, by omega, by go_num, fun j h hj => ?_⟩
                by_cases e : j = k
                · subst e; exact HW.out
                · exact HA.out j h (by omega)
              case measure => simp [intOf]; omega
          · go_wp2
            go_ret
            exact pure_bool (wordB_true (by omega) (by omega) HL.out (fun j h => HA.out j h (by omega))).symm

end Go.Proofs.Ytalmfmijjbpnpaa
/-
  The histories as plain data; how one lies in memory; plain facts on worlds. No walk stands here.
-/
namespace Go.Proofs.Ytalmfmijjbpnpaa
open Go.RowKit

structure Ver where
  par : Int
  root : Int
structure Ln where
  nm : ByteArray
  hd : Int
  rd : List Int
structure Lb where
  nm : ByteArray
  ver : Int
structure Hist where
  vs : List Ver
  bs : List Ln
  ss : List Lb
  cur : ByteArray

def verCells (l : List Ver) : List Value := l.flatMap fun v => [.int .i64 v.par, .int .i64 v.root]
def lnCells (l : List (Ln × Value)) : List Value := l.flatMap fun x => [.string x.1.nm, .int .i64 x.1.hd, x.2]
def lbCells (l : List Lb) : List Value := l.flatMap fun x => [.string x.nm, .int .i64 x.ver]
def intCells (l : List Int) : List Value := l.map (.int .i64)

/-! ### order of names -/
def ltN (a b : ByteArray) : Bool := Op.bytesLess a.toList b.toList

theorem bless_irrefl : ∀ x : List UInt8, Op.bytesLess x x = false
  | [] => rfl
  | a :: x => by simp [Op.bytesLess, bless_irrefl x]
theorem bless_trans : ∀ x y z : List UInt8, Op.bytesLess x y = true → Op.bytesLess y z = true → Op.bytesLess x z = true
  | _, _, [], _, h => by cases ‹List UInt8› <;> simp [Op.bytesLess] at h
  | _, [], _ :: _, h, _ => by cases ‹List UInt8› <;> simp [Op.bytesLess] at h
  | [], _ :: _, _ :: _, _, _ => rfl
  | a :: x, b :: y, c :: z, h1, h2 => by
    simp only [Op.bytesLess, Bool.or_eq_true, decide_eq_true_eq, Bool.and_eq_true, beq_iff_eq] at h1 h2 ⊢
    rcases h1 with h1 | ⟨rfl, h1⟩
    · rcases h2 with h2 | ⟨rfl, h2⟩
      · exact .inl (UInt8.lt_trans h1 h2)
      · exact .inl h1
    · rcases h2 with h2 | ⟨rfl, h2⟩
      · exact .inl h2
      · exact .inr ⟨rfl, bless_trans x y z h1 h2⟩
theorem bless_total : ∀ x y : List UInt8, Op.bytesLess x y = false → x ≠ y → Op.bytesLess y x = true
  | [], [], _, h => absurd rfl h
  | [], _ :: _, h, _ => by simp [Op.bytesLess] at h
  | _ :: _, [], _, _ => rfl
  | a :: x, b :: y, h, hne => by
    simp only [Op.bytesLess, Bool.or_eq_false_iff, decide_eq_false_iff_not, Bool.and_eq_false_iff, beq_eq_false_iff_ne] at h
    simp only [Op.bytesLess, Bool.or_eq_true, decide_eq_true_eq, Bool.and_eq_true, beq_iff_eq]
    obtain ⟨h1, h2⟩ := h
    by_cases e : a = b
    · subst e
      refine .inr ⟨rfl, bless_total x y (h2.resolve_left (fun h => h rfl)) (fun e => hne (by rw [e]))⟩
    · left
      have h1' := UInt8.not_lt.1 h1
      rcases UInt8.lt_or_eq_of_le h1' with h | h
      · exact h
      · exact absurd h.symm e

theorem ba_ext {a b : ByteArray} (h : a.toList = b.toList) : a = b := by
  rw [ByteArray.toList_eq, ByteArray.toList_eq] at h
  obtain ⟨⟨a⟩⟩ := a
  obtain ⟨⟨b⟩⟩ := b
  cases h; rfl

theorem ltN_irrefl (a : ByteArray) : ltN a a = false := bless_irrefl _
theorem ltN_trans {a b c : ByteArray} (h1 : ltN a b = true) (h2 : ltN b c = true) : ltN a c = true := bless_trans _ _ _ h1 h2
theorem ltN_total {a b : ByteArray} (h : ltN a b = false) (hne : a ≠ b) : ltN b a = true := bless_total _ _ h (fun e => hne (ba_ext e))

theorem ordI_lt {a b : ByteArray} (h : ltN a b = true) : ordI a b = -1 := by unfold ordI; rw [if_pos (by exact h)]
theorem ordI_eq (a : ByteArray) : ordI a a = 0 := by unfold ordI; rw [bless_irrefl]; simp
theorem ordI_gt {a b : ByteArray} (h : ltN a b = false) (hne : a ≠ b) : ordI a b = 1 := by
  unfold ordI
  rw [if_neg (by rw [show Op.bytesLess a.toList b.toList = false from h]; simp), if_neg (fun e => hne (ba_ext e))]

/-! ### frames -/
/-- w' is w with new blocks, and of the old ones at most those of S have changed. -/
structure Fr (S : Nat → Prop) (w w' : World) : Prop where
  os : w'.os = w.os
  tape : w'.tape = w.tape
  output : w'.output = w.output
  size : w.heap.size ≤ w'.heap.size
  block : ∀ k, k < w.heap.size → ¬ S k → w'.heap[k]? = w.heap[k]?

section
variable {S S' : Nat → Prop} {w w' w'' : World}
theorem Fr.refl (S : Nat → Prop) (w : World) : Fr S w w := ⟨rfl, rfl, rfl, Nat.le_refl _, fun _ _ _ => rfl⟩
theorem Fr.trans (h : Fr S w w') (k : Fr S' w' w'') (hS : ∀ k, k < w.heap.size → S' k → S k) : Fr S w w'' :=
  ⟨k.os.trans h.os, k.tape.trans h.tape, k.output.trans h.output, Nat.le_trans h.size k.size, fun i hi hn =>
    (k.block i (Nat.lt_of_lt_of_le hi h.size) (fun e => hn (hS i hi e))).trans (h.block i hi hn)⟩
theorem Fr.mono (h : Fr S w w') (hS : ∀ k, k < w.heap.size → S k → S' k) : Fr S' w w' :=
  ⟨h.os, h.tape, h.output, h.size, fun i hi hn => h.block i hi (fun e => hn (hS i hi e))⟩
theorem Fr.drew (h : Fr S w w') : Fr S w w'.drew := ⟨h.os, h.tape, h.output, h.size, h.block⟩
theorem Fr.drewN (h : Fr S w w') (n : Nat) : Fr S w (w'.drewN n) := ⟨h.os, h.tape, h.output, h.size, h.block⟩
theorem Fr.alloc (h : Fr S w w') (o : Obj) : Fr S w (w'.alloc o) :=
  ⟨h.os, h.tape, h.output, by have := h.size; simp; omega, fun i hi hn => by rw [Below.heap_alloc _ _ _ (by have := h.size; omega)]; exact h.block i hi hn⟩
theorem Fr.setCell (h : Fr S w w') {a : Addr} (u : Value) (ha : a.block < w.heap.size → S a.block) : Fr S w (w'.setCell a u) :=
  ⟨h.os, h.tape, h.output, by have := h.size; simpa [World.setCell] using this, fun i hi hn => by
    rw [Below.heap_setCell _ _ _ _ (fun e => by subst e; exact hn (ha hi))]; exact h.block i hi hn⟩
theorem Fr.grown (h : Fr S w w') {row : Option Nat} (hg : w'.grownBy w'' row) (hr : ∀ k, row = some k → k < w.heap.size → S k) : Fr S w w'' :=
  ⟨hg.os.trans h.os, hg.tape.trans h.tape, hg.output.trans h.output, Nat.le_trans h.size hg.size, fun i hi hn => by
    rw [hg.block i (by have := h.size; omega) (fun e => hn (hr i e.symm hi))]; exact h.block i hi hn⟩
theorem Fr.below (h : Fr (fun _ => False) w w') : Below w.heap.size w w' := ⟨h.os, h.tape, h.output, h.size, fun k hk => h.block k hk (fun e => e)⟩
theorem Fr.of_below (h : Below w.heap.size w w') : Fr S w w' := ⟨h.os, h.tape, h.output, h.size, fun k hk _ => h.block k hk⟩
theorem Fr.below_of {B : Nat} (h : Fr S w w') (hS : ∀ k, k < B → ¬ S k) (hB : B ≤ w.heap.size) : Below B w w' :=
  ⟨h.os, h.tape, h.output, h.size, fun k hk => h.block k (by omega) (hS k hk)⟩
theorem Fr.frozen (h : Fr S w w') {a : Addr} (hl : a.block < w.heap.size) (ha : ¬ S a.block) : w'.frozen? a = w.frozen? a := World.frozen?_of_block (h.block _ hl ha)
theorem Fr.cell (h : Fr S w w') {a : Addr} {v : Value} (hc : w.cell? a = some v) (ha : ¬ S a.block) : w'.cell? a = some v := by
  rw [← hc]; exact World.cell?_of_block (h.block _ (World.block_lt_of_cell? w a hc) ha)
end

/-- The call returns v; the heap may have grown, nothing that was there has changed. -/
def Quiet (v : Value) (w : World) (e : Ending) (w' : World) : Prop := e = .returned v ∧ Below w.heap.size w w'

theorem bcell {W w1 : World} (hb : Below W.heap.size W w1) : (∀ b o, b < W.heap.size → w1.cell? ⟨b, o, none⟩ = W.cell? ⟨b, o, none⟩) ∧ (∀ b o, b < W.heap.size → w1.frozen? ⟨b, o, none⟩ = W.frozen? ⟨b, o, none⟩) :=
  ⟨fun b o h => hb.cell (p := ⟨b, o, none⟩) h, fun b o h => hb.frozen (p := ⟨b, o, none⟩) h⟩

/-! ### owned rows -/
section
variable {w w' : World} {base : Nat} {e : TypeId} {size : Nat} {v : Value} {n : Nat} {xs : List Value}
theorem own_frame {S : Nat → Prop} (h : w.ownsRow base e size v n xs) (hf : Fr S w w') (hS : ∀ k, v.ownBlock = some k → ¬ S k) : w'.ownsRow base e size v n xs := by
  refine ⟨h.1, ?_⟩
  rcases h.2 with hn | ⟨g, cap, cur, rfl, hb, hgg, rest⟩
  · exact .inl hn
  · refine .inr ⟨g, cap, cur, rfl, hb, ?_, rest⟩
    rw [hf.block g (Array.getElem?_eq_some_iff.1 hgg).1 (hS g rfl)]
    exact hgg
theorem own_block (h : w.ownsRow base e size v n xs) {k : Nat} (hk : v.ownBlock = some k) : ∃ cur, w.heap[k]? = some (.cells cur e (0, 0)) := by
  rcases h.2 with ⟨rfl, _⟩ | ⟨g, cap, cur, rfl, hb, hgg, rest⟩
  · simp [Value.ownBlock] at hk
  · simp [Value.ownBlock] at hk; subst hk; exact ⟨cur, hgg⟩
theorem own_lt (h : w.ownsRow base e size v n xs) {k : Nat} (hk : v.ownBlock = some k) : k < w.heap.size := by
  obtain ⟨cur, hc⟩ := own_block h hk
  exact (Array.getElem?_eq_some_iff.1 hc).1
theorem own_form (h : w.ownsRow base e size v n xs) (hn : 0 < n) : ∃ g cap, v = .slice (some ⟨g, 0, none⟩) n cap ∧ n ≤ cap ∧ cap ≤ maxLen ∧ g < w.heap.size := by
  rcases h.2 with ⟨rfl, h0⟩ | ⟨g, cap, cur, rfl, hb, hgg, h1, h2, rest⟩
  · omega
  · exact ⟨g, cap, rfl, h1, h2, (Array.getElem?_eq_some_iff.1 hgg).1⟩
/-- Two rows of unlike element types lie in unlike blocks. -/
theorem own_ne {e' : TypeId} {size' : Nat} {v' : Value} {n' base' : Nat} {xs' : List Value} (h : w.ownsRow base e size v n xs) (h' : w.ownsRow base' e' size' v' n' xs') (hne : e ≠ e') {k k' : Nat}
    (hk : v.ownBlock = some k) (hk' : v'.ownBlock = some k') : k ≠ k' := by
  rintro rfl
  obtain ⟨c, hc⟩ := own_block h hk
  obtain ⟨c', hc'⟩ := own_block h' hk'
  rw [hc] at hc'
  cases hc'
  exact hne rfl
end

/-! ### a history in memory -/
structure View where
  vv : Value
  bv : Value
  sv : Value
  ml : List (Ln × Value)

def View.owns (m : View) (t k : Nat) : Prop :=
  k = t ∨ m.vv.ownBlock = some k ∨ m.bv.ownBlock = some k ∨ m.sv.ownBlock = some k ∨ ∃ x ∈ m.ml, x.2.ownBlock = some k

structure Rep (w : World) (T t : Nat) (H : Hist) (m : View) : Prop where
  tt : T = 67 ∨ T = 56
  blk : w.heap[t]? = some (.cells #[m.vv, m.bv, m.sv, .string H.cur] T (0, 0))
  vs : w.ownsRow 0 40 2 m.vv H.vs.length (verCells H.vs)
  bs : w.ownsRow 0 65 3 m.bv m.ml.length (lnCells m.ml)
  ss : w.ownsRow 0 78 2 m.sv H.ss.length (lbCells H.ss)
  rd : ∀ x ∈ m.ml, w.ownsRow 0 3 1 x.2 x.1.rd.length (intCells x.1.rd)
  ml : H.bs = m.ml.map (·.1)
  dis : (m.ml.map (·.2.ownBlock)).Pairwise fun a b => a = none ∨ a ≠ b

section
variable {w w' : World} {T t : Nat} {H : Hist} {m : View}
theorem Rep.lt (h : Rep w T t H m) {k : Nat} (hk : m.owns t k) : k < w.heap.size := by
  rcases hk with rfl | hk | hk | hk | ⟨x, hx, hk⟩
  · exact (Array.getElem?_eq_some_iff.1 h.blk).1
  · exact own_lt h.vs hk
  · exact own_lt h.bs hk
  · exact own_lt h.ss hk
  · exact own_lt (h.rd x hx) hk
theorem Rep.frame {S : Nat → Prop} (h : Rep w T t H m) (hf : Fr S w w') (hS : ∀ k, m.owns t k → ¬ S k) : Rep w' T t H m where
  tt := h.tt
  blk := by rw [hf.block t (h.lt (.inl rfl)) (hS t (.inl rfl))]; exact h.blk
  vs := own_frame h.vs hf fun k hk => hS k (.inr (.inl hk))
  bs := own_frame h.bs hf fun k hk => hS k (.inr (.inr (.inl hk)))
  ss := own_frame h.ss hf fun k hk => hS k (.inr (.inr (.inr (.inl hk))))
  rd := fun x hx => own_frame (h.rd x hx) hf fun k hk => hS k (.inr (.inr (.inr (.inr ⟨x, hx, hk⟩))))
  ml := h.ml
  dis := h.dis
theorem Rep.below (h : Rep w T t H m) (hb : Below w.heap.size w w') : Rep w' T t H m := h.frame (S := fun _ => False) (Fr.of_below hb) (fun _ _ e => e)
end

theorem cell_of_blk {w : World} {t : Nat} {c : Array Value} {T : Nat} {fz : Nat × Nat} (h : w.heap[t]? = some (.cells c T fz)) (i : Nat) : w.cell? ⟨t, i, none⟩ = c[i]? := by
  simp [World.cell?, h]
theorem frozen_of_blk {w : World} {t : Nat} {c : Array Value} {T : Nat} (h : w.heap[t]? = some (.cells c T (0, 0))) (i : Nat) : w.frozen? ⟨t, i, none⟩ = false := by
  simp [World.frozen?, h]

end Go.Proofs.Ytalmfmijjbpnpaa
