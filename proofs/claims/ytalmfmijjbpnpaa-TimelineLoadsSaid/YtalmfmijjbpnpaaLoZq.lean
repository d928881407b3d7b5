/-
  The walk of acts: the calls that a list of numbers stands for.
-/
import Derived.Test.YtalmfmijjbpnpaaLoZn
import Derived.Test.YtalmfmijjbpnpaaLoYh
import Derived.Deep.LoopGhost
namespace Go.Proofs.Ytalmfmijjbpnpaa
open Go.RowKit

theorem info50 : (Try.prog.info? 50).map (fun i => (i.zero, i.size, i.bytes)) = some (some (.agg #[.int .i64 0, .int .i64 0, .string ByteArray.empty]), 3, 32) := by kernel_rfl

/-- An act: kind, number, name. -/
structure Ac where
  kind : Int
  n : Int
  name : ByteArray
def actCells (l : List Ac) : List Value := l.flatMap fun x => [.int .i64 x.kind, .int .i64 x.n, .string x.name]
theorem actCells_snoc (l : List Ac) (x : Ac) : actCells (l ++ [x]) = actCells l ++ [.int .i64 x.kind, .int .i64 x.n, .string x.name] := by simp [actCells]
theorem one_act (l : List Ac) : ∀ u ∈ actCells l, u.oneCell' = true := by
  intro u hu
  simp only [actCells, List.mem_flatMap] at hu
  obtain ⟨x, _, hx⟩ := hu
  simp at hx
  rcases hx with rfl | rfl | rfl <;> rfl

/-- An act that can be made. -/
def AcOk (a : Ac) : Prop := (-9223372036854775808 ≤ a.kind ∧ a.kind ≤ 9223372036854775807) ∧ a.name.size ≤ maxLen

def nm6 (j : Nat) : ByteArray := [⟨#[109, 97, 105, 110]⟩, ⟨#[97]⟩, ⟨#[98]⟩, ⟨#[99]⟩, ⟨#[112, 105]⟩, ⟨#[57]⟩].getD j ⟨#[]⟩
def row6 : Obj := .cells #[.string ⟨#[109, 97, 105, 110]⟩, .string ⟨#[97]⟩, .string ⟨#[98]⟩, .string ⟨#[99]⟩, .string ⟨#[112, 105]⟩, .string ⟨#[57]⟩] 9
theorem row6_cell {w : World} {B j : Nat} (h : w.heap[B]? = some row6) (hj : j < 6) : w.cell? ⟨B, j, none⟩ = some (.string (nm6 j)) := by
  rw [cell_of_blk h]
  match j, hj with
  | 0, _ => rfl
  | 1, _ => rfl
  | 2, _ => rfl
  | 3, _ => rfl
  | 4, _ => rfl
  | 5, _ => rfl
theorem nm6_size {j : Nat} (hj : j < 6) : (nm6 j).size ≤ 4 := by
  match j, hj with
  | 0, _ => decide
  | 1, _ => decide
  | 2, _ => decide
  | 3, _ => decide
  | 4, _ => decide
  | 5, _ => decide

/-- What stands behind k numbers: the tape, and the acts so far, of the call's own. -/
def ActI (w : World) (p : Nat) (a : Option Addr) (n c : Nat) (k : Nat) (v : Value) (wr : World) : Prop :=
  ∃ (l : List Ac) (b : Option Addr) (q : Nat), v = .slice b l.length q ∧ l.length ≤ k ∧ (∀ x ∈ l, AcOk x ∧ x.name.size ≤ 4) ∧ w.heap.size ≤ p ∧ TapeAt wr p a n c k ∧ wr.ownsRow w.heap.size 50 3 v l.length (actCells l) ∧ Below w.heap.size w wr

/-- The acts of a list of numbers. -/
def ActsP (w : World) (e : Ending) (w' : World) : Prop :=
  ∃ (l : List Ac) (b : Option Addr) (q : Nat), e = .returned (.slice b l.length q) ∧ l.length ≤ 120 ∧ (∀ x ∈ l, AcOk x ∧ x.name.size ≤ 4) ∧ w'.ownsRow w.heap.size 50 3 (.slice b l.length q) l.length (actCells l) ∧ Below w.heap.size w w'

section
variable {w : World}

theorem TapeAt.below {p : Nat} {a : Option Addr} {n c k : Nat} {w' : World} (h : TapeAt w p a n c k) (hb : Below w.heap.size w w') : TapeAt w' p a n c k :=
  ⟨h.1, (hb.block p (Array.getElem?_eq_some_iff.1 h.2).1).trans h.2⟩

/-- Next, in a call that owns a row of acts. -/
def NextP (w : World) (p : Nat) (a : Option Addr) (n c k N : Nat) (v : Value) (m : Nat) (cells : List Value) (wr : World) (e : Ending) (w' : World) : Prop :=
  ∃ j k' : Nat, e = .returned (.int .i64 (j : Int)) ∧ j < N ∧ k ≤ k' ∧ (k < n → k < k') ∧ TapeAt w' p a n c k' ∧ w'.ownsRow w.heap.size 50 3 v m cells ∧ Below w.heap.size w w' ∧ Fr (fun q => q = p) wr w'

theorem next_act {wr : World} {p : Nat} {a : Option Addr} {n c k : Nat} {f : Nat → Int} {v : Value} {m : Nat} {cells : List Value} (h : TapeAt wr p a n c k) (hr : RowF w a n f) (hb : Below w.heap.size w wr) (hp : w.heap.size ≤ p)
    (ho : wr.ownsRow w.heap.size 50 3 v m cells) (N : Nat) (hN : 1 ≤ N) (hN' : N ≤ 1000) :
    Calls Try.prog 43 #[.pointer (some ⟨p, 0, none⟩), .int .i64 (N : Int)] wr (NextP w p a n c k N v m cells wr) := by
  refine (next43 h hr hb hp N hN hN').mono ?_
  rintro e w' ⟨j, k', rfl, hj, hk, hk', ht, hf⟩
  exact ⟨j, k', rfl, hj, hk, hk', ht, own_frame ho hf (own_ne_blk ho h.2 (by decide)), hb.trans (hf.below_of (fun q hq e => by omega) hb.size), hf⟩

/-- append of any row onto a row of one's own; what became of the world, and which blocks stay. -/
theorem wpList_app3 {P : Program} {w0 w : World} {ops : Array Oper} {rest : List Oper} {o : Oper} {a : Act} {Q : Exit → Act → World → Prop} (hgd : o.guard = none) (s x : Operand) (t : TypeId)
    (ho : o.op = .call { callee := .builtin .append, args := #[s, x], argTypes := #[t, t] })
    (base : Nat) (e : TypeId) (i : TypeInfo) (z : Value) (size bytes : Nat) (ht : P.underlying t = some (.slice e)) (hi : P.info? e = some i) (hz : i.zero = some z)
    (hsize : i.size = size) (hby : i.bytes = bytes) (hzs : z.cells.size = size) (hsz : 0 < size)
    (v : Value) (n : Nat) (xs : List Value) (hs : a.eval s = v) (hown : w.ownsRow base e size v n xs)
    (u : Value) (m : Nat) (news : List Value) (hx : a.eval x = u) (hsl : SlAt w u m size news) (h1 : ∀ u ∈ news, u.oneCell' = true)
    (h63 : n + m ≤ maxLen) (hbytes : (n + m) * bytes ≤ 140737488355328) (hbase : base ≤ w0.heap.size) (hb : Below base w0 w) {r : Nat} {ys : List Value} (hr : n + m = r) (hy : xs ++ news = ys)
    (h : ∀ a' c' w', w'.ownsRow base e size (.slice a' r c') r ys → Below base w0 w' → (∀ k ob, w.heap[k]? = some ob → ¬ v.ownBlock = some k → w'.heap[k]? = some ob) → wpList P ops Q rest (a.put o.dst (.slice a' r c')) w') : wpList P ops Q (o :: rest) a w := by
  subst hr hy
  exact wpList_app hgd s x t ho base e i z size bytes ht hi hz hsize hby hzs hsz v n xs hs hown u m news hx hsl h1 h63 hbytes (Nat.le_trans hbase hb.size) fun a' c' w' h2 h3 =>
    h a' c' w' h2 (below_fr hb h3 (fun k hk => own_ge hown hk) hbase) (fun k ob hk hn => (h3.block k (Array.getElem?_eq_some_iff.1 hk).1 hn).trans hk)

set_option maxRecDepth 100000 in
set_option maxHeartbeats 2000000 in
theorem acts24 (a : Option Addr) (n c : Nat) (f : Nat → Int) (hr : RowF w a n f) (hn : n ≤ 120) : Calls Try.prog 24 #[.slice a n c] w (ActsP w) := by
  obtain ⟨i0, hi0, hz0, hz1, hz2⟩ := info_parts info50
  have HR := Lib.hid hr
  clear hr
  go_enter Try.func24, Try.ntmps24
  go_wp2_with fail
  refine (new41 a n c).mono ?_
  rintro e w1 ⟨p, rfl, hp, ht, hb⟩
  have HP := Lib.hid hp
  have HT := Lib.hid ht
  have HB := Lib.hid hb
  clear hp ht hb
  go_wp2_with fail
  go_loopg [4] n (fun g v wr => ∃ k, g + k = n ∧ ActI w p a n c k v wr)
  case atStart => exact ⟨0, rfl, [], none, 0, rfl, Nat.le_refl _, by simp, HP.out, HT.out, World.ownsRow_nil _ _ _ _, HB.out⟩
  case round =>
    obtain ⟨k, hk, l, b, q, rfl, hl, hok, hp, htape, hown, hbel⟩ := hrel
    have HT1 := Lib.hid htape
    have HO := Lib.hid hown
    have HBL := Lib.hid hbel
    have HOK := Lib.hid hok
    have HK := Lib.hid hk
    have hlk : l.length ≤ 120 := by omega
    clear HT HB HP hok hown hbel
    by_cases hlt : k < n
    · have hm := more42 htape
      rw [decide_eq_true hlt] at hm
      have HM := Lib.hid hm
      clear hm htape hk
      go_wp2_with fail
      refine HM.out.mono ?_
      rintro e w2 ⟨rfl, hb2⟩
      have HT2 := Lib.hid (HT1.out.below hb2)
      have HO2 := Lib.hid (own_frame HO.out (Fr.of_below (S := fun _ => False) hb2) (fun _ _ e => e))
      have HB2 := Lib.hid (HBL.out.trans (hb2.mono HBL.out.size))
      clear hb2 HT1 HO HBL HM
      go_wp2_with fail
      refine (next_act HT2.out HR.out HB2.out hp HO2.out 16 (by omega) (by omega)).mono ?_
      rintro e w3 ⟨j1, k1, rfl, hj1, hk1, hk1', ht3, ho3, hb3, _⟩
      have HT3 := Lib.hid ht3
      have HO3 := Lib.hid ho3
      have HB3 := Lib.hid hb3
      have hkk : k < k1 := hk1' hlt
      clear ht3 ho3 hb3 HT2 HO2 HB2 hk1 hk1'
      go_wp2_with fail
      refine (next_act HT3.out HR.out HB3.out hp HO3.out 50 (by omega) (by omega)).mono ?_
      rintro e w4 ⟨j2, k2, rfl, hj2, hk2, hk2', ht4, ho4, hb4, _⟩
      have HT4 := Lib.hid ht4
      have HO4 := Lib.hid ho4
      have HB4 := Lib.hid hb4
      clear ht4 ho4 hb4 HT3 HO3 HB3 hk2'
      go_wp2_with fail
      have hal : Below w4.heap.size w4 (w4.alloc row6) := (Below.refl _ _).alloc (Nat.le_refl _) _
      refine (next_act (HT4.out.below hal) HR.out (HB4.out.trans (hal.mono HB4.out.size)) hp (HO4.out.alloc _) 6 (by omega) (by omega)).mono ?_
      rintro e w5 ⟨j3, k3, rfl, hj3, hk3, hk3', ht5, ho5, hb5, hf5⟩
      have hpl : w4.heap.size ≠ p := by have := (Array.getElem?_eq_some_iff.1 HT4.out.2).1; omega
      have hrow : w5.heap[w4.heap.size]? = some row6 := (hf5.block w4.heap.size (by simp) hpl).trans (heap_alloc_new w4 _)
      have hcell := row6_cell hrow hj3
      have HT5 := Lib.hid ht5
      have HO5 := Lib.hid ho5
      have HB5 := Lib.hid hb5
      have hj6 : (j3 : Int) < 6 := by omega
      have hj60 : (0 : Int) ≤ j3 := by omega
      obtain ⟨r1, hr1⟩ : ∃ r1, l.length + 1 = r1 := ⟨_, rfl⟩
      have HR1 := Lib.hid hr1
      have hone : ∀ u ∈ [Value.int .i64 (j1 : Int), Value.int .i64 (j2 : Int), Value.string (nm6 j3)], u.oneCell' = true := by
        intro u hu
        simp at hu
        rcases hu with rfl | rfl | rfl <;> rfl
      have H1 := Lib.hid hone
      have HM1 := Lib.hid (show l.length + 1 ≤ maxLen by unfold maxLen; omega)
      have HM2 := Lib.hid (show (l.length + 1) * 32 ≤ 140737488355328 by omega)
      clear ht5 ho5 hb5 HT4 HO4 HB4 hk3' hal hf5 hpl hrow hone hr1
      go_wp2_with (refine wpList_app3 rfl (.tmp 9) (.tmp 20) 45 rfl w.heap.size 50 i0 _ 3 32 Try.underlying45 hi0 hz0 hz1 hz2 rfl (by decide) _ _ _ rfl (HO5.out.alloc _) _ 1 [.int .i64 (j1 : Int), .int .i64 (j2 : Int), .string (nm6 j3)] rfl (sl_block (heap_alloc_new _ _) rfl (by decide)) H1.out HM1.out HM2.out (Nat.le_refl _) (below_alloc1 HB5.out (Nat.le_refl _)) HR1.out (actCells_snoc l ⟨j1, j2, nm6 j3⟩).symm (fun a6 c6 w6 ho6 hb6 hk6 => ?_); have HT6 := Lib.hid (hk6 p _ (((Below.refl w5.heap.size w5).alloc (Nat.le_refl _) (.cells #[.int .i64 (j1 : Int), .int .i64 (j2 : Int), .string (nm6 j3)] 50)).block p (Array.getElem?_eq_some_iff.1 HT5.out.2).1 |>.trans HT5.out.2) (fun e => own_ne_blk HO5.out HT5.out.2 (by decide) p e rfl)); have HO6 := Lib.hid ho6; have HB6 := Lib.hid hb6; clear ho6 hb6 hk6)
      go_roundg (n - k3)
      case measure => have := HK.out; omega
      case rel =>
        refine ⟨k3, by have := HT5.out.1; omega, l ++ [⟨j1, j2, nm6 j3⟩], a6, c6, ?_, ?_, ?_, hp, ⟨HT5.out.1, HT6.out⟩, ?_, HB6.out⟩
        · rw [← HR1.out, List.length_append]; rfl
        · rw [List.length_append]; show l.length + 1 ≤ k3; omega
        · intro x hx
          rcases List.mem_append.1 hx with hx | hx
          · exact HOK.out x hx
          · obtain rfl : x = ⟨j1, j2, nm6 j3⟩ := by simpa using hx
            have := nm6_size hj3
            exact ⟨⟨⟨by show _ ≤ (j1 : Int); omega, by show (j1 : Int) ≤ _; omega⟩, by show (nm6 j3).size ≤ maxLen; unfold maxLen; omega⟩, this⟩
        · have := HO6.out
          rw [← HR1.out] at this ⊢
          rwa [List.length_append]
    · have hm := more42 htape
      rw [decide_eq_false hlt] at hm
      have HM := Lib.hid hm
      clear hm htape hk
      go_wp2_with fail
      refine HM.out.mono ?_
      rintro e w2 ⟨rfl, hb2⟩
      have HB2 := Lib.hid hb2
      clear hb2
      go_wp2_with fail
      go_ret
      exact ⟨l, b, q, rfl, hlk, HOK.out, own_frame HO.out (Fr.of_below (S := fun _ => False) HB2.out) (fun _ _ e => e), HBL.out.trans (HB2.out.mono HBL.out.size)⟩

end

end Go.Proofs.Ytalmfmijjbpnpaa
