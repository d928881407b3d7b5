/-
  Closed calls, carried out by the kernel: the mill's decimals are numbers, its names are names (the program and the reference say so).
-/
import Derived.Test.YtfdaghhplijpeaaGreatDoorLmEv8
import Derived.Test.YtfdaghhplijpeaaGreatDoorLmOv
import Derived.KernelRfl
namespace Go.Proofs.YtfdaghhplijpeaaGreatDoor
open Go Go.RowKit Go.Ev

/-- The table of math/bits. -/
def tab : List Value := [.int .u8 0, .int .u8 1, .int .u8 28, .int .u8 2, .int .u8 29, .int .u8 14, .int .u8 24, .int .u8 3, .int .u8 30, .int .u8 22, .int .u8 20, .int .u8 15, .int .u8 25, .int .u8 17, .int .u8 4, .int .u8 8,
  .int .u8 31, .int .u8 27, .int .u8 13, .int .u8 23, .int .u8 21, .int .u8 19, .int .u8 16, .int .u8 7, .int .u8 26, .int .u8 12, .int .u8 18, .int .u8 6, .int .u8 11, .int .u8 5, .int .u8 10, .int .u8 9]
def tabs : Nat → Option (List Value) := fun g => match g with
  | 3 => some tab
  | _ => none
/-- The tables lie in a world. -/
def Tabd (W : World) : Prop := ∀ g l, tabs g = some l → ∃ rest e fz, W.heap[g]? = some (.cells ⟨l ++ rest⟩ e fz)
theorem Tabd.below {W w : World} (h : Tabd W) (hb : Below W.heap.size W w) : Tabd w := fun g l hg => by
  obtain ⟨rest, e, fz, h1⟩ := h g l hg
  exact ⟨rest, e, fz, (hb.block g (Array.getElem?_eq_some_iff.1 h1).1).trans h1⟩
theorem mixed : Tryz.prog.follows .mixedOrders = true := by kernel_rfl
/-- A fraction without an error. -/
def isSl : AVal → Bool
  | .slc _ _ _ _ => true
  | .slcNil => true
  | _ => false
theorem isSl_of {v : AVal} (h : isSl v = true) (m : Mp) : ∃ a n c, γ m v = .slice a n c := by
  unfold isSl at h
  split at h
  · rename_i n o l c
    cases c <;> exact ⟨_, _, _, rfl⟩
  · exact ⟨_, _, _, rfl⟩
  · cases h
def okRat : VR → Bool
  | .ok (.tup [.agg [.bool _, b, c], .int .i64 (.ofNat 0)]) _ => isSl b && isSl c
  | _ => false
def isBool (b : Bool) : VR → Bool
  | .ok (.bool c) _ => boolEqb c b
  | _ => false
theorem okRat_of {r : VR} (h : okRat r = true) : ∃ a b c H, r = .ok (.tup [.agg [.bool a, b, c], .int .i64 0]) H ∧ isSl b = true ∧ isSl c = true := by
  unfold okRat at h
  split at h
  · rw [Bool.and_eq_true] at h
    exact ⟨_, _, _, _, rfl, h.1, h.2⟩
  · cases h
theorem isBool_of {r : VR} {b : Bool} (h : isBool b r = true) : ∃ H, r = .ok (.bool b) H := by
  unfold isBool at h
  split at h
  · rename_i c H
    have : c = b := by cases c <;> cases b <;> first | rfl | cases h
    subst this
    exact ⟨_, rfl⟩
  · cases h
theorem str_eq (s : ByteArray) : (⟨⟨s.data.toList⟩⟩ : ByteArray) = s := rfl
/-- A fraction is returned, and no error. -/
def RatP (W : World) (e : Ending) (w' : World) : Prop := ∃ (s : Bool) (a : Option Addr) (n c : Nat) (a' : Option Addr) (n' c' : Nat), e = .returned (.tuple #[.agg #[.bool s, .slice a n c, .slice a' n' c'], .int .i64 0]) ∧ Below W.heap.size W w'
theorem rat_calls {f : Nat} {l : List ByteArray} (hl : (l.all fun s => okRat (callG (Env.of Tryz.prog tabs) 200 f [.str s.data.toList] (emptyHeap 1))) = true) {W : World} (hT : Tabd W) {s : ByteArray} (hs : s ∈ l) :
    Calls Tryz.prog f #[.string s] W (RatP W) := by
  obtain ⟨a, b, c, H, hr, hb, hc⟩ := okRat_of (List.all_eq_true.1 hl s hs)
  refine (calls_of mixed hr (lies_empty hT) (Nat.le_refl _) ⟨trivial, trivial⟩).mono ?_
  rintro e w' ⟨m, rfl, _, _, hbe, _⟩
  obtain ⟨x, n, y, e1⟩ := isSl_of hb m
  obtain ⟨x', n', y', e2⟩ := isSl_of hc m
  exact ⟨a, x, n, y, x', n', y', by simp only [γ, γs, e1, e2], hbe⟩
theorem bool_calls {f : Nat} {l : List ByteArray} {b : Bool} (hl : (l.all fun s => isBool b (callG (Env.of Tryz.prog tabs) 200 f [.str s.data.toList] (emptyHeap 1))) = true) {W : World} (hT : Tabd W) {s : ByteArray} (hs : s ∈ l) :
    Calls Tryz.prog f #[.string s] W fun e w' => e = .returned (.bool b) ∧ Below W.heap.size W w' := by
  obtain ⟨H, hr⟩ := isBool_of (List.all_eq_true.1 hl s hs)
  refine (calls_of mixed hr (lies_empty hT) (Nat.le_refl _) ⟨trivial, trivial⟩).mono ?_
  rintro e w' ⟨m, rfl, _, _, hb, _⟩
  exact ⟨rfl, hb⟩
set_option maxRecDepth 1000000 in
theorem refParse_ok : (nums.all fun s => okRat (callG (Env.of Tryz.prog tabs) 200 72 [.str s.data.toList] (emptyHeap 1))) = true := by kernel_rfl
set_option maxRecDepth 1000000 in
theorem ratParse_ok : (nums.all fun s => okRat (callG (Env.of Tryz.prog tabs) 200 106 [.str s.data.toList] (emptyHeap 1))) = true := by kernel_rfl
set_option maxRecDepth 1000000 in
theorem refName_ok : (nms.all fun s => isBool true (callG (Env.of Tryz.prog tabs) 200 152 [.str s.data.toList] (emptyHeap 1))) = true := by kernel_rfl
set_option maxRecDepth 1000000 in
theorem word_ok : (nms.all fun s => isBool true (callG (Env.of Tryz.prog tabs) 200 107 [.str s.data.toList] (emptyHeap 1))) = true := by kernel_rfl
set_option maxRecDepth 1000000 in
theorem reserved_ok : (nms.all fun s => isBool false (callG (Env.of Tryz.prog tabs) 200 108 [.str s.data.toList] (emptyHeap 1))) = true := by kernel_rfl
end Go.Proofs.YtfdaghhplijpeaaGreatDoor
