/-
  Walk of the law's sanity check: its calls by the evaluator's contracts.
-/
import Derived.Test.YtfdaghhplijpeaaGreatDoorLmPo
import Derived.Test.YtfdaghhplijpeaaGreatDoorLmPp
import Derived.Test.YtfdaghhplijpeaaGreatDoorLmPq
namespace Go.Proofs.YtfdaghhplijpeaaGreatDoor
open Go Go.RowKit Go.Ev

theorem isIv_of {v : AVal} (h : isIv v = true) (m : Mp) : ∃ s a n c x s' a' n' c' x', γ m v = .agg #[.bool s, .slice a n c, .int .i64 x, .bool s', .slice a' n' c', .int .i64 x'] := by
  unfold isIv at h
  split at h
  · rename_i s0 u x0 s1 v x1
    rw [Bool.and_eq_true] at h
    obtain ⟨a, n, c, e⟩ := isSl_of h.1 m
    obtain ⟨a', n', c', e'⟩ := isSl_of h.2 m
    refine ⟨s0, a, n, c, x0, s1, a', n', c', x1, ?_⟩
    show Value.agg ⟨[.bool s0, γ m u, .int .i64 x0, .bool s1, γ m v, .int .i64 x1]⟩ = _
    rw [e, e']
  · cases h
theorem isRt_of {v : AVal} (h : isRt v = true) (m : Mp) : ∃ s a n c a' n' c', γ m v = .agg #[.bool s, .slice a n c, .slice a' n' c'] := by
  unfold isRt at h
  split at h
  · rename_i s0 u v
    rw [Bool.and_eq_true] at h
    obtain ⟨a, n, c, e⟩ := isSl_of h.1 m
    obtain ⟨a', n', c', e'⟩ := isSl_of h.2 m
    refine ⟨s0, a, n, c, a', n', c', ?_⟩
    show Value.agg ⟨[.bool s0, γ m u, γ m v]⟩ = _
    rw [e, e']
  · cases h
theorem isErr_of {n : Nat} {r : VR} (h : isErr n r = true) : ∃ a H, r = .ok (.tup [a, .int .i64 n]) H ∧ isIv a = true := by
  unfold isErr at h
  split at h
  · rw [Bool.and_eq_true] at h
    have := Nat.eq_of_beq_eq_true h.2
    subst this
    exact ⟨_, _, rfl, h.1⟩
  · cases h
/-- What the chain's truth says. -/
structure Chain (a o t d b : AVal) (hA hO hT hD hB hS : Heap) (x y : Int) : Prop where
  a_ : pA = .ok (.tup [a, .int .i64 0]) hA
  o_ : cl 13 [.int .i64 1] hA = .ok o hO
  t_ : cl 13 [.int .i64 3] hO = .ok t hT
  d_ : cl 12 [o, t] hT = .ok (.tup [d, .int .i64 x]) hD
  b_ : cl 14 [d, .int .i64 10] hD = .ok (.tup [b, .int .i64 y]) hB
  s_ : cl 15 [a, b] hB = .ok (.bool true) hS
  ia : isIv a = true
  io : isRt o = true
  it : isRt t = true
  id_ : isRt d = true
  ib : isIv b = true
theorem chain_of (h : chain = true) : ∃ a o t d b hA hO hT hD hB hS x y, Chain a o t d b hA hO hT hD hB hS x y := by
  unfold chain at h
  split at h
  · rename_i a hA ea
    rw [Bool.and_eq_true] at h
    obtain ⟨ia, h⟩ := h
    split at h
    · rename_i o hO eo
      rw [Bool.and_eq_true] at h
      obtain ⟨io, h⟩ := h
      split at h
      · rename_i t hT et
        rw [Bool.and_eq_true] at h
        obtain ⟨it, h⟩ := h
        split at h
        · rename_i d x hD ed
          rw [Bool.and_eq_true] at h
          obtain ⟨idd, h⟩ := h
          split at h
          · rename_i b y hB eb
            rw [Bool.and_eq_true] at h
            obtain ⟨ib, h⟩ := h
            obtain ⟨hS, es⟩ := isBool_of h
            exact ⟨a, o, t, d, b, hA, hO, hT, hD, hB, hS, x, y, ea, eo, et, ed, eb, es, ia, io, it, idd, ib⟩
          · cases h
        · cases h
      · cases h
    · cases h
  · cases h
/-- A heap of the evaluator lies in the world; nothing of W has changed. -/
structure StA (W : World) (m : Mp) (h : Heap) (w : World) : Prop where
  lies : Lies tabs W.heap.size m h w
  below : Below W.heap.size W w
theorem StA.later {W w w' : World} {m : Mp} {h : Heap} (s : StA W m h w) (hb : Below w.heap.size w w') : StA W m h w' := ⟨s.lies.below hb, s.below.trans (hb.mono s.below.size)⟩
/-- A block of the walk's own. -/
structure Loc (m : Mp) (h : Heap) (w : World) (k : Nat) (o : Obj) : Prop where
  blk : w.heap[k]? = some o
  free : ∀ n, dom h n → m.b n ≠ k
theorem Loc.later {w w' : World} {m : Mp} {h : Heap} {k : Nat} {o : Obj} (l : Loc m h w k o) (hb : Below w.heap.size w w') : Loc m h w' k o :=
  ⟨(hb.block k (Array.getElem?_eq_some_iff.1 l.blk).1).trans l.blk, l.free⟩
theorem loc_new {W w : World} {m : Mp} {h : Heap} (s : StA W m h w) (o : Obj) : Loc m h (w.alloc o) w.heap.size o :=
  ⟨heap_alloc_new w o, fun n hn e => by have := s.lies.rep.blk_lt hn; omega⟩
/-- What a value of the evaluator stands for. -/
structure Vl (m : Mp) (h : Heap) (v : AVal) (x : Value) : Prop where
  inn : In (dom h) v
  eq : γ m v = x
theorem step_calls {W w : World} {m : Mp} {h h' : Heap} {f : Nat} {ar : List AVal} {xs : List Value} {r : AVal} (hc : cl f ar h = .ok r h') (s : StA W m h w) (hin : InL (dom h) ar) (hx : γs m ar = xs) :
    Calls Tryz.prog f ⟨xs⟩ w fun e w' => ∃ m', e = .returned (γ m' r) ∧ In (dom h') r ∧ StA W m' h' w' ∧ (∀ v x, Vl m h v x → Vl m' h' v x) ∧ (∀ k o, Loc m h w k o → Loc m' h' w' k o) := by
  subst hx
  refine (calls_of mixed hc s.lies s.below.size hin).mono ?_
  rintro e w' ⟨m', rfl, hl, hi, hb, g⟩
  refine ⟨m', rfl, hi, ⟨hl, s.below.trans hb⟩, fun v x hv => ⟨In_mono g.old v hv.inn, ?_⟩, fun k o hk => ⟨?_, fun n hn e => ?_⟩⟩
  · rw [γ_congr (D := dom h) (fun n hn => g.agree n (s.lies.rep.fresh n hn)) v hv.inn]
    exact hv.eq
  · exact (g.keep k (Array.getElem?_eq_some_iff.1 hk.blk).1 hk.free).trans hk.blk
  · have hlt := (Array.getElem?_eq_some_iff.1 hk.blk).1
    by_cases h0 : dom h n
    · rw [(g.agree n (s.lies.rep.fresh n h0)).1] at e
      exact hk.free n h0 e
    · rcases g.newb n hn h0 with h1 | ⟨j, hj, hje⟩
      · omega
      · exact hk.free j hj (hje.trans e)
theorem err_calls {n : Nat} {r : VR} (hr : isErr n r = true) {ar : List AVal} {xs : List Value} (hin : InL (dom (emptyHeap 1)) ar) (hx : γs mp0 ar = xs) (hp : r = cl 11 ar (emptyHeap 1)) {W : World} (hT : Tabd W) :
    Calls Tryz.prog 11 ⟨xs⟩ W fun e w' => ∃ s a k c x s' a' k' c' x', e = .returned (.tuple #[.agg #[.bool s, .slice a k c, .int .i64 x, .bool s', .slice a' k' c', .int .i64 x'], .int .i64 n]) ∧ Below W.heap.size W w' := by
  subst hx
  obtain ⟨v, H, hv, hi⟩ := isErr_of hr
  refine (calls_of mixed (hp.symm.trans hv) (lies_empty hT) (Nat.le_refl _) hin).mono ?_
  rintro e w' ⟨m, rfl, _, _, hb, _⟩
  obtain ⟨s, a, k, c, x, s', a', k', c', x', e⟩ := isIv_of hi m
  exact ⟨s, a, k, c, x, s', a', k', c', x', by simp only [γ, γs, e], hb⟩
theorem pA_eq : pA = callG (Env.of Tryz.prog tabs) 200 11 [.str [49, 47, 51], .int .i64 10] (emptyHeap 1) := by unfold pA cl; rfl
theorem pB_eq : pB = cl 11 [.str [49, 32, 47, 32, 40, 112, 105, 32, 45, 32, 112, 105, 41], .int .i64 10] (emptyHeap 1) := by unfold pB; rfl
theorem pC_eq : pC = cl 11 [.str [115, 113, 114, 116, 40, 50, 32, 45, 32, 112, 105, 41], .int .i64 10] (emptyHeap 1) := by unfold pC; rfl
section
variable {a o t d b : AVal} {hA hO hT hD hB hS : Heap} {x y : Int}
theorem ofA_calls (C : Chain a o t d b hA hO hT hD hB hS x y) {W : World} (hW : Tabd W) :
    Calls Tryz.prog 11 #[.string ⟨#[49, 47, 51]⟩, .int .i64 10] W fun e w' => ∃ m s a1 k c x s' a' k' c' x', e = .returned (.tuple #[.agg #[.bool s, .slice a1 k c, .int .i64 x, .bool s', .slice a' k' c', .int .i64 x'], .int .i64 0]) ∧ StA W m hA w' ∧ Vl m hA a (.agg #[.bool s, .slice a1 k c, .int .i64 x, .bool s', .slice a' k' c', .int .i64 x']) := by
  refine (calls_of mixed (pA_eq.symm.trans C.a_) (lies_empty hW) (Nat.le_refl _) ⟨trivial, trivial, trivial⟩).mono ?_
  rintro e w' ⟨m, rfl, hl, hi, hb, _⟩
  obtain ⟨s, a1, k, c, x, s', a', k', c', x', e⟩ := isIv_of C.ia m
  exact ⟨m, s, a1, k, c, x, s', a', k', c', x', by simp only [γ, γs, e], ⟨hl, hb⟩, hi.1, e⟩
end
end Go.Proofs.YtfdaghhplijpeaaGreatDoor
