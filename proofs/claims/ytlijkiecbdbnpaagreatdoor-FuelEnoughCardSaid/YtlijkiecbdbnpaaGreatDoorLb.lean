/- awake, the law's first call, walked: its calls by the evaluator's contracts. -/
import Derived.Test.YtlijkiecbdbnpaaGreatDoorAx
import Derived.Test.YtlijkiecbdbnpaaGreatDoorAy
import Derived.Test.YtlijkiecbdbnpaaGreatDoorAz
import Derived.Test.YtlijkiecbdbnpaaGreatDoorLa
namespace Go.Proofs.YtlijkiecbdbnpaaGreatDoor
open Go Go.RowKit Go.Ev
theorem mixed : Tryz.prog.follows .mixedOrders = true := by kernel_rfl
theorem sii {v : AVal} (h : sliceIntInt v = true) : ∃ n o l c a b, v = .tup [.slc n o l c, .int .i64 a, .int .i64 b] := by
  unfold sliceIntInt at h
  split at h
  · exact ⟨_, _, _, _, _, _, rfl⟩
  · cases h
theorem iib {v : AVal} {n : Nat} {b : Bool} (h : isIntBool n b v = true) : v = .tup [.int .i64 n, .bool b] := by
  unfold isIntBool at h
  split at h
  · rename_i k c
    simp only [Bool.and_eq_true] at h
    have e1 : k = n := Nat.eq_of_beq_eq_true h.1
    have e2 : c = b := by cases c <;> cases b <;> first | rfl | cases h.2
    subst e1; subst e2; rfl
  · cases h
/-- A parse: the expression x lies in memory H of its own. -/
structure Parsed (W : World) (H : Heap) (x : AVal) (m : Mp) (w' : World) : Prop where
  lies : Lies tabs W.heap.size m H w'
  inn : In (dom H) x
  below : Below W.heap.size W w'
  lt : ∀ n, dom H n → m.b n < w'.heap.size
theorem parse_calls {W : World} (h : ∀ g l, tabs g = some l → ∃ rest e fz, W.heap[g]? = some (.cells ⟨l ++ rest⟩ e fz)) {s : List UInt8} {p : VR} (hp : p = callG (Env.of Tryz.prog tabs) 200 8 [.str s] (emptyHeap 1)) (hok : (vrOk p && sliceIntInt (vrV p)) = true) :
    Calls Tryz.prog 8 #[.string ⟨⟨s⟩⟩] W fun e w' => ∃ m v a b x H, e = .returned (.tuple #[v, .int .i64 a, .int .i64 b]) ∧ v = γ m x ∧ x = tup0 (vrV p) ∧ H = vrH p ∧ Parsed W H x m w' := by
  simp only [Bool.and_eq_true] at hok
  have hc := hp.symm.trans (vr_of hok.1)
  obtain ⟨n, o, l, c, a, b, hv'⟩ := sii hok.2
  refine (calls_of mixed hc (lies_empty h) (Nat.le_refl _) ⟨trivial, trivial⟩).mono ?_
  rintro e w' ⟨m, rfl, hl, hi, hb, g⟩
  rw [hv'] at hi ⊢
  exact ⟨m, _, a, b, _, _, rfl, rfl, rfl, rfl, ⟨hl, hi.1, hb, fun n hn => hl.rep.blk_lt hn⟩⟩
theorem margin_calls {w : World} {B : Nat} {m : Mp} {h : Heap} {v : AVal} (hl : Lies tabs B m h w) (hB : B ≤ w.heap.size) (hv : In (dom h) v) {q : VR} {n : Nat} {b : Bool} {x : Int} (hxn : x = n) (hq : q = callG (Env.of Tryz.prog tabs) 200 9 [v, .int .i64 20] h) (hok : (vrOk q && isIntBool n b (vrV q)) = true) :
    Calls Tryz.prog 9 #[γ m v, .int .i64 20] w fun e w' => ∃ m' H', e = .returned (.tuple #[.int .i64 x, .bool b]) ∧ Below B w w' ∧ Goes m h w m' H' w' := by
  subst hxn
  simp only [Bool.and_eq_true] at hok
  have hc := hq.symm.trans (vr_of hok.1)
  have hx := iib hok.2
  refine (calls_of mixed hc hl hB ⟨hv, trivial, trivial⟩).mono ?_
  rintro e w' ⟨m', rfl, hl', _, hb, g⟩
  rw [hx]
  exact ⟨m', _, rfl, hb, g⟩
theorem pL_eq : pL = callG (Env.of Tryz.prog tabs) 200 8 [.str [49, 47, 51]] (emptyHeap 1) := by unfold pL; rfl
theorem pM_eq : pM = callG (Env.of Tryz.prog tabs) 200 8 [.str [115, 113, 114, 116, 40, 112, 105, 32, 45, 32, 112, 105, 41]] (emptyHeap 1) := by unfold pM; rfl
theorem qL_eq {x : AVal} {H : Heap} (hx : x = tup0 (vrV pL)) (hH : H = vrH pL) : qL = callG (Env.of Tryz.prog tabs) 200 9 [x, .int .i64 20] H := by rw [hx, hH]; unfold qL; rfl
theorem qM_eq {x : AVal} {H : Heap} (hx : x = tup0 (vrV pM)) (hH : H = vrH pM) : qM = callG (Env.of Tryz.prog tabs) 200 9 [x, .int .i64 20] H := by rw [hx, hH]; unfold qM; rfl
theorem margin1 {W w1 w : World} {m : Mp} {x : AVal} {H : Heap} {v : Value} (hx : x = tup0 (vrV pL)) (hH : H = vrH pL) (h : Parsed W H x m w1) (hv : v = γ m x) (hb : Below w1.heap.size w1 w) :
    Calls Tryz.prog 9 #[v, .int .i64 20] w fun e w' => ∃ m' H', e = .returned (.tuple #[.int .i64 2, .bool true]) ∧ Below W.heap.size w w' ∧ Goes m H w m' H' w' := by
  have l1 := h.lies.below hb
  have := h.below.size
  have := hb.size
  rw [hv]
  exact margin_calls (n := 2) (b := true) (x := 2) l1 (by omega) h.inn rfl (qL_eq hx hH) qL_ok
theorem margin2 {W w1 w2 w3 : World} {m1 m1' m2 : Mp} {x1 x : AVal} {H1 H1' H : Heap} {v : Value} (hx : x = tup0 (vrV pM)) (hH : H = vrH pM) (h1 : Parsed W H1 x1 m1 w1) (h : Parsed w1 H x m2 w2) (g : Goes m1 H1 w2 m1' H1' w3) (hv : v = γ m2 x) :
    Calls Tryz.prog 9 #[v, .int .i64 20] w3 fun e w' => e = .returned (.tuple #[.int .i64 0, .bool false]) ∧ Below w1.heap.size w3 w' := by
  have l1 := h1.lies.below h.below
  have l2 : Lies tabs w1.heap.size m2 H w3 := h.lies.apart l1.rep g h1.lt
  have := h.below.size
  have := g.size
  rw [hv]
  exact (margin_calls (n := 0) (b := false) (x := 0) l2 (by omega) h.inn rfl (qM_eq hx hH) qM_ok).mono fun _ _ ⟨_, _, e, b, _⟩ => ⟨e, b⟩
theorem tabs_of {W : World} (h : ∃ rest e fz, W.heap[3]? = some (.cells ⟨tab ++ rest⟩ e fz)) : ∀ g l, tabs g = some l → ∃ rest e fz, W.heap[g]? = some (.cells ⟨l ++ rest⟩ e fz) := fun g l hg => by
  unfold tabs at hg
  split at hg
  · cases hg; exact h
  · cases hg
theorem tabs_later {W w : World} (h : ∀ g l, tabs g = some l → ∃ rest e fz, W.heap[g]? = some (.cells ⟨l ++ rest⟩ e fz)) (hb : Below W.heap.size W w) : ∀ g l, tabs g = some l → ∃ rest e fz, w.heap[g]? = some (.cells ⟨l ++ rest⟩ e fz) := fun g l hg => by
  obtain ⟨rest, e, fz, h1⟩ := h g l hg
  exact ⟨rest, e, fz, (hb.block g (Array.getElem?_eq_some_iff.1 h1).1).trans h1⟩
set_option maxRecDepth 100000 in
set_option maxHeartbeats 1000000 in
theorem awake_calls {W : World} (h : ∃ rest e fz, W.heap[3]? = some (.cells ⟨tab ++ rest⟩ e fz)) :
    Calls Tryz.prog 4 #[] W fun e W' => e = .returned (.bool true) ∧ Below W.heap.size W W' := by
  have hT := Lib.hid (tabs_of h)
  clear h
  go_enter Tryz.func4, Tryz.ntmps4
  go_wp2_with fail
  refine (parse_calls hT.out pL_eq pL_ok).mono ?_
  rintro e w1 ⟨m1, v1, a1, b1, x1, H1, rfl, hv1, hx1, hH1, h1⟩
  have P1 := Lib.hid h1
  have V1 := Lib.hid (And.intro hv1 (And.intro hx1 hH1))
  have T1 := Lib.hid (tabs_later hT.out h1.below)
  clear h1 hv1 hx1 hH1
  go_wp2_with fail
  refine (parse_calls T1.out pM_eq pM_ok).mono ?_
  rintro e w2 ⟨m2, v2, a2, b2, x2, H2, rfl, hv2, hx2, hH2, h2⟩
  have P2 := Lib.hid h2
  have V2 := Lib.hid (And.intro hv2 (And.intro hx2 hH2))
  clear h2 hv2 hx2 hH2
  go_wp2_with fail
  refine (margin1 V1.out.2.1 V1.out.2.2 P1.out V1.out.1 P2.out.below).mono ?_
  rintro e w3 ⟨m3, H3, rfl, hb3, g3⟩
  have G3 := Lib.hid g3
  have HB3 := Lib.hid hb3
  clear g3 hb3
  go_wp2_with fail
  refine (margin2 V2.out.2.1 V2.out.2.2 P1.out P2.out G3.out V2.out.1).mono ?_
  rintro e w4 ⟨rfl, hb4⟩
  have HB : Below W.heap.size W w4 := by
    have s01 := P1.out.below.size
    exact ((P1.out.below.trans (P2.out.below.mono s01)).trans HB3.out).trans (hb4.mono s01)
  have HF := Lib.hid HB
  clear HB hb4
  go_wp2_with fail
  refine (enough6 1 1 0 _).mono ?_
  rintro e w5 ⟨rfl, rfl⟩
  go_wp2_with fail
  go_ret
  exact ⟨rfl, HF.out⟩
end Go.Proofs.YtlijkiecbdbnpaaGreatDoor
