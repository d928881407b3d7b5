/-
  Walks of the reference's Add, of the mill's Expr and Graph.
-/
import Derived.Test.YtfdaghhplijpeaaGreatDoorLmPdPe
namespace Go.Proofs.YtfdaghhplijpeaaGreatDoor
open Go Go.RowKit

def AddP (w : World) (B q : Nat) (v : Value) (L l : List Nd) (e : Ending) (w' : World) : Prop :=
  ∃ v' L' r z, e = .returned (.tuple #[.int .i64 r, .int .i64 z]) ∧ RefR w' B q v' L' ∧ GI L' ∧ L'.length ≤ L.length + l.length ∧ Fr (fun j => j = q ∨ v.ownBlock = some j) w w' ∧ (∀ j, v'.ownBlock = some j → v.ownBlock = some j ∨ w.heap.size ≤ j)
set_option maxRecDepth 100000 in
set_option maxHeartbeats 4000000 in
theorem refAdd_calls {w : World} {B q Bl : Nat} {v lv : Value} {L l : List Nd} (h : RefR w B q v L) (hB : B ≤ w.heap.size) (hg : GI L) (hl : NdsR w Bl lv l) (hm : ∀ i, i < l.length → MNd (l.getD i nd0)) (hn : l.length ≤ 200) (hL : L.length ≤ 3000) (hs : Apart w q v lv) (hT : TabsKeep w q v) (hT0 : Tabd w) :
    Calls Tryz.prog 18 #[ptr q, lv] w (AddP w B q v L l) := by
  have HI := Lib.hid (ids_calls h hB hg hl hm hn hL hs hT hT0)
  obtain ⟨la, lc, rfl⟩ := hl.slice
  obtain ⟨n, hn0⟩ : ∃ n, l.length = n := ⟨_, rfl⟩
  rw [hn0] at HI
  rw [hn0]
  clear h hB hg hl hm hn hL hs hT hT0 hn0
  unfold ptr at HI ⊢
  go_enter Tryz.func18, Tryz.ntmps18
  go_wp2_with fail
  refine HI.out.mono ?_
  rintro e w1 ⟨v', L', h1, h2, h3, h4, h5, rfl | ⟨av, A, rfl, hA, hp⟩⟩
  · have H1 := Lib.hid (And.intro h1 (And.intro h2 (And.intro h3 (And.intro h4 h5))))
    clear h1 h2 h3 h4 h5
    go_wp2_with fail
    go_ret2
    exact ⟨v', L', 0, 1, rfl, H1.out⟩
  · have H1 := Lib.hid (And.intro h1 (And.intro h2 (And.intro h3 (And.intro h4 h5))))
    clear h1 h2 h3 h4 h5
    obtain ⟨j, hj⟩ : ∃ j : Nat, (A.length : Int) - 1 = (j : Int) := ⟨A.length - 1, by omega⟩
    obtain ⟨_, _, _, hc1, hc2, _⟩ := own_form hA hp
    have hle : A.length ≤ 9223372036854775807 := by unfold maxLen at hc2; omega
    obtain ⟨ag, ac, rfl, hS1, hS2⟩ := sz_cell hA (j := j) (by omega)
    clear hc1 hc2
    obtain ⟨an, han⟩ : ∃ an, A.length = an := ⟨_, rfl⟩
    rw [han] at hj hle ⊢
    have hj1 : (j : Int) < (an : Int) := by omega
    have hj0 : (0 : Int) ≤ (j : Int) := by omega
    generalize A.getD j 0 = z at hS1
    clear hA hp han
    go_wp2_with fail
    go_ret2
    exact ⟨v', L', z, 0, rfl, H1.out⟩
set_option maxHeartbeats 1000000 in
theorem expr_calls {W0 w : World} {p n k : Nat} {vt : Value} (h : Mill W0 w p vt n k) {D : Int} (h1 : 1 ≤ D) (h4 : D ≤ 4) (closed : Bool) :
    Calls Tryz.prog 19 #[.pointer (some ⟨p, 0, none⟩), .int .i64 D, .bool closed] w (PartP W0 w p vt n k (.slice none 0 0) [] 4) := by
  have hN : NdsR w W0.heap.size (.slice none 0 0) [] := ⟨World.ownsRow_nil _ _ _ _⟩
  have HC : Calls Tryz.prog 41 #[.pointer (some ⟨p, 0, none⟩), .slice none 0 0, .int .i64 D, .bool closed] w (PartP W0 w p vt n k (.slice none 0 0) [] 4) := by
    have hD : D = 1 ∨ D = 2 ∨ D = 3 ∨ D = 4 := by omega
    rcases hD with rfl | rfl | rfl | rfl
    · exact (part_all.1 closed h hN (by simp)).mono fun e w' ⟨v', L2, k', e1, hp⟩ => ⟨v', L2, k', e1, hp.deeper (by omega)⟩
    · exact (part_all.2.1 closed h hN (by simp)).mono fun e w' ⟨v', L2, k', e1, hp⟩ => ⟨v', L2, k', e1, hp.deeper (by omega)⟩
    · exact (part_all.2.2.1 closed h hN (by simp)).mono fun e w' ⟨v', L2, k', e1, hp⟩ => ⟨v', L2, k', e1, hp.deeper (by omega)⟩
    · exact part_all.2.2.2 closed h hN (by simp)
  have HCC := Lib.hid HC
  clear h hN HC
  go_enter Tryz.func19, Tryz.ntmps19
  go_wp2_with fail
  refine HCC.out.mono ?_
  rintro e w1 ⟨v', L2, k', rfl, hp⟩
  have HP := Lib.hid hp
  clear hp
  go_wp2_with fail
  go_ret
  exact ⟨v', L2, k', rfl, HP.out⟩
/-- The mill's Graph at work. -/
structure GrW (W wr : World) (p q : Nat) (vt : Value) (n k : Nat) (v : Value) (L : List Nd) : Prop where
  mill : Mill W wr p vt n k
  ref : RefR wr W.heap.size q v L
  gi : GI L
  q0 : W.heap.size ≤ q
  kn : k ≤ n
  len : L.length ≤ 100
section
variable {W wr w' : World} {p q n k k' : Nat} {vt v : Value} {L : List Nd}
theorem GrW.pq (h : GrW W wr p q vt n k v L) : p ≠ q := fun e => by
  have h1 := h.mill.tape
  have h2 := h.ref.blk
  rw [← e] at h2
  unfold TapeB at h1
  rw [h1] at h2
  cases h2
theorem GrW.turn (h : GrW W wr p q vt n k v L) (hM : Mill W w' p vt n k') (hf : Fr (· = p) wr w') (hk : k' ≤ n) : GrW W w' p q vt n k' v L :=
  ⟨hM, h.ref.frame hf (fun e => h.pq e.symm) (fun j hj e => tape_row h.mill.tape h.ref.nds (by rw [hj, e])), h.gi, h.q0, hk, h.len⟩
theorem GrW.tabs (h : GrW W wr p q vt n k v L) (hT : Tabd W) : TabsKeep wr q v := fun w' hs hf =>
  hT.below (h.mill.below.trans (hf.below_of (fun j hj e => by
    rcases e with e | e
    · have := h.q0; omega
    · have := (h.ref.nds.own.lt j e).1; omega) h.mill.below.size))
theorem GrW.added {w' : World} {l L' : List Nd} {v' : Value} (h : GrW W wr p q vt n k v L) (hl : L.length < 60) (hll : l.length ≤ 15) (h1 : RefR w' W.heap.size q v' L') (h2 : GI L') (h3 : L'.length ≤ L.length + l.length) (h4 : Fr (fun j => j = q ∨ v.ownBlock = some j) wr w') : GrW W w' p q vt n k v' L' :=
  ⟨h.mill.stay h4 (fun j e => by
      rcases e with e | e
      · have := h.q0; omega
      · exact (h.ref.nds.own.lt j e).1) (fun e => by
      rcases e with e | e
      · exact h.pq e
      · exact tape_row h.mill.tape h.ref.nds e), h1, h2, h.q0, h.kn, by omega⟩
end
def tapeM (p n : Nat) (wr : World) : Nat := n - (intOf ((wr.cell? ⟨p, 1, none⟩).getD undef)).toNat
theorem GrW.measure {W wr : World} {p q n k : Nat} {vt v : Value} {L : List Nd} (h : GrW W wr p q vt n k v L) : tapeM p n wr = n - k := by
  unfold tapeM
  rw [h.mill.tape.cells.2]
  simp [intOf]
def GraphP (W : World) (e : Ending) (w' : World) : Prop := ∃ q v L, e = .returned (ptr q) ∧ RefR w' W.heap.size q v L ∧ GI L ∧ L.length ≤ 100 ∧ W.heap.size ≤ q ∧ Below W.heap.size W w'
/-- A list of n numbers lies in a world. -/
def NumsR (W : World) (v : Value) (n : Nat) : Prop := n ≤ 1000 ∧ ∃ a c, v = .slice a n c ∧ ∀ j, j < n → ∃ b x, a = some b ∧ -9223372036854775808 ≤ x ∧ W.cell? (b.add j) = some (.int .i64 x)
theorem NumsR.listB {W : World} {v : Value} {n p : Nat} (h : NumsR W v n) (hp : W.heap.size ≤ p) : ListB W p v n := by
  obtain ⟨h1, a, c, rfl, h2⟩ := h
  refine ⟨h1, a, c, rfl, fun j hj => ?_⟩
  obtain ⟨b, x, rfl, hx, hc⟩ := h2 j hj
  refine ⟨b, x, rfl, fun e => ?_, hx, hc⟩
  have := World.block_lt_of_cell? W _ hc
  rw [add_block] at this
  omega
set_option maxRecDepth 100000 in
set_option maxHeartbeats 8000000 in
theorem graph_calls {W : World} {v : Value} {n : Nat} (hv : NumsR W v n) (hT : Tabd W) : Calls Tryz.prog 6 #[v] W (GraphP W) := by
  have HV := Lib.hid (And.intro hv hT)
  obtain ⟨_, a, c, rfl, _⟩ := hv
  clear hT
  go_enter Tryz.func6, Tryz.ntmps6
  go_wp2_with fail
  refine (new_calls rfl).mono ?_
  rintro e w1 ⟨rfl, ht, hf1⟩
  have hM1 : Mill W w1 W.heap.size (.slice a n c) n 0 := ⟨ht, HV.out.1.listB (Nat.le_refl _), Nat.le_refl _, hf1.below⟩
  have HM1 := Lib.hid hM1
  have hs1 := hf1.size
  clear ht hf1 hM1
  go_wp2_with fail
  have hG : GrW W (w1.alloc (.cells #[.slice none 0 0] 31)) W.heap.size w1.heap.size (.slice a n c) n 0 (.slice none 0 0) [] :=
    ⟨HM1.out.stay ((Fr.refl (fun _ => False) w1).alloc _) (fun _ e => e.elim) (fun e => e), ⟨by show (w1.heap.push _)[w1.heap.size]? = _; simp, ⟨World.ownsRow_nil _ _ _ _⟩⟩, gi_nil, hs1, by omega, by simp⟩
  obtain ⟨p, hp⟩ : ∃ p, W.heap.size = p := ⟨_, rfl⟩
  obtain ⟨q, hq⟩ : ∃ q, w1.heap.size = q := ⟨_, rfl⟩
  have HG := Lib.hid (by have R := hG; rw [hq] at R; exact (show GrW W _ p q _ n 0 _ [] by rw [← hp]; exact R))
  rw [hq, hp]
  generalize w1.alloc (.cells #[.slice none 0 0] 31) = w2 at HG ⊢
  clear hG hq hp hs1
  go_loopw [] (fun wr => ∃ k v' L', GrW W wr p q (.slice a n c) n k v' L') (fun wr => tapeM p n wr)
  case atStart => exact ⟨0, _, [], HG.out⟩
  case round =>
    obtain ⟨k, v', L', hG⟩ := hrel
    obtain ⟨ga, gc, rfl⟩ := hG.ref.nds.slice
    obtain ⟨m, hm⟩ : ∃ m, L'.length = m := ⟨_, rfl⟩
    have HM := Lib.hid hm
    have HGk := Lib.hid hG
    have hm100 : m ≤ 100 := by rw [← hm]; exact hG.len
    clear hm hG HG
    go_wp2_with fail
    refine HGk.out.mill.more.mono ?_
    rintro e w3 ⟨rfl, hM3, hF3⟩
    have HG3 := Lib.hid (HGk.out.turn hM3 (hF3.mono (fun _ _ e => e.elim)) HGk.out.kn)
    clear hM3 hF3
    have c0 := cell_of_blk HG3.out.ref.blk 0
    simp only [List.getElem?_toArray, List.getElem?_cons_zero] at c0
    rw [HM.out] at c0
    have hq3 : q < w3.heap.size := World.block_lt_of_cell? w3 _ c0
    by_cases hk : k < n
    · rw [decide_eq_true hk]
      have HK := Lib.hid hk
      clear hk
      by_cases hm6 : m < 60
      · have HM6 := Lib.hid hm6
        go_wp2_with fail
        refine (HG3.out.mill.range 1 4 (by omega) (by omega) (by omega)).mono ?_
        rintro e w4 ⟨r, k4, rfl, r1, r4, a0, a1, a2, hM4, hF4⟩
        have HG4 := Lib.hid (And.intro (HG3.out.turn hM4 hF4 (a2 HG3.out.kn)) (a1 HK.out))
        clear hM4 hF4 a0 a1 a2 c0 hq3 hm6
        go_wp2_with fail
        refine (HG4.out.1.mill.next 2 (by omega) (by omega)).mono ?_
        rintro e w5 ⟨s, k5, rfl, s0, s1, a0, a1, a2, hM5, hF5⟩
        have HG5 := Lib.hid (And.intro (HG4.out.1.turn hM5 hF5 (a2 HG4.out.1.kn)) a0)
        have hs : s = 0 ∨ s = 1 := by omega
        clear hM5 hF5 a0 a1 a2 s0 s1
        have HR := Lib.hid (And.intro r1 r4)
        rcases hs with rfl | rfl
        all_goals
          go_wp2_with fail
          refine (expr_calls HG5.out.1.mill HR.out.1 HR.out.2 _).mono ?_
          rintro e w6 ⟨lv, l, k6, rfl, hP⟩
          have hf6 : Fr (· = p) w5 w6 := hP.fr.mono (fun _ _ e => e.elim id (fun e => by simp [Value.ownBlock] at e))
          have HG6 := Lib.hid (And.intro (HG5.out.1.turn hP.mill hf6 (hP.k2 HG5.out.1.kn)) hP.k0)
          have HP := Lib.hid hP
          have hll : l.length ≤ 15 := by have := hP.len; omega
          have HLL := Lib.hid hll
          have hsep : Apart w6 q (.slice ga L'.length gc) lv := by
            have hlv : ∀ j, lv.ownBlock = some j → w5.heap.size ≤ j := fun j e => (hP.own j e).elim (fun e => by simp [Value.ownBlock] at e) id
            have hq5 : q < w5.heap.size := (Array.getElem?_eq_some_iff.1 HG5.out.1.ref.blk).1
            refine ⟨fun e => by have := hlv q e; omega, fun j e e' => ?_, fun j e => (hP.row.own.lt j e).2⟩
            have := (HG5.out.1.ref.nds.own.lt j e').2
            have := hlv j e
            omega
          have HSEP := Lib.hid hsep
          have hrow : NdsR w6 W.heap.size lv l := by have := hP.row; simpa using this
          have HROW := Lib.hid hrow
          have hmn : ∀ i, i < l.length → MNd (l.getD i nd0) := fun i hi => by
            rw [List.getD_eq_getElem?_getD, List.getElem?_eq_getElem hi]
            exact hP.nds _ (List.getElem_mem hi)
          have HMN := Lib.hid hmn
          clear hP hf6 hll hsep hrow hmn
          go_wp2_with fail
          refine (refAdd_calls HG6.out.1.ref HG6.out.1.mill.below.size HG6.out.1.gi HROW.out HMN.out (by have := HLL.out; omega) (by have := HM.out; have := HM6.out; omega) HSEP.out (HG6.out.1.tabs HV.out.2) (HV.out.2.below HG6.out.1.mill.below)).mono ?_
          rintro e w7 ⟨v7, L7, id, z, rfl, h1, h2, h3, h4, h5⟩
          have HG7 := Lib.hid (HG6.out.1.added (by rw [HM.out]; exact HM6.out) HLL.out h1 h2 h3 h4)
          clear h1 h2 h3 h4 h5
          go_wp2_with fail
          go_roundw
          case rel => exact ⟨k6, v7, L7, HG7.out⟩
          case measure => rw [HG7.out.measure, HGk.out.measure]; have := HK.out; have := HG4.out.2; have := HG5.out.2; have := HG6.out.2; have := HG7.out.kn; omega
      · go_wp2_with fail
        go_ret
        exact ⟨q, _, L', rfl, HG3.out.ref, HG3.out.gi, HG3.out.len, HG3.out.q0, HG3.out.mill.below⟩
    · rw [decide_eq_false hk]
      go_wp2_with fail
      go_ret
      exact ⟨q, _, L', rfl, HG3.out.ref, HG3.out.gi, HG3.out.len, HG3.out.q0, HG3.out.mill.below⟩
end Go.Proofs.YtfdaghhplijpeaaGreatDoor
/-
  Walks of slices.IndexFunc and slices.ContainsFunc at the graph's test of operands: none is out of range.
-/
namespace Go.Proofs.YtfdaghhplijpeaaGreatDoor
open Go Go.RowKit

/-- The test's memory: block bx holds the pointer to the graph in block p, whose list has m nodes. -/
structure BoxG (w : World) (bx p m : Nat) : Prop where
  box : w.cell? ⟨bx, 0, none⟩ = some (.pointer (some ⟨p, 0, none⟩))
  lst : ∃ a c, w.cell? ⟨p, 0, none⟩ = some (.slice a m c)
theorem BoxG.below {w w' : World} {bx p m : Nat} (h : BoxG w bx p m) (hf : Fr (fun _ => False) w w') : BoxG w' bx p m := by
  obtain ⟨a, c, e⟩ := h.lst
  exact ⟨hf.cell h.box (fun e => e), a, c, hf.cell e (fun e => e)⟩
set_option maxHeartbeats 1000000 in
theorem inRange_calls {w : World} {bx p m : Nat} (hb : BoxG w bx p m) {z : Int} (h0 : 0 ≤ z) (h1 : z < (m : Int)) (_hm : m ≤ 10000) :
    Calls Tryz.prog 105 #[.int .i64 z, .pointer (some ⟨bx, 0, none⟩)] w fun e w' => e = .returned (.bool false) ∧ Fr (fun _ => False) w w' := by
  have hbx := hb.box
  obtain ⟨la, lc, hls⟩ := hb.lst
  have hbl : bx < w.heap.size := World.block_lt_of_cell? w _ hbx
  have hpl : p < w.heap.size := World.block_lt_of_cell? w _ hls
  clear hb
  go_enter Tryz.func105, Tryz.ntmps105
  go_wp2_with fail
  go_ret
  exact ⟨by simp; omega, Fr.refl _ _⟩
set_option maxRecDepth 100000 in
set_option maxHeartbeats 4000000 in
theorem indexFunc_calls {w : World} {B bx p m : Nat} {v : Value} {zs : List Int} (h : w.ownsRow B 3 1 v zs.length (ints zs)) (hb : BoxG w bx p m) (hz : ∀ z ∈ zs, 0 ≤ z ∧ z < (m : Int)) (hm : m ≤ 10000) (hn : zs.length ≤ 2) :
    Calls Tryz.prog 139 #[v, .func (.func 105) #[] #[.pointer (some ⟨bx, 0, none⟩)]] w fun e w' => e = .returned (.int .i64 (-1)) ∧ Fr (fun _ => False) w w' := by
  have HX := Lib.hid (And.intro h (And.intro hb (And.intro hz hm)))
  obtain ⟨a, c, rfl⟩ := row_slice h
  obtain ⟨n, hn0⟩ : ∃ n, zs.length = n := ⟨_, rfl⟩
  have HN := Lib.hid hn0
  rw [hn0] at hn ⊢
  clear h hb hz hn0
  go_enter Tryz.func139, Tryz.ntmps139
  go_wp2_with fail
  go_loopw [8] (fun iv wr => Fr (fun _ => False) w wr ∧ ∃ k : Nat, k ≤ n ∧ iv = .int .i64 (k : Int)) (fun iv _ => n - (intOf iv).toNat)
  case atStart => exact ⟨Fr.refl _ _, 0, by omega, rfl⟩
  case round =>
    obtain ⟨hF, k, hk, rfl⟩ := hrel
    have HF := Lib.hid hF
    by_cases hkn : k < n
    · obtain ⟨a4, c4, e4, hcell4⟩ := row_cells (own_frame HX.out.1 hF (fun _ _ e => e))
      obtain ⟨g4, e5, hc4⟩ := hcell4 k (by rw [HN.out]; exact hkn)
      cases e4
      subst e5
      have hzk := HX.out.2.2.1 _ (getD_mem (l := zs) (by rw [HN.out]; exact hkn))
      obtain ⟨z, hz'⟩ : ∃ z, zs.getD k 0 = z := ⟨_, rfl⟩
      rw [hz'] at hc4 hzk
      obtain ⟨hz0, hz1⟩ := hzk
      have HB := Lib.hid (And.intro (HX.out.2.1.below hF) (And.intro hz0 hz1))
      have hk0 : (0 : Int) ≤ (k : Int) := by omega
      have hk1 : (k : Int) < (n : Int) := by omega
      clear hF hcell4 hz' hz0 hz1
      go_wp2_with fail
      refine (inRange_calls HB.out.1 HB.out.2.1 HB.out.2.2 HX.out.2.2.2).mono ?_
      rintro e w2 ⟨rfl, hf2⟩
      have HF2 := Lib.hid (HF.out.trans hf2 (fun _ _ e => e))
      clear hf2
      go_wp2_with fail
      go_roundw
      case rel => exact ⟨HF2.out, k + 1, by omega, by go_num⟩
      case measure => simp [intOf]; omega
    · have hke : k = n := by omega
      subst hke
      clear hF hk hkn
      go_wp2_with fail
      go_ret
      exact ⟨rfl, HF.out⟩
set_option maxHeartbeats 1000000 in
theorem containsFunc_calls {w : World} {B bx p m : Nat} {v : Value} {zs : List Int} (h : w.ownsRow B 3 1 v zs.length (ints zs)) (hb : BoxG w bx p m) (hz : ∀ z ∈ zs, 0 ≤ z ∧ z < (m : Int)) (hm : m ≤ 10000) (hn : zs.length ≤ 2) :
    Calls Tryz.prog 104 #[v, .func (.func 105) #[] #[.pointer (some ⟨bx, 0, none⟩)]] w fun e w' => e = .returned (.bool false) ∧ Fr (fun _ => False) w w' := by
  have HC := Lib.hid (indexFunc_calls h hb hz hm hn)
  obtain ⟨a, c, rfl⟩ := row_slice h
  clear h hb hz hm hn
  go_enter Tryz.func104, Tryz.ntmps104
  go_wp2_with fail
  refine HC.out.mono ?_
  rintro e w1 ⟨rfl, hf⟩
  have HF := Lib.hid hf
  clear hf
  go_wp2_with fail
  go_ret
  exact ⟨rfl, HF.out⟩
end Go.Proofs.YtfdaghhplijpeaaGreatDoor
