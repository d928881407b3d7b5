/-
  The walk of Undo of the reference.
-/
import Derived.Test.YtalmfmijjbpnpaaLoZe
import Derived.Deep.CutRange
import Derived.Deep.QuietTactic
import Derived.BigQuiet
namespace Go.Proofs.Ytalmfmijjbpnpaa
open Go.RowKit

section
variable {w : World} {t : Nat} {H : Hist} {m : View}

/-- A branch lies in a box of its own. -/
def Box (w : World) (H : Hist) (ra : Option Addr) (rc : Nat) (B : Nat) (w' : World) : Prop :=
  w.heap.size ≤ B ∧ Below w.heap.size w w' ∧ w'.heap[B]? = some (.cells #[.string H.cur, .int .i64 (hdN H), .slice ra (curLn H).rd.length rc] 65 (0, 0))

theorem box_new {ra : Option Addr} {rc : Nat} {w1 : World} (hb : Below w.heap.size w w1) : Box w H ra rc w1.heap.size (w1.alloc (.cells #[.string H.cur, .int .i64 (hdN H), .slice ra (curLn H).rd.length rc] 65)) :=
  ⟨hb.size, hb.alloc hb.size _, heap_alloc_new w1 _⟩
theorem box_set {ra : Option Addr} {rc : Nat} {w1 : World} {B : Nat} {a b c : Value} (hB : w.heap.size ≤ B) (hb : Below w.heap.size w w1) (h : w1.heap[B]? = some (.cells #[a, b, c] 65 (0, 0))) :
    Box w H ra rc B (((w1.setCell ⟨B, 0, none⟩ (.string H.cur)).setCell ⟨B, 1, none⟩ (.int .i64 (hdN H))).setCell ⟨B, 2, none⟩ (.slice ra (curLn H).rd.length rc)) :=
  ⟨hB, ((hb.setCell hB _).setCell hB _).setCell hB _, blk_setCell (blk_setCell (blk_setCell h 0 _) 1 _) 2 _⟩

theorem refSet77' (h : Rep w 56 t H m) (hb2 : H.bs.length ≤ 1000) (hcur : hasN H.cur (bnames H) = true) (hd : Int) {rd : List Int} {a : Option Addr} {rc n : Nat} (hn : rd.length = n)
    (hrv : w.ownsRow 0 3 1 (.slice a n rc) n (intCells rd)) (hfr : ∀ k, (Value.slice a n rc).ownBlock = some k → ¬ m.owns t k) :
    Calls Try.prog 77 #[.pointer (some ⟨t, 0, none⟩), .int .i64 hd, .slice a n rc] w (SetP w t H m hd rd (.slice a n rc)) := by
  subst hn
  exact refSet77 h hb2 hcur hd hrv hfr

/-- An empty row of one's own, in a block that is known. -/
theorem own_lit0 {w : World} {base b : Nat} {e : TypeId} {sz : Nat} (h : w.heap[b]? = some (.cells #[] e (0, 0))) (hb : base ≤ b) : w.ownsRow base e sz (.slice (some ⟨b, 0, none⟩) 0 0) 0 [] :=
  ⟨by simp, .inr ⟨b, 0, #[], rfl, hb, h, Nat.le_refl _, by unfold maxLen; omega, by simp, by simp⟩⟩
theorem own_lit0a {w : World} {base : Nat} {e : TypeId} {sz : Nat} (hb : base ≤ w.heap.size) : (w.alloc (.cells #[] e)).ownsRow base e sz (.slice (some ⟨w.heap.size, 0, none⟩) 0 0) 0 [] :=
  own_lit0 (heap_alloc_new w _) hb
theorem own_lit0b {w : World} {o : Obj} {base : Nat} {e : TypeId} {sz : Nat} (hb : base ≤ w.heap.size) : ((w.alloc (.cells #[] e)).alloc o).ownsRow base e sz (.slice (some ⟨w.heap.size, 0, none⟩) 0 0) 0 [] :=
  (own_lit0a hb).alloc _
theorem heap_alloc_new2 (w : World) (o o' : Obj) : ((w.alloc o).alloc o').heap[w.heap.size + 1]? = some o' := by
  have := heap_alloc_new (w.alloc o) o'
  rwa [show (w.alloc o).heap.size = w.heap.size + 1 by simp] at this
theorem heap_alloc_old (w : World) (o o' : Obj) : ((w.alloc o).alloc o').heap[w.heap.size]? = some o := by
  rw [Below.heap_alloc _ _ _ (by simp)]
  exact heap_alloc_new w o
theorem own_lit0c {w : World} {o : Obj} {base : Nat} {e : TypeId} {sz : Nat} (hb : base ≤ w.heap.size) : ((w.alloc o).alloc (.cells #[] e)).ownsRow base e sz (.slice (some ⟨w.heap.size + 1, 0, none⟩) 0 0) 0 [] :=
  own_lit0 (heap_alloc_new2 w _ _) (by omega)
theorem ne_up (g n c : Nat) : ¬ (Value.slice (some ⟨g, 0, none⟩) n c).ownBlock = some (g + 1) := by
  intro h
  simp [Value.ownBlock] at h
theorem ne_dn (g n c : Nat) : ¬ (Value.slice (some ⟨g + 1, 0, none⟩) n c).ownBlock = some g := by
  intro h
  simp [Value.ownBlock] at h
theorem below_drewN {B : Nat} {w w' : World} (h : Below B w w') (n : Nat) : Below B w (w'.drewN n) := ⟨h.os, h.tape, h.output, h.size, h.block⟩
theorem below_fr {B : Nat} {w w' w'' : World} {v : Value} (h : Below B w w') (hf : Fr (fun k => v.ownBlock = some k) w' w'') (hv : ∀ k, v.ownBlock = some k → B ≤ k) (hB : B ≤ w.heap.size) : Below B w w'' :=
  h.trans (hf.below_of (fun k hk hS => by have := hv k hS; omega) (Nat.le_trans hB h.size))

theorem below_alloc1 {B : Nat} {w w' : World} {o : Obj} (h : Below B w w') (hB : B ≤ w.heap.size) : Below B w (w'.alloc o) := h.alloc (Nat.le_trans hB h.size) o
theorem below_alloc2 {B : Nat} {w w' : World} {o o' : Obj} (h : Below B w w') (hB : B ≤ w.heap.size) : Below B w ((w'.alloc o).alloc o') := below_alloc1 (below_alloc1 h hB) hB
theorem intCells_snoc (l : List Int) (x : Int) : intCells (l ++ [x]) = intCells l ++ [.int .i64 x] := by simp [intCells]

/-- append of any row onto a row of one's own, a step of a region that draws its order; what became of the world. -/
theorem step_app2 {P : Program} {w0 w : World} {ops : Array Oper} {o : Oper} {a : Act} {K : Act → World → Prop} {Q : Exit → Act → World → Prop} {E : Prop} (hgd : o.guard = none) (s x : Operand) (t : TypeId)
    (ho : o.op = .call { callee := .builtin .append, args := #[s, x], argTypes := #[t, t] })
    (base : Nat) (e : TypeId) (i : TypeInfo) (z : Value) (size bytes : Nat) (ht : P.underlying t = some (.slice e)) (hi : P.info? e = some i) (hz : i.zero = some z)
    (hsize : i.size = size) (hby : i.bytes = bytes) (hzs : z.cells.size = size) (hsz : 0 < size)
    (v : Value) (n : Nat) (xs : List Value) (hs : a.eval s = v) (hown : w.ownsRow base e size v n xs)
    (u : Value) (m : Nat) (news : List Value) (hx : a.eval x = u) (hsl : SlAt w u m size news) (h1 : ∀ u ∈ news, u.oneCell' = true)
    (h63 : n + m ≤ maxLen) (hbytes : (n + m) * bytes ≤ 140737488355328) (hbase : base ≤ w0.heap.size) (hb : Below base w0 w) {r : Nat} {ys : List Value} (hr : n + m = r) (hy : xs ++ news = ys)
    (h : ∀ a' c' w', w'.ownsRow base e size (.slice a' r c') r ys → Below base w0 w' → (∀ k o, w.heap[k]? = some o → ¬ v.ownBlock = some k → w'.heap[k]? = some o) → K (a.put o.dst (.slice a' r c')) w') :
    if Region.wanted o (yielded ops a.tmps) = true then Oper.wp P o a w K Q else E := by
  subst hr hy
  exact step_app hgd s x t ho base e i z size bytes ht hi hz hsize hby hzs hsz v n xs hs hown u m news hx hsl h1 h63 hbytes (Nat.le_trans hbase hb.size) fun a' c' w' h2 h3 =>
    h a' c' w' h2 (below_fr hb h3 (fun k hk => own_ge hown hk) hbase) (fun k ob hk hn => (h3.block k (Array.getElem?_eq_some_iff.1 hk).1 hn).trans hk)

set_option maxRecDepth 100000 in
set_option maxHeartbeats 2000000 in
theorem refUndo45 (h : Rep w 56 t H m) (hw : WF H) :
    Calls Try.prog 45 #[.pointer (some ⟨t, 0, none⟩)] w (Mut (.int .i64 (cUndo H)) (mUndo H) 56 t m w) := by
  obtain ⟨g, cap, rv, hbv, hlen, hcap, hml, k0, k1, k2, hg, hgt, hrow⟩ := cur_mem h hw
  rw [(hd_eq hw).1] at k1
  obtain ⟨gv, capv, hvv, hcv1, hcv2, hgv, hgvt, hver⟩ := ver_mem h hw
  have hcv := (hver (hdN H) (hd_eq hw).2).1
  rw [show (H.vs.getD (hdN H) default).par = parOf H from rfl] at hcv
  obtain ⟨ra, rg, rc, rfl, hra, hrg, hrc1, hrc2, hrcell⟩ := own_addr hrow
  have hci : ci H < m.ml.length := (List.getElem?_eq_some_iff.1 hml).1
  have hl1 : (ci H : Int) < m.ml.length := by omega
  have hl0 : (0 : Int) ≤ ci H := by omega
  have hv1 : (hdN H : Int) < H.vs.length := by have := (hd_eq hw).2; omega
  have hv0 : (0 : Int) ≤ hdN H := by omega
  have c1 : w.cell? ⟨t, 1, none⟩ = some (.slice (some ⟨g, 0, none⟩) m.ml.length cap) := by rw [cell_of_blk h.blk, ← hbv]; rfl
  have c0 : w.cell? ⟨t, 0, none⟩ = some (.slice (some ⟨gv, 0, none⟩) H.vs.length capv) := by rw [cell_of_blk h.blk, ← hvv]; rfl
  have ht : t < w.heap.size := h.lt (.inl rfl)
  have HR := Lib.hid h
  have HW := Lib.hid hw
  have HROW := Lib.hid hrow
  have hL := Lib.hid (fun w' (hb : Below w.heap.size w w') => refLine78 (h.below hb) (by have := hw.b2; omega))
  have hS : ∀ w', Below w.heap.size w w' → w'.cell? ⟨t, 1, none⟩ = some (.slice (some ⟨g, 0, none⟩) m.ml.length cap) ∧ w'.cell? ⟨g, ci H * 3, none⟩ = some (.string H.cur) ∧ w'.cell? ⟨g, ci H * 3 + 1, none⟩ = some (.int .i64 (hdN H)) ∧ w'.cell? ⟨g, ci H * 3 + 2, none⟩ = some (.slice ra (curLn H).rd.length rc) ∧ Below w.heap.size w w' :=
    fun w' hb => ⟨(hb.cell (p := ⟨t, 1, none⟩) ht).trans c1, (hb.cell (p := ⟨g, _, none⟩) hg).trans k0, (hb.cell (p := ⟨g, _, none⟩) hg).trans k1, (hb.cell (p := ⟨g, _, none⟩) hg).trans k2, hb⟩
  have HS := Lib.hid hS
  clear hml hbv hrow h hw hlen hvv hver hra hrcell hrg hS
  go_enter Try.func45, Try.ntmps45
  go_upto_region 1 with fail
  go_cut [3] from 5 to 36 (fun s wx => ∃ B, s = .pointer (some ⟨B, 0, none⟩) ∧ Box w H ra rc B wx)
  case first =>
    go_region_held3 (fun w' => w'.cell? ⟨t, 1, none⟩ = some (.slice (some ⟨g, 0, none⟩) m.ml.length cap) ∧ w'.cell? ⟨g, ci H * 3, none⟩ = some (.string H.cur) ∧ w'.cell? ⟨g, ci H * 3 + 1, none⟩ = some (.int .i64 (hdN H)) ∧ w'.cell? ⟨g, ci H * 3 + 2, none⟩ = some (.slice ra (curLn H).rd.length rc) ∧ Below w.heap.size w w')
      ((refine HS.out _ ?_; first | exact hbb | exact hbb.alloc hbb.size _ | exact ((hbb.setCell (Nat.le_refl _) _).setCell (Nat.le_refl _) _).setCell (Nat.le_refl _) _ | exact (Below.refl _ _).drew | exact ((Below.refl _ _).alloc (Nat.le_refl _) _).drew))
      ((go_at_call 78; rename_i hq _ _; refine (hL.out _ hq.2.2.2.2).mono ?_; rintro e w1 ⟨rfl, hb1⟩; have hbb : Below w.heap.size w w1 := hq.2.2.2.2.trans (hb1.mono hq.2.2.2.2.size); clear hq; (first | (have hbx : w1.heap[w.heap.size]? = some (.cells #[.string { data := #[] }, .int .i64 0, .slice none 0 0] 65 (0, 0)) := (hb1.block w.heap.size (by simp)).trans (heap_alloc_new w _); have x0 : w1.cell? ⟨w.heap.size, 0, none⟩ = some (.string { data := #[] }) := (cell_of_blk hbx 0).trans rfl; have x1 : w1.cell? ⟨w.heap.size, 1, none⟩ = some (.int .i64 0) := (cell_of_blk hbx 1).trans rfl; have x2 : w1.cell? ⟨w.heap.size, 2, none⟩ = some (.slice none 0 0) := (cell_of_blk hbx 2).trans rfl; have y0 := frozen_of_blk hbx 0; have y1 := frozen_of_blk hbx 1; have y2 := frozen_of_blk hbx 2; have HBX := Lib.hid hbx; clear hbx) | skip); clear hb1))
    all_goals
      go_wp2_with fail
      go_meet
      case rel =>
        first
          | exact ⟨_, rfl, box_new hbb⟩
          | exact ⟨_, rfl, box_set (Nat.le_refl _) hbb HBX.out⟩
  case rest =>
    obtain ⟨B, rfl, hB0, hbb, hblk⟩ := hcut
    have b0 := (cell_of_blk hblk 0).trans (by rfl : _ = some (Value.string H.cur))
    have b1 := (cell_of_blk hblk 1).trans (by rfl : _ = some (Value.int .i64 (hdN H)))
    have b2 := (cell_of_blk hblk 2).trans (by rfl : _ = some (Value.slice ra (curLn H).rd.length rc))
    have d0 : wc.cell? ⟨t, 0, none⟩ = some (.slice (some ⟨gv, 0, none⟩) H.vs.length capv) := (hbb.cell (p := ⟨t, 0, none⟩) ht).trans c0
    have dv : wc.cell? ⟨gv, hdN H * 2, none⟩ = some (.int .i64 (parOf H)) := (hbb.cell (p := ⟨gv, _, none⟩) hgv).trans hcv
    have HBB := Lib.hid hbb
    have HBK := Lib.hid hblk
    have HB0 := Lib.hid hB0
    clear hbb hblk hB0 k0 k1 k2 c1 c0 hcv HS hL hl1 hl0
    by_cases hz : hdN H = 0
    · have hp : parOf H = -1 := by unfold parOf; rw [hz]; exact HW.out.par0
      have E1 := Lib.hid (⟨if_pos hz, if_pos hz⟩ : cUndo H = 15 ∧ mUndo H = H)
      rw [hp] at dv
      clear hp hz
      go_upto_region 2 with fail
      go_quiet (fail)
      go_wp2_with fail
      go_ret
      rw [E1.out.1, E1.out.2]
      exact Mut.none HR.out (below_drewN HBB.out nq)
    · have hp0 : 0 ≤ parOf H := (HW.out.par (hdN H) (by omega) (by omega)).1
      have E1 := Lib.hid (if_neg hz : cUndo H = 0)
      have HZ := Lib.hid hz
      have hBt : B ≠ t := by have := HB0.out; omega
      have hHS : ∀ w', Fr (fun k => k = t) wc w' → w'.cell? ⟨B, 1, none⟩ = some (.int .i64 (hdN H)) ∧ w'.cell? ⟨B, 2, none⟩ = some (.slice ra (curLn H).rd.length rc) ∧ Fr (fun k => k = t) wc w' := fun w' hb =>
        ⟨hb.cell b1 hBt, hb.cell b2 hBt, hb⟩
      have hRows := own_frame HROW.out (Fr.of_below (S := fun _ => False) HBB.out) (fun _ _ e => e)
      have HSL := Lib.hid (fun w' (hb : Below wc.heap.size wc w') => (own_slAt hRows).below hb)
      have HS := Lib.hid hHS
      have hrl : (curLn H).rd.length ≤ 1000 := rd_len HW.out (ci_lt HW.out).2.2
      obtain ⟨i0, hi0, hz0, hz1, hz2⟩ := info_parts info3
      have hp0' : ¬ parOf H < 0 := by omega
      clear hHS hRows hz hp0
      go_upto_region 2 with fail
      go_quiet (fail)
      go_upto_region 5 with fail
      obtain ⟨wd, hwd⟩ : ∃ wd, wd = wc.drewN nq := ⟨_, rfl⟩
      rw [← hwd]
      have hd0 : Below wc.heap.size wc wd := by rw [hwd]; exact below_drewN (Below.refl _ _) nq
      clear hwd
      go_cut [] from 24 to 36 (fun wx => ∃ wy a c, Below wc.heap.size wc wy ∧ (∀ k, (Value.slice a ((curLn H).rd.length + 1) c).ownBlock = some k → wc.heap.size ≤ k) ∧ SetP wy t H m (parOf H) ((curLn H).rd ++ [(hdN H : Int)]) (.slice a ((curLn H).rd.length + 1) c) (.returned (.tuple #[])) wx)
      case first =>
        go_region_held3 (fun w' => w'.cell? ⟨B, 1, none⟩ = some (.int .i64 (hdN H)) ∧ w'.cell? ⟨B, 2, none⟩ = some (.slice ra (curLn H).rd.length rc) ∧ Fr (fun k => k = t) wc w')
          ((refine HS.out _ ?_; first | exact hA3 | exact Fr.of_below hA2 | exact Fr.of_below hA1 | exact Fr.of_below hd0.drew | (rename_i hq _ _; exact hq.2.2.alloc _)))
          (first
            | (refine step_app2 rfl (.tmp 28) (.tmp 30) 22 rfl wc.heap.size 3 i0 _ 1 8 Try.underlying22 hi0 hz0 hz1 hz2 rfl (by decide) _ 0 [] rfl (by first | exact own_lit0a hd0.size | exact own_lit0b hd0.size | exact own_lit0c hd0.size) _ _ _ rfl (HSL.out _ (by first | exact (below_alloc1 hd0 (Nat.le_refl _)).drew | exact (below_alloc2 hd0 (Nat.le_refl _)).drew)) (one_int _) (by unfold maxLen; omega) (by omega) (Nat.le_refl _) (by first | exact (below_alloc1 hd0 (Nat.le_refl _)).drew | exact (below_alloc2 hd0 (Nat.le_refl _)).drew) (Nat.zero_add _) (List.nil_append _) (fun a1 c1 w1 ho1 hA1 hk1 => ?_); (first | (have hX := hk1 _ _ (heap_alloc_new2 _ _ _) (ne_up _ _ _)) | (have hX := hk1 _ _ (heap_alloc_old _ _ _) (ne_dn _ _ _)) | skip); clear hk1)
            | (refine step_app2 rfl (.tmp 31) (.tmp 34) 22 rfl wc.heap.size 3 i0 _ 1 8 Try.underlying22 hi0 hz0 hz1 hz2 rfl (by decide) _ _ _ rfl (by first | exact ho1 | exact ho1.alloc _) _ 1 [.int .i64 (hdN H)] rfl (by first | exact sl_block hX rfl (by decide) | exact sl_block (heap_alloc_new _ _) rfl (by decide)) (by intro u hu; simp at hu; rw [hu]; rfl) (by unfold maxLen; omega) (by omega) (Nat.le_refl _) (by first | exact hA1 | exact below_alloc1 hA1 (Nat.le_refl _)) rfl (intCells_snoc _ _).symm (fun a2 c2 w2 ho2 hA2 hk2 => ?_); clear hk2)
            | (go_at_call 77; refine (refSet77' (HR.out.below (HBB.out.trans (hA2.mono HBB.out.size))) (by have := HW.out.b2; omega) HW.out.cur (parOf H) (rd := (curLn H).rd ++ [(hdN H : Int)]) (by simp) (ownsRow_mono ho2 (Nat.zero_le _)) (fun k hk ho => by have := own_ge ho2 hk; have := HR.out.lt ho; have := HBB.out.size; omega)).mono ?_; rintro e w3 h3; have hA3 : Fr (fun k => k = t) wc w3 := (Fr.of_below hA2).trans h3.2.choose_spec.2.1 (fun _ _ e => e); obtain ⟨rfl, h3'⟩ := id h3; have H3 := Lib.hid h3; clear h3 h3'))
        all_goals
          go_wp2_with fail
          go_meet
          case rel => exact ⟨w2, a2, c2, hA2, fun k hk => own_ge ho2 hk, H3.out⟩
      case rest =>
        obtain ⟨wy, a, c, hy1, hy2, hy3⟩ := hcut
        have H3 := Lib.hid hy3
        have HY := Lib.hid (HBB.out.trans (hy1.mono HBB.out.size))
        have HY2 := Lib.hid hy2
        clear hy1 hy2 hy3
        go_wp2_with fail
        go_ret
        rw [show cUndo H = 0 from E1.out, show mUndo H = setCur H ⟨H.cur, parOf H, (curLn H).rd ++ [(hdN H : Int)]⟩ from if_neg HZ.out]
        exact Mut.ofSet (Fr.of_below HY.out) (fun k hk => .inl hk) (fun k hk => by have := HY2.out k hk; have := HBB.out.size; omega) H3.out

end

end Go.Proofs.Ytalmfmijjbpnpaa
