/-
  Walks of Commit.
-/
import Derived.Test.YtalmfmijjbpnpaaLoG
import Derived.Deep.AppendLies
import Derived.Deep.RegionLaw
import Derived.BigRegion
import Derived.RegionTactic
import Derived.ChangeAlike
namespace Go.Proofs.Ytalmfmijjbpnpaa
open Go.RowKit

theorem info40 : (Try.prog.info? 40).map (fun i => (i.zero, i.size, i.bytes)) = some (some (.agg #[.int .i64 0, .int .i64 0]), 2, 16) := by kernel_rfl
theorem info65 : (Try.prog.info? 65).map (fun i => (i.zero, i.size, i.bytes)) = some (some (.agg #[.string ByteArray.empty, .int .i64 0, .slice none 0 0]), 3, 48) := by kernel_rfl
theorem info78 : (Try.prog.info? 78).map (fun i => (i.zero, i.size, i.bytes)) = some (some (.agg #[.string ByteArray.empty, .int .i64 0]), 2, 24) := by kernel_rfl
theorem info3 : (Try.prog.info? 3).map (fun i => (i.zero, i.size, i.bytes)) = some (some (.int .i64 0), 1, 8) := by kernel_rfl

section
variable {ops : Array Oper} {o : Oper} {a : Act} {w : World} {K : Act → World → Prop} {Q : Exit → Act → World → Prop} {E : Prop}
theorem fr_of_grown {w w' : World} {row : Option Nat} (hg : w.grownBy w' row) : Fr (fun k => row = some k) w w' :=
  ⟨hg.os, hg.tape, hg.output, hg.size, fun k hk hn => hg.block k hk (fun e => hn e.symm)⟩

/-- append of one version, a step of a region that draws its order. -/
theorem app_ver (hgd : o.guard = none) (s x : Operand) (ho : o.op = .call { callee := .builtin .append, args := #[s, x], argTypes := #[33, 33] })
    (v : Value) (n : Nat) (xs : List Value) (hs : a.eval s = v) (hown : w.ownsRow 0 40 2 v n xs) (B : Nat) (p r : Value) (hx : a.eval x = .slice (some ⟨B, 0, none⟩) 1 1)
    (hB : w.heap[B]? = some (.cells #[p, r] 40 (0, 0))) (h1 : p.oneCell' = true ∧ r.oneCell' = true) (hn : n ≤ 100000)
    (h : ∀ g cap w', w'.ownsRow 0 40 2 (.slice (some ⟨g, 0, none⟩) (n + 1) cap) (n + 1) (xs ++ [p, r]) → Fr (fun k => v.ownBlock = some k) w w' → (v.ownBlock = some g ∨ w.heap.size ≤ g) →
      K (a.put o.dst (.slice (some ⟨g, 0, none⟩) (n + 1) cap)) w') :
    if Region.wanted o (yielded ops a.tmps) = true then Oper.wp Try.prog o a w K Q else E := by
  obtain ⟨i0, hi0, hz0, hz1, hz2⟩ := info_parts info40
  refine step_append_lies w hgd s x 33 ho 0 40 i0 _ 2 16 Try.underlying33 hi0 hz0 hz1 hz2 rfl (by omega) v n xs hs hown ⟨B, 0, none⟩ 1 1 [p, r] hx rfl (World.news_of_block (cs := #[p, r]) hB)
    (fun u hu => by simp at hu; rcases hu with rfl | rfl <;> simp [h1]) (by omega) (by unfold maxLen; omega) (by omega) (Nat.zero_le _) w.heap.size rfl ?_
  intro g cap w' h2 h3 h4 _
  exact h g cap w' h2 (fr_of_grown h3) (h4.imp id (fun e => by omega))

/-- append of one int. -/
theorem app_int (hgd : o.guard = none) (s x : Operand) (ho : o.op = .call { callee := .builtin .append, args := #[s, x], argTypes := #[22, 22] })
    (v : Value) (n : Nat) (xs : List Value) (hs : a.eval s = v) (hown : w.ownsRow 0 3 1 v n xs) (B : Nat) (p : Value) (hx : a.eval x = .slice (some ⟨B, 0, none⟩) 1 1)
    (hB : w.heap[B]? = some (.cells #[p] 3 (0, 0))) (h1 : p.oneCell' = true) (hn : n ≤ 100000)
    (h : ∀ g cap w', w'.ownsRow 0 3 1 (.slice (some ⟨g, 0, none⟩) (n + 1) cap) (n + 1) (xs ++ [p]) → Fr (fun k => v.ownBlock = some k) w w' → (v.ownBlock = some g ∨ w.heap.size ≤ g) →
      K (a.put o.dst (.slice (some ⟨g, 0, none⟩) (n + 1) cap)) w') :
    if Region.wanted o (yielded ops a.tmps) = true then Oper.wp Try.prog o a w K Q else E := by
  obtain ⟨i0, hi0, hz0, hz1, hz2⟩ := info_parts info3
  refine step_append_lies w hgd s x 22 ho 0 3 i0 _ 1 8 Try.underlying22 hi0 hz0 hz1 hz2 rfl (by omega) v n xs hs hown ⟨B, 0, none⟩ 1 1 [p] hx rfl (World.news_of_block (cs := #[p]) hB)
    (by intro u hu; simp at hu; rw [hu]; exact h1) (by omega) (by unfold maxLen; omega) (by omega) (Nat.zero_le _) w.heap.size rfl ?_
  intro g cap w' h2 h3 h4 _
  exact h g cap w' h2 (fr_of_grown h3) (h4.imp id (fun e => by omega))
end

def setCur (H : Hist) (l : Ln) : Hist := { H with bs := H.bs.set (ci H) l }

def cCommit (H : Hist) (_root : Int) : Int := if 1000 ≤ H.vs.length then 7 else 0
def mCommit (H : Hist) (root : Int) : Hist :=
  if 1000 ≤ H.vs.length then H else setCur { H with vs := H.vs ++ [⟨(curLn H).hd, root⟩] } ⟨H.cur, H.vs.length, []⟩

section
variable {w : World} {T t : Nat} {H : Hist} {m : View}

theorem verCells_snoc (l : List Ver) (p r : Int) : verCells (l ++ [⟨p, r⟩]) = verCells l ++ [.int .i64 p, .int .i64 r] := by simp [verCells]

theorem Mut.none {w' : World} {v : Value} (h : Rep w T t H m) (hb : Below w.heap.size w w') : Mut v H T t m w (.returned v) w' :=
  ⟨rfl, m, h.below hb, Fr.of_below hb, fun _ h => .inl h⟩

set_option maxRecDepth 100000 in
set_option maxHeartbeats 1000000 in
theorem commit11 (h : Rep w 67 t H m) (hw : WF H) (root : Int) :
    Calls Try.prog 11 #[.pointer (some ⟨t, 0, none⟩), .int .i64 root] w (Mut (.int .i64 (cCommit H root)) (mCommit H root) 67 t m w) := by
  obtain ⟨gv, capv, hvv, hcv1, hcv2, hgv, hgvt, _⟩ := ver_mem h hw
  obtain ⟨g, cap, rv, hbv, hlen, hcap, hml, k0, k1, k2, hg, hgt, hrow⟩ := cur_mem h hw
  rw [(hd_eq hw).1] at k1
  have c0 : w.cell? ⟨t, 0, none⟩ = some (.slice (some ⟨gv, 0, none⟩) H.vs.length capv) := by rw [cell_of_blk h.blk, ← hvv]; rfl
  have ht : t < w.heap.size := h.lt (.inl rfl)
  have hv1 := hw.v1
  have hv2 := hw.v2
  by_cases hlim : 1000 ≤ H.vs.length
  · have e1 : cCommit H root = 7 := if_pos hlim
    have e2 : mCommit H root = H := if_pos hlim
    rw [e1, e2]
    have HR := Lib.hid h
    clear e1 e2 h hvv hbv hlen hml hrow
    go_enter Try.func11, Try.ntmps11
    go_wp2_with fail
    go_ret
    exact Mut.none HR.out (Below.refl _ _)
  · have e1 : cCommit H root = 0 := if_neg hlim
    rw [e1]
    have hB := Lib.hid (current32 h hw hbv)
    have HR := Lib.hid h
    have HV := Lib.hid hvv
    have HBV := Lib.hid hbv
    have HM := Lib.hid hml
    have HO := Lib.hid hrow
    have HLE := Lib.hid hlen
    clear e1 h hvv hbv hlen hml hrow
    go_enter Try.func11, Try.ntmps11
    go_wp2_with fail
    refine hB.out.mono ?_
    rintro e w1 ⟨rfl, hb1⟩
    have HR1 := Lib.hid (HR.out.below hb1)
    have d0 : w1.cell? ⟨t, 0, none⟩ = some (.slice (some ⟨gv, 0, none⟩) H.vs.length capv) := (hb1.cell (p := ⟨t, 0, none⟩) ht).trans c0
    have d1 : w1.cell? ⟨g, ci H * 3 + 1, none⟩ = some (.int .i64 (hdN H)) := (hb1.cell (p := ⟨g, _, none⟩) hg).trans k1
    have hsz := hb1.size
    have ht1 : t < w1.heap.size := by omega
    have hg1 : g < w1.heap.size := by omega
    have hf0 : w1.frozen? ⟨t, 0, none⟩ = false := frozen_of_blk HR1.out.blk 0
    have HB1 := Lib.hid hb1
    clear hb1
    go_wp2_with fail
    have hnt : ¬ (Value.slice (some ⟨gv, 0, none⟩) H.vs.length capv).ownBlock = some t := by simpa [Value.ownBlock] using hgvt
    have hng : ¬ (Value.slice (some ⟨gv, 0, none⟩) H.vs.length capv).ownBlock = some g := by rw [← HV.out]; exact fun e => own_ne HR1.out.vs HR1.out.bs (by decide) e (by rw [HBV.out]; rfl) rfl
    have hal : ∀ o, Below w1.heap.size w1 (w1.alloc o).drew := fun o => ((Below.refl _ w1).alloc (Nat.le_refl _) o).drew
    have HAL := Lib.hid hal
    clear hal
    go_region_law (refine app_ver (by rfl) _ _ (by rfl) _ _ _ (by rfl) (((by rw [← HV.out]; exact HR1.out.vs) : w1.ownsRow 0 40 2 (Value.slice (some ⟨gv, 0, none⟩) H.vs.length capv) H.vs.length (verCells H.vs)).alloc _).drew w1.heap.size _ _ (by rfl) (heap_alloc_new w1 _) (by simp [Value.oneCell']) (by omega) ?_; intro gg capn w2 hown2 hgrow hat; have s1 : w2.cell? ⟨t, 0, none⟩ = some (.slice (some ⟨gv, 0, none⟩) H.vs.length capv) := hgrow.cell (((HAL.out _).cell (p := ⟨t, 0, none⟩) ht1).trans d0) hnt; have s2 : w2.frozen? ⟨t, 0, none⟩ = false := (hgrow.frozen (a := ⟨t, 0, none⟩) (by simp; omega) hnt).trans (((HAL.out _).frozen (p := ⟨t, 0, none⟩) ht1).trans hf0))
    all_goals
      have R2 := (HR1.out.below (HAL.out (.cells #[.int .i64 (hdN H), .int .i64 root] 40))).change_vv (vs' := H.vs ++ [⟨hdN H, root⟩]) (by rw [HV.out]; exact hgrow) (by rw [List.length_append, verCells_snoc]; exact hown2)
      have F2 : Fr (m.owns t) w (w2.setCell ⟨t, 0, none⟩ (.slice (some ⟨gg, 0, none⟩) (H.vs.length + 1) capn)) :=
        ((((Fr.of_below (S := m.owns t) HB1.out).trans (Fr.of_below (S := m.owns t) (HAL.out (.cells #[.int .i64 (hdN H), .int .i64 root] 40))) (fun _ _ e => e)).trans hgrow (fun k _ e => .inr (.inl (by rw [HV.out]; exact e)))).setCell _ (fun _ => .inl rfl))
      have hgg : gg = gv ∨ w.heap.size ≤ gg := by
        rcases hat with hat | hat
        · left; simpa [Value.ownBlock, eq_comm] using hat
        · right; simp at hat; omega
      obtain ⟨w3, hw3⟩ : ∃ w3, w3 = w2.setCell ⟨t, 0, none⟩ (.slice (some ⟨gg, 0, none⟩) (H.vs.length + 1) capn) := ⟨_, rfl⟩
      rw [← hw3] at R2 F2 ⊢
      clear hw3 s1 s2 hown2 hgrow hat hB
      have hb3 := R2.bs
      rw [show ({ m with vv := Value.slice (some ⟨gg, 0, none⟩) (H.vs.length + 1) capn } : View).bv = Value.slice (some ⟨g, 0, none⟩) m.ml.length cap from HBV.out] at hb3
      have q0 : w3.cell? ⟨t, 0, none⟩ = some (.slice (some ⟨gg, 0, none⟩) (H.vs.length + 1) capn) := by rw [cell_of_blk R2.blk]; rfl
      have q1 := own_cell hb3 (lnCells_get m.ml (ci H) _ HM.out).2.1
      have q2 := own_cell hb3 (lnCells_get m.ml (ci H) _ HM.out).2.2
      have q3 := hb3.frozenAt (ci H * 3 + 1)
      have q4 := hb3.frozenAt (ci H * 3 + 2)
      have HR2 := Lib.hid R2
      have HF2 := Lib.hid F2
      clear R2 F2 hb3
      go_wp2_with fail
      go_ret
      have e2 : mCommit H root = { ({ H with vs := H.vs ++ [⟨hdN H, root⟩] } : Hist) with bs := H.bs.set (ci H) ⟨(curLn H).nm, H.vs.length, []⟩ } := by
        unfold mCommit setCur
        rw [if_neg hlim, (ci_lt hw).2.1, (hd_eq hw).1]; rfl
      rw [e2]
      refine Mut.line (x := (curLn H, rv)) HR2.out HF2.out ?_ HBV.out HM.out (H.vs.length) (World.ownsRow_nil _ _ _ _) (.inl rfl)
      rintro q (rfl | hq | hq | hq | hq)
      · exact .inl (.inl rfl)
      · have hq' : gg = q := by simpa [Value.ownBlock] using hq
        subst hq'
        rcases hgg with rfl | hgg
        · exact .inl (.inr (.inl (by rw [HV.out]; rfl)))
        · exact .inr hgg
      · exact .inl (.inr (.inr (.inl hq)))
      · exact .inl (.inr (.inr (.inr (.inl hq))))
      · exact .inl (.inr (.inr (.inr (.inr hq))))

end

end Go.Proofs.Ytalmfmijjbpnpaa
/-
  Walks of Undo, Redo, Switch.
-/
namespace Go.Proofs.Ytalmfmijjbpnpaa
open Go.RowKit

theorem leads_lt {vs : List Ver} (par0 : (vs.getD 0 default).par = -1) (par : ∀ i, 0 < i → i < vs.length → 0 ≤ (vs.getD i default).par ∧ (vs.getD i default).par < i) :
    ∀ (l : List Int) (a : Int), 0 ≤ a → a < vs.length → leadsR vs a l → (l.length : Int) < vs.length - a
  | [], a, h0, h1, _ => by simp; omega
  | r :: l, a, h0, h1, h => by
    obtain ⟨hr0, hr1, hp, hl⟩ := h
    have hne : r.toNat ≠ 0 := by
      intro e
      rw [e] at hp
      rw [par0] at hp
      omega
    have := (par r.toNat (by omega) (by omega)).2
    have ih := leads_lt par0 par l r hr0 hr1 hl
    simp only [List.length_cons, Int.natCast_add, Int.natCast_one]
    omega

theorem rd_len {H : Hist} (hw : WF H) {b : Ln} (hb : b ∈ H.bs) : b.rd.length ≤ 1000 := by
  have h1 := hw.hd b hb
  have := leads_lt hw.par0 hw.par b.rd.reverse b.hd h1.1 h1.2 (hw.rd b hb)
  rw [List.length_reverse] at this
  have := hw.v2
  omega

def parOf (H : Hist) : Int := (H.vs.getD (hdN H) default).par
def cUndo (H : Hist) : Int := if hdN H = 0 then 15 else 0
def mUndo (H : Hist) : Hist := if hdN H = 0 then H else setCur H ⟨H.cur, parOf H, (curLn H).rd ++ [(hdN H : Int)]⟩

section
variable {w : World} {T t : Nat} {H : Hist} {m : View}

set_option maxRecDepth 100000 in
set_option maxHeartbeats 1000000 in
theorem undo16 (h : Rep w 67 t H m) (hw : WF H) :
    Calls Try.prog 16 #[.pointer (some ⟨t, 0, none⟩)] w (Mut (.int .i64 (cUndo H)) (mUndo H) 67 t m w) := by
  obtain ⟨gv, capv, hvv, hcv1, hcv2, hgv, hgvt, hver⟩ := ver_mem h hw
  obtain ⟨g, cap, rv, hbv, hlen, hcap, hml, k0, k1, k2, hg, hgt, hrow⟩ := cur_mem h hw
  rw [(hd_eq hw).1] at k1
  have hlt := (hd_eq hw).2
  have kp := (hver (hdN H) hlt).1
  have c0 : w.cell? ⟨t, 0, none⟩ = some (.slice (some ⟨gv, 0, none⟩) H.vs.length capv) := by rw [cell_of_blk h.blk, ← hvv]; rfl
  have ht : t < w.heap.size := h.lt (.inl rfl)
  have hrl := rd_len hw (ci_lt hw).2.2
  have hB := Lib.hid (current32 h hw hbv)
  have HR := Lib.hid h
  have HV := Lib.hid hvv
  have HBV := Lib.hid hbv
  have HM := Lib.hid hml
  have HO := Lib.hid hrow
  have HLE := Lib.hid hlen
  have HC := Lib.hid hcap
  clear h hvv hbv hlen hml hrow hver hcap
  by_cases hz : hdN H = 0
  · have e1 : cUndo H = 15 := if_pos hz
    have e2 : mUndo H = H := if_pos hz
    rw [e1, e2]
    have hz' : ((hdN H : Int) == 0) = true := by simp [hz]
    clear e1 e2 hz
    go_enter Try.func16, Try.ntmps16
    go_wp2_with fail
    refine hB.out.mono ?_
    rintro e w1 ⟨rfl, hb1⟩
    have d1 : w1.cell? ⟨g, ci H * 3 + 1, none⟩ = some (.int .i64 (hdN H)) := (hb1.cell (p := ⟨g, _, none⟩) hg).trans k1
    have HB1 := Lib.hid hb1
    clear hb1
    go_wp2_with fail
    go_ret
    exact Mut.none HR.out HB1.out
  · have e1 : cUndo H = 0 := if_neg hz
    have HZ := Lib.hid hz
    rw [e1]
    have hz' : ((hdN H : Int) == 0) = false := by simp [hz]
    clear e1 hz
    go_enter Try.func16, Try.ntmps16
    go_wp2_with fail
    refine hB.out.mono ?_
    rintro e w1 ⟨rfl, hb1⟩
    have HR1 := Lib.hid (HR.out.below hb1)
    have d1 : w1.cell? ⟨g, ci H * 3 + 1, none⟩ = some (.int .i64 (hdN H)) := (hb1.cell (p := ⟨g, _, none⟩) hg).trans k1
    have d2 : w1.cell? ⟨g, ci H * 3 + 2, none⟩ = some rv := (hb1.cell (p := ⟨g, _, none⟩) hg).trans k2
    have hsz := hb1.size
    have ht1 : t < w1.heap.size := by omega
    have hg1 : g < w1.heap.size := by omega
    have hown1 := HR1.out.bs
    rw [HBV.out] at hown1
    have hf2 := hown1.frozenAt (ci H * 3 + 2)
    have HB1 := Lib.hid hb1
    clear hb1
    have hx1 := HR1.out.rd _ (List.mem_of_getElem? HM.out)
    have hng : ¬ rv.ownBlock = some g := fun e => own_ne hx1 hown1 (by decide) e rfl rfl
    have HX1 := Lib.hid hx1
    clear hx1 hown1
    have hal : ∀ o, Below w1.heap.size w1 (w1.alloc o).drew := fun o => ((Below.refl _ w1).alloc (Nat.le_refl _) o).drew
    have HAL := Lib.hid hal
    clear hal
    go_wp2_with fail
    go_region_law (refine app_int (by rfl) _ _ (by rfl) _ _ _ (by rfl) ((HX1.out.alloc _).drew) w1.heap.size _ (by rfl) (heap_alloc_new w1 _) (by simp [Value.oneCell']) (by omega) ?_; intro gg capn w2 hown2 hgrow hat; have s1 : w2.cell? ⟨g, ci H * 3 + 2, none⟩ = some rv := hgrow.cell (((HAL.out _).cell (p := ⟨g, _, none⟩) hg1).trans d2) hng; have s2 : w2.frozen? ⟨g, ci H * 3 + 2, none⟩ = false := (hgrow.frozen (a := ⟨g, _, none⟩) (by simp; omega) hng).trans (((HAL.out _).frozen (p := ⟨g, _, none⟩) hg1).trans hf2))
    all_goals
      have R2 := (HR1.out.below (HAL.out (.cells #[.int .i64 (hdN H)] 3))).change_rd (k := ci H) (x := (curLn H, rv)) (rd := (curLn H).rd ++ [(hdN H : Int)]) HBV.out HM.out
        (by rw [List.length_append, show intCells ((curLn H).rd ++ [(hdN H : Int)]) = intCells (curLn H).rd ++ [.int .i64 (hdN H)] by simp [intCells]]; exact hown2) hgrow (.inr (by rcases hat with hat | hat; exact .inl hat.symm; exact .inr ⟨gg, rfl, hat⟩))
      have F2 : Fr (m.owns t) w (w2.setCell ⟨g, ci H * 3 + 2, none⟩ (.slice (some ⟨gg, 0, none⟩) ((curLn H).rd.length + 1) capn)) :=
        ((((Fr.of_below (S := m.owns t) HB1.out).trans (Fr.of_below (S := m.owns t) (HAL.out (.cells #[.int .i64 (hdN H)] 3))) (fun _ _ e => e)).trans hgrow (fun k _ e => .inr (.inr (.inr (.inr ⟨_, List.mem_of_getElem? HM.out, e⟩))))).setCell _ (fun _ => .inr (.inr (.inl (by rw [HBV.out]; rfl)))))
      have hgg : ∀ q, (Value.slice (some ⟨gg, 0, none⟩) ((curLn H).rd.length + 1) capn).ownBlock = some q → rv.ownBlock = some q ∨ w.heap.size ≤ q := by
        intro q hq
        have hq' : gg = q := by simpa [Value.ownBlock] using hq
        subst hq'
        rcases hat with hat | hat
        · exact .inl hat
        · right; simp at hat; omega
      obtain ⟨w3, hw3⟩ : ∃ w3, w3 = w2.setCell ⟨g, ci H * 3 + 2, none⟩ (.slice (some ⟨gg, 0, none⟩) ((curLn H).rd.length + 1) capn) := ⟨_, rfl⟩
      rw [← hw3] at R2 F2 ⊢
      clear hw3 s1 s2 hown2 hgrow hat hB
      have hkl := (List.getElem?_eq_some_iff.1 HM.out).1
      have hk3 : (m.ml.set (ci H) (⟨(curLn H).nm, (curLn H).hd, (curLn H).rd ++ [(hdN H : Int)]⟩, Value.slice (some ⟨gg, 0, none⟩) ((curLn H).rd.length + 1) capn))[ci H]? = some (⟨(curLn H).nm, (curLn H).hd, (curLn H).rd ++ [(hdN H : Int)]⟩, Value.slice (some ⟨gg, 0, none⟩) ((curLn H).rd.length + 1) capn) := by simp [hkl]
      have q0 : w3.cell? ⟨t, 0, none⟩ = some (.slice (some ⟨gv, 0, none⟩) H.vs.length capv) := by rw [R2.cellT.1]; exact congrArg some HV.out
      have q1 : w3.cell? ⟨g, ci H * 3 + 1, none⟩ = some (.int .i64 (hdN H)) := by rw [(R2.cellB HBV.out hk3).2.1, ← (hd_eq hw).1]
      have q2 : w3.cell? ⟨gv, hdN H * 2, none⟩ = some (.int .i64 (parOf H)) := (R2.cellV HV.out hlt).1
      have q3 := R2.frB HBV.out (ci H * 3 + 1)
      have hl1 : (hdN H : Int) < H.vs.length := by omega
      have hl0 : (0 : Int) ≤ hdN H := by omega
      have HR2 := Lib.hid R2
      have HF2 := Lib.hid F2
      have HK3 := Lib.hid hk3
      clear R2 F2 hk3
      go_wp2_with fail
      go_region
      all_goals
        go_wp2
        go_ret
        have e2 : mUndo H = { ({ H with bs := H.bs.set (ci H) ⟨(curLn H).nm, (curLn H).hd, (curLn H).rd ++ [(hdN H : Int)]⟩ } : Hist) with bs := (H.bs.set (ci H) ⟨(curLn H).nm, (curLn H).hd, (curLn H).rd ++ [(hdN H : Int)]⟩).set (ci H) ⟨(curLn H).nm, parOf H, (curLn H).rd ++ [(hdN H : Int)]⟩ } := by
          unfold mUndo setCur
          rw [if_neg HZ.out, (ci_lt hw).2.1, List.set_set]
        rw [e2]
        exact Mut.drew (Mut.head HR2.out HF2.out (owns_rd HM.out hgg) HBV.out HK3.out _)

def lastRd (H : Hist) : Int := (curLn H).rd.getLastD 0
def cRedo (H : Hist) : Int := if (curLn H).rd = [] then 15 else 0
def mRedo (H : Hist) : Hist := if (curLn H).rd = [] then H else setCur H ⟨H.cur, lastRd H, (curLn H).rd.dropLast⟩

theorem own_last {w : World} {g cap : Nat} {rd : List Int} (h : w.ownsRow 0 3 1 (.slice (some ⟨g, 0, none⟩) rd.length cap) rd.length (intCells rd)) (hn : rd ≠ []) :
    w.cell? ⟨g, rd.length - 1, none⟩ = some (.int .i64 (rd.getLastD 0)) ∧ w.ownsRow 0 3 1 (.slice (some ⟨g, 0, none⟩) (rd.length - 1) cap) rd.dropLast.length (intCells rd.dropLast) := by
  have hl : 0 < rd.length := List.length_pos_iff.2 hn
  refine ⟨?_, ?_⟩
  · refine own_cell h ?_
    unfold intCells
    rw [List.getElem?_map, ← List.getLast?_eq_getElem?, List.getLast?_eq_some_getLast hn, List.getLastD_eq_getLast?, List.getLast?_eq_some_getLast hn]
    rfl
  · rcases h.2 with ⟨h1, _⟩ | ⟨g', cap', cur, h1, h2, h3, h4, h5, h6, h7⟩
    · simp at h1
    · simp only [Value.slice.injEq, Option.some.injEq, Addr.mk.injEq, and_true, true_and] at h1
      obtain ⟨rfl, rfl⟩ := h1
      rw [List.length_dropLast]
      refine ⟨by simp [intCells], .inr ⟨g, cap, cur, rfl, h2, h3, by omega, h5, h6, ?_⟩⟩
      have : intCells rd.dropLast = (intCells rd).take (rd.length - 1) := by
        unfold intCells
        rw [List.dropLast_eq_take, List.map_take]
      rw [this, ← h7, List.take_take]
      congr 1
      omega

set_option maxRecDepth 100000 in
set_option maxHeartbeats 1000000 in
theorem redo18 (h : Rep w 67 t H m) (hw : WF H) :
    Calls Try.prog 18 #[.pointer (some ⟨t, 0, none⟩)] w (Mut (.int .i64 (cRedo H)) (mRedo H) 67 t m w) := by
  obtain ⟨g, cap, rv, hbv, hlen, hcap, hml, k0, k1, k2, hg, hgt, hrow⟩ := cur_mem h hw
  rw [(hd_eq hw).1] at k1
  have ht : t < w.heap.size := h.lt (.inl rfl)
  have hrl := rd_len hw (ci_lt hw).2.2
  have hB := Lib.hid (current32 h hw hbv)
  have HR := Lib.hid h
  have HBV := Lib.hid hbv
  have HM := Lib.hid hml
  have HLE := Lib.hid hlen
  have HC := Lib.hid hcap
  obtain ⟨ra, gr, rcap, hrv, hra, hrg, hrc, hrm, _⟩ := own_addr hrow
  subst hrv
  have HO := Lib.hid hrow
  clear h hbv hlen hml hrow hcap
  by_cases hz : (curLn H).rd = []
  · have e1 : cRedo H = 15 := if_pos hz
    have e2 : mRedo H = H := if_pos hz
    rw [e1, e2]
    have hz' : (((curLn H).rd.length : Int) == 0) = true := by simp [hz]
    clear e1 e2 hz
    go_enter Try.func18, Try.ntmps18
    go_wp2_with fail
    refine hB.out.mono ?_
    rintro e w1 ⟨rfl, hb1⟩
    have d2 : w1.cell? ⟨g, ci H * 3 + 2, none⟩ = some (.slice ra (curLn H).rd.length rcap) := (hb1.cell (p := ⟨g, _, none⟩) hg).trans k2
    have HB1 := Lib.hid hb1
    clear hb1
    go_wp2_with fail
    go_ret
    exact Mut.none HR.out HB1.out
  · have e1 : cRedo H = 0 := if_neg hz
    have hpos : 0 < (curLn H).rd.length := List.length_pos_iff.2 hz
    obtain rfl := hra hpos
    have HZ := Lib.hid hz
    obtain ⟨kl, hown'⟩ := own_last HO.out hz
    rw [e1]
    have hz' : (((curLn H).rd.length : Int) == 0) = false := by simp [hz]
    clear e1 hz
    go_enter Try.func18, Try.ntmps18
    go_wp2_with fail
    refine hB.out.mono ?_
    rintro e w1 ⟨rfl, hb1⟩
    have HR1 := Lib.hid (HR.out.below hb1)
    have d1 : w1.cell? ⟨g, ci H * 3 + 1, none⟩ = some (.int .i64 (hdN H)) := (hb1.cell (p := ⟨g, _, none⟩) hg).trans k1
    have d2 : w1.cell? ⟨g, ci H * 3 + 2, none⟩ = some (.slice (some ⟨gr, 0, none⟩) (curLn H).rd.length rcap) := (hb1.cell (p := ⟨g, _, none⟩) hg).trans k2
    have hrg' := hrg hpos
    have d3 : w1.cell? ⟨gr, (curLn H).rd.length - 1, none⟩ = some (.int .i64 (lastRd H)) := (hb1.cell (p := ⟨gr, _, none⟩) hrg').trans kl
    have hf1 := HR1.out.frB HBV.out (ci H * 3 + 1)
    have hf2 := HR1.out.frB HBV.out (ci H * 3 + 2)
    have hgr : gr ≠ g := fun e => own_ne HO.out HR.out.bs (by decide) (k := gr) rfl (by rw [HBV.out, e]; rfl) rfl
    have HW1 := Lib.hid (own_frame hown' (Fr.of_below (S := fun _ => False) hb1) (fun _ _ e => e))
    have hi1 : ((curLn H).rd.length : Int) - 1 < (curLn H).rd.length := by omega
    have hi0 : (0 : Int) ≤ ((curLn H).rd.length : Int) - 1 := by omega
    have hi2 : ((curLn H).rd.length : Int) - 1 ≤ rcap := by omega
    have HB1 := Lib.hid hb1
    clear hb1 hown'
    go_wp2_with fail
    go_region
    go_wp2
    go_ret
    have e2 : mRedo H = { H with bs := H.bs.set (ci H) ⟨(curLn H).nm, lastRd H, (curLn H).rd.dropLast⟩ } := by
      unfold mRedo setCur
      rw [if_neg HZ.out, (ci_lt hw).2.1]
    rw [e2]
    exact Mut.drew (Mut.line (x := (curLn H, .slice (some ⟨gr, 0, none⟩) (curLn H).rd.length rcap)) HR1.out (Fr.of_below HB1.out) (fun _ h => .inl h) HBV.out HM.out _ HW1.out (.inr rfl))

def cSwitch (H : Hist) (name : ByteArray) : Int := missE name (hasN name (bnames H))
def mSwitch (H : Hist) (name : ByteArray) : Hist := if cSwitch H name = 0 then { H with cur := name } else H

theorem bneq_of {a b : Int} (h : ¬ a = b) : (a == b) = false := by simp [h]

set_option maxRecDepth 100000 in
set_option maxHeartbeats 1000000 in
theorem switch15 (h : Rep w 67 t H m) (hw : WF H) (name : ByteArray) (hnm : name.size ≤ maxLen) :
    Calls Try.prog 15 #[.pointer (some ⟨t, 0, none⟩), .string name] w (Mut (.int .i64 (cSwitch H name)) (mSwitch H name) 67 t m w) := by
  have hB := Lib.hid (missing36 34 (.inl rfl) _ name hnm _ _ (branch34 h hw.sb (by have := hw.b2; omega) name))
  have ht : t < w.heap.size := h.lt (.inl rfl)
  have c3 := h.cellT.2.2.2
  have f3 := h.frT 3
  have HR := Lib.hid h
  clear h
  by_cases hz : missE name (hasN name (bnames H)) = 0
  · have e1 : cSwitch H name = 0 := hz
    have e2 : mSwitch H name = { H with cur := name } := if_pos hz
    rw [e1, e2]
    rw [hz] at hB
    clear e1 e2 hz
    go_enter Try.func15, Try.ntmps15
    go_wp2_with fail
    refine hB.out.mono ?_
    rintro e w1 ⟨rfl, hb1⟩
    have d3 : w1.cell? ⟨t, 3, none⟩ = some (.string H.cur) := (hb1.cell (p := ⟨t, _, none⟩) ht).trans c3
    have g3 : w1.frozen? ⟨t, 3, none⟩ = false := (hb1.frozen (p := ⟨t, _, none⟩) ht).trans f3
    have HB1 := Lib.hid hb1
    clear hb1
    go_wp2_with fail
    go_ret
    exact ⟨rfl, m, (HR.out.below HB1.out).change_cur name, (Fr.of_below HB1.out).setCell _ (fun _ => .inl rfl), fun _ h => .inl h⟩
  · have e1 : cSwitch H name = missE name (hasN name (bnames H)) := rfl
    have e2 : mSwitch H name = H := if_neg hz
    have hz' := bneq_of hz
    rw [e1, e2]
    clear e1 e2 hz
    go_enter Try.func15, Try.ntmps15
    go_wp2_with fail
    refine hB.out.mono ?_
    rintro e w1 ⟨rfl, hb1⟩
    have HB1 := Lib.hid hb1
    clear hb1
    go_wp2_with fail
    go_ret
    exact Mut.none HR.out HB1.out

end

end Go.Proofs.Ytalmfmijjbpnpaa
/-
  Walks of slices.Clone at versions, branches, snapshots, ints.
-/
namespace Go.Proofs.Ytalmfmijjbpnpaa
open Go.RowKit

/-- A slice value that reads as n elements of sz cells each. -/
def SlAt (w : World) (v : Value) (n sz : Nat) (xs : List Value) : Prop :=
  xs.length = n * sz ∧ ((v = .slice none 0 0 ∧ n = 0) ∨ ∃ a cap, v = .slice (some a) n cap ∧ n ≤ cap ∧ cap ≤ maxLen ∧ ∀ j u, xs[j]? = some u → w.cell? (a.add j) = some u)

section
variable {w : World}

set_option maxHeartbeats 400000 in
theorem clone69 (v : Value) (n : Nat) (xs : List Value) (hv : SlAt w v n 2 xs) (h1 : ∀ u ∈ xs, u.oneCell' = true) (hn : n ≤ 100000) :
    Calls Try.prog 69 #[v] w fun e w' => ∃ v', e = .returned v' ∧ w'.ownsRow w.heap.size 40 2 v' n xs ∧ Below w.heap.size w w' := by
  obtain ⟨hl, ⟨rfl, rfl⟩ | ⟨a, cap, rfl, hnc, hcm, hcell⟩⟩ := hv
  · obtain rfl : xs = [] := List.eq_nil_of_length_eq_zero (by simpa using hl)
    have hq := fun w => Lib.run_eql_slice_nil (P := Try.prog) w 33 40 none 0 0 0 0 Try.underlying33
    go_enter Try.func69, Try.ntmps69
    go_wp2_with fail
    go_ret
    exact ⟨_, rfl, World.ownsRow_nil _ _ _ _, Below.refl _ _⟩
  · have hq := fun w => Lib.run_eql_slice_nil (P := Try.prog) w 33 40 (some a) n cap 0 0 Try.underlying33
    obtain ⟨i0, hi0, hz0, hz1, hz2⟩ := info_parts info40
    have HC := Lib.hid hcell
    have H1 := Lib.hid h1
    clear hcell h1
    go_enter Try.func69, Try.ntmps69
    have hown : (w.alloc (.cells #[] 40)).ownsRow w.heap.size 40 2 (.slice (some ⟨w.heap.size, 0, none⟩) 0 0) 0 [] := World.ownsRow_lit w #[] 0 (Nat.le_refl _) (by unfold maxLen; omega) rfl
    have HOWN := Lib.hid hown
    clear hown
    go_wp2_with (at_builtin; refine wpList_append_own _ rfl _ _ 33 rfl w.heap.size 40 i0 _ 2 16 Try.underlying33 hi0 hz0 hz1 hz2 rfl (by decide) _ 0 [] rfl HOWN.out a n cap xs rfl hl ?_ H1.out (by unfold maxLen; omega) (by omega) (by simp) ?_)
    · intro j u hu
      have := HC.out j u hu
      exact (((Below.refl w.heap.size w).alloc (Nat.le_refl _) (.cells #[] 40)).cell (World.block_lt_of_cell? w _ this)).trans this
    · intro v' w' hown' hgrow _
      try simp only [List.nil_append, Nat.zero_add] at hown'
      have HO := Lib.hid hown'
      have HG := Lib.hid hgrow
      clear hown' hgrow
      go_wp2_with fail
      go_ret
      exact ⟨_, rfl, HO.out, ((Below.refl w.heap.size w).alloc (Nat.le_refl _) (.cells #[] 40)).grown HG.out (by simp) (by intro k hk; simp [Value.ownBlock] at hk; omega)⟩

set_option maxHeartbeats 400000 in
theorem clone70 (v : Value) (n : Nat) (xs : List Value) (hv : SlAt w v n 3 xs) (h1 : ∀ u ∈ xs, u.oneCell' = true) (hn : n ≤ 100000) :
    Calls Try.prog 70 #[v] w fun e w' => ∃ v', e = .returned v' ∧ w'.ownsRow w.heap.size 65 3 v' n xs ∧ Below w.heap.size w w' := by
  obtain ⟨hl, ⟨rfl, rfl⟩ | ⟨a, cap, rfl, hnc, hcm, hcell⟩⟩ := hv
  · obtain rfl : xs = [] := List.eq_nil_of_length_eq_zero (by simpa using hl)
    have hq := fun w => Lib.run_eql_slice_nil (P := Try.prog) w 34 65 none 0 0 0 0 Try.underlying34
    go_enter Try.func70, Try.ntmps70
    go_wp2_with fail
    go_ret
    exact ⟨_, rfl, World.ownsRow_nil _ _ _ _, Below.refl _ _⟩
  · have hq := fun w => Lib.run_eql_slice_nil (P := Try.prog) w 34 65 (some a) n cap 0 0 Try.underlying34
    obtain ⟨i0, hi0, hz0, hz1, hz2⟩ := info_parts info65
    have HC := Lib.hid hcell
    have H1 := Lib.hid h1
    clear hcell h1
    go_enter Try.func70, Try.ntmps70
    have hown : (w.alloc (.cells #[] 65)).ownsRow w.heap.size 65 3 (.slice (some ⟨w.heap.size, 0, none⟩) 0 0) 0 [] := World.ownsRow_lit w #[] 0 (Nat.le_refl _) (by unfold maxLen; omega) rfl
    have HOWN := Lib.hid hown
    clear hown
    go_wp2_with (at_builtin; refine wpList_append_own _ rfl _ _ 34 rfl w.heap.size 65 i0 _ 3 48 Try.underlying34 hi0 hz0 hz1 hz2 rfl (by decide) _ 0 [] rfl HOWN.out a n cap xs rfl hl ?_ H1.out (by unfold maxLen; omega) (by omega) (by simp) ?_)
    · intro j u hu
      have := HC.out j u hu
      exact (((Below.refl w.heap.size w).alloc (Nat.le_refl _) (.cells #[] 65)).cell (World.block_lt_of_cell? w _ this)).trans this
    · intro v' w' hown' hgrow _
      try simp only [List.nil_append, Nat.zero_add] at hown'
      have HO := Lib.hid hown'
      have HG := Lib.hid hgrow
      clear hown' hgrow
      go_wp2_with fail
      go_ret
      exact ⟨_, rfl, HO.out, ((Below.refl w.heap.size w).alloc (Nat.le_refl _) (.cells #[] 65)).grown HG.out (by simp) (by intro k hk; simp [Value.ownBlock] at hk; omega)⟩

set_option maxHeartbeats 400000 in
theorem clone71 (v : Value) (n : Nat) (xs : List Value) (hv : SlAt w v n 2 xs) (h1 : ∀ u ∈ xs, u.oneCell' = true) (hn : n ≤ 100000) :
    Calls Try.prog 71 #[v] w fun e w' => ∃ v', e = .returned v' ∧ w'.ownsRow w.heap.size 78 2 v' n xs ∧ Below w.heap.size w w' := by
  obtain ⟨hl, ⟨rfl, rfl⟩ | ⟨a, cap, rfl, hnc, hcm, hcell⟩⟩ := hv
  · obtain rfl : xs = [] := List.eq_nil_of_length_eq_zero (by simpa using hl)
    have hq := fun w => Lib.run_eql_slice_nil (P := Try.prog) w 35 78 none 0 0 0 0 Try.underlying35
    go_enter Try.func71, Try.ntmps71
    go_wp2_with fail
    go_ret
    exact ⟨_, rfl, World.ownsRow_nil _ _ _ _, Below.refl _ _⟩
  · have hq := fun w => Lib.run_eql_slice_nil (P := Try.prog) w 35 78 (some a) n cap 0 0 Try.underlying35
    obtain ⟨i0, hi0, hz0, hz1, hz2⟩ := info_parts info78
    have HC := Lib.hid hcell
    have H1 := Lib.hid h1
    clear hcell h1
    go_enter Try.func71, Try.ntmps71
    have hown : (w.alloc (.cells #[] 78)).ownsRow w.heap.size 78 2 (.slice (some ⟨w.heap.size, 0, none⟩) 0 0) 0 [] := World.ownsRow_lit w #[] 0 (Nat.le_refl _) (by unfold maxLen; omega) rfl
    have HOWN := Lib.hid hown
    clear hown
    go_wp2_with (at_builtin; refine wpList_append_own _ rfl _ _ 35 rfl w.heap.size 78 i0 _ 2 24 Try.underlying35 hi0 hz0 hz1 hz2 rfl (by decide) _ 0 [] rfl HOWN.out a n cap xs rfl hl ?_ H1.out (by unfold maxLen; omega) (by omega) (by simp) ?_)
    · intro j u hu
      have := HC.out j u hu
      exact (((Below.refl w.heap.size w).alloc (Nat.le_refl _) (.cells #[] 78)).cell (World.block_lt_of_cell? w _ this)).trans this
    · intro v' w' hown' hgrow _
      try simp only [List.nil_append, Nat.zero_add] at hown'
      have HO := Lib.hid hown'
      have HG := Lib.hid hgrow
      clear hown' hgrow
      go_wp2_with fail
      go_ret
      exact ⟨_, rfl, HO.out, ((Below.refl w.heap.size w).alloc (Nat.le_refl _) (.cells #[] 78)).grown HG.out (by simp) (by intro k hk; simp [Value.ownBlock] at hk; omega)⟩

set_option maxHeartbeats 400000 in
theorem clone72 (v : Value) (n : Nat) (xs : List Value) (hv : SlAt w v n 1 xs) (h1 : ∀ u ∈ xs, u.oneCell' = true) (hn : n ≤ 100000) :
    Calls Try.prog 72 #[v] w fun e w' => ∃ v', e = .returned v' ∧ w'.ownsRow w.heap.size 3 1 v' n xs ∧ Below w.heap.size w w' := by
  obtain ⟨hl, ⟨rfl, rfl⟩ | ⟨a, cap, rfl, hnc, hcm, hcell⟩⟩ := hv
  · obtain rfl : xs = [] := List.eq_nil_of_length_eq_zero (by simpa using hl)
    have hq := fun w => Lib.run_eql_slice_nil (P := Try.prog) w 22 3 none 0 0 0 0 Try.underlying22
    go_enter Try.func72, Try.ntmps72
    go_wp2_with fail
    go_ret
    exact ⟨_, rfl, World.ownsRow_nil _ _ _ _, Below.refl _ _⟩
  · have hq := fun w => Lib.run_eql_slice_nil (P := Try.prog) w 22 3 (some a) n cap 0 0 Try.underlying22
    obtain ⟨i0, hi0, hz0, hz1, hz2⟩ := info_parts info3
    have HC := Lib.hid hcell
    have H1 := Lib.hid h1
    clear hcell h1
    go_enter Try.func72, Try.ntmps72
    have hown : (w.alloc (.cells #[] 3)).ownsRow w.heap.size 3 1 (.slice (some ⟨w.heap.size, 0, none⟩) 0 0) 0 [] := World.ownsRow_lit w #[] 0 (Nat.le_refl _) (by unfold maxLen; omega) rfl
    have HOWN := Lib.hid hown
    clear hown
    go_wp2_with (at_builtin; refine wpList_append_own _ rfl _ _ 22 rfl w.heap.size 3 i0 _ 1 8 Try.underlying22 hi0 hz0 hz1 hz2 rfl (by decide) _ 0 [] rfl HOWN.out a n cap xs rfl hl ?_ H1.out (by unfold maxLen; omega) (by omega) (by simp) ?_)
    · intro j u hu
      have := HC.out j u hu
      exact (((Below.refl w.heap.size w).alloc (Nat.le_refl _) (.cells #[] 3)).cell (World.block_lt_of_cell? w _ this)).trans this
    · intro v' w' hown' hgrow _
      try simp only [List.nil_append, Nat.zero_add] at hown'
      have HO := Lib.hid hown'
      have HG := Lib.hid hgrow
      clear hown' hgrow
      go_wp2_with fail
      go_ret
      exact ⟨_, rfl, HO.out, ((Below.refl w.heap.size w).alloc (Nat.le_refl _) (.cells #[] 3)).grown HG.out (by simp) (by intro k hk; simp [Value.ownBlock] at hk; omega)⟩

end

end Go.Proofs.Ytalmfmijjbpnpaa
