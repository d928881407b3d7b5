/-
  Walks of Commit.
-/
import Derived.Test.YtalmfmijjbpnpaaG
import Derived.Deep.AppendLies
import Derived.Deep.RegionLaw
namespace Go.Proofs.Ytalmfmijjbpnpaa
open Go.RowKit

theorem info40 : (Try.prog.info? 40).map (fun i => (i.zero, i.size, i.bytes)) = some (some (.agg #[.int .i64 0, .int .i64 0]), 2, 16) := by kernel_rfl
theorem info65 : (Try.prog.info? 65).map (fun i => (i.zero, i.size, i.bytes)) = some (some (.agg #[.string ByteArray.empty, .int .i64 0, .slice none 0 0]), 3, 48) := by kernel_rfl
theorem info78 : (Try.prog.info? 78).map (fun i => (i.zero, i.size, i.bytes)) = some (some (.agg #[.string ByteArray.empty, .int .i64 0]), 2, 24) := by kernel_rfl
theorem info3 : (Try.prog.info? 3).map (fun i => (i.zero, i.size, i.bytes)) = some (some (.int .i64 0), 1, 8) := by kernel_rfl

section
variable {ops : Array Oper} {o : Oper} {a : Act} {w : World} {K : Act → World → Prop} {Q : Exit → Act → World → Prop} {E : Prop}
theorem fr_of_grown {w w' : World} {row : Option Nat} (hg : w.grownBy w' row) : Fr (fun k => row = some k) w w' :=
  ⟨hg.os, hg.tape, hg.output, hg.size, fun k hk hn => hg.block k hk (fun e => hn e.symm)⟩

/-- append of one version, a step of a region that draws its order. -/
theorem app_ver (hgd : o.guard = none) (s x : Operand) (ho : o.op = .call { callee := .builtin .append, args := #[s, x], argTypes := #[33, 33] })
    (v : Value) (n : Nat) (xs : List Value) (hs : a.eval s = v) (hown : w.ownsRow 0 40 2 v n xs) (B : Nat) (p r : Value) (hx : a.eval x = .slice (some ⟨B, 0, none⟩) 1 1)
    (hB : w.heap[B]? = some (.cells #[p, r] 40 (0, 0))) (h1 : p.oneCell' = true ∧ r.oneCell' = true) (hn : n ≤ 100000)
    (h : ∀ g cap w', w'.ownsRow 0 40 2 (.slice (some ⟨g, 0, none⟩) (n + 1) cap) (n + 1) (xs ++ [p, r]) → Fr (fun k => v.ownBlock = some k) w w' → (v.ownBlock = some g ∨ w.heap.size ≤ g) →
      K (a.put o.dst (.slice (some ⟨g, 0, none⟩) (n + 1) cap)) w') :
    if Region.wanted o (yielded ops a.tmps) = true then Oper.wp Try.prog o a w K Q else E := by
  obtain ⟨i0, hi0, hz0, hz1, hz2⟩ := info_parts info40
  refine step_append_lies w hgd s x 33 ho 0 40 i0 _ 2 16 Try.underlying33 hi0 hz0 hz1 hz2 rfl (by omega) v n xs hs hown ⟨B, 0, none⟩ 1 1 [p, r] hx rfl (World.news_of_block (cs := #[p, r]) hB)
    (fun u hu => by simp at hu; rcases hu with rfl | rfl <;> simp [h1]) (by omega) (by unfold maxLen; omega) (by omega) (Nat.zero_le _) w.heap.size rfl ?_
  intro g cap w' h2 h3 h4 _
  exact h g cap w' h2 (fr_of_grown h3) (h4.imp id (fun e => by omega))

/-- append of one int. -/
theorem app_int (hgd : o.guard = none) (s x : Operand) (ho : o.op = .call { callee := .builtin .append, args := #[s, x], argTypes := #[22, 22] })
    (v : Value) (n : Nat) (xs : List Value) (hs : a.eval s = v) (hown : w.ownsRow 0 3 1 v n xs) (B : Nat) (p : Value) (hx : a.eval x = .slice (some ⟨B, 0, none⟩) 1 1)
    (hB : w.heap[B]? = some (.cells #[p] 3 (0, 0))) (h1 : p.oneCell' = true) (hn : n ≤ 100000)
    (h : ∀ g cap w', w'.ownsRow 0 3 1 (.slice (some ⟨g, 0, none⟩) (n + 1) cap) (n + 1) (xs ++ [p]) → Fr (fun k => v.ownBlock = some k) w w' → (v.ownBlock = some g ∨ w.heap.size ≤ g) →
      K (a.put o.dst (.slice (some ⟨g, 0, none⟩) (n + 1) cap)) w') :
    if Region.wanted o (yielded ops a.tmps) = true then Oper.wp Try.prog o a w K Q else E := by
  obtain ⟨i0, hi0, hz0, hz1, hz2⟩ := info_parts info3
  refine step_append_lies w hgd s x 22 ho 0 3 i0 _ 1 8 Try.underlying22 hi0 hz0 hz1 hz2 rfl (by omega) v n xs hs hown ⟨B, 0, none⟩ 1 1 [p] hx rfl (World.news_of_block (cs := #[p]) hB)
    (by intro u hu; simp at hu; rw [hu]; exact h1) (by omega) (by unfold maxLen; omega) (by omega) (Nat.zero_le _) w.heap.size rfl ?_
  intro g cap w' h2 h3 h4 _
  exact h g cap w' h2 (fr_of_grown h3) (h4.imp id (fun e => by omega))
end

def setCur (H : Hist) (l : Ln) : Hist := { H with bs := H.bs.set (ci H) l }

def cCommit (H : Hist) (_root : Int) : Int := if 1000 ≤ H.vs.length then 7 else 0
def mCommit (H : Hist) (root : Int) : Hist :=
  if 1000 ≤ H.vs.length then H else setCur { H with vs := H.vs ++ [⟨(curLn H).hd, root⟩] } ⟨H.cur, H.vs.length, []⟩

section
variable {w : World} {T t : Nat} {H : Hist} {m : View}

theorem verCells_snoc (l : List Ver) (p r : Int) : verCells (l ++ [⟨p, r⟩]) = verCells l ++ [.int .i64 p, .int .i64 r] := by simp [verCells]

theorem Mut.none {w' : World} {v : Value} (h : Rep w T t H m) (hb : Below w.heap.size w w') : Mut v H T t m w (.returned v) w' :=
  ⟨rfl, m, h.below hb, Fr.of_below hb, fun _ h => .inl h⟩

set_option maxRecDepth 100000 in
set_option maxHeartbeats 1000000 in
theorem commit11 (h : Rep w 67 t H m) (hw : WF H) (root : Int) :
    Calls Try.prog 11 #[.pointer (some ⟨t, 0, none⟩), .int .i64 root] w (Mut (.int .i64 (cCommit H root)) (mCommit H root) 67 t m w) := by
  obtain ⟨gv, capv, hvv, hcv1, hcv2, hgv, hgvt, _⟩ := ver_mem h hw
  obtain ⟨g, cap, rv, hbv, hlen, hcap, hml, k0, k1, k2, hg, hgt, hrow⟩ := cur_mem h hw
  rw [(hd_eq hw).1] at k1
  have c0 : w.cell? ⟨t, 0, none⟩ = some (.slice (some ⟨gv, 0, none⟩) H.vs.length capv) := by rw [cell_of_blk h.blk, ← hvv]; rfl
  have ht : t < w.heap.size := h.lt (.inl rfl)
  have hv1 := hw.v1
  have hv2 := hw.v2
  by_cases hlim : 1000 ≤ H.vs.length
  · have e1 : cCommit H root = 7 := if_pos hlim
    have e2 : mCommit H root = H := if_pos hlim
    rw [e1, e2]
    have HR := Lib.hid h
    clear e1 e2 h hvv hbv hlen hml hrow
    go_enter Try.func11, Try.ntmps11
    go_wp2_with fail
    go_ret
    exact Mut.none HR.out (Below.refl _ _)
  · have e1 : cCommit H root = 0 := if_neg hlim
    rw [e1]
    have hB := Lib.hid (current32 h hw hbv)
    have HR := Lib.hid h
    have HV := Lib.hid hvv
    have HBV := Lib.hid hbv
    have HM := Lib.hid hml
    have HO := Lib.hid hrow
    have HLE := Lib.hid hlen
    clear e1 h hvv hbv hlen hml hrow
    go_enter Try.func11, Try.ntmps11
    go_wp2_with fail
    refine hB.out.mono ?_
    rintro e w1 ⟨rfl, hb1⟩
    have HR1 := Lib.hid (HR.out.below hb1)
    have d0 : w1.cell? ⟨t, 0, none⟩ = some (.slice (some ⟨gv, 0, none⟩) H.vs.length capv) := (hb1.cell (p := ⟨t, 0, none⟩) ht).trans c0
    have d1 : w1.cell? ⟨g, ci H * 3 + 1, none⟩ = some (.int .i64 (hdN H)) := (hb1.cell (p := ⟨g, _, none⟩) hg).trans k1
    have hsz := hb1.size
    have ht1 : t < w1.heap.size := by omega
    have hg1 : g < w1.heap.size := by omega
    have hf0 : w1.frozen? ⟨t, 0, none⟩ = false := frozen_of_blk HR1.out.blk 0
    have HB1 := Lib.hid hb1
    clear hb1
    go_wp2_with fail
    have hnt : ¬ (Value.slice (some ⟨gv, 0, none⟩) H.vs.length capv).ownBlock = some t := by simpa [Value.ownBlock] using hgvt
    have hng : ¬ (Value.slice (some ⟨gv, 0, none⟩) H.vs.length capv).ownBlock = some g := by rw [← HV.out]; exact fun e => own_ne HR1.out.vs HR1.out.bs (by decide) e (by rw [HBV.out]; rfl) rfl
    have hal : ∀ o, Below w1.heap.size w1 (w1.alloc o).drew := fun o => ((Below.refl _ w1).alloc (Nat.le_refl _) o).drew
    have HAL := Lib.hid hal
    clear hal
    go_region_law (refine app_ver (by rfl) _ _ (by rfl) _ _ _ (by rfl) (((by rw [← HV.out]; exact HR1.out.vs) : w1.ownsRow 0 40 2 (Value.slice (some ⟨gv, 0, none⟩) H.vs.length capv) H.vs.length (verCells H.vs)).alloc _).drew w1.heap.size _ _ (by rfl) (heap_alloc_new w1 _) (by simp [Value.oneCell']) (by omega) ?_; intro gg capn w2 hown2 hgrow hat; have s1 : w2.cell? ⟨t, 0, none⟩ = some (.slice (some ⟨gv, 0, none⟩) H.vs.length capv) := hgrow.cell (((HAL.out _).cell (p := ⟨t, 0, none⟩) ht1).trans d0) hnt; have s2 : w2.frozen? ⟨t, 0, none⟩ = false := (hgrow.frozen (a := ⟨t, 0, none⟩) (by simp; omega) hnt).trans (((HAL.out _).frozen (p := ⟨t, 0, none⟩) ht1).trans hf0))
    all_goals
      have R2 := (HR1.out.below (HAL.out (.cells #[.int .i64 (hdN H), .int .i64 root] 40))).change_vv (vs' := H.vs ++ [⟨hdN H, root⟩]) (by rw [HV.out]; exact hgrow) (by rw [List.length_append, verCells_snoc]; exact hown2)
      have F2 : Fr (m.owns t) w (w2.setCell ⟨t, 0, none⟩ (.slice (some ⟨gg, 0, none⟩) (H.vs.length + 1) capn)) :=
        ((((Fr.of_below (S := m.owns t) HB1.out).trans (Fr.of_below (S := m.owns t) (HAL.out (.cells #[.int .i64 (hdN H), .int .i64 root] 40))) (fun _ _ e => e)).trans hgrow (fun k _ e => .inr (.inl (by rw [HV.out]; exact e)))).setCell _ (fun _ => .inl rfl))
      have hgg : gg = gv ∨ w.heap.size ≤ gg := by
        rcases hat with hat | hat
        · left; simpa [Value.ownBlock, eq_comm] using hat
        · right; simp at hat; omega
      obtain ⟨w3, hw3⟩ : ∃ w3, w3 = w2.setCell ⟨t, 0, none⟩ (.slice (some ⟨gg, 0, none⟩) (H.vs.length + 1) capn) := ⟨_, rfl⟩
      rw [← hw3] at R2 F2 ⊢
      clear hw3 s1 s2 hown2 hgrow hat hB
      have hb3 := R2.bs
      rw [show ({ m with vv := Value.slice (some ⟨gg, 0, none⟩) (H.vs.length + 1) capn } : View).bv = Value.slice (some ⟨g, 0, none⟩) m.ml.length cap from HBV.out] at hb3
      have q0 : w3.cell? ⟨t, 0, none⟩ = some (.slice (some ⟨gg, 0, none⟩) (H.vs.length + 1) capn) := by rw [cell_of_blk R2.blk]; rfl
      have q1 := own_cell hb3 (lnCells_get m.ml (ci H) _ HM.out).2.1
      have q2 := own_cell hb3 (lnCells_get m.ml (ci H) _ HM.out).2.2
      have q3 := hb3.frozenAt (ci H * 3 + 1)
      have q4 := hb3.frozenAt (ci H * 3 + 2)
      have HR2 := Lib.hid R2
      have HF2 := Lib.hid F2
      clear R2 F2 hb3
      go_wp2_with fail
      go_ret
      have e2 : mCommit H root = { ({ H with vs := H.vs ++ [⟨hdN H, root⟩] } : Hist) with bs := H.bs.set (ci H) ⟨(curLn H).nm, H.vs.length, []⟩ } := by
        unfold mCommit setCur
        rw [if_neg hlim, (ci_lt hw).2.1, (hd_eq hw).1]; rfl
      rw [e2]
      refine Mut.line (x := (curLn H, rv)) HR2.out HF2.out ?_ HBV.out HM.out (H.vs.length) (World.ownsRow_nil _ _ _ _) (.inl rfl)
      rintro q (rfl | hq | hq | hq | hq)
      · exact .inl (.inl rfl)
      · have hq' : gg = q := by simpa [Value.ownBlock] using hq
        subst hq'
        rcases hgg with rfl | hgg
        · exact .inl (.inr (.inl (by rw [HV.out]; rfl)))
        · exact .inr hgg
      · exact .inl (.inr (.inr (.inl hq)))
      · exact .inl (.inr (.inr (.inr (.inl hq))))
      · exact .inl (.inr (.inr (.inr (.inr hq))))

end

end Go.Proofs.Ytalmfmijjbpnpaa
