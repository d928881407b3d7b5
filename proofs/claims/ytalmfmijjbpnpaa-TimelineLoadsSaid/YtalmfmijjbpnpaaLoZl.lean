/-
  The walk of Snapshot of the reference.
-/
import Derived.Test.YtalmfmijjbpnpaaLoZj
namespace Go.Proofs.Ytalmfmijjbpnpaa
open Go.RowKit

/-- append of any row onto a row of one's own; what became of the world. -/
theorem wpList_app2 {P : Program} {w0 w : World} {ops : Array Oper} {rest : List Oper} {o : Oper} {a : Act} {Q : Exit → Act → World → Prop} (hgd : o.guard = none) (s x : Operand) (t : TypeId)
    (ho : o.op = .call { callee := .builtin .append, args := #[s, x], argTypes := #[t, t] })
    (base : Nat) (e : TypeId) (i : TypeInfo) (z : Value) (size bytes : Nat) (ht : P.underlying t = some (.slice e)) (hi : P.info? e = some i) (hz : i.zero = some z)
    (hsize : i.size = size) (hby : i.bytes = bytes) (hzs : z.cells.size = size) (hsz : 0 < size)
    (v : Value) (n : Nat) (xs : List Value) (hs : a.eval s = v) (hown : w.ownsRow base e size v n xs)
    (u : Value) (m : Nat) (news : List Value) (hx : a.eval x = u) (hsl : SlAt w u m size news) (h1 : ∀ u ∈ news, u.oneCell' = true)
    (h63 : n + m ≤ maxLen) (hbytes : (n + m) * bytes ≤ 140737488355328) (hbase : base ≤ w0.heap.size) (hb : Below base w0 w) {r : Nat} {ys : List Value} (hr : n + m = r) (hy : xs ++ news = ys)
    (h : ∀ a' c' w', w'.ownsRow base e size (.slice a' r c') r ys → Below base w0 w' → wpList P ops Q rest (a.put o.dst (.slice a' r c')) w') : wpList P ops Q (o :: rest) a w := by
  subst hr hy
  exact wpList_app hgd s x t ho base e i z size bytes ht hi hz hsize hby hzs hsz v n xs hs hown u m news hx hsl h1 h63 hbytes (Nat.le_trans hbase hb.size) fun a' c' w' h2 h3 =>
    h a' c' w' h2 (below_fr hb h3 (fun k hk => own_ge hown hk) hbase)

section
variable {w : World} {t : Nat} {H : Hist} {m : View}

/-- A row with one element more, from the three appends. -/
theorem mut_insS {w3 : World} {a : Option Addr} {c r n n1 : Nat} {v : Value} {name : ByteArray} {hd : Int} (h : Rep w 56 t H m) (hn : H.ss.length = n) (hn1 : n + 1 = n1) (hi : r ≤ n) (hb : Below w.heap.size w w3)
    (ho : w3.ownsRow w.heap.size 78 2 (.slice a n1 c) n1 ((lbCells H.ss).take (r * 2) ++ [.string name, .int .i64 hd] ++ (lbCells H.ss).drop (r * 2))) :
    Mut v { H with ss := ins H.ss r ⟨name, hd⟩ } 56 t m w (.returned v) (w3.setCell ⟨t, 2, Option.none⟩ (.slice a n1 c)) := by
  subst hn1 hn
  rw [List.append_assoc] at ho
  exact mut_chS (w3 := w) h (Fr.refl _ _) (by rw [length_ins _ _ _ hi, lbCells_ins _ _ _ hi]; exact ownsRow_mono ho (Nat.zero_le _)) (Fr.of_below hb) (fun k hk => .inr (own_ge ho hk))

/-- The front and the rear of a row, in the three forms that it may have. -/
theorem row_parts {w : World} {e : TypeId} {sz n r : Nat} {v : Value} {xs : List Value} (h : w.ownsRow 0 e sz v n xs) (hr : r ≤ n) : ∃ (a : Option Addr) (cap : Nat) (fv rv : Value), v = .slice a n cap ∧
    (∀ w', Below w.heap.size w w' → SlAt w' fv r sz (xs.take (r * sz))) ∧ (∀ w', Below w.heap.size w w' → SlAt w' rv (n - r) sz (xs.drop (r * sz))) ∧
        ((a = none ∧ r = 0 ∧ n = 0 ∧ cap = 0 ∧ fv = .slice none 0 0 ∧ rv = .slice none 0 0) ∨
         (∃ g, a = some ⟨g, 0, none⟩ ∧ r ≤ cap ∧ n ≤ cap ∧ fv = .slice (some ⟨g, 0, none⟩) r cap ∧ ((cap = r ∧ rv = .slice (some ⟨g, 0, none⟩) 0 0) ∨ (¬ cap = r ∧ rv = .slice (some ⟨g, r * sz, none⟩) (n - r) (cap - r))))) := by
  rcases h.2 with ⟨rfl, rfl⟩ | ⟨g, cap, cur, rfl, hb, hgg, h1, h2, h3⟩
  · obtain rfl : r = 0 := by omega
    have hx : xs = [] := List.eq_nil_of_length_eq_zero (by rw [h.1]; omega)
    subst hx
    refine ⟨none, 0, .slice none 0 0, .slice none 0 0, rfl, fun w' _ => ?_, fun w' _ => ?_, .inl ⟨rfl, rfl, rfl, rfl, rfl, rfl⟩⟩
    · simpa using sl_nil w' sz
    · simpa using sl_nil w' sz
  · by_cases hc : cap = r
    · refine ⟨_, cap, _, _, rfl, fun w' hb => (sl_take h h1 h2 hr).below hb, fun w' hb => ?_, .inr ⟨g, rfl, by omega, h1, rfl, .inl ⟨hc, rfl⟩⟩⟩
      have := (sl_drop0 h h2 h1 hr hc).below hb
      rw [show cap - r = 0 by omega] at this
      have e0 : n - r = 0 := by omega
      rw [e0] at this ⊢
      exact this
    · exact ⟨_, cap, _, _, rfl, fun w' hb => (sl_take h h1 h2 hr).below hb, fun w' hb => (sl_drop h h2 h1 hr).below hb, .inr ⟨g, rfl, by omega, h1, rfl, .inr ⟨hc, rfl⟩⟩⟩

set_option maxRecDepth 100000 in
set_option maxHeartbeats 4000000 in
theorem refSnapshot51 (h : Rep w 56 t H m) (hw : WF H) (name : ByteArray) (hnm : name.size ≤ maxLen) :
    Calls Try.prog 51 #[.pointer (some ⟨t, 0, none⟩), .string name] w (Mut (.int .i64 (cSnap H name)) (mSnap H name) 56 t m w) := by
  have hs2 := hw.s2
  have hB := Lib.hid (refSnapshot82 h (by omega) name)
  have hW := Lib.hid (fun w' => word62 name hnm w')
  have ht : t < w.heap.size := h.lt (.inl rfl)
  have HR := Lib.hid h
  obtain ⟨a0, g0, cap0, hsv0, _⟩ := own_addr h.ss
  have c1 : w.cell? ⟨t, 2, none⟩ = some (.slice a0 H.ss.length cap0) := by rw [h.cellT.2.2.1, hsv0]
  by_cases hz : takenE name (hasN name (snames H)) H.ss.length = 0
  · obtain ⟨z1, z2, z3⟩ := takenE_zero hz
    rw [z1] at hW
    rw [z2] at hB
    have E1 := Lib.hid (show cSnap H name = 0 from hz)
    have e2 : mSnap H name = { H with ss := ins H.ss (rank name (snames H)) ⟨name, hdN H⟩ } := if_pos hz
    have hrk : rank name (snames H) ≤ H.ss.length := by have := rank_le name (snames H); simpa [snames] using this
    have f1 : w.frozen? ⟨t, 2, none⟩ = false := h.frT 2
    obtain ⟨r, hr⟩ : ∃ r, r = rank name (snames H) := ⟨_, rfl⟩
    rw [← hr] at hB hrk e2
    obtain ⟨a, cap, fv, rv, hsv, hT, hD, hcase⟩ := row_parts h.ss hrk
    rw [hsv0] at hsv
    cases hsv
    have E2 := Lib.hid e2
    obtain ⟨n, hn⟩ : ∃ n, n = H.ss.length := ⟨_, rfl⟩
    rw [← hn] at hrk hD hcase c1 hs2 z3
    have HN := Lib.hid hn.symm
    have HRK := Lib.hid hrk
    obtain ⟨r1, hr1'⟩ : ∃ r1, r + 1 = r1 := ⟨_, rfl⟩
    obtain ⟨n1, hn1'⟩ : ∃ n1, n + 1 = n1 := ⟨_, rfl⟩
    have HR1 := Lib.hid hr1'
    have HN1 := Lib.hid hn1'
    have HLE := Lib.hid (show r1 + (n - r) = n1 by omega)
    have HM1 := Lib.hid (show r1 + (n - r) ≤ maxLen by unfold maxLen; omega)
    have HM2 := Lib.hid (show (r1 + (n - r)) * 24 ≤ 140737488355328 by omega)
    have HM3 := Lib.hid (show 0 + r ≤ maxLen by unfold maxLen; omega)
    have HM4 := Lib.hid (show (0 + r) * 24 ≤ 140737488355328 by omega)
    have HM5 := Lib.hid (show r + 1 ≤ maxLen by unfold maxLen; omega)
    have HM6 := Lib.hid (show (r + 1) * 24 ≤ 140737488355328 by omega)
    have hr63 : (r : Int) ≤ 1000 := by omega
    have hr0 : (0 : Int) ≤ r := by omega
    have hr1 : (r : Int) ≤ n := by omega
    have hn16 : (n : Int) < 16 := by omega
    have HTK := Lib.hid (fun u (hu : u ∈ (lbCells H.ss).take (r * 2)) => one_lb H.ss u (List.mem_of_mem_take hu))
    have HDK := Lib.hid (fun u (hu : u ∈ (lbCells H.ss).drop (r * 2)) => one_lb H.ss u (List.mem_of_mem_drop hu))
    obtain ⟨i0, hi0, hz0, hz1, hz2⟩ := info_parts info78
    have hone2 : ∀ u ∈ [Value.string name, Value.int .i64 (hdN H)], u.oneCell' = true := by
      intro u hu
      simp at hu
      rcases hu with rfl | rfl <;> rfl
    have H2 := Lib.hid hone2
    have HH := Lib.hid (fun w' (hb : Below w.heap.size w w') => refHead56 (h.below hb) hw)
    have HT := Lib.hid hT
    have HD := Lib.hid hD
    clear hT hD hz hr h hsv0 e2 z1 z2 hone2 hn hw hr1' hn1'
    rcases hcase with ⟨rfl, rfl, rfl, rfl, rfl, rfl⟩ | ⟨g, rfl, hc1, hc2, rfl, ⟨hcr, rfl⟩ | ⟨hcr, rfl⟩⟩
    all_goals
      first | subst hcr | skip
      go_enter Try.func51, Try.ntmps51
      go_wp2_with fail
      refine hB.out.mono ?_
      rintro e w1 ⟨rfl, hb1⟩
      have d1 : w1.cell? ⟨t, 2, none⟩ = _ := (hb1.cell (p := ⟨t, 2, none⟩) ht).trans c1
      have ht1 : t < w1.heap.size := Nat.lt_of_lt_of_le ht hb1.size
      have HB1 := Lib.hid hb1
      clear hb1
      go_wp2_with fail
      refine (hW.out _).mono ?_
      rintro e w2 ⟨rfl, rfl⟩
      go_wp2_with (first
        | (refine wpList_app2 rfl (.tmp 28) (.tmp 35) 35 rfl w.heap.size 78 i0 _ 2 24 Try.underlying35 hi0 hz0 hz1 hz2 rfl (by decide) _ 0 [] rfl (own_lit0a HB1.out.size) _ _ _ rfl (HT.out _ (below_alloc1 HB1.out (Nat.le_refl _))) HTK.out HM3.out HM4.out (Nat.le_refl _) (below_alloc1 HB1.out (Nat.le_refl _)) (Nat.zero_add _) (List.nil_append _) (fun a1 k1 w3 ho1 hA1 => ?_)))
      have HO1 := Lib.hid ho1
      have HA1 := Lib.hid hA1
      clear ho1 hA1
      refine (HH.out _ HA1.out).mono ?_
      rintro e w4 ⟨rfl, hb4⟩
      have HO4 := Lib.hid (own_frame HO1.out (Fr.of_below (S := fun _ => False) hb4) (fun _ _ e => e))
      have HA4 := Lib.hid (HA1.out.trans (hb4.mono HA1.out.size))
      clear hb4
      go_wp2_with (first
        | (refine wpList_app2 rfl (.tmp 36) (.tmp 41) 35 rfl w.heap.size 78 i0 _ 2 24 Try.underlying35 hi0 hz0 hz1 hz2 rfl (by decide) _ _ _ rfl (HO4.out.alloc _) _ 1 [.string name, .int .i64 (hdN H)] rfl (sl_block (heap_alloc_new _ _) rfl (by decide)) H2.out HM5.out HM6.out (Nat.le_refl _) (below_alloc1 HA4.out (Nat.le_refl _)) HR1.out rfl (fun a5 k5 w5 ho5 hA5 => ?_); have d5 : w5.cell? ⟨t, 2, none⟩ = _ := (hA5.cell (p := ⟨t, 2, none⟩) ht).trans c1; have HO5 := Lib.hid ho5; have HA5 := Lib.hid hA5; clear ho5 hA5)
        | (refine wpList_app2 rfl (.tmp 44) (.tmp 51) 35 rfl w.heap.size 78 i0 _ 2 24 Try.underlying35 hi0 hz0 hz1 hz2 rfl (by decide) _ _ _ rfl HO5.out _ _ _ rfl (HD.out _ HA5.out) HDK.out HM1.out HM2.out (Nat.le_refl _) HA5.out HLE.out rfl (fun a6 k6 w6 ho6 hA6 => ?_); have d6 : w6.cell? ⟨t, 2, none⟩ = _ := (hA6.cell (p := ⟨t, 2, none⟩) ht).trans c1; have g6 : w6.frozen? ⟨t, 2, none⟩ = false := (hA6.frozen (p := ⟨t, 2, none⟩) ht).trans f1; have HO6 := Lib.hid ho6; have HA6 := Lib.hid hA6; clear ho6 hA6))
      go_ret
      rw [E1.out, E2.out]
      exact mut_insS HR.out HN.out HN1.out HRK.out HA6.out HO6.out
  · have E1 := Lib.hid (show cSnap H name = takenE name (hasN name (snames H)) H.ss.length from rfl)
    have E2 := Lib.hid (show mSnap H name = H from if_neg hz)
    have hok := hz
    unfold takenE at hok
    clear h
    cases hwb : wordB name
    · have e3 : takenE name (hasN name (snames H)) H.ss.length = 1 := by unfold takenE; rw [hwb]; rfl
      have E3 := Lib.hid e3
      rw [hwb] at hW
      clear hz hok e3 hwb
      go_enter Try.func51, Try.ntmps51
      go_wp2_with fail
      refine hB.out.mono ?_
      rintro e w1 ⟨rfl, hb1⟩
      have HB1 := Lib.hid hb1
      clear hb1
      go_wp2_with fail
      refine (hW.out _).mono ?_
      rintro e w2 ⟨rfl, rfl⟩
      go_wp2_with fail
      go_ret
      rw [E1.out, E2.out, E3.out]
      exact Mut.none HR.out HB1.out
    · rw [hwb] at hW
      cases hok2 : hasN name (snames H)
      · have hlen : 16 ≤ H.ss.length := by
          rw [hwb, hok2] at hok
          by_cases h16 : 16 ≤ H.ss.length
          · exact h16
          · exact absurd (by rw [if_pos rfl, if_neg (by decide), if_neg h16]) hok
        have e3 : takenE name (hasN name (snames H)) H.ss.length = 7 := by unfold takenE; rw [hwb, hok2, if_pos rfl, if_neg (by decide), if_pos hlen]
        have E3 := Lib.hid (hok2 ▸ e3)
        rw [hok2] at hB E1
        have hl16 : (16 : Int) ≤ H.ss.length := by omega
        clear hz hok e3 hwb hok2 hlen
        go_enter Try.func51, Try.ntmps51
        go_wp2_with fail
        refine hB.out.mono ?_
        rintro e w1 ⟨rfl, hb1⟩
        have d1 : w1.cell? ⟨t, 2, none⟩ = _ := (hb1.cell (p := ⟨t, 2, none⟩) ht).trans c1
        have HB1 := Lib.hid hb1
        clear hb1
        go_wp2_with fail
        refine (hW.out _).mono ?_
        rintro e w2 ⟨rfl, rfl⟩
        go_wp2_with fail
        go_ret
        rw [E1.out, E2.out, E3.out]
        exact Mut.none HR.out HB1.out
      · have e3 : takenE name (hasN name (snames H)) H.ss.length = 16 := by unfold takenE; rw [hwb, hok2, if_pos rfl, if_pos rfl]
        have E3 := Lib.hid (hok2 ▸ e3)
        rw [hok2] at hB E1
        clear hz hok e3 hwb hok2
        go_enter Try.func51, Try.ntmps51
        go_wp2_with fail
        refine hB.out.mono ?_
        rintro e w1 ⟨rfl, hb1⟩
        have HB1 := Lib.hid hb1
        clear hb1
        go_wp2_with fail
        refine (hW.out _).mono ?_
        rintro e w2 ⟨rfl, rfl⟩
        go_wp2_with fail
        go_ret
        rw [E1.out, E2.out, E3.out]
        exact Mut.none HR.out HB1.out

end

end Go.Proofs.Ytalmfmijjbpnpaa
