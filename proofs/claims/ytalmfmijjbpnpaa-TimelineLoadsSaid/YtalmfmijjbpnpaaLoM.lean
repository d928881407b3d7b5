/-
  Walks of slices.Insert.
-/
import Derived.Test.YtalmfmijjbpnpaaLoL
namespace Go.Proofs.Ytalmfmijjbpnpaa
open Go.RowKit

theorem ownBlock_slice (a : Option Addr) (n c : Nat) : (Value.slice a n c).ownBlock = a.map (·.block) := by cases a <;> rfl

theorem lay_two (L : List Value) (mid news : List Value) (_xs : List Value) (a b c : Nat) (hb : b = a + news.length) (hL : a + news.length ≤ L.length) (hc : c = a + news.length + mid.length) :
    (lay (lay L b mid) a news).take c = L.take a ++ (news ++ mid) := by
  subst hb hc
  unfold lay
  have h1 : (L.take (a + news.length) ++ (mid ++ L.drop (a + news.length + mid.length))).take a = L.take a := by
    rw [List.take_append_of_le_length (by rw [List.length_take]; omega), List.take_take]; congr 1; omega
  have h2 : (L.take (a + news.length) ++ (mid ++ L.drop (a + news.length + mid.length))).drop (a + news.length) = mid ++ L.drop (a + news.length + mid.length) := by
    rw [List.drop_append_of_le_length (by rw [List.length_take]; omega), List.drop_eq_nil_of_le (by rw [List.length_take]; omega), List.nil_append]
  rw [h1, h2, ← List.append_assoc news mid, ← List.append_assoc]
  exact List.take_left' (by rw [List.length_append, List.length_append, List.length_take]; omega)

theorem lay_two' (L : List Value) (mid news : List Value) (_xs : List Value) (a b c : Nat) (hb : b = a + news.length) (hL : a + news.length ≤ L.length) (hc : c = a + news.length + mid.length) :
    (lay (lay L a news) b mid).take c = L.take a ++ (news ++ mid) := by
  subst hb hc
  unfold lay
  have h1 : (L.take a ++ (news ++ L.drop (a + news.length))).take (a + news.length) = L.take a ++ news := by
    rw [← List.append_assoc]
    exact List.take_left' (by rw [List.length_append, List.length_take]; omega)
  rw [h1, ← List.append_assoc (L.take a ++ news), List.append_assoc (L.take a) news mid]
  exact List.take_left' (by rw [List.length_append, List.length_append, List.length_take]; omega)

/-- What Insert answers, of a row of n elements xs, at i, one element news. -/
def Ins (E : TypeId) (sz : Nat) (s : Value) (n i : Nat) (xs news : List Value) (w : World) (e : Ending) (w' : World) : Prop :=
  ∃ v', e = .returned v' ∧ w'.ownsRow 0 E sz v' (n + 1) (xs.take (i * sz) ++ (news ++ xs.drop (i * sz))) ∧ Fr (fun k => s.ownBlock = some k) w w' ∧ ∀ g, v'.ownBlock = some g → s.ownBlock = some g ∨ w.heap.size ≤ g

section
variable {w : World}

set_option maxRecDepth 100000 in
set_option maxHeartbeats 1000000 in
theorem insert35_end (s : Value) (n B : Nat) (xs : List Value) (p q r : Value) (hown : w.ownsRow 0 65 3 s n xs) (hB : w.heap[B]? = some (.cells #[p, q, r] 65 (0, 0)))
    (h1 : p.oneCell' = true ∧ q.oneCell' = true ∧ r.oneCell' = true) (hn : n ≤ 1000) :
    Calls Try.prog 35 #[s, .int .i64 n, .slice (some ⟨B, 0, none⟩) 1 1] w (Ins 65 3 s n n xs [p, q, r] w) := by
  obtain ⟨a, g, cap, rfl, ha, hg, hcap, hcm, hcell⟩ := own_addr hown
  obtain ⟨i0, hi0, hz0, hz1, hz2⟩ := info_parts info65
  have HO := Lib.hid hown
  have HA := Lib.hid ha
  have hl := hown.1
  have hnews : ∀ u ∈ [p, q, r], u.oneCell' = true := by intro u hu; simp at hu; rcases hu with rfl | rfl | rfl; (exact h1.1); (exact h1.2.1); (exact h1.2.2)
  have HN := Lib.hid hnews
  have HB := Lib.hid hB
  have hcm' : cap ≤ 9223372036854775807 := by unfold maxLen at hcm; omega
  clear hown ha hg hcell hnews hB hcm
  go_enter Try.func35, Try.ntmps35
  go_wp2_with (at_builtin; refine wpList_append_lies _ rfl _ _ 34 rfl 0 65 i0 _ 3 48 Try.underlying34 hi0 hz0 hz1 hz2 rfl (by decide) _ n xs rfl HO.out ⟨B, 0, none⟩ 1 1 [p, q, r] rfl rfl (World.news_of_block (cs := #[p, q, r]) HB.out) HN.out (by omega) (by unfold maxLen; omega) (by omega) (Nat.zero_le _) w.heap.size rfl ?_)
  all_goals
    intro g' cap' w' h2 h3 h4 _
    have H2 := Lib.hid h2
    have H3 := Lib.hid h3
    have H4 := Lib.hid h4
    clear h2 h3 h4
    go_wp2_with fail
    go_ret
    have h3' := H3.out
    have h4' := H4.out
    rw [ownBlock_slice] at h3' h4'
    refine ⟨_, rfl, by rw [List.take_of_length_le (by omega), List.drop_eq_nil_of_le (by omega), List.append_nil]; exact H2.out, ?_, fun k hk => ?_⟩
    · rw [ownBlock_slice]; exact fr_of_grown h3'
    · have e : g' = k := by simpa [Value.ownBlock] using hk
      subst e
      rw [ownBlock_slice]
      exact h4'.imp id (fun e => by omega)

set_option maxRecDepth 100000 in
set_option maxHeartbeats 1000000 in
theorem insert35_room (g n cap i B : Nat) (cur : List Value) (p q r : Value) (hg : w.heap[g]? = some (.cells cur.toArray 65 (0, 0))) (hcur : cur.length = cap * 3) (hi : i < n) (hroom : n + 1 ≤ cap) (hcm : cap ≤ maxLen)
    (h1c : ∀ u ∈ (cur.drop (i * 3)).take ((n - i) * 3), u.oneCell' = true) (hB : w.heap[B]? = some (.cells #[p, q, r] 65 (0, 0))) (hBg : B ≠ g)
    (h1 : p.oneCell' = true ∧ q.oneCell' = true ∧ r.oneCell' = true) (hn : n ≤ 1000) :
    Calls Try.prog 35 #[.slice (some ⟨g, 0, none⟩) n cap, .int .i64 i, .slice (some ⟨B, 0, none⟩) 1 1] w fun e w' =>
      e = .returned (.slice (some ⟨g, 0, none⟩) (n + 1) cap) ∧ Fr (fun k => k = g) w w' ∧ w'.heap[g]? = some (.cells (lay (lay cur ((i + 1) * 3) ((cur.drop (i * 3)).take ((n - i) * 3))) (i * 3) [p, q, r]).toArray 65 (0, 0)) := by
  have hsz : (Try.prog.info? 65).map (·.size) = some 3 := by
    obtain ⟨i0, hi0, hz0, hz1, hz2⟩ := info_parts info65
    rw [hi0]; simp [hz1]
  have hz3 : ∀ w, (Go.sizeOf 65).run Try.prog w = .ok 3 w := by
    intro w
    obtain ⟨i0, hi0, hz0, hz1, hz2⟩ := info_parts info65
    simp [sizeOf, typeInfo, hi0, hz1]
  have hnews : ∀ u ∈ [p, q, r], u.oneCell' = true := by intro u hu; simp at hu; rcases hu with rfl | rfl | rfl; (exact h1.1); (exact h1.2.1); (exact h1.2.2)
  have hc63 : cap ≤ 9223372036854775807 := by unfold maxLen at hcm; omega
  have hmid : ((cur.drop (i * 3)).take ((n - i) * 3)).length = (n - i) * 3 := by rw [List.length_take, List.length_drop]; omega
  obtain ⟨mid, hmide⟩ : ∃ mid, mid = (cur.drop (i * 3)).take ((n - i) * 3) := ⟨_, rfl⟩
  rw [← hmide] at hmid ⊢
  have hov : ∀ lb cb, (callFunc 66 #[.slice (some ⟨B, 0, none⟩) 1 1, .slice (some ⟨g, (i + 1) * 3, none⟩) lb cb]).run Try.prog w = .ok (.value (.bool false)) w := fun lb cb => by
    have s1 : w.shape? B = some (65, 3) := by simp [World.shape?, hB]
    have s2 : w.shape? g = some (65, cap * 3) := by simp [World.shape?, hg, hcur]
    rw [run_callFunc_extern Try.func66 (by kernel_rfl) (by kernel_rfl) (by kernel_rfl) (e := Extern.SlicesOverlaps.overlaps #[34, 34] #[4]) (by kernel_rfl),
      Lib.run_overlaps_apart w 34 4 65 Try.underlying34 3 hz3 ⟨B, 0, none⟩ ⟨g, (i + 1) * 3, none⟩ 1 1 lb cb hBg 65 65 3 (cap * 3) s1 s2 (by omega) (frozen_of_blk hB 0) (frozen_of_blk hB 3)]
    rfl
  have hcp1 : ∀ ty dc sc, (Builtin.copy_ #[34, 34] ty #[.slice (some ⟨g, (i + 1) * 3, none⟩) (n - i) dc, .slice (some ⟨g, i * 3, none⟩) (n + 1 - i) sc]).run Try.prog w.drew = .ok (goInt ((n - i : Nat) : Int)) (w.drew.setRow g (lay cur ((i + 1) * 3) mid).toArray) := fun ty dc sc => by
    have := run_copy_gen (P := Try.prog) w.drew 34 34 ty 65 3 g ((i + 1) * 3) (n - i) dc ⟨g, i * 3, none⟩ (n + 1 - i) sc cur 65 mid Try.underlying34 hsz hg (by rw [hmid]; congr 1; simp only [Nat.min_def]; split <;> omega)
      (fun j v hj => by
        have hadd : (⟨g, i * 3, none⟩ : Addr).add j = ⟨g, i * 3 + j, none⟩ := by unfold Addr.add; split <;> simp_all
        rw [hadd]
        show w.cell? _ = _
        rw [cell_of_blk hg, List.getElem?_toArray]
        rw [hmide, List.getElem?_take] at hj
        split at hj
        · rwa [List.getElem?_drop] at hj
        · cases hj)
      (by rw [hmid]; omega) (fun v hv => h1c v (by rw [hmide] at hv; exact hv))
    rwa [show Nat.min (n + 1 - i) (n - i) = n - i by simp only [Nat.min_def]; split <;> omega] at this
  have hl1 : (lay cur ((i + 1) * 3) mid).length = cur.length := length_lay (by rw [hmid]; omega)
  have hb1 : (i : Int) + 1 ≤ n + 1 := by omega
  have hb4 : (i : Int) ≤ n + 1 := by omega
  have hb5 : (0 : Int) ≤ i := by omega
  have hb2 : ¬ cap = i + 1 := by omega
  have hb3 : ¬ cap = i := by omega
  have hb0 : (0 : Int) ≤ (i : Int) + 1 := by omega
  have hw1 : IntKind.i64.wrap ((i : Int) + 1) = (i : Int) + 1 := IntWalk.i64_in _ (by omega)
  have htn : ((i : Int) + 1).toNat = i + 1 := by omega
  have HMID := Lib.hid hmid
  clear hmide hmid
  go_enter Try.func35, Try.ntmps35
  go_wp2_with (simp only [hov])
  go_region_law (refine step_copy_eq rfl _ _ 34 34 rfl _ _ (by simp [Act.eval, Act.put]) (by simp [Act.eval, Act.put]) (hcp1 _ _ _) ?_)
  obtain ⟨W1, hW1⟩ : ∃ W1, W1 = w.drew.setRow g (lay cur ((i + 1) * 3) mid).toArray := ⟨_, rfl⟩
  rw [← hW1]
  have hF : Fr (fun k => k = g) w W1 := by
    rw [hW1]
    exact ⟨rfl, rfl, rfl, by simp [World.setRow], fun k _ hk => setRow_other w.drew g k _ hk⟩
  have hG : W1.heap[g]? = some (.cells (lay cur ((i + 1) * 3) mid).toArray 65 (0, 0)) := by rw [hW1]; exact setRow_heap w.drew g _ _ _ _ hg
  have hcp2 : ∀ ty dc, (Builtin.copy_ #[34, 34] ty #[.slice (some ⟨g, i * 3, none⟩) (n + 1 - i) dc, .slice (some ⟨B, 0, none⟩) 1 1]).run Try.prog W1 = .ok (goInt 1) (W1.setRow g (lay (lay cur ((i + 1) * 3) mid) (i * 3) [p, q, r]).toArray) := fun ty dc => by
    have := run_copy_gen (P := Try.prog) W1 34 34 ty 65 3 g (i * 3) (n + 1 - i) dc ⟨B, 0, none⟩ 1 1 _ 65 [p, q, r] Try.underlying34 hsz hG (by rw [show Nat.min 1 (n + 1 - i) = 1 by simp only [Nat.min_def]; split <;> omega]; rfl)
      (World.news_of_block (cs := #[p, q, r]) ((hF.block B (Array.getElem?_eq_some_iff.1 hB).1 hBg).trans hB)) (by rw [hl1]; simp only [List.length_cons, List.length_nil]; omega) hnews
    rwa [show Nat.min 1 (n + 1 - i) = 1 by simp only [Nat.min_def]; split <;> omega] at this
  clear hW1 hcp1 hov
  go_wp2_with (refine wpList_copy_eq rfl _ _ 34 34 rfl _ _ rfl rfl (hcp2 _ _) ?_)
  go_ret
  refine ⟨rfl, ?_, setRow_heap W1 g _ _ _ _ hG⟩
  exact hF.trans (S' := fun k => k = g) ⟨rfl, rfl, rfl, by simp [World.setRow], fun k _ hk => setRow_other W1 g k _ hk⟩ (fun _ _ e => e)

theorem append_zeros35 (g i k cap : Nat) (cur : List Value) (hg : w.heap[g]? = some (.cells cur.toArray 65 (0, 0))) (hcur : cur.length = cap * 3) (hi : i ≤ cap) (hk : 0 < k) (hc : cap < i + k) (hn : i + k ≤ 200) :
    ∃ (c2 : Nat) (Z : List Value), i + k ≤ c2 ∧ c2 ≤ maxLen ∧ Z.length = (c2 - i) * 3 ∧ ∀ ty, (Builtin.append_ #[34, 3] ty #[.slice (some ⟨g, 0, none⟩) i cap, .int .i64 ((k : Nat) : Int)]).run Try.prog w =
      .ok (.slice (some ⟨w.heap.size, 0, none⟩) (i + k) c2) (w.drew.alloc (.cells (cur.take (i * 3) ++ Z).toArray 65)) := by
  obtain ⟨i0, hi0, hz0, hz1, hz2⟩ := info_parts info65
  have hz65 : (Value.agg #[Value.string ByteArray.empty, Value.int IntKind.i64 0, Value.slice none 0 0]).cells.size = 3 := rfl
  refine ⟨grownCap w (i + k) cap 65, (Builtin.zeroCells (Value.agg #[Value.string ByteArray.empty, Value.int IntKind.i64 0, Value.slice none 0 0]).cells k).toList ++ (Builtin.zeroCells (Value.agg #[Value.string ByteArray.empty, Value.int IntKind.i64 0, Value.slice none 0 0]).cells (grownCap w (i + k) cap 65 - (i + k))).toList, grownCap_ge _ _ _ _, grownCap_le_maxLen _ _ _ _ (by unfold maxLen; omega), ?_, fun ty => ?_⟩
  · have := grownCap_ge w (i + k) cap 65
    rw [List.length_append, Array.length_toList, Array.length_toList, size_zeroCells, size_zeroCells, hz65]
    omega
  · have hf : (Builtin.firstCells i0.size i (.slice (some ⟨g, 0, none⟩) i cap)).run Try.prog w.drew = .ok (cur.take (i * 3)).toArray w.drew :=
      run_firstCells_some w.drew i0.size i ⟨g, 0, none⟩ i cap (cur.take (i * 3)) (by rw [hz1, List.length_take]; omega) (fun j v hj => by
        have hadd : (⟨g, 0, none⟩ : Addr).add j = ⟨g, j, none⟩ := by unfold Addr.add; split <;> simp_all
        rw [hadd]
        show w.cell? _ = _
        rw [cell_of_blk hg, List.getElem?_toArray]
        rw [List.getElem?_take] at hj
        split at hj
        · exact hj
        · cases hj)
    have hns : Builtin.nextslicecap (i + k) cap ≤ 4000 := by
      unfold Builtin.nextslicecap
      split
      · omega
      · split
        · omega
        · omega
    have := Lib.run_append_grow_zeros (P := Try.prog) w 34 3 ty 65 i0 _ .i64 .i64 Try.underlying34 Try.underlying3 hi0 hz0 (some ⟨g, 0, none⟩) i cap (cur.take (i * 3)) hf k hk (by rw [hz1]; omega) hc (by omega) (by rw [hz2]; omega) (by rw [hz2]; omega)
    rw [this]
    refine congrArg (Result.ok _) (congrArg (fun c => w.drew.alloc (.cells c 65)) ?_)
    apply Array.ext'
    simp

set_option maxRecDepth 100000 in
set_option maxHeartbeats 1000000 in
theorem insert35_grow (g n cap i B : Nat) (cur : List Value) (p q r : Value) (hg : w.heap[g]? = some (.cells cur.toArray 65 (0, 0))) (hcur : cur.length = cap * 3) (hi : i < n) (hroom : cap < n + 1) (hnc : n ≤ cap)
    (h1c : ∀ u ∈ (cur.drop (i * 3)).take ((n - i) * 3), u.oneCell' = true) (hB : w.heap[B]? = some (.cells #[p, q, r] 65 (0, 0)))
    (h1 : p.oneCell' = true ∧ q.oneCell' = true ∧ r.oneCell' = true) (hn : n ≤ 100) :
    Calls Try.prog 35 #[.slice (some ⟨g, 0, none⟩) n cap, .int .i64 i, .slice (some ⟨B, 0, none⟩) 1 1] w fun e w' => ∃ (c2 : Nat) (C : List Value), n + 1 ≤ c2 ∧ c2 ≤ maxLen ∧ C.length = c2 * 3 ∧ C.take (i * 3) = cur.take (i * 3) ∧
      e = .returned (.slice (some ⟨w.heap.size, 0, none⟩) (n + 1) c2) ∧ Below w.heap.size w w' ∧ w'.heap[w.heap.size]? = some (.cells (lay (lay C (i * 3) [p, q, r]) ((i + 1) * 3) ((cur.drop (i * 3)).take ((n - i) * 3))).toArray 65 (0, 0)) := by
  have hsz : (Try.prog.info? 65).map (·.size) = some 3 := by
    obtain ⟨i0, hi0, hz0, hz1, hz2⟩ := info_parts info65
    rw [hi0]; simp [hz1]
  have hnews : ∀ u ∈ [p, q, r], u.oneCell' = true := by intro u hu; simp at hu; rcases hu with rfl | rfl | rfl; (exact h1.1); (exact h1.2.1); (exact h1.2.2)
  have hmid : ((cur.drop (i * 3)).take ((n - i) * 3)).length = (n - i) * 3 := by rw [List.length_take, List.length_drop]; omega
  obtain ⟨mid, hmide⟩ : ∃ mid, mid = (cur.drop (i * 3)).take ((n - i) * 3) := ⟨_, rfl⟩
  rw [← hmide] at hmid ⊢
  obtain ⟨c2, Z, hc2, hc2m, hZ, happ⟩ := append_zeros35 g i (n + 1 - i) cap cur hg hcur (by omega) (by omega) (by omega) (by omega)
  rw [show i + (n + 1 - i) = n + 1 by omega] at hc2
  have hgl := (Array.getElem?_eq_some_iff.1 hg).1
  have hBl := (Array.getElem?_eq_some_iff.1 hB).1
  obtain ⟨C, hC⟩ : ∃ C, C = cur.take (i * 3) ++ Z := ⟨_, rfl⟩
  have hCl : C.length = c2 * 3 := by rw [hC, List.length_append, List.length_take, hZ]; omega
  have hCt : C.take (i * 3) = cur.take (i * 3) := by
    rw [hC, List.take_append_of_le_length (by rw [List.length_take]; omega), List.take_take]; congr 1; omega
  have happ' : ∀ ty, (Builtin.append_ #[34, 3] ty #[.slice (some ⟨g, 0, none⟩) i cap, .int .i64 ((n : Int) + 1 - i)]).run Try.prog w = .ok (.slice (some ⟨w.heap.size, 0, none⟩) (n + 1) c2) (w.drew.alloc (.cells C.toArray 65)) := fun ty => by
    have := happ ty
    rw [show ((n + 1 - i : Nat) : Int) = (n : Int) + 1 - i by omega, show i + (n + 1 - i) = n + 1 by omega, ← hC] at this
    exact this
  obtain ⟨W1, hW1⟩ : ∃ W1, W1 = w.drew.alloc (.cells C.toArray 65) := ⟨_, rfl⟩
  rw [← hW1] at happ'
  have hB1 : Below w.heap.size w W1 := by rw [hW1]; exact ((Below.refl _ _).drew).alloc (Nat.le_refl _) _
  have hG1 : W1.heap[w.heap.size]? = some (.cells C.toArray 65 (0, 0)) := by rw [hW1]; exact heap_alloc_new w.drew _
  have hcp1 : ∀ ty dc, (Builtin.copy_ #[34, 34] ty #[.slice (some ⟨w.heap.size, i * 3, none⟩) (n + 1 - i) dc, .slice (some ⟨B, 0, none⟩) 1 1]).run Try.prog W1 = .ok (goInt 1) (W1.setRow w.heap.size (lay C (i * 3) [p, q, r]).toArray) := fun ty dc => by
    have := run_copy_gen (P := Try.prog) W1 34 34 ty 65 3 w.heap.size (i * 3) (n + 1 - i) dc ⟨B, 0, none⟩ 1 1 C 65 [p, q, r] Try.underlying34 hsz hG1 (by rw [show Nat.min 1 (n + 1 - i) = 1 by simp only [Nat.min_def]; split <;> omega]; rfl)
      (World.news_of_block (cs := #[p, q, r]) ((hB1.block B hBl).trans hB)) (by rw [hCl]; simp only [List.length_cons, List.length_nil]; omega) hnews
    rwa [show Nat.min 1 (n + 1 - i) = 1 by simp only [Nat.min_def]; split <;> omega] at this
  obtain ⟨W2, hW2⟩ : ∃ W2, W2 = W1.setRow w.heap.size (lay C (i * 3) [p, q, r]).toArray := ⟨_, rfl⟩
  rw [← hW2] at hcp1
  have hG2 : W2.heap[w.heap.size]? = some (.cells (lay C (i * 3) [p, q, r]).toArray 65 (0, 0)) := by rw [hW2]; exact setRow_heap W1 _ _ _ _ _ hG1
  have hB2 : Below w.heap.size w W2 := by rw [hW2]; exact hB1.trans ⟨rfl, rfl, rfl, by simp [World.setRow], fun k hk => setRow_other W1 _ k _ (by omega)⟩
  have hl2 : (lay C (i * 3) [p, q, r]).length = c2 * 3 := by rw [length_lay (by rw [hCl]; simp only [List.length_cons, List.length_nil]; omega), hCl]
  have hcp2 : ∀ ty dc sc, (Builtin.copy_ #[34, 34] ty #[.slice (some ⟨w.heap.size, (i + 1) * 3, none⟩) (n - i) dc, .slice (some ⟨g, i * 3, none⟩) (n - i) sc]).run Try.prog W2.drew = .ok (goInt ((n - i : Nat) : Int)) (W2.drew.setRow w.heap.size (lay (lay C (i * 3) [p, q, r]) ((i + 1) * 3) mid).toArray) := fun ty dc sc => by
    have := run_copy_gen (P := Try.prog) W2.drew 34 34 ty 65 3 w.heap.size ((i + 1) * 3) (n - i) dc ⟨g, i * 3, none⟩ (n - i) sc _ 65 mid Try.underlying34 hsz hG2 (by rw [hmid]; congr 1; simp only [Nat.min_def]; split <;> omega)
      (fun j v hj => by
        have hadd : (⟨g, i * 3, none⟩ : Addr).add j = ⟨g, i * 3 + j, none⟩ := by unfold Addr.add; split <;> simp_all
        rw [hadd]
        show W2.cell? _ = _
        rw [hB2.cell (p := ⟨g, _, none⟩) hgl, cell_of_blk hg, List.getElem?_toArray]
        rw [hmide, List.getElem?_take] at hj
        split at hj
        · rwa [List.getElem?_drop] at hj
        · cases hj)
      (by rw [hmid, hl2]; omega) (fun v hv => h1c v (by rw [hmide] at hv; exact hv))
    rwa [show Nat.min (n - i) (n - i) = n - i by simp only [Nat.min_def]; split <;> omega] at this
  have hc63 : c2 ≤ 9223372036854775807 := by unfold maxLen at hc2m; omega
  have hb1 : (i : Int) + 1 ≤ n + 1 := by omega
  have hb4 : (i : Int) ≤ n + 1 := by omega
  have hb5 : (0 : Int) ≤ i := by omega
  have hb2 : ¬ c2 = i + 1 := by omega
  have hb3 : ¬ cap = i := by omega
  have hb6 : ¬ c2 = i := by omega
  have hb7 : i ≤ n := by omega
  have hb0 : (0 : Int) ≤ (i : Int) + 1 := by omega
  have hw1 : IntKind.i64.wrap ((i : Int) + 1) = (i : Int) + 1 := IntWalk.i64_in _ (by omega)
  have htn : ((i : Int) + 1).toNat = i + 1 := by omega
  have HF := Lib.hid (⟨hc2, hc2m, hCl, hCt, hB2, hG2⟩ : n + 1 ≤ c2 ∧ c2 ≤ maxLen ∧ C.length = c2 * 3 ∧ C.take (i * 3) = cur.take (i * 3) ∧ Below w.heap.size w W2 ∧ W2.heap[w.heap.size]? = some (.cells (lay C (i * 3) [p, q, r]).toArray 65 (0, 0)))
  have HAPP := Lib.hid happ'
  have HCP1 := Lib.hid hcp1
  have HCP2 := Lib.hid hcp2
  clear hmide hmid hC hCl hCt hW1 hW2 hG1 hG2 hl2 hZ happ happ' hcp1 hcp2 hB1 hB2 hc2m
  go_enter Try.func35, Try.ntmps35
  go_wp2_with (first | (refine wpList_append_eq rfl _ _ 34 3 rfl _ _ rfl rfl (HAPP.out _) ?_; simp only [Act.put, List.setIfInBounds_toArray, List.set_cons_zero, List.set_cons_succ]) | (refine wpList_copy_eq rfl _ _ 34 34 rfl _ _ rfl rfl (HCP1.out _ _) ?_; simp only [Act.put, List.setIfInBounds_toArray, List.set_cons_zero, List.set_cons_succ]))
  go_region_law (refine step_copy_eq rfl _ _ 34 34 rfl _ _ (by simp [Act.eval, Act.put]) (by simp [Act.eval, Act.put]) (HCP2.out 3 (c2 - (i + 1)) (cap - i)) ?_)
  go_wp2
  go_ret
  obtain ⟨hc2, hc2m, hCl, hCt, hB2, hG2⟩ := HF.out
  exact ⟨c2, C, hc2, hc2m, hCl, hCt, rfl, (hB2.drew).trans ⟨rfl, rfl, rfl, by simp [World.setRow], fun k hk => setRow_other W2.drew _ k _ (by omega)⟩, setRow_heap W2.drew _ _ _ _ _ hG2⟩

theorem insert35 (s : Value) (n i B : Nat) (xs : List Value) (p q r : Value) (hown : w.ownsRow 0 65 3 s n xs) (hx : ∀ u ∈ xs, u.oneCell' = true) (hi : i ≤ n) (hB : w.heap[B]? = some (.cells #[p, q, r] 65 (0, 0)))
    (h1 : p.oneCell' = true ∧ q.oneCell' = true ∧ r.oneCell' = true) (hn : n ≤ 100) (hsB : ¬ s.ownBlock = some B) :
    Calls Try.prog 35 #[s, .int .i64 i, .slice (some ⟨B, 0, none⟩) 1 1] w (Ins 65 3 s n i xs [p, q, r] w) := by
  by_cases hin : i = n
  · subst hin
    exact insert35_end s i B xs p q r hown hB h1 (by omega)
  · rcases hown.2 with ⟨rfl, h0⟩ | ⟨g, cap, cur, rfl, _, hg, hnc, hcm, hcs, htake⟩
    · omega
    · have hxl := hown.1
      have hmid : (cur.toList.drop (i * 3)).take ((n - i) * 3) = xs.drop (i * 3) := by
        rw [← htake, List.drop_take]; congr 1; omega
      have h1m : ∀ u ∈ (cur.toList.drop (i * 3)).take ((n - i) * 3), u.oneCell' = true := by rw [hmid]; exact fun u hu => hx u (List.mem_of_mem_drop hu)
      have hct : cur.toList.take (i * 3) = xs.take (i * 3) := by rw [← htake, List.take_take]; congr 1; omega
      have hg' : w.heap[g]? = some (.cells cur.toList.toArray 65 (0, 0)) := by simpa using hg
      have hcl : cur.toList.length = cap * 3 := by rw [Array.length_toList]; exact hcs
      by_cases hroom : n + 1 ≤ cap
      · refine (insert35_room g n cap i B cur.toList p q r hg' hcl (by omega) hroom hcm h1m hB (fun e => hsB (by rw [e]; rfl)) h1 (by omega)).mono ?_
        rintro e w' ⟨rfl, hf, hh⟩
        rw [hmid] at hh
        have hlen : (xs.drop (i * 3)).length = (n - i) * 3 := by rw [List.length_drop, hxl]; omega
        refine ⟨_, rfl, ⟨?_, .inr ⟨g, cap, _, rfl, Nat.zero_le _, hh, hroom, hcm, ?_, ?_⟩⟩, hf.mono (fun k _ e => by rw [e]; rfl), fun k hk => .inl hk⟩
        · rw [List.length_append, List.length_append, List.length_take, hlen]; simp only [List.length_cons, List.length_nil]; omega
        · rw [List.size_toArray, length_lay, length_lay, hcl]
          · rw [hlen]; omega
          · rw [length_lay (by rw [hlen]; omega)]; simp only [List.length_cons, List.length_nil]; omega
        · rw [List.toList_toArray, ← hct]
          exact lay_two _ _ _ xs (i * 3) ((i + 1) * 3) ((n + 1) * 3) (by simp only [List.length_cons, List.length_nil]; omega) (by rw [hcl]; simp only [List.length_cons, List.length_nil]; omega) (by rw [hlen]; simp only [List.length_cons, List.length_nil]; omega)
      · refine (insert35_grow g n cap i B cur.toList p q r hg' hcl (by omega) (by omega) hnc h1m hB h1 hn).mono ?_
        rintro e w' ⟨c2, C, hc2, hc2m, hC, hCt, rfl, hb, hh⟩
        rw [hmid] at hh
        have hlen : (xs.drop (i * 3)).length = (n - i) * 3 := by rw [List.length_drop, hxl]; omega
        refine ⟨_, rfl, ⟨?_, .inr ⟨w.heap.size, c2, _, rfl, Nat.zero_le _, hh, hc2, hc2m, ?_, ?_⟩⟩, Fr.of_below hb, fun k hk => .inr (by simp [Value.ownBlock] at hk; omega)⟩
        · rw [List.length_append, List.length_append, List.length_take, hlen]; simp only [List.length_cons, List.length_nil]; omega
        · rw [List.size_toArray, length_lay, length_lay, hC]
          · simp only [List.length_cons, List.length_nil]; omega
          · rw [length_lay (by simp only [List.length_cons, List.length_nil]; omega), hlen]; omega
        · rw [List.toList_toArray, ← hct, ← hCt]
          exact lay_two' _ _ _ xs (i * 3) ((i + 1) * 3) ((n + 1) * 3) (by simp only [List.length_cons, List.length_nil]; omega) (by rw [hC]; simp only [List.length_cons, List.length_nil]; omega) (by rw [hlen]; simp only [List.length_cons, List.length_nil]; omega)

end

end Go.Proofs.Ytalmfmijjbpnpaa
