/-
  Laws on append of any row, nil too, onto a row of one's own. No walk stands here.
-/
import Derived.Test.YtalmfmijjbpnpaaLoZd
namespace Go.Proofs.Ytalmfmijjbpnpaa
open Go.RowKit

section
variable {P : Program}

theorem run_append_nil2 (w : World) (base : Nat) (t ty e : TypeId) (i : TypeInfo) (ht : P.underlying t = some (.slice e)) (hi : P.info? e = some i)
    (v : Value) (n : Nat) (xs : List Value) (hown : w.ownsRow base e i.size v n xs) :
    (Builtin.append_ #[t, t] ty #[v, .slice none 0 0]).run P w = .ok v w := by
  rcases hown.2 with ⟨rfl, rfl⟩ | ⟨g, cap, cur, rfl, _, hg, hnc, hcm, hcs, htake⟩
  · simp [Builtin.append_, run_underlying ht, Builtin.lenOf, Builtin.firstCells, sizeOf, typeInfo, hi]
  · simp [Builtin.append_, run_underlying ht, Builtin.lenOf, Builtin.firstCells, sizeOf, typeInfo, hi, hnc, storeCells]

/-- append of any row onto a row of one's own. -/
theorem wp_app {w : World} {o : Oper} {a : Act} {K : Act → World → Prop} {Q : Exit → Act → World → Prop} (s x : Operand) (t : TypeId)
    (ho : o.op = .call { callee := .builtin .append, args := #[s, x], argTypes := #[t, t] })
    (base : Nat) (e : TypeId) (i : TypeInfo) (z : Value) (size bytes : Nat) (ht : P.underlying t = some (.slice e)) (hi : P.info? e = some i) (hz : i.zero = some z)
    (hsize : i.size = size) (hby : i.bytes = bytes) (hzs : z.cells.size = size) (hsz : 0 < size)
    (v : Value) (n : Nat) (xs : List Value) (hs : a.eval s = v) (hown : w.ownsRow base e size v n xs)
    (u : Value) (m : Nat) (news : List Value) (hx : a.eval x = u) (hsl : SlAt w u m size news) (h1 : ∀ u ∈ news, u.oneCell' = true)
    (h63 : n + m ≤ maxLen) (hbytes : (n + m) * bytes ≤ 140737488355328) (hbase : base ≤ w.heap.size)
    (h : ∀ a' c' w', w'.ownsRow base e size (.slice a' (n + m) c') (n + m) (xs ++ news) → Fr (fun k => v.ownBlock = some k) w w' → K (a.put o.dst (.slice a' (n + m) c')) w') : o.wp P a w K Q := by
  rcases hsl.2 with ⟨rfl, rfl⟩ | ⟨ad, c, rfl, hmc, hcm, hcell⟩
  · have hnil : news = [] := List.eq_nil_of_length_eq_zero (by rw [hsl.1]; omega)
    subst hnil
    subst hsize
    obtain ⟨a1, g1, c1, rfl, _⟩ := own_addr hown
    refine wp_append_eq s x t t ho _ _ hs hx (run_append_nil2 w base t o.type e i ht hi _ n xs hown) ?_
    exact h a1 c1 w (by rw [List.append_nil]; exact hown) (Fr.refl _ _)
  · refine wp_append_own w s x t ho base e i z size bytes ht hi hz hsize hby hzs hsz v n xs hs hown ad m c news hx hsl.1 hcell h1 h63 hbytes hbase fun v' w' h2 h3 _ => ?_
    obtain ⟨a1, g1, c1, rfl, _⟩ := own_addr h2
    exact h a1 c1 w' h2 (fr_of_grown h3)

theorem wpList_app {w : World} {ops : Array Oper} {rest : List Oper} {o : Oper} {a : Act} {Q : Exit → Act → World → Prop} (hgd : o.guard = none) (s x : Operand) (t : TypeId)
    (ho : o.op = .call { callee := .builtin .append, args := #[s, x], argTypes := #[t, t] })
    (base : Nat) (e : TypeId) (i : TypeInfo) (z : Value) (size bytes : Nat) (ht : P.underlying t = some (.slice e)) (hi : P.info? e = some i) (hz : i.zero = some z)
    (hsize : i.size = size) (hby : i.bytes = bytes) (hzs : z.cells.size = size) (hsz : 0 < size)
    (v : Value) (n : Nat) (xs : List Value) (hs : a.eval s = v) (hown : w.ownsRow base e size v n xs)
    (u : Value) (m : Nat) (news : List Value) (hx : a.eval x = u) (hsl : SlAt w u m size news) (h1 : ∀ u ∈ news, u.oneCell' = true)
    (h63 : n + m ≤ maxLen) (hbytes : (n + m) * bytes ≤ 140737488355328) (hbase : base ≤ w.heap.size)
    (h : ∀ a' c' w', w'.ownsRow base e size (.slice a' (n + m) c') (n + m) (xs ++ news) → Fr (fun k => v.ownBlock = some k) w w' → wpList P ops Q rest (a.put o.dst (.slice a' (n + m) c')) w') : wpList P ops Q (o :: rest) a w :=
  wpList_plain hgd fun _ hK => wp_app s x t ho base e i z size bytes ht hi hz hsize hby hzs hsz v n xs hs hown u m news hx hsl h1 h63 hbytes hbase fun a' c' w' h2 h3 => hK _ _ (h a' c' w' h2 h3)

theorem step_app {w : World} {ops : Array Oper} {o : Oper} {a : Act} {K : Act → World → Prop} {Q : Exit → Act → World → Prop} {E : Prop} (hgd : o.guard = none) (s x : Operand) (t : TypeId)
    (ho : o.op = .call { callee := .builtin .append, args := #[s, x], argTypes := #[t, t] })
    (base : Nat) (e : TypeId) (i : TypeInfo) (z : Value) (size bytes : Nat) (ht : P.underlying t = some (.slice e)) (hi : P.info? e = some i) (hz : i.zero = some z)
    (hsize : i.size = size) (hby : i.bytes = bytes) (hzs : z.cells.size = size) (hsz : 0 < size)
    (v : Value) (n : Nat) (xs : List Value) (hs : a.eval s = v) (hown : w.ownsRow base e size v n xs)
    (u : Value) (m : Nat) (news : List Value) (hx : a.eval x = u) (hsl : SlAt w u m size news) (h1 : ∀ u ∈ news, u.oneCell' = true)
    (h63 : n + m ≤ maxLen) (hbytes : (n + m) * bytes ≤ 140737488355328) (hbase : base ≤ w.heap.size)
    (h : ∀ a' c' w', w'.ownsRow base e size (.slice a' (n + m) c') (n + m) (xs ++ news) → Fr (fun k => v.ownBlock = some k) w w' → K (a.put o.dst (.slice a' (n + m) c')) w') :
    if Region.wanted o (yielded ops a.tmps) = true then Oper.wp P o a w K Q else E := by
  rw [if_pos (by simp [Region.wanted, hgd])]
  exact wp_app s x t ho base e i z size bytes ht hi hz hsize hby hzs hsz v n xs hs hown u m news hx hsl h1 h63 hbytes hbase h

/-- The front and the rear of a row. -/
theorem sl_take {w : World} {base : Nat} {e : TypeId} {sz g n cap : Nat} {xs : List Value} (h : w.ownsRow base e sz (.slice (some ⟨g, 0, none⟩) n cap) n xs) (hnc : n ≤ cap) (hcm : cap ≤ maxLen) {i : Nat} (hi : i ≤ n) :
    SlAt w (.slice (some ⟨g, 0, none⟩) i cap) i sz (xs.take (i * sz)) := by
  have hl := h.1
  have hle : i * sz ≤ n * sz := Nat.mul_le_mul_right sz hi
  refine ⟨by rw [List.length_take]; omega, .inr ⟨_, cap, rfl, by omega, hcm, fun j u hu => ?_⟩⟩
  rw [List.getElem?_take] at hu
  split at hu
  · have e : (⟨g, 0, none⟩ : Addr).add j = ⟨g, j, none⟩ := by unfold Addr.add; split <;> simp_all
    rw [e]
    exact own_cell h hu
  · cases hu
theorem sl_drop {w : World} {base : Nat} {e : TypeId} {sz g n cap : Nat} {xs : List Value} (h : w.ownsRow base e sz (.slice (some ⟨g, 0, none⟩) n cap) n xs) (hcm : cap ≤ maxLen) (hnc : n ≤ cap) {i : Nat} (hi : i ≤ n) :
    SlAt w (.slice (some ⟨g, i * sz, none⟩) (n - i) (cap - i)) (n - i) sz (xs.drop (i * sz)) := by
  have hl := h.1
  refine ⟨by rw [List.length_drop, hl, Nat.sub_mul], .inr ⟨_, cap - i, rfl, by omega, by omega, fun j u hu => ?_⟩⟩
  rw [List.getElem?_drop] at hu
  have e : (⟨g, i * sz, none⟩ : Addr).add j = ⟨g, i * sz + j, none⟩ := by unfold Addr.add; split <;> simp_all
  rw [e]
  exact own_cell h hu
theorem sl_drop0 {w : World} {base : Nat} {e : TypeId} {sz g n cap : Nat} {xs : List Value} (h : w.ownsRow base e sz (.slice (some ⟨g, 0, none⟩) n cap) n xs) (_hcm : cap ≤ maxLen) (hnc : n ≤ cap) {i : Nat} (hi : i ≤ n) (hc : cap = i) :
    SlAt w (.slice (some ⟨g, 0, none⟩) (n - i) (cap - i)) (n - i) sz (xs.drop (i * sz)) := by
  have hl := h.1
  have hn : n = i := by omega
  have hnil : xs.drop (i * sz) = [] := List.drop_eq_nil_of_le (by rw [hl, hn]; exact Nat.le_refl _)
  rw [hnil]
  refine ⟨by rw [show n - i = 0 by omega]; simp, .inr ⟨_, cap - i, rfl, by omega, by omega, fun j u hu => by simp at hu⟩⟩
theorem sl_block {w : World} {g T : Nat} {cs : Array Value} {sz m : Nat} (h : w.heap[g]? = some (.cells cs T (0, 0))) (hl : cs.size = m * sz) (hm : m ≤ maxLen) : SlAt w (.slice (some ⟨g, 0, none⟩) m m) m sz cs.toList := by
  refine ⟨by simpa using hl, .inr ⟨_, m, rfl, Nat.le_refl _, hm, fun j u hu => ?_⟩⟩
  have e : (⟨g, 0, none⟩ : Addr).add j = ⟨g, j, none⟩ := by unfold Addr.add; split <;> simp_all
  rw [e, cell_of_blk h, ← Array.getElem?_toList]
  exact hu
theorem sl_nil (w : World) (sz : Nat) : SlAt w (.slice none 0 0) 0 sz [] := ⟨by simp, .inl ⟨rfl, rfl⟩⟩
end

end Go.Proofs.Ytalmfmijjbpnpaa
