/- The evaluator of closed calls, part Fr: what the program computes on given inputs, read by the kernel; sound in every world (part Gh). -/
import Derived.Test.YtendmajekgmkhaaGreatDoorFq
set_option linter.unusedVariables false
set_option linter.unusedSimpArgs false
set_option linter.unnecessarySimpa false
namespace Go.Ev
section
variable {P : Program} {E : Env}

theorem Rep.heap_eq {G : Tabs} {m : Mp} {h : Heap} {w w' : World} (r : Rep G m h w) (e : w'.heap = w.heap) : Rep G m h w' :=
  ⟨fun n hn => by rw [e]; exact r.blk n hn, r.fresh, r.apart, r.mem, r.rts, r.ins, fun g l hg => by rw [e]; exact r.glob g l hg⟩
theorem srcLen_spec {x : AVal} {k : Nat → OR} {r : OR} (h : srcLen x .fail k = r) (hr : r ≠ .fail) : ∃ n, (∀ m w, (Builtin.lenOf (γ m x)).run P w = .ok n w) ∧ k n = r ∧ (∀ s, x = .str s → n = s.length) ∧ (x = .slcNil → n = 0) := by
  unfold srcLen at h
  cases x <;> try (exact absurd h.symm hr)
  · rename_i n off l c
    refine ⟨l, fun m w => ?_, h, fun s e => (by cases e), fun e => (by cases e)⟩
    cases c <;> simp [γ, Builtin.lenOf]
  · rename_i s
    change forceN s.length k = r at h
    rw [forceN_spec] at h
    exact ⟨s.length, fun m w => by simp [γ, Builtin.lenOf]; rfl, h, fun s' e => by cases e; rfl, fun e => (by cases e)⟩
  · exact ⟨0, fun m w => by simp [γ, Builtin.lenOf], h, fun s e => (by cases e), fun _ => rfl⟩
/-- The cells of what is appended or copied. -/
theorem srcCells_spec {m : Mp} {h : Heap} {w0 : World} (hr0 : Rep E.gl m h w0) {size n : Nat} {x : AVal} {l : List AVal} (e : srcCells h size n x = some l) :
    InL (dom h) l ∧ (∀ w, Rep E.gl m h w → (Builtin.firstCells size n (γ m x)).run P w = .ok ⟨γs m l⟩ w) ∧ ((∀ s, x = .str s → n ≤ s.length) → (x = .slcNil → n = 0) → l.length = n * size) := by
  unfold srcCells at e
  cases x <;> try (cases e; done)
  · rename_i q off len c
    simp only at e
    refine ⟨(hr0.loadN e).2.1, fun w hr => ?_, fun _ _ => (hr0.loadN e).1⟩
    have := hr.run_loadN (P := P) e
    cases c <;> exact this
  · rename_i s
    simp only at e
    obtain ⟨h1, h2⟩ := cond_some' e
    cases h2
    have h1' := beq_iff.1 h1
    refine ⟨InL_byteVals _, fun w _ => ?_, fun hs _ => ?_⟩
    · simp only [γ, Builtin.firstCells, extract_bytes, List.drop_zero, Nat.sub_zero, byteVals_map]
      simp
    · rw [byteVals_length, List.length_take, Nat.min_eq_left (hs s rfl), h1', Nat.mul_one]
  · cases e
    exact ⟨trivial, fun w _ => by simp [γ, Builtin.firstCells, γs], fun _ h0 => by rw [h0 rfl]; simp⟩
theorem roomy_spec {b n : Nat} (h : roomy b n = true) : (8 * n + 4096) * b ≤ 281474976710656 ∧ n ≤ 281474976710656 ∧ 0 < b := by
  unfold roomy at h
  rw [Bool.and_eq_true, Bool.and_eq_true] at h
  exact ⟨ble_iff.1 h.1, ble_iff.1 h.2.1, blt_iff.1 h.2.2⟩
/-- The world behind a growing append. -/
def grownW (w : World) (o : Obj) : World := { w with heap := w.heap.push o, drawn := w.drawn + 1 }
theorem append_grow {m : Mp} {h : Heap} {w : World} (hr : Rep E.gl m h w) (ok : EnvOk P E) {st xt e : TypeId} {i : TypeInfo} {d : TypeDesc} (hst : E.und st = some (.slice e)) (hxt : E.und xt = some d) (hd : ∀ k, d ≠ .int k)
    (hi : E.ty e = some i) {z : List AVal} (hz : zerosOf E e 0 = some z) (ty : TypeId) {base : Option Addr} {sLen sCap n : Nat} {x : AVal} {old new : List AVal}
    (hlen : (Builtin.lenOf (γ m x)).run P w = .ok n w) (hnew : ∀ w, Rep E.gl m h w → (Builtin.firstCells i.size n (γ m x)).run P w = .ok ⟨γs m new⟩ w)
    (hold : ∀ w, Rep E.gl m h w → (Builtin.firstCells i.size sLen (.slice base sLen sCap)).run P w = .ok ⟨γs m old⟩ w)
    (hgt : sCap < sLen + n) (hroom : roomy i.bytes (sLen + n) = true) (hl : (old ++ new).length = (sLen + n) * i.size) :
    ∃ cap rest, sLen + n ≤ cap ∧ (γs m (old ++ new) ++ rest).length = cap * i.size ∧
      (Builtin.append_ #[st, xt] ty #[.slice base sLen sCap, γ m x]).run P w = .ok (.slice (some ⟨w.heap.size, 0, none⟩) (sLen + n) cap) (grownW w (.cells ⟨γs m (old ++ new) ++ rest⟩ e)) := by
  obtain ⟨i', v, i1, i2, i3, i4, _⟩ := zerosOf_spec ok hz
  rw [hi] at i2; cases i2
  obtain ⟨r1, r2, r3⟩ := roomy_spec hroom
  have hcapge : sLen + n ≤ (Question.appendCap (sLen + n) sCap e).cut (w.tape w.drawn (Question.appendCap (sLen + n) sCap e)) := by
    simp only [Question.cut]; omega
  generalize hcv : (Question.appendCap (sLen + n) sCap e).cut (w.tape w.drawn (Question.appendCap (sLen + n) sCap e)) = cap at hcapge
  have hz0 : v.cells.size = i.size := by
    have hzc : v.cells = ⟨γs m (AVal.ofValue v).cells⟩ := by rw [← γ_cells (D := fun _ => False) m (In_ofValue _ v), γ_ofValue]
    rw [hzc]; simp [γs_length, i4]
  refine ⟨cap, (Builtin.zeroCells v.cells (cap - (sLen + n))).toList, hcapge, ?_, ?_⟩
  · rw [List.length_append, γs_length, hl, Array.length_toList, size_zeroCells, hz0, ← Nat.add_mul]; congr 1; omega
  · have hg : Builtin.nextslicecap (sLen + n) sCap * i.bytes ≤ 281474976710656 := growslice_fits hgt (by
      have : (sLen + n) * i.bytes ≤ (8 * (sLen + n) + 4096) * i.bytes / 2 := by
        rw [Nat.le_div_iff_mul_le (by omega)]
        rw [Nat.mul_assoc, Nat.mul_comm i.bytes 2, ← Nat.mul_assoc]
        exact Nat.mul_le_mul_right _ (by omega)
      omega)
    have hforced : (Question.appendCap (sLen + n) sCap e).forced = false := rfl
    have hn : ¬ (sLen + n ≤ sCap) := by omega
    have h63' : ¬ (9223372036854775807 < ((sLen : Int) + (n : Int))) := by omega
    have h48' : ¬ (281474976710656 < Builtin.nextslicecap (sLen + n) sCap * i.bytes) := by omega
    simp [Builtin.append_, run_underlying (ok.und hst), run_underlying (ok.und hxt), Go.sizeOf, typeInfo, zeroValue, i1, i3, hlen, hn, h63', h48', hforced, newRow, hcv]
    rw [hold w.drew (hr.heap_eq rfl)]
    simp only [Result.andThen_ok]
    rw [hnew w.drew (hr.heap_eq rfl)]
    simp only [Result.andThen_ok]
    have e : ((⟨γs m old⟩ : Array Value) ++ ((⟨γs m new⟩ : Array Value) ++ Builtin.zeroCells v.cells (cap - (sLen + n)))) = ⟨γs m (old ++ new) ++ (Builtin.zeroCells v.cells (cap - (sLen + n))).toList⟩ := by
      apply Array.ext'; simp [γs_append]
    rw [e]; rfl
theorem append_room {m : Mp} {h : Heap} {w w' : World} (hr : Rep E.gl m h w) (ok : EnvOk P E) {st xt e : TypeId} {i : TypeInfo} {d : TypeDesc} (hst : E.und st = some (.slice e)) (hxt : E.und xt = some d) (hd : ∀ k, d ≠ .int k)
    (hi : E.ty e = some i) (ty : TypeId) {b off sLen sCap n : Nat} {x : AVal} {new : List AVal}
    (hlen : (Builtin.lenOf (γ m x)).run P w = .ok n w) (hnew : ∀ w, Rep E.gl m h w → (Builtin.firstCells i.size n (γ m x)).run P w = .ok ⟨γs m new⟩ w)
    (hle : sLen + n ≤ sCap) (hst' : (storeCells ⟨b, off + sLen * i.size, none⟩ (γs m new)).run P w = .ok () w') :
    (Builtin.append_ #[st, xt] ty #[.slice (some ⟨b, off, none⟩) sLen sCap, γ m x]).run P w = .ok (.slice (some ⟨b, off, none⟩) (sLen + n) sCap) w' := by
  have hn := hnew w hr
  have hadd : (⟨b, off, none⟩ : Addr).add (sLen * i.size) = ⟨b, off + sLen * i.size, none⟩ := add_at _ _ _
  simp [Builtin.append_, run_underlying (ok.und hst), run_underlying (ok.und hxt), Go.sizeOf, typeInfo, ok.ty e i hi, hlen, hle, hn, hadd, hst']
theorem append_nil {m : Mp} {h : Heap} {w : World} (hr : Rep E.gl m h w) (ok : EnvOk P E) {st xt e : TypeId} {i : TypeInfo} {d : TypeDesc} (hst : E.und st = some (.slice e)) (hxt : E.und xt = some d) (hd : ∀ k, d ≠ .int k)
    (hi : E.ty e = some i) (ty : TypeId) {x : AVal} {new : List AVal}
    (hlen : (Builtin.lenOf (γ m x)).run P w = .ok 0 w) (hnew : ∀ w, Rep E.gl m h w → (Builtin.firstCells i.size 0 (γ m x)).run P w = .ok ⟨γs m new⟩ w) :
    (Builtin.append_ #[st, xt] ty #[.slice none 0 0, γ m x]).run P w = .ok (.slice none 0 0) w := by
  have hn := hnew w hr
  simp [Builtin.append_, run_underlying (ok.und hst), run_underlying (ok.und hxt), Go.sizeOf, typeInfo, ok.ty e i hi, hlen, hn]
end
end Go.Ev
