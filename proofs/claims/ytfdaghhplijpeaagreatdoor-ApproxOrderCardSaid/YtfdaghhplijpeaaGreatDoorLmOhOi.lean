/-
  The heap's order below the last place; walks of the heap's down and Pop.
-/
import Derived.Test.YtfdaghhplijpeaaGreatDoorLmOfOg
namespace Go.Proofs.YtfdaghhplijpeaaGreatDoor
open Go Go.RowKit

/-- The order of a heap on the first n places, but for the children of c. -/
def DOx (l : List Int) (n c : Nat) : Prop :=
  (∀ i, 0 < i → i < n → (i - 1) / 2 ≠ c → l.getD i 0 ≤ l.getD ((i - 1) / 2) 0) ∧
  (0 < c → ∀ i, 0 < i → i < n → (i - 1) / 2 = c → l.getD i 0 ≤ l.getD ((c - 1) / 2) 0)
def HOn (l : List Int) (n : Nat) : Prop := ∀ i, 0 < i → i < n → l.getD i 0 ≤ l.getD ((i - 1) / 2) 0
theorem down_stop1 {l : List Int} {n c : Nat} (h : DOx l n c) (hc : n ≤ 2 * c + 1) : HOn l n := fun i h0 h1 => h.1 i h0 h1 (by omega)
theorem down_stop2 {l : List Int} {n c j : Nat} (h : DOx l n c) (hj : ∀ i, 0 < i → i < n → (i - 1) / 2 = c → l.getD i 0 ≤ l.getD j 0) (hs : ¬ l.getD c 0 < l.getD j 0) : HOn l n := fun i h0 h1 => by
  by_cases e : (i - 1) / 2 = c
  · rw [e]; have := hj i h0 h1 e; omega
  · exact h.1 i h0 h1 e
theorem down_step {l : List Int} {n c j : Nat} (h : DOx l n c) (hn : n ≤ l.length) (hj : ∀ i, 0 < i → i < n → (i - 1) / 2 = c → l.getD i 0 ≤ l.getD j 0) (hjn : j < n) (hjc : (j - 1) / 2 = c) (hj0 : 0 < j) (hs : l.getD c 0 < l.getD j 0) : DOx (swapped l c j) n j := by
  have hc : c < l.length := by omega
  have hjl : j < l.length := by omega
  obtain ⟨h1, h2⟩ := h
  refine ⟨fun i i0 hi hne => ?_, fun _ i i0 hi he => ?_⟩
  · rw [swapped_get hc hjl, swapped_get hc hjl]
    rw [if_neg hne]
    by_cases e1 : i = j
    · subst e1
      rw [if_pos rfl, if_pos hjc]; omega
    · rw [if_neg e1]
      by_cases e2 : i = c
      · subst e2
        rw [if_pos rfl]
        rw [if_neg (by omega)]
        exact h2 (by omega) j hj0 hjn hjc
      · rw [if_neg e2]
        by_cases e3 : (i - 1) / 2 = c
        · rw [if_pos e3]; exact hj i i0 hi e3
        · rw [if_neg e3]; exact h1 i i0 hi e3
  · rw [swapped_get hc hjl, swapped_get hc hjl]
    rw [if_neg (show i ≠ j by omega), if_neg (show i ≠ c by omega), if_neg (show (j - 1) / 2 ≠ j by omega), if_pos hjc]
    have := h1 i i0 hi (by omega)
    rw [he] at this
    exact this
/-- What the list may become: the order, the length, the members of the first n places, the last place stand. -/
def DnR (w : World) (B q : Nat) (v : Value) (n : Nat) (l : List Int) (l' : List Int) (wr : World) : Prop :=
  HeapR wr B q v l' ∧ l'.length = l.length ∧ (∀ x, (∃ k, k < n ∧ l'.getD k 0 = x) ↔ (∃ k, k < n ∧ l.getD k 0 = x)) ∧ (∀ k, n ≤ k → l'.getD k 0 = l.getD k 0) ∧ Fr (fun k => v.ownBlock = some k) w wr
theorem dnR_quiet {w wr w1 : World} {B q n : Nat} {v : Value} {l l' : List Int} (h : DnR w B q v n l l' wr) (hf : Fr (fun _ => False) wr w1) : DnR w B q v n l l' w1 :=
  ⟨h.1.quiet hf, h.2.1, h.2.2.1, h.2.2.2.1, h.2.2.2.2.trans hf (fun _ _ e => e.elim)⟩
theorem first_swapped {l : List Int} {n i j : Nat} (hn : n ≤ l.length) (hi : i < n) (hj : j < n) (x : Int) : (∃ k, k < n ∧ (swapped l i j).getD k 0 = x) ↔ (∃ k, k < n ∧ l.getD k 0 = x) := by
  have g := fun k => swapped_get (l := l) (i := i) (j := j) (by omega) (by omega) k
  constructor
  · rintro ⟨k, h1, h2⟩
    rw [g] at h2
    split at h2
    · exact ⟨i, hi, h2⟩
    · split at h2
      · exact ⟨j, hj, h2⟩
      · exact ⟨k, h1, h2⟩
  · rintro ⟨k, h1, h2⟩
    by_cases e1 : k = j
    · subst e1
      refine ⟨i, hi, ?_⟩
      rw [g]
      by_cases e : i = k
      · subst e; rw [if_pos rfl]; exact h2
      · rw [if_neg e, if_pos rfl]; exact h2
    · by_cases e2 : k = i
      · subst e2
        exact ⟨j, hj, by rw [g, if_pos rfl]; exact h2⟩
      · exact ⟨k, h1, by rw [g, if_neg e1, if_neg e2]; exact h2⟩
theorem dnR_swap {w wr w1 : World} {B q n : Nat} {v : Value} {l l' : List Int} {i j : Nat} (h : DnR w B q v n l l' wr) (hn : n ≤ l'.length) (hi : i < n) (hj : j < n) (h2 : HeapR w1 B q v (swapped l' i j)) (hf : Fr (fun k => v.ownBlock = some k) wr w1) : DnR w B q v n l (swapped l' i j) w1 :=
  ⟨h2, by rw [swapped_length]; exact h.2.1, fun x => (first_swapped hn hi hj x).trans (h.2.2.1 x), fun k hk => by rw [swapped_get (by omega) (by omega), if_neg (by omega), if_neg (by omega)]; exact h.2.2.2.1 k hk, h.2.2.2.2.trans hf (fun _ _ e => e)⟩
end Go.Proofs.YtfdaghhplijpeaaGreatDoor
/-
  Walk of the heap's down.
-/
namespace Go.Proofs.YtfdaghhplijpeaaGreatDoor
open Go Go.RowKit

theorem kids2 {l : List Int} {n k : Nat} (h : l.getD (2 * k + 1) 0 < l.getD (2 * k + 2) 0) : ∀ i, 0 < i → i < n → (i - 1) / 2 = k → l.getD i 0 ≤ l.getD (2 * k + 2) 0 := fun i h0 _ h2 => by
  have : i = 2 * k + 1 ∨ i = 2 * k + 2 := by omega
  rcases this with rfl | rfl
  · omega
  · exact Int.le_refl _
theorem kids1 {l : List Int} {n k : Nat} (h : 2 * k + 2 < n → ¬ l.getD (2 * k + 1) 0 < l.getD (2 * k + 2) 0) : ∀ i, 0 < i → i < n → (i - 1) / 2 = k → l.getD i 0 ≤ l.getD (2 * k + 1) 0 := fun i h0 h1 h2 => by
  have : i = 2 * k + 1 ∨ i = 2 * k + 2 := by omega
  rcases this with rfl | rfl
  · exact Int.le_refl _
  · have := h h1; omega
set_option maxRecDepth 100000 in
set_option maxHeartbeats 8000000 in
theorem down_calls {w : World} {B q : Nat} {v : Value} {l : List Int} (h : HeapR w B q v l) (n : Nat) (hn : l.length = n + 1) (hl : n ≤ 10000 - 1) (ho : DOx l n 0) :
    Calls Tryz.prog 45 #[heapI q, .int .i64 0, .int .i64 n] w fun e w' => (∃ b, e = .returned (.bool b)) ∧ ∃ l', DnR w B q v n l l' w' ∧ HOn l' n := by
  have H := Lib.hid h
  have HOX := Lib.hid ho
  have HN := Lib.hid (And.intro hn hl)
  clear h ho hn hl
  have rl := run_Less q
  have rs := run_Swap q
  unfold heapI ptr
  go_enter Tryz.func45, Tryz.ntmps45
  go_wp2_with fail
  go_loopw [7] (fun jv wr => ∃ k l', jv = .int .i64 ((k : Nat) : Int) ∧ k ≤ n ∧ DnR w B q v n l l' wr ∧ DOx l' n k) (fun jv _ => (n + 1 - (intOf jv).toNat))
  case atStart => exact ⟨0, l, rfl, by omega, ⟨H.out, rfl, fun _ => Iff.rfl, fun _ _ => rfl, Fr.refl _ _⟩, HOX.out⟩
  case round =>
    obtain ⟨k, l', rfl, hk, hu, hx⟩ := hrel
    have HU := Lib.hid hu
    have HX := Lib.hid hx
    have hk2 : k ≤ 10000 := by have := HN.out.2; omega
    have hlen : l'.length = n + 1 := hu.2.1.trans HN.out.1
    have hnn := HN.out.2
    obtain ⟨m, hm⟩ : ∃ m : Int, 2 * (k : Int) = m := ⟨_, rfl⟩
    obtain ⟨j1, hj1⟩ : ∃ j1 : Nat, 2 * k + 1 = j1 := ⟨_, rfl⟩
    have hw1 : IntKind.i64.wrap (2 * (k : Int)) = m := by rw [← hm]; exact IntWalk.i64_in _ ⟨by omega, by omega⟩
    have hw2 : IntKind.i64.wrap (m + 1) = (j1 : Int) := by rw [← hm, IntWalk.i64_in _ ⟨by omega, by omega⟩]; omega
    have j10 : (0 : Int) ≤ (j1 : Int) := by omega
    have HJ1 := Lib.hid (And.intro hj1 (And.intro hk hlen))
    clear hu hx hm
    by_cases ha : n ≤ j1
    · have ha' : (n : Int) ≤ (j1 : Int) := by omega
      have HA := Lib.hid ha
      clear ha hk hk2 hlen hnn hj1
      go_wp2_with fail
      go_ret
      exact ⟨⟨_, rfl⟩, _, HU.out, down_stop1 HX.out (by have := HJ1.out.1; have := HA.out; omega)⟩
    · have ha' : (j1 : Int) < (n : Int) := by omega
      have hi : j1 < l'.length := by omega
      have hll : l'.length ≤ 10000 := by omega
      have hkl : k < l'.length := by omega
      obtain ⟨j2, hj2⟩ : ∃ j2 : Nat, j1 + 1 = j2 := ⟨_, rfl⟩
      have hw3 : IntKind.i64.wrap ((j1 : Int) + 1) = (j2 : Int) := by rw [IntWalk.i64_in _ ⟨by omega, by omega⟩]; omega
      have HI := Lib.hid (And.intro ha (And.intro hi (And.intro hll (And.intro hkl hj2))))
      by_cases hb : j2 < n
      · have hb' : (j2 : Int) < (n : Int) := by omega
        have hi2 : j2 < l'.length := by omega
        have HI2 := Lib.hid (And.intro hb hi2)
        clear ha hk hk2 hlen hnn hj1 hi hll hkl hj2 hb hi2
        go_wp2_with fail
        refine (less_calls HU.out.1 HI2.out.2 HI.out.2.1 HI.out.2.2.1).mono ?_
        rintro e w1 ⟨rfl, hf1⟩
        have U1 := Lib.hid (dnR_quiet HU.out hf1)
        clear hf1
        by_cases hlt : l'.getD j1 0 < l'.getD j2 0
        · have hd : decide (l'.getD j1 0 < l'.getD j2 0) = true := by simpa using hlt
          rw [hd]
          have HK := Lib.hid (by have e1 := HJ1.out.1; have e2 := HI.out.2.2.2.2; subst e2; subst e1; exact kids2 (n := n) hlt : ∀ i, 0 < i → i < n → (i - 1) / 2 = k → l'.getD i 0 ≤ l'.getD j2 0)
          clear hlt hd
          go_wp2_with fail
          refine (less_calls U1.out.1 HI2.out.2 HI.out.2.2.2.1 HI.out.2.2.1).mono ?_
          rintro e w2 ⟨rfl, hf2⟩
          have U2 := Lib.hid (dnR_quiet U1.out hf2)
          clear hf2
          by_cases hls : l'.getD k 0 < l'.getD j2 0
          · have hd : decide (l'.getD k 0 < l'.getD j2 0) = true := by simpa using hls
            rw [hd]
            have HLS := Lib.hid hls
            clear hls hd
            go_wp2_with fail
            refine (swap_calls U2.out.1 HI.out.2.2.2.1 HI2.out.2 HI.out.2.2.1).mono ?_
            rintro e w3 ⟨rfl, h3, hf3⟩
            have HB := Lib.hid (by have e1 := HJ1.out; have e2 := HI.out; have e3 := HI2.out; omega : k < n ∧ j2 < n ∧ n ≤ l'.length ∧ (j2 - 1) / 2 = k ∧ 0 < j2 ∧ k < j2)
            have U3 := Lib.hid (dnR_swap U2.out HB.out.2.2.1 HB.out.1 HB.out.2.1 h3 hf3)
            clear h3 hf3
            go_wp2_with fail
            go_roundw
            case rel => exact ⟨j2, _, rfl, by have := HB.out.2.1; omega, U3.out, down_step HX.out HB.out.2.2.1 HK.out HB.out.2.1 HB.out.2.2.2.1 HB.out.2.2.2.2.1 HLS.out⟩
            case measure => have := HB.out; simp [intOf]; omega
          · have hd : decide (l'.getD k 0 < l'.getD j2 0) = false := by simpa using hls
            rw [hd]
            have HLS := Lib.hid hls
            clear hls hd
            go_wp2_with fail
            go_ret
            exact ⟨⟨_, rfl⟩, _, U2.out, down_stop2 HX.out HK.out (Int.not_lt.2 HLS.out)⟩
        · have hd : decide (l'.getD j1 0 < l'.getD j2 0) = false := by simpa using hlt
          rw [hd]
          have HK := Lib.hid (by have e1 := HJ1.out.1; have e2 := HI.out.2.2.2.2; subst e2; subst e1; exact kids1 (n := n) (fun _ => hlt) : ∀ i, 0 < i → i < n → (i - 1) / 2 = k → l'.getD i 0 ≤ l'.getD j1 0)
          clear hlt hd
          go_wp2_with fail
          refine (less_calls U1.out.1 HI.out.2.1 HI.out.2.2.2.1 HI.out.2.2.1).mono ?_
          rintro e w2 ⟨rfl, hf2⟩
          have U2 := Lib.hid (dnR_quiet U1.out hf2)
          clear hf2
          by_cases hls : l'.getD k 0 < l'.getD j1 0
          · have hd : decide (l'.getD k 0 < l'.getD j1 0) = true := by simpa using hls
            rw [hd]
            have HLS := Lib.hid hls
            clear hls hd
            go_wp2_with fail
            refine (swap_calls U2.out.1 HI.out.2.2.2.1 HI.out.2.1 HI.out.2.2.1).mono ?_
            rintro e w3 ⟨rfl, h3, hf3⟩
            have HB := Lib.hid (by have e1 := HJ1.out; have e2 := HI.out;  omega : k < n ∧ j1 < n ∧ n ≤ l'.length ∧ (j1 - 1) / 2 = k ∧ 0 < j1 ∧ k < j1)
            have U3 := Lib.hid (dnR_swap U2.out HB.out.2.2.1 HB.out.1 HB.out.2.1 h3 hf3)
            clear h3 hf3
            go_wp2_with fail
            go_roundw
            case rel => exact ⟨j1, _, rfl, by have := HB.out.2.1; omega, U3.out, down_step HX.out HB.out.2.2.1 HK.out HB.out.2.1 HB.out.2.2.2.1 HB.out.2.2.2.2.1 HLS.out⟩
            case measure => have := HB.out; simp [intOf]; omega
          · have hd : decide (l'.getD k 0 < l'.getD j1 0) = false := by simpa using hls
            rw [hd]
            have HLS := Lib.hid hls
            clear hls hd
            go_wp2_with fail
            go_ret
            exact ⟨⟨_, rfl⟩, _, U2.out, down_stop2 HX.out HK.out (Int.not_lt.2 HLS.out)⟩
      · have hb' : decide (j2 < n) = false := by simp; omega
        have HK := Lib.hid (by have e1 := HJ1.out.1; have e2 := HI.out.2.2.2.2; subst e2; subst e1; exact kids1 (n := n) (fun h => absurd h hb) : ∀ i, 0 < i → i < n → (i - 1) / 2 = k → l'.getD i 0 ≤ l'.getD j1 0)
        have U1 := HU
        clear ha hk hk2 hlen hnn hj1 hi hll hkl hj2 hb
        go_wp2_with fail
        refine (less_calls U1.out.1 HI.out.2.1 HI.out.2.2.2.1 HI.out.2.2.1).mono ?_
        rintro e w2 ⟨rfl, hf2⟩
        have U2 := Lib.hid (dnR_quiet U1.out hf2)
        clear hf2
        by_cases hls : l'.getD k 0 < l'.getD j1 0
        · have hd : decide (l'.getD k 0 < l'.getD j1 0) = true := by simpa using hls
          rw [hd]
          have HLS := Lib.hid hls
          clear hls hd
          go_wp2_with fail
          refine (swap_calls U2.out.1 HI.out.2.2.2.1 HI.out.2.1 HI.out.2.2.1).mono ?_
          rintro e w3 ⟨rfl, h3, hf3⟩
          have HB := Lib.hid (by have e1 := HJ1.out; have e2 := HI.out;  omega : k < n ∧ j1 < n ∧ n ≤ l'.length ∧ (j1 - 1) / 2 = k ∧ 0 < j1 ∧ k < j1)
          have U3 := Lib.hid (dnR_swap U2.out HB.out.2.2.1 HB.out.1 HB.out.2.1 h3 hf3)
          clear h3 hf3
          go_wp2_with fail
          go_roundw
          case rel => exact ⟨j1, _, rfl, by have := HB.out.2.1; omega, U3.out, down_step HX.out HB.out.2.2.1 HK.out HB.out.2.1 HB.out.2.2.2.1 HB.out.2.2.2.2.1 HLS.out⟩
          case measure => have := HB.out; simp [intOf]; omega
        · have hd : decide (l'.getD k 0 < l'.getD j1 0) = false := by simpa using hls
          rw [hd]
          have HLS := Lib.hid hls
          clear hls hd
          go_wp2_with fail
          go_ret
          exact ⟨⟨_, rfl⟩, _, U2.out, down_stop2 HX.out HK.out (Int.not_lt.2 HLS.out)⟩
end Go.Proofs.YtfdaghhplijpeaaGreatDoor
