/-
  The walk of TimelineLimits.
-/
import Derived.Test.YtalmfmijjbpnpaaLoYc
import Derived.Test.YtalmfmijjbpnpaaLoYd
import Derived.Test.YtalmfmijjbpnpaaLoX
namespace Go.Proofs.Ytalmfmijjbpnpaa
open Go.RowKit

section
variable {w : World}

theorem st_restore {W0 Wd : World} {D : Nat → Prop} {t : Nat} {H : Hist} (h : St W0 D Wd t H w) (name : ByteArray) (hn : name.size ≤ maxLen) :
    Calls Try.prog 21 #[.pointer (some ⟨t, 0, none⟩), .string name] w (StR (.int .i64 (cRest H name)) W0 D Wd t (mRest H name)) :=
  st_mut h (wf_rest h.1 name) fun _ hr => restore21 hr h.1 name hn

/-- A history as four values, whose rows are in blocks from b on. -/
def HV (b : Nat) (w : World) (H : Hist) (av : Option Addr) (cv : Nat) (a2 : Option Addr) (n2 c2 : Nat) (a3 : Option Addr) (n3 c3 : Nat) : Prop :=
  ∃ m : View, m.vv = .slice av H.vs.length cv ∧ m.bv = .slice a2 n2 c2 ∧ m.sv = .slice a3 n3 c3 ∧ RepV w b H m

theorem RepV.hAt {b : Nat} {H : Hist} {m : View} (h : RepV w b H m) : HAt w m.vv m.bv m.sv H m.ml :=
  ⟨own_slAt h.vs, own_slAt h.bs, own_slAt h.ss, fun x hx => own_slAt (h.rd x hx), h.ml⟩

theorem lens_of {H : Hist} (hw : WF H) {ml : List (Ln × Value)} (hml : H.bs = ml.map (·.1)) : H.vs.length ≤ 100000 ∧ ml.length ≤ 100000 ∧ H.ss.length ≤ 100000 ∧ ∀ x ∈ ml, x.1.rd.length ≤ 100000 := by
  have h1 := hw.v2
  have h2 := hw.b2
  have h3 := hw.s2
  rw [hml, List.length_map] at h2
  refine ⟨by omega, by omega, by omega, fun x hx => ?_⟩
  have := rd_len hw (b := x.1) (by rw [hml]; exact List.mem_map_of_mem hx)
  omega

theorem same_hv {b b' : Nat} {H : Hist} {av a2 a3 av' a2' a3' : Option Addr} {cv n2 c2 n3 c3 cv' n2' c2' n3' c3' : Nat} (h : HV b w H av cv a2 n2 c2 a3 n3 c3) (h' : HV b' w H av' cv' a2' n2' c2' a3' n3' c3') (hw : WF H) :
    Calls Try.prog 22 #[.agg #[.slice av H.vs.length cv, .slice a2 n2 c2, .slice a3 n3 c3, .string H.cur], .agg #[.slice av' H.vs.length cv', .slice a2' n2' c2', .slice a3' n3' c3', .string H.cur]] w (Quiet (.bool true) w) := by
  obtain ⟨m, e1, e2, e3, hr⟩ := h
  obtain ⟨m', e1', e2', e3', hr'⟩ := h'
  rw [← e1, ← e2, ← e3, ← e1', ← e2', ← e3']
  obtain ⟨l1, l2, l3, l4⟩ := lens_of hw hr.ml
  exact same22 hr.hAt hr'.hAt l1 l2 l3 l4

theorem st_hist2 {W0 Wd : World} {D : Nat → Prop} {t : Nat} {H : Hist} (h : St W0 D Wd t H w) :
    Calls Try.prog 17 #[.pointer (some ⟨t, 0, none⟩)] w fun e w' => ∃ a c a2 n2 c2 a3 n3 c3, e = .returned (.agg #[.slice a H.vs.length c, .slice a2 n2 c2, .slice a3 n3 c3, .string H.cur]) ∧
      HV w.heap.size w' H a c a2 n2 c2 a3 n3 c3 ∧ St W0 D Wd t H w' ∧ Below w.heap.size w w' := by
  refine (st_hist h).mono ?_
  rintro e w' ⟨a, c, a2, n2, c2, a3, n3, c3, rfl, m, e1, e2, e3, _, _, hr, hst, hb⟩
  exact ⟨a, c, a2, n2, c2, a3, n3, c3, rfl, ⟨m, e1, e2, e3, hr⟩, hst, hb⟩

/-- The history that was returned lies in a cell of its own, and all of it is watched from now on. -/
theorem hist_watch {W0 w15 w16 w17 : World} {t : Nat} {H : Hist} {av a2 a3 : Option Addr} {cv n2 c2 n3 c3 : Nat}
    (h : St W0 (fun _ => False) W0 t H w15) (hq : HV w15.heap.size w16 H av cv a2 n2 c2 a3 n3 c3) (hb : Below w15.heap.size w15 w16)
    (e17 : w17 = w16.alloc (Obj.cells #[.slice av H.vs.length cv, .slice a2 n2 c2, .slice a3 n3 c3, .string H.cur] 37)) :
    St W0 (fun k => w15.heap.size ≤ k ∧ k < w17.heap.size) w17 t H w17 ∧
    ∀ (H' : Hist) (w' : World), St W0 (fun k => w15.heap.size ≤ k ∧ k < w17.heap.size) w17 t H' w' → HV w15.heap.size w' H av cv a2 n2 c2 a3 n3 c3 ∧
      w'.cell? ⟨w16.heap.size, 0, none⟩ = some (.slice av H.vs.length cv) ∧ w'.cell? ⟨w16.heap.size, 1, none⟩ = some (.slice a2 n2 c2) ∧
      w'.cell? ⟨w16.heap.size, 2, none⟩ = some (.slice a3 n3 c3) ∧ w'.cell? ⟨w16.heap.size, 3, none⟩ = some (.string H.cur) := by
  have hb' : Below w16.heap.size w16 w17 := by rw [e17]; exact (Below.refl _ _).alloc (Nat.le_refl _) _
  have hs := hb.size
  have hblk : w17.heap[w16.heap.size]? = some (.cells #[.slice av H.vs.length cv, .slice a2 n2 c2, .slice a3 n3 c3, .string H.cur] 37 (0, 0)) := by rw [e17]; exact heap_alloc_new w16 _
  have hs17 : w16.heap.size < w17.heap.size := (Array.getElem?_eq_some_iff.1 hblk).1
  have h17 := h.watch (hb.trans (hb'.mono hs)) (fun k => w15.heap.size ≤ k ∧ k < w17.heap.size) (fun k hk => hk)
  refine ⟨h17, fun H' w' h' => ?_⟩
  obtain ⟨m, e1, e2, e3, hr⟩ := hq
  have hfr : Fr (fun k => k < w17.heap.size ∧ ¬ w15.heap.size ≤ k) w17 w' := by
    obtain ⟨_, _, _, _, hB, _, _⟩ := h17
    obtain ⟨_, _, _, _, hB', hD', hs'⟩ := h'
    exact ⟨hB'.os.trans hB.os.symm, hB'.tape.trans hB.tape.symm, hB'.output.trans hB.output.symm, hs', fun k hk hS => (hD' k ⟨by omega, hk⟩).2⟩
  have hkb : w'.heap[w16.heap.size]? = some (.cells #[.slice av H.vs.length cv, .slice a2 n2 c2, .slice a3 n3 c3, .string H.cur] 37 (0, 0)) := (h'.kept (k := w16.heap.size) ⟨hs, hs17⟩).trans hblk
  refine ⟨⟨m, e1, e2, e3, (hr.below hb').frame hfr (fun k hk hS => hS.2 hk)⟩, ?_, ?_, ?_, ?_⟩ <;> rw [cell_of_blk hkb] <;> rfl

def oneN (k : Nat) : ByteArray := ⟨#[UInt8.ofNat (97 + k)]⟩
/-- A letter behind a, as a string. -/
theorem conv_letter (w : World) (k : Nat) (hk : k < 16) :
    (convert 42 9 (.slice (some ⟨w.heap.size, 0, none⟩) 1 1)).run Try.prog (w.alloc (.cells #[.int .u8 (97 + (k : Int))] 5)) = .ok (.string (oneN k)) (w.alloc (.cells #[.int .u8 (97 + (k : Int))] 5)) := by
  refine run_convert_bytes_back _ 42 9 5 ⟨w.heap.size, 0, none⟩ 1 [UInt8.ofNat (97 + k)] Try.underlying42 Try.underlying5 Try.underlying9 ?_
  intro j hj
  obtain rfl : j = 0 := by simp at hj; omega
  have h1 := cell_of_blk (heap_alloc_new w (.cells #[.int .u8 (97 + (k : Int))] 5)) 0
  have h2 : ((UInt8.ofNat (97 + k)).toNat : Int) = 97 + (k : Int) := by rw [UInt8.toNat_ofNat']; omega
  show (w.alloc (.cells #[.int .u8 (97 + (k : Int))] 5)).cell? ⟨w.heap.size, 0, none⟩ = some (.int .u8 ((UInt8.ofNat (97 + k)).toNat : Int))
  rw [h1, h2]; rfl
theorem nameK_app (c : UInt8) (k : Nat) : (⟨#[c]⟩ : ByteArray) ++ oneN k = nameK c k := rfl

set_option maxRecDepth 100000 in
set_option maxHeartbeats 4000000 in
theorem limits4 (n : Int) : Calls Try.prog 4 #[.int .i64 n] w (Quiet (.bool true) w) := by
  go_enter Try.func4, Try.ntmps4
  go_wp2_with fail
  refine awake8.mono ?_
  rintro e w1 ⟨rfl, hb1⟩
  have HB1 := Lib.hid hb1
  clear hb1
  go_wp2_with fail
  refine (st_new HB1.out 0).mono ?_
  rintro e w2 ⟨t, rfl, h2⟩
  have H2 := Lib.hid h2
  clear h2 HB1
  go_wp2_with fail
  go_loopw [4] (fun i wr => ∃ (k : Nat) (H : Hist), 1 ≤ k ∧ k ≤ 16 ∧ i = .int .i64 k ∧ LB k H ∧ St w (fun _ => False) w t H wr) (fun i _ => 16 - (intOf i).toNat)
  case atStart => exact ⟨1, _, Nat.le_refl _, by omega, rfl, lb_new, H2.out⟩
  case round =>
    obtain ⟨k, H, hk1, hk, rfl, hlb, hS⟩ := hrel
    have HS := Lib.hid hS
    have HL := Lib.hid hlb
    clear hS H2 hlb
    by_cases hlt : k < 16
    · have hlt' : (k : Int) < 16 := by omega
      have hcv := conv_letter wr k hlt
      go_wp2_with (simp only [hcv])
      rw [nameK_app]
      obtain ⟨hcb, hlb'⟩ := HL.out.step hk1 hlt
      have HL2 := Lib.hid hlb'
      clear hlb' hcv
      refine (st_branch (HS.out.later ((Below.refl _ _).alloc (Nat.le_refl _) _)) (nameK 98 k) (by show 2 ≤ maxLen; decide)).mono ?_
      rw [hcb]
      rintro e w3 ⟨rfl, h3⟩
      have H3 := Lib.hid h3
      clear h3 HS HL hcb
      go_wp2_with fail
      go_roundw
      case rel => exact ⟨k + 1, _, by omega, by omega, by go_num, HL2.out, H3.out⟩
      case measure => simp [intOf]; omega
    · have hl16 : LB 16 H := by have e : k = 16 := by omega
                                exact e ▸ HL.out
      have HL2 := Lib.hid hl16.done
      clear HL hl16
      go_wp2_with fail
      go_loopw [24] (fun i wr => ∃ (k : Nat) (H : Hist), k ≤ 16 ∧ i = .int .i64 k ∧ LS k H ∧ St w (fun _ => False) w t H wr) (fun i _ => 16 - (intOf i).toNat)
      case atStart => exact ⟨0, _, by omega, rfl, HL2.out, HS.out⟩
      case round =>
        obtain ⟨k, H, hk, rfl, hlb, hS⟩ := hrel
        have HS := Lib.hid hS
        have HL := Lib.hid hlb
        clear hS hlb HL2
        by_cases hlt : k < 16
        · have hlt' : (k : Int) < 16 := by omega
          have hcv := conv_letter wr k hlt
          go_wp2_with (simp only [hcv])
          rw [nameK_app]
          obtain ⟨hcb, hlb'⟩ := HL.out.step hlt
          have HL2 := Lib.hid hlb'
          clear hlb' hcv
          refine (st_snap (HS.out.later ((Below.refl _ _).alloc (Nat.le_refl _) _)) (nameK 115 k) (by show 2 ≤ maxLen; decide)).mono ?_
          rw [hcb]
          rintro e w3 ⟨rfl, h3⟩
          have H3 := Lib.hid h3
          clear h3 HS HL hcb
          go_wp2_with fail
          go_roundw
          case rel => exact ⟨k + 1, _, by omega, by go_num, HL2.out, H3.out⟩
          case measure => simp [intOf]; omega
        · have hl16 : LS 16 H := by have e : k = 16 := by omega
                                    exact e ▸ HL.out
          obtain ⟨q1, q2, q3, q4, q5, q6, q7, q8, hlc⟩ := hl16.done
          have Q := Lib.hid (⟨q1, q2, q3, q4, q5, q6, q7, q8⟩ : cBranch H xN = 7 ∧ mBranch H xN = H ∧ cSnap H xN = 7 ∧ mSnap H xN = H ∧ cBranch H mainN = 16 ∧ mBranch H mainN = H ∧ cSnap H (nameK 115 0) = 16 ∧ mSnap H (nameK 115 0) = H)
          have HLC := Lib.hid hlc
          clear q1 q2 q3 q4 q5 q6 q7 q8 hlc HL hl16
          go_wp2_with fail
          refine (st_branch HS.out xN (by decide)).mono ?_
          rw [Q.out.1, Q.out.2.1]
          rintro e w3 ⟨rfl, h3⟩
          have H3 := Lib.hid h3
          clear h3 HS
          go_wp2_with fail
          refine (st_snap H3.out xN (by decide)).mono ?_
          rw [Q.out.2.2.1, Q.out.2.2.2.1]
          rintro e w4 ⟨rfl, h4⟩
          have H4 := Lib.hid h4
          clear h4 H3
          go_wp2_with fail
          refine (st_branch H4.out mainN (by decide)).mono ?_
          rw [Q.out.2.2.2.2.1, Q.out.2.2.2.2.2.1]
          rintro e w5 ⟨rfl, h5⟩
          have H5 := Lib.hid h5
          clear h5 H4
          go_wp2_with fail
          refine (st_snap H5.out (nameK 115 0) (by decide)).mono ?_
          rw [Q.out.2.2.2.2.2.2.1, Q.out.2.2.2.2.2.2.2]
          rintro e w6 ⟨rfl, h6⟩
          have H6 := Lib.hid h6
          clear h6 H5 Q
          go_wp2_with fail
          go_loopw [6] (fun i wr => ∃ (k : Nat) (H : Hist), 1 ≤ k ∧ k ≤ 1000 ∧ i = .int .i64 k ∧ LC k H ∧ St w (fun _ => False) w t H wr) (fun i _ => 1000 - (intOf i).toNat)
          case atStart => exact ⟨1, _, by omega, by omega, rfl, HLC.out, H6.out⟩
          case round =>
            obtain ⟨k, H, hk1, hk, rfl, hlb, hS⟩ := hrel
            have HS := Lib.hid hS
            have HL := Lib.hid hlb
            clear hS hlb HLC H6
            by_cases hlt : k < 1000
            · have hlt' : (k : Int) < 1000 := by omega
              obtain ⟨hcb, hlb'⟩ := HL.out.step hk1 hlt k
              have HL2 := Lib.hid hlb'
              clear hlb'
              go_wp2_with fail
              refine (st_commit HS.out _).mono ?_
              rw [hcb]
              rintro e w3 ⟨rfl, h3⟩
              have H3 := Lib.hid h3
              clear h3 HS HL hcb
              go_wp2_with fail
              go_roundw
              case rel => exact ⟨k + 1, _, by omega, by omega, by go_num, HL2.out, H3.out⟩
              case measure => simp [intOf]; omega
            · have hl1000 : LC 1000 H := by have e : k = 1000 := by omega
                                            exact e ▸ HL.out
              have hlen := hl1000.len
              obtain ⟨q1, q2, q3, q4⟩ := hl1000.done n
              obtain ⟨q5, q6, q7⟩ := redo_undo hl1000.wf (hl1000.hd (by omega))
              have Q := Lib.hid (⟨q1, q2, q3, q4, q5, q6, q7⟩ : cCommit H n = 7 ∧ mCommit H n = H ∧ cRest H (nameK 115 0) = 7 ∧ mRest H (nameK 115 0) = H ∧ cUndo H = 0 ∧ cRedo (mUndo H) = 0 ∧ mRedo (mUndo H) = H)
              have HLE := Lib.hid hlen
              clear q1 q2 q3 q4 q5 q6 q7 hl1000 hlen HL
              go_wp2_with fail
              refine (st_hist2 HS.out).mono ?_
              rintro e w16 ⟨av, cv, a2, n2, c2, a3, n3, c3, rfl, hq, h16, hb16⟩
              have HQ := Lib.hid hq
              have HB16 := Lib.hid hb16
              clear hq h16 hb16
              obtain ⟨w17, e17⟩ : ∃ x, x = w16.alloc (Obj.cells #[.slice av H.vs.length cv, .slice a2 n2 c2, .slice a3 n3 c3, .string H.cur] 37) := ⟨_, rfl⟩
              obtain ⟨h17, hk17⟩ := hist_watch HS.out HQ.out HB16.out e17
              have H17 := Lib.hid h17
              have HK := Lib.hid hk17
              have E17 := Lib.hid e17
              clear h17 hk17 e17 HQ HB16
              go_wp2_with fail
              rw [← E17.out]
              clear E17
              have hl7 : ((H.vs.length : Int) == 1000) = true := by rw [HLE.out]; rfl
              go_region_with (first | (go_at_call 11; refine (st_commit (H17.out.later ((Below.refl _ _).drew)) n).mono ?_; rw [Q.out.1, Q.out.2.1]; rintro e w18 ⟨rfl, h18⟩; have H18 := Lib.hid h18; obtain ⟨_, k0, k1, k2, k3⟩ := HK.out _ _ h18; clear h18) | (go_at_call 21; refine (st_restore H18.out (nameK 115 0) (by decide)).mono ?_; rw [Q.out.2.2.1, Q.out.2.2.2.1]; rintro e w19 ⟨rfl, h19⟩; have H19 := Lib.hid h19; obtain ⟨_, k0, k1, k2, k3⟩ := HK.out _ _ h19; clear h19) | (go_at_call 17; refine (st_hist2 H19.out).mono ?_; rintro e w20 ⟨bv, dv, b2, m2, d2, b3, m3, d3, rfl, hq, h20, _⟩; have HQ2 := Lib.hid hq; have H20 := Lib.hid h20; obtain ⟨_, k0, k1, k2, k3⟩ := HK.out _ _ h20; clear hq h20) | (go_at_call 22; refine (same_hv HQ2.out (HK.out _ _ H20.out).1 H20.out.wf).mono ?_; rintro e w21 ⟨rfl, hb21⟩; have h21 := H20.out.later hb21; have H21 := Lib.hid h21; obtain ⟨_, k0, k1, k2, k3⟩ := HK.out _ _ h21; clear h21 hb21))
              all_goals
                clear k0 k1 k2 k3
                go_wp2_with fail
                clear hl7
                go_region_with (first | (go_at_call 16; refine (st_undo (H21.out.later ((Below.refl _ _).drew))).mono ?_; rw [Q.out.2.2.2.2.1]; rintro e w22 ⟨rfl, h22⟩; have H22 := Lib.hid h22; clear h22) | (go_at_call 18; refine (st_redo H22.out).mono ?_; rw [Q.out.2.2.2.2.2.1, Q.out.2.2.2.2.2.2]; rintro e w23 ⟨rfl, h23⟩; have H23 := Lib.hid h23; obtain ⟨_, k0, k1, k2, k3⟩ := HK.out _ _ h23; clear h23) | (go_at_call 17; refine (st_hist2 H23.out).mono ?_; rintro e w24 ⟨bv, dv, b2, m2, d2, b3, m3, d3, rfl, hq, h24, _⟩; have HQ2 := Lib.hid hq; have H24 := Lib.hid h24; obtain ⟨_, k0, k1, k2, k3⟩ := HK.out _ _ h24; clear hq h24) | (go_at_call 22; refine (same_hv HQ2.out (HK.out _ _ H24.out).1 H24.out.wf).mono ?_; rintro e w25 ⟨rfl, hb25⟩; have H25 := Lib.hid (H24.out.later hb25); clear hb25))
              all_goals
                go_wp2_with fail
                go_ret
                exact ⟨rfl, H25.out.below_of⟩

end

end Go.Proofs.Ytalmfmijjbpnpaa
