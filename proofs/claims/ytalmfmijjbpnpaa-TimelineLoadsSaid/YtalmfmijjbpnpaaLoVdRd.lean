/-
  spoilt, all its ways: it returns some history.
-/
import Derived.Test.YtalmfmijjbpnpaaLoVb
import Derived.Test.YtalmfmijjbpnpaaLoVc
import Derived.Test.YtalmfmijjbpnpaaLoRc
namespace Go.Proofs.Ytalmfmijjbpnpaa
open Go.RowKit

theorem spoilt30 {w : World} {H : Hist} {ml : List (Ln × Value)} {vv bv sv : Value} (h : HAt w vv bv sv H ml) (hw : WF H) (hs : NmOk H) (at0 field by0 : Int) (ha : -9223372036854775808 ≤ at0 ∧ at0 ≤ 9223372036854775807) (hf : -9223372036854775808 ≤ field ∧ field ≤ 9223372036854775807) (hby : -9223372036854775808 ≤ by0 ∧ by0 ≤ 9223372036854775807) :
    Calls Try.prog 30 #[.agg #[vv, bv, sv, .string H.cur], .int .i64 at0, .int .i64 field, .int .i64 by0] w (SpoP w) := by
  by_cases h5 : field % 8 = 5
  · exact spoilt30_5 h hw hs at0 field by0 h5 ha hf hby
  · by_cases h6 : field % 8 = 6
    · exact spoilt30_6 h hw hs at0 field by0 h6 ha hf hby
    · exact spoilt30_a h hw hs at0 field by0 ⟨h5, h6⟩ ha hf hby

end Go.Proofs.Ytalmfmijjbpnpaa
/-
  TimelineLoads, walked: it returns true.
-/
namespace Go.Proofs.Ytalmfmijjbpnpaa
open Go.RowKit

theorem loads7_all {w : World} (a0 a1 : Option Addr) (n0 c0 n1 c1 : Nat) (f0 f1 : Nat → Int) {vv bv sv : Value} {Hr : Hist} {mlr : List (Ln × Value)} (at0 field by0 : Int)
    (ha : -9223372036854775808 ≤ at0 ∧ at0 ≤ 9223372036854775807) (hf : -9223372036854775808 ≤ field ∧ field ≤ 9223372036854775807) (hby : -9223372036854775808 ≤ by0 ∧ by0 ≤ 9223372036854775807)
    (h0 : RowF w a0 n0 f0) (h1 : RowF w a1 n1 f1) (hr : HAt w vv bv sv Hr mlr) (hnm : NmOk Hr) :
    Calls Try.prog 7 #[.slice a0 n0 c0, .slice a1 n1 c1, .agg #[vv, bv, sv, .string Hr.cur], .int .i64 at0, .int .i64 field, .int .i64 by0] w (Quiet (.bool true) w) :=
  loads7 a0 a1 n0 c0 n1 c1 f0 f1 at0 field by0 (Lib.hid fun _ _ _ _ _ _ h hw hs => spoilt30 h hw hs at0 field by0 ha hf hby) h0 h1 hr hnm

end Go.Proofs.Ytalmfmijjbpnpaa
