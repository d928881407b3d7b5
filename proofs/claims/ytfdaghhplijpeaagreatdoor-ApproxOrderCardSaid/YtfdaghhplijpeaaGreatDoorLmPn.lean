/-
  The examples of the law's sanity check: its calls as closed calls of the evaluator.
-/
import Derived.Test.YtfdaghhplijpeaaGreatDoorLmOw
namespace Go.Proofs.YtfdaghhplijpeaaGreatDoor
open Go Go.RowKit Go.Ev

/-- An interval: two ends, each with a sign, limbs, an exponent. -/
def isIv : AVal → Bool
  | .agg [.bool _, b, .int .i64 _, .bool _, c, .int .i64 _] => isSl b && isSl c
  | _ => false
def isRt : AVal → Bool
  | .agg [.bool _, b, c] => isSl b && isSl c
  | _ => false
noncomputable def cl (f : Nat) (l : List AVal) (h : Heap) : VR := callG (Env.of Tryz.prog tabs) 200 f l h
noncomputable def pA : VR := cl 11 [.str [49, 47, 51], .int .i64 10] (emptyHeap 1)
noncomputable def pB : VR := cl 11 [.str [49, 32, 47, 32, 40, 112, 105, 32, 45, 32, 112, 105, 41], .int .i64 10] (emptyHeap 1)
noncomputable def pC : VR := cl 11 [.str [115, 113, 114, 116, 40, 50, 32, 45, 32, 112, 105, 41], .int .i64 10] (emptyHeap 1)
def isErr (n : Nat) : VR → Bool
  | .ok (.tup [a, .int .i64 (.ofNat k)]) _ => isIv a && Nat.beq k n
  | _ => false
/-- The chain of the first example and of what it is compared with. -/
noncomputable def chain : Bool := match pA with
  | .ok (.tup [a, .int .i64 (.ofNat 0)]) hA => isIv a && match cl 13 [.int .i64 1] hA with
    | .ok o hO => isRt o && match cl 13 [.int .i64 3] hO with
      | .ok t hT => isRt t && match cl 12 [o, t] hT with
        | .ok (.tup [d, .int .i64 _]) hD => isRt d && match cl 14 [d, .int .i64 10] hD with
          | .ok (.tup [b, .int .i64 _]) hB => isIv b && isBool true (cl 15 [a, b] hB)
          | _ => false
        | _ => false
      | _ => false
    | _ => false
  | _ => false
end Go.Proofs.YtfdaghhplijpeaaGreatDoor
