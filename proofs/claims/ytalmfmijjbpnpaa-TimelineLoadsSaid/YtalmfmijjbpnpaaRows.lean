/-
  No cell of these rows narrows 'for every input' (looked for: loops, veiled, ifaces, maps, wideKeys, modest, calm, conditions, laid).
  DERIVED. THE GIVEN ROWS OF THIS SEAT. 5 by the template 'for every input the law returns true; each argument reads behind the call as it read before'; 0 by the template 'total and deterministic' (their statements: YtalmfmijjbpnpaaTotals.lean).
  GIVEN WITH THE SEED: the statements are not yours to turn. If you find one false, say at which input.
  Laid BY PROGRAM, IN A SANDBOX (cutbox-rows.mjs): the forced cells as the released guide's own fill.sh prints them over the translation c9cbdda78223f6d0… (all of the seat's roots in one cut). By AI agents, Wed Nov 11 2026. No macro, syntax, notation, axiom, sorry.
-/
import Derived.Test.YtalmfmijjbpnpaaChecked
import GoSem.Claim
import GoSem.ClaimJoined
import GoSem.ClaimMapViews
import Derived.JoinedTies
import Derived.KernelRfl
namespace Go.Proofs.Ytalmfmijjbpnpaa
/- THE CELL 'sum', in the pinned program and in every row, IS THE sha256 OF THE DUMP (.gsa) THAT YtalmfmijjbpnpaaProg.lean LOADS. Nothing in Lean hashes anything: it is a label: what it is worth is what the hold of that sum in a sandbox is worth. -/
noncomputable def Try.pinned : Pinned := { name := "ytalmfmijjbpnpaa", sum := "c9cbdda78223f6d00dc9923a5a75ebb75dc3b2e5d7a03d6e5cc78ec587cd6e58", checked := Try.checked }
namespace Rows
def none {H : Type} : Left H := { results := [], args := [] }

/-- 'exactreallaw30.TimelineForks': WHATEVER THE INPUT: true; the input reads as it did. -/
def timelineForksSpec : ChangeSpec := { name := "timelineForks", fn := fun _ => fun
  | [d1, d2, d3, d4] => { results := [.lit (.bool true)], args := [d1, d2, d3, d4] }
  | _ => none }
def timelineForksRow : OpenClaim := { program := "ytalmfmijjbpnpaa", sum := "c9cbdda78223f6d00dc9923a5a75ebb75dc3b2e5d7a03d6e5cc78ec587cd6e58", func := "exactreal/exactreallaw30.TimelineForks", spec := "timelineForks", inPlace := ["slices.overlaps[exactreal/api.Line]"], unfollowed := true, recurses := true, apart := false }
def TimelineForksSaid : Prop := timelineForksRow.holds Try.pinned (OpenSpec.ofChange timelineForksSpec)

/-- ITS FALSE NEIGHBOUR: 'it returns false'. Refute it at one input. -/
def timelineForksWrong : ChangeSpec := { name := "timelineForks", fn := fun _ => fun
  | [d1, d2, d3, d4] => { results := [.lit (.bool false)], args := [d1, d2, d3, d4] }
  | _ => none }
def TimelineForksWrongFalsely : Prop := timelineForksRow.holds Try.pinned (OpenSpec.ofChange timelineForksWrong)

/-- 'exactreallaw30.TimelineLimits': WHATEVER THE INPUT: true; the input reads as it did. -/
def timelineLimitsSpec : ChangeSpec := { name := "timelineLimits", fn := fun _ => fun
  | [d] => { results := [.lit (.bool true)], args := [d] }
  | _ => none }
def timelineLimitsRow : OpenClaim := { program := "ytalmfmijjbpnpaa", sum := "c9cbdda78223f6d00dc9923a5a75ebb75dc3b2e5d7a03d6e5cc78ec587cd6e58", func := "exactreal/exactreallaw30.TimelineLimits", spec := "timelineLimits", inPlace := ["slices.overlaps[exactreal/api.Line]", "slices.overlaps[exactreal/api.Label]"], unfollowed := true, recurses := true, apart := false }
def TimelineLimitsSaid : Prop := timelineLimitsRow.holds Try.pinned (OpenSpec.ofChange timelineLimitsSpec)

/-- ITS FALSE NEIGHBOUR: 'it returns false'. Refute it at one input. -/
def timelineLimitsWrong : ChangeSpec := { name := "timelineLimits", fn := fun _ => fun
  | [d] => { results := [.lit (.bool false)], args := [d] }
  | _ => none }
def TimelineLimitsWrongFalsely : Prop := timelineLimitsRow.holds Try.pinned (OpenSpec.ofChange timelineLimitsWrong)

/-- 'exactreallaw30.TimelinePlays': WHATEVER THE INPUT: true; the input reads as it did. -/
def timelinePlaysSpec : ChangeSpec := { name := "timelinePlays", fn := fun _ => fun
  | [d1, d2, d3] => { results := [.lit (.bool true)], args := [d1, d2, d3] }
  | _ => none }
def timelinePlaysRow : OpenClaim := { program := "ytalmfmijjbpnpaa", sum := "c9cbdda78223f6d00dc9923a5a75ebb75dc3b2e5d7a03d6e5cc78ec587cd6e58", func := "exactreal/exactreallaw30.TimelinePlays", spec := "timelinePlays", inPlace := ["slices.overlaps[exactreal/api.Line]", "slices.overlaps[exactreal/api.Label]"], unfollowed := true, recurses := true, apart := false }
def TimelinePlaysSaid : Prop := timelinePlaysRow.holds Try.pinned (OpenSpec.ofChange timelinePlaysSpec)

/-- ITS FALSE NEIGHBOUR: 'it returns false'. Refute it at one input. -/
def timelinePlaysWrong : ChangeSpec := { name := "timelinePlays", fn := fun _ => fun
  | [d1, d2, d3] => { results := [.lit (.bool false)], args := [d1, d2, d3] }
  | _ => none }
def TimelinePlaysWrongFalsely : Prop := timelinePlaysRow.holds Try.pinned (OpenSpec.ofChange timelinePlaysWrong)

/-- 'exactreallaw30.TimelineUndoes': WHATEVER THE INPUT: true; the input reads as it did. -/
def timelineUndoesSpec : ChangeSpec := { name := "timelineUndoes", fn := fun _ => fun
  | [d1, d2] => { results := [.lit (.bool true)], args := [d1, d2] }
  | _ => none }
def timelineUndoesRow : OpenClaim := { program := "ytalmfmijjbpnpaa", sum := "c9cbdda78223f6d00dc9923a5a75ebb75dc3b2e5d7a03d6e5cc78ec587cd6e58", func := "exactreal/exactreallaw30.TimelineUndoes", spec := "timelineUndoes", inPlace := ["slices.overlaps[exactreal/api.Line]", "slices.overlaps[exactreal/api.Label]"], unfollowed := true, recurses := true, apart := false }
def TimelineUndoesSaid : Prop := timelineUndoesRow.holds Try.pinned (OpenSpec.ofChange timelineUndoesSpec)

/-- ITS FALSE NEIGHBOUR: 'it returns false'. Refute it at one input. -/
def timelineUndoesWrong : ChangeSpec := { name := "timelineUndoes", fn := fun _ => fun
  | [d1, d2] => { results := [.lit (.bool false)], args := [d1, d2] }
  | _ => none }
def TimelineUndoesWrongFalsely : Prop := timelineUndoesRow.holds Try.pinned (OpenSpec.ofChange timelineUndoesWrong)

/-- 'exactreallaw30.TimelineLoads': WHATEVER THE INPUT: true; the input reads as it did. -/
def timelineLoadsSpec : ChangeSpec := { name := "timelineLoads", fn := fun _ => fun
  | [d1, d2, d3, d4, d5, d6] => { results := [.lit (.bool true)], args := [d1, d2, d3, d4, d5, d6] }
  | _ => none }
def timelineLoadsRow : OpenClaim := { program := "ytalmfmijjbpnpaa", sum := "c9cbdda78223f6d00dc9923a5a75ebb75dc3b2e5d7a03d6e5cc78ec587cd6e58", func := "exactreal/exactreallaw30.TimelineLoads", spec := "timelineLoads", inPlace := ["slices.overlaps[exactreal/api.Line]", "slices.overlaps[exactreal/api.Label]"], unfollowed := true, recurses := true, apart := false }
def TimelineLoadsSaid : Prop := timelineLoadsRow.holds Try.pinned (OpenSpec.ofChange timelineLoadsSpec)

/-- ITS FALSE NEIGHBOUR: 'it returns false'. Refute it at one input. -/
def timelineLoadsWrong : ChangeSpec := { name := "timelineLoads", fn := fun _ => fun
  | [d1, d2, d3, d4, d5, d6] => { results := [.lit (.bool false)], args := [d1, d2, d3, d4, d5, d6] }
  | _ => none }
def TimelineLoadsWrongFalsely : Prop := timelineLoadsRow.holds Try.pinned (OpenSpec.ofChange timelineLoadsWrong)

/- THE SECOND FORM. 'bulk': how many values and letters a reading holds, each counted each time it is reached (what is shared counts as often as it is met; a slice's spare places count too). A statement '..UptoSaid' is the law's where the arguments, and the package variables that the reading takes, are together of bulk at most 1048576: NARROWER than '..Said'. Prove '..Said' where nothing that the law and all that it calls make is longer than what came in: it says more and counts as full. Else prove '..UptoSaid'. A law counts once. -/
mutual
def uptoBulk {H : Type} : DataW H → Nat
  | .lit (.string bytes) => bytes.length + 1
  | .lit _ => 1
  | .nil => 1
  | .ptr d => uptoBulk d + 1
  | .slice elems spare => uptoBulkAll elems + uptoBulkAll spare + 1
  | .agg parts => uptoBulkAll parts + 1
  | .iface _ d => uptoBulk d + 1
  | .map entries => uptoBulkEntries entries + 1
  | .held _ => 1
def uptoBulkAll {H : Type} : List (DataW H) → Nat
  | [] => 0
  | d :: r => uptoBulk d + uptoBulkAll r
def uptoBulkEntries {H : Type} : List (Lit × DataW H) → Nat
  | [] => 0
  | x :: r => uptoBulkEntry x + uptoBulkEntries r
def uptoBulkEntry {H : Type} : Lit × DataW H → Nat
  | (.string bytes, d) => bytes.length + uptoBulk d + 1
  | (_, d) => uptoBulk d + 1
 end
def uptoSmall : (H : Type) → List (DataW H) → Bool := fun _ ds => decide (uptoBulkAll ds ≤ 1048576)
def OpenSpec.upto (s : _root_.Go.ChangeSpec) : _root_.Go.OpenSpec := { _root_.Go.OpenSpec.ofChange s with cond := some uptoSmall }

/-- 'exactreallaw30.TimelineForks', WHERE WHAT IT READS IS OF BULK AT MOST 1048576: true; the input reads as it did. -/
def timelineForksUptoRow : OpenClaim := { program := "ytalmfmijjbpnpaa", sum := "c9cbdda78223f6d00dc9923a5a75ebb75dc3b2e5d7a03d6e5cc78ec587cd6e58", func := "exactreal/exactreallaw30.TimelineForks", spec := "timelineForks", inPlace := ["slices.overlaps[exactreal/api.Line]"], unfollowed := true, recurses := true, apart := false, narrowed := true }
def TimelineForksUptoSaid : Prop := timelineForksUptoRow.holds Try.pinned (OpenSpec.upto timelineForksSpec)

/-- 'exactreallaw30.TimelineLimits', WHERE WHAT IT READS IS OF BULK AT MOST 1048576: true; the input reads as it did. -/
def timelineLimitsUptoRow : OpenClaim := { program := "ytalmfmijjbpnpaa", sum := "c9cbdda78223f6d00dc9923a5a75ebb75dc3b2e5d7a03d6e5cc78ec587cd6e58", func := "exactreal/exactreallaw30.TimelineLimits", spec := "timelineLimits", inPlace := ["slices.overlaps[exactreal/api.Line]", "slices.overlaps[exactreal/api.Label]"], unfollowed := true, recurses := true, apart := false, narrowed := true }
def TimelineLimitsUptoSaid : Prop := timelineLimitsUptoRow.holds Try.pinned (OpenSpec.upto timelineLimitsSpec)

/-- 'exactreallaw30.TimelinePlays', WHERE WHAT IT READS IS OF BULK AT MOST 1048576: true; the input reads as it did. -/
def timelinePlaysUptoRow : OpenClaim := { program := "ytalmfmijjbpnpaa", sum := "c9cbdda78223f6d00dc9923a5a75ebb75dc3b2e5d7a03d6e5cc78ec587cd6e58", func := "exactreal/exactreallaw30.TimelinePlays", spec := "timelinePlays", inPlace := ["slices.overlaps[exactreal/api.Line]", "slices.overlaps[exactreal/api.Label]"], unfollowed := true, recurses := true, apart := false, narrowed := true }
def TimelinePlaysUptoSaid : Prop := timelinePlaysUptoRow.holds Try.pinned (OpenSpec.upto timelinePlaysSpec)

/-- 'exactreallaw30.TimelineUndoes', WHERE WHAT IT READS IS OF BULK AT MOST 1048576: true; the input reads as it did. -/
def timelineUndoesUptoRow : OpenClaim := { program := "ytalmfmijjbpnpaa", sum := "c9cbdda78223f6d00dc9923a5a75ebb75dc3b2e5d7a03d6e5cc78ec587cd6e58", func := "exactreal/exactreallaw30.TimelineUndoes", spec := "timelineUndoes", inPlace := ["slices.overlaps[exactreal/api.Line]", "slices.overlaps[exactreal/api.Label]"], unfollowed := true, recurses := true, apart := false, narrowed := true }
def TimelineUndoesUptoSaid : Prop := timelineUndoesUptoRow.holds Try.pinned (OpenSpec.upto timelineUndoesSpec)

/-- 'exactreallaw30.TimelineLoads', WHERE WHAT IT READS IS OF BULK AT MOST 1048576: true; the input reads as it did. -/
def timelineLoadsUptoRow : OpenClaim := { program := "ytalmfmijjbpnpaa", sum := "c9cbdda78223f6d00dc9923a5a75ebb75dc3b2e5d7a03d6e5cc78ec587cd6e58", func := "exactreal/exactreallaw30.TimelineLoads", spec := "timelineLoads", inPlace := ["slices.overlaps[exactreal/api.Line]", "slices.overlaps[exactreal/api.Label]"], unfollowed := true, recurses := true, apart := false, narrowed := true }
def TimelineLoadsUptoSaid : Prop := timelineLoadsUptoRow.holds Try.pinned (OpenSpec.upto timelineLoadsSpec)

end Rows
end Go.Proofs.Ytalmfmijjbpnpaa
