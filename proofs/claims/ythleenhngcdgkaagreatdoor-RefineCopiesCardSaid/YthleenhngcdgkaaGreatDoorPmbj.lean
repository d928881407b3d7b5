/- refineCopies_proved. -/
import Derived.Test.YthleenhngcdgkaaGreatDoorRows
import Derived.JoinedOf
import Derived.KernelRfl
import Derived.Test.YthleenhngcdgkaaGreatDoorPmzz
set_option maxRecDepth 100000
set_option maxHeartbeats 16000000
set_option linter.all false
noncomputable section
namespace Go.Proofs.YthleenhngcdgkaaGreatDoor
section
open Go
def aFE {P:Program} {f:FuncId} {fn:Func} {s:ChangeSpec} {c:OpenClaim}
 (h1:(c.inPlace==P.inPlace f)=true) (h2:(c.unfollowed==P.unfollowed f)=true) (h3:(c.recurses==P.recurses f)=true) (h4:(c.named==P.varsNamed f)=true)
 (h5:laidOutB P=true) (h6:mapsRowed P=true) (h7:P.stopsHeard=true) (h8:P.mayEnter=true)
 (h:(c.wf (OpenSpec.ofChange s)&&
  fn.params.all (P.readableRec ·)&&namedTie P c.named s.vars&&
  (c.stops== [])&&(P.stops== [])&&(c.knobs== [])&&(P.stopKnobs== [])&&
  (c.maps==(fn.params.toList++s.plain.varTypes P).any (P.mapsRec ·))&&(c.ifaces==(fn.params.toList++s.plain.varTypes P).any (P.ifacesRec ·))&&(c.mapsOut==P.mapsAmong fn.resultTypes.toList)&&
  (c.loops==(fn.params.toList++s.plain.varTypes P).any (P.loopsFrom ·))&&(c.wideKeys==(fn.params.toList++s.plain.varTypes P++fn.resultTypes.toList).any (P.wideKeysFrom ·))&&
  s.vars.all (P.varReadable ·)&&fn.resultTypes.all (fun t=>P.readableRec t&&decide (t<P.types.size))&&(c.ifacesOut==fn.resultTypes.toList.any (P.ifacesRec ·))&&(c.loopsOut==fn.resultTypes.toList.any (P.loopsFrom ·))&&(c.plainKeys==P.plainKeys)&&c.shortTexts.isNone&&(c.lifted==P.liftsFinal)&&(P.make==some c.make)&&(c.kinds==(if c.domain.isEmpty then [] else fn.params.toList.map fun t=>match P.underlying t with|some (.int k)=>some k|_=>none))&&(c.pinned==c.pinnedBy)&&
  (c.veiled==(fn.params.toList++s.plain.varTypes P++fn.resultTypes.toList).any (P.veiledRec ·))&&c.veiledFits P fn.params.toList (fn.params.toList++s.plain.varTypes P++fn.resultTypes.toList))=true):
 joinedFacts P f fn s c=true:=by
 unfold joinedFacts;rw [h1,h2,h3,h4,h5,h6,h7,h8];simp only [Bool.and_true];exact h
def jf1:(Rows.refineCopiesRow.inPlace==Tryz.prog.inPlace 3)=true:=by kernel_rfl
def jf2:(Rows.refineCopiesRow.unfollowed==Tryz.prog.unfollowed 3)=true:=by kernel_rfl
def jf3:(Rows.refineCopiesRow.recurses==Tryz.prog.recurses 3)=true:=by kernel_rfl
def jf4:(Rows.refineCopiesRow.named==Tryz.prog.varsNamed 3)=true:=by kernel_rfl
def jf5:laidOutB Tryz.prog=true:=by kernel_rfl
def jf6:mapsRowed Tryz.prog=true:=by kernel_rfl
def jf7:Tryz.prog.stopsHeard=true:=by kernel_rfl
def jf8:Tryz.prog.mayEnter=true:=by kernel_rfl
def closed:joinedFacts Tryz.prog 3 Tryz.f3 Rows.refineCopiesSpec Rows.refineCopiesRow=true:=
 aFE jf1 jf2 jf3 jf4 jf5 jf6 jf7 jf8 (by kernel_rfl)
end
end Go.Proofs.YthleenhngcdgkaaGreatDoor
