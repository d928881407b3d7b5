/- The card of RefineCopies: whatever the list of numbers, the node, the precision and the fuel, the law returns true (a copy of a cache is independent, arguments out of range are refused) and the arguments read as before. Conditions: the package's tables read as the program's text lays them, and the text lays them so (the tie). -/
import Derived.Test.YthleenhngcdgkaaGreatDoorRows
import Derived.Test.YthleenhngcdgkaaGreatDoorCards
import Derived.KernelRfl
import Derived.Test.YthleenhngcdgkaaGreatDoorPmbi
import Derived.Test.YthleenhngcdgkaaGreatDoorPmbj
import Derived.Test.YthleenhngcdgkaaGreatDoorTie
import Derived.SevenTiedAt
set_option maxRecDepth 100000
set_option maxHeartbeats 16000000
set_option linter.all false
noncomputable section
namespace Go.Proofs.YthleenhngcdgkaaGreatDoor
section
open Go
def aFF {P:Program} (h:P.funcs.any Func.goes=false) (f:FuncId):P.goes f=false:=by
 have h1: ∀g:Nat,(P.funcs[g]?).any Func.goes=false:=fun g=>by
  cases hg:P.funcs[g]? with
  |none=>rfl
  |some fn=>
   rw [Array.any_eq_false] at h;obtain ⟨bA,e⟩:=au.1 hg;have:=h g bA;rw [e] at this
   simpa using this
 unfold Program.goes;rw [h,Bool.and_false,Bool.or_false];simp [h1]
def aFG:Tryz.prog.funcs.any Func.goes=false:=by kernel_rfl
def aFH {P:Program} {c:OpenClaim} (hs:c.start= .entering) (h:P.funcs.any Func.goes=false):false=c.goesBy P:=by
 unfold OpenClaim.goesBy Program.goesAt Program.goesFrom;rw [hs];cases hf:P.funcNamed c.func with
 |none=>rfl
 |some f=>show false=(P.goes f||false);rw [aFF h];rfl
def aFI:false=Rows.refineCopiesRow.goesBy Tryz.prog:=aFH rfl aFG
end
section
open Go Go.RowKit Go.ChangeShapes Go.WideShapes Go.ChangeAt
def over:Rows.refineCopiesRow.holds Tryz.pinned (OpenSpec.ofChange Rows.refineCopiesSpec):=
 OpenClaim.holds_of_wide 3 Tryz.f3 rfl rfl rfl rfl rfl rfl rfl ⟨rfl,rfl,rfl,rfl,rfl⟩ rfl rfl rfl rfl rfl (by kernel_rfl) Tryz.func3 closed
  (of_decide_eq_true (by kernel_rfl)) (by unfold Func.isWrapper;first|(rw [if_pos (by decide+kernel)];kernel_rfl)|(rw [if_neg (by decide+kernel)];exact ⟨rfl,rfl⟩))
  (fun os started H enc _=>lifted os started H enc)
theorem refineCopies_proved:Rows.RefineCopiesCardSaid:=
 Claim7.holds_tied_plain_at .later [] [.data,.data,.pinned] true (true, "373bdff8b339602d58468f6eb95257e962748b2c17e08f91450a50da85c1c983") true
  over (fun _ h=>by cases h) (by kernel_rfl) (fun _ h=>by cases h) refineCopies_row_tie rfl ⟨rfl,rfl⟩ (by kernel_rfl) rfl
  (fun f fn hf hfn=>by
   obtain rfl:f=3:=fk ((show Tryz.prog.funcNamed "exactreal/exactreallaw25.RefineCopies" =some 3 by kernel_rfl).symm.trans hf)|>.symm;obtain rfl:fn=Tryz.f3:=(fk (Tryz.func3.symm.trans hfn)).symm;exact ⟨by kernel_rfl,fun j t ht=>by
    rw [Tryz.params3] at ht;have hm:t∈ [22,3]:=by simpa using Array.mem_of_getElem? ht
    have qw:([22,3].all fun u=> !Tryz.prog.wantsStandIn u)=true:=by kernel_rfl
    exact (show Tryz.prog.wantsStandIn t=false by simpa using dw.1 qw t hm)⟩)
  aFI
end
end Go.Proofs.YthleenhngcdgkaaGreatDoor
