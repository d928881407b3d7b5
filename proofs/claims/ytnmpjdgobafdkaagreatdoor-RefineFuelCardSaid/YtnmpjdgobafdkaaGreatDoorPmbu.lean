/- The card of RefineFuel: whatever the list of numbers, the precision and the two amounts of fuel, the law returns true and the arguments read as before. Conditions: the package's tables read as the program's text lays them, and the text lays them so (the tie). -/
import Derived.Test.YtnmpjdgobafdkaaGreatDoorRows
import Derived.Test.YtnmpjdgobafdkaaGreatDoorCards
import Derived.KernelRfl
import Derived.Test.YtnmpjdgobafdkaaGreatDoorPmbs
import Derived.Test.YtnmpjdgobafdkaaGreatDoorPmbt
import Derived.Test.YtnmpjdgobafdkaaGreatDoorTie
import Derived.SevenTiedAt
set_option maxRecDepth 100000
set_option maxHeartbeats 16000000
set_option linter.all false
noncomputable section
namespace Go.Proofs.YtnmpjdgobafdkaaGreatDoor
section
open Go
def aEx {P:Program} (h:P.funcs.any Func.goes=false) (f:FuncId):P.goes f=false:=by
 have h1: ∀g:Nat,(P.funcs[g]?).any Func.goes=false:=fun g=>by
  cases hg:P.funcs[g]? with
  |none=>rfl
  |some fn=>
   rw [Array.any_eq_false] at h;obtain ⟨bB,e⟩:=ax.1 hg;have:=h g bB;rw [e] at this
   simpa using this
 unfold Program.goes;rw [h,Bool.and_false,Bool.or_false];simp [h1]
def aEy:Tryz.prog.funcs.any Func.goes=false:=by kernel_rfl
def aEz {P:Program} {c:OpenClaim} (hs:c.start= .entering) (h:P.funcs.any Func.goes=false):false=c.goesBy P:=by
 unfold OpenClaim.goesBy Program.goesAt Program.goesFrom;rw [hs];cases hf:P.funcNamed c.func with
 |none=>rfl
 |some f=>show false=(P.goes f||false);rw [aEx h];rfl
def aEA:false=Rows.refineFuelRow.goesBy Tryz.prog:=aEz rfl aEy
end
section
open Go Go.RowKit Go.ChangeShapes Go.WideShapes Go.ChangeAt
def over:Rows.refineFuelRow.holds Tryz.pinned (OpenSpec.ofChange Rows.refineFuelSpec):=
 OpenClaim.holds_of_wide 3 Tryz.f3 rfl rfl rfl rfl rfl rfl rfl ⟨rfl,rfl,rfl,rfl,rfl⟩ rfl rfl rfl rfl rfl (by kernel_rfl) Tryz.func3 closed
  (of_decide_eq_true (by kernel_rfl)) (by unfold Func.isWrapper;first|(rw [if_pos (by decide+kernel)];kernel_rfl)|(rw [if_neg (by decide+kernel)];exact ⟨rfl,rfl⟩))
  (fun os started H enc _=>lifted os started H enc)
theorem refineFuel_proved:Rows.RefineFuelCardSaid:=
 Claim7.holds_tied_plain_at .later [] [.data,.data,.pinned] true (true, "d6b397e069a5cdd0b5a46b2cbd07e134217da797646a7a6a38eaa60568ec7fae") true
  over (fun _ h=>by cases h) (by kernel_rfl) (fun _ h=>by cases h) refineFuel_row_tie rfl ⟨rfl,rfl⟩ (by kernel_rfl) rfl
  (fun f fn hf hfn=>by
   obtain rfl:f=3:=fB ((show Tryz.prog.funcNamed "exactreal/exactreallaw25.RefineFuel" =some 3 by kernel_rfl).symm.trans hf)|>.symm;obtain rfl:fn=Tryz.f3:=(fB (Tryz.func3.symm.trans hfn)).symm;exact ⟨by kernel_rfl,fun j t ht=>by
    rw [Tryz.params3] at ht;have hm:t∈ [22,3]:=by simpa using Array.mem_of_getElem? ht
    have qe:([22,3].all fun u=> !Tryz.prog.wantsStandIn u)=true:=by kernel_rfl
    exact (show Tryz.prog.wantsStandIn t=false by simpa using ef.1 qe t hm)⟩)
  aEA
end
end Go.Proofs.YtnmpjdgobafdkaaGreatDoor
