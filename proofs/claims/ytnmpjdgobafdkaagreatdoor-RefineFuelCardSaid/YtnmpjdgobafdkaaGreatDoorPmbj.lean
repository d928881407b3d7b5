/- refineFuel_proved. -/
import Derived.Test.YtnmpjdgobafdkaaGreatDoorPmbi
import Derived.KernelRfl
set_option maxRecDepth 100000
set_option maxHeartbeats 16000000
set_option linter.all false
noncomputable section
namespace Go.Proofs.YtnmpjdgobafdkaaGreatDoor
section
open Go.Proofs.Tryz Go Go.RowKit Go.Ev
variable {W:World} {r:VR} {b:Bool} {f:Nat} {l:List ByteArray} {s:ByteArray}
def E6:List Value:= [.int .u8 0,.int .u8 1,.int .u8 28,.int .u8 2,.int .u8 29,.int .u8 14,.int .u8 24,.int .u8 3,.int .u8 30,.int .u8 22,.int .u8 20,.int .u8 15,.int .u8 25,.int .u8 17,.int .u8 4,.int .u8 8,
 .int .u8 31,.int .u8 27,.int .u8 13,.int .u8 23,.int .u8 21,.int .u8 19,.int .u8 16,.int .u8 7,.int .u8 26,.int .u8 12,.int .u8 18,.int .u8 6,.int .u8 11,.int .u8 5,.int .u8 10,.int .u8 9]
def yY:Nat->Option (List Value):=fun g=>match g with
 |0=>some E6
 |_=>none
def pz (W:World):Prop:= ∀g l,yY g=some l-> ∃a e d,W.heap[g]? =some (.cells ⟨l++a⟩ e d)
def pz.below {w:World} (h:pz W) (j:Below W.heap.size W w):pz w:=fun g l k=>by
 obtain ⟨a,e,i,d⟩:=h g l k;exact ⟨a,e,i,(j.block g (ax.1 d).1).trans d⟩
def mixed:prog.follows .mixedOrders=true:=by kernel_rfl
def OZ:aj->Bool
 | .i7 _ _ _ _=>true
 | .jP=>true
 |_=>false
def alw {v:aj} (h:OZ v=true) (m:Mp): ∃a n c,γ m v= .slice a n c:=by
 unfold OZ at h;split at h
 ·rename_i n o l c
  cases c<;>exact ⟨_,_,_,rfl⟩
 ·exact ⟨_,_,_,rfl⟩
 grind
def O0:VR->Bool
 | .ok (.fh [.agg [.bool _,b,c],.int .i64 (.ofNat 0)]) _=>OZ b&&OZ c
 |_=>false
def isBool (b:Bool):VR->Bool
 | .ok (.bool c) _=>J5 c b
 |_=>false
def aCc (h:O0 r=true): ∃a b c H,r= .ok (.fh [.agg [.bool a,b,c],.int .i64 0]) H/\OZ b=true/\OZ c=true:=by
 unfold O0 at h;grind
def aCd (h:isBool b r=true): ∃H,r= .ok (.bool b) H:=by
 unfold isBool at h;split at h
 ·rename_i c H
  have:c=b:=by cases c<;>cases b<;>first|rfl|cases h
  simp_all
 grind
def aCe (W:World) (e:Ending) (w':World):Prop:= ∃(s:Bool) (a:Option Addr) (n c:Nat) (d:Option Addr) (h g:Nat),e= .returned (.tuple #[.agg #[.bool s,.slice a n c,.slice d h g],.int .i64 0])/\Below W.heap.size W w'
def alx (k:(l.all fun s=>O0 (zI (Env.of prog (Ec yY)) 200 f [.str s.data.toList] (sY 1)))=true) (i:pz W) (p:s∈l):
 Calls prog f #[.string s] W (aCe W):=by
 obtain ⟨a,b,c,H,o,j,hc⟩:=aCc (ef.1 k s p);refine (agK mixed o (agJ i) (aq _) ⟨trivial,trivial⟩).mono ?_;rintro e z ⟨m,rfl,_,_,d,_⟩;obtain ⟨x,n,y,g⟩:=alw j m;obtain ⟨t,q,u,h⟩:=alw hc m;exact ⟨a,x,n,y,t,q,u,by simp only [γ,aV,g,h],d⟩
def aly (h:(l.all fun s=>isBool b (zI (Env.of prog (Ec yY)) 200 f [.str s.data.toList] (sY 1)))=true) (d:pz W) (j:s∈l):
 Calls prog f #[.string s] W fun e a=>e= .returned (.bool b)/\Below W.heap.size W a:=by
 obtain ⟨H,i⟩:=aCd (ef.1 h s j);refine (agK mixed i (agJ d) (aq _) ⟨trivial,trivial⟩).mono ?_;rintro e a ⟨m,rfl,_,_,g,_⟩;exact ⟨rfl,g⟩
def aCf {α:Type} {l:List α} {f:α->Bool} (n:Nat) (a:(l.take n).all f=true) (d:(l.drop n).all f=true):l.all f=true:=by
 rw [<-eZ n l,List.all_append,a,d];rfl
set_option maxRecDepth 1000000 in
def aCg:((xR.take 7).all fun s=>O0 (zI (Env.of prog (Ec yY)) 200 65 [.str s.data.toList] (sY 1)))=true:=by kernel_rfl
set_option maxRecDepth 1000000 in
def aCh:((xR.drop 7).all fun s=>O0 (zI (Env.of prog (Ec yY)) 200 65 [.str s.data.toList] (sY 1)))=true:=by kernel_rfl
def alz:(xR.all fun s=>O0 (zI (Env.of prog (Ec yY)) 200 65 [.str s.data.toList] (sY 1)))=true:=aCf 7 aCg aCh
set_option maxRecDepth 1000000 in
def aCi:(E2.all fun s=>isBool true (zI (Env.of prog (Ec yY)) 200 66 [.str s.data.toList] (sY 1)))=true:=by kernel_rfl
set_option maxRecDepth 1000000 in
def aCj:(E2.all fun s=>isBool false (zI (Env.of prog (Ec yY)) 200 67 [.str s.data.toList] (sY 1)))=true:=by kernel_rfl
end
end Go.Proofs.YtnmpjdgobafdkaaGreatDoor
