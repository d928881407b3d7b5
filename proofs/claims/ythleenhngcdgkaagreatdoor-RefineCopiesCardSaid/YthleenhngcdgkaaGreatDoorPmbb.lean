/- refineCopies_proved. -/
import Derived.Test.YthleenhngcdgkaaGreatDoorPmba
import Derived.KernelRfl
set_option maxRecDepth 100000
set_option maxHeartbeats 16000000
set_option linter.all false
noncomputable section
namespace Go.Proofs.YthleenhngcdgkaaGreatDoor
section
open Go.Proofs.Tryz Go Go.RowKit Go.Ev
variable {W:World} {r:VR} {b:Bool} {f:Nat} {l:List ByteArray} {s:ByteArray}
def FF:List Value:= [.int .u8 0,.int .u8 1,.int .u8 28,.int .u8 2,.int .u8 29,.int .u8 14,.int .u8 24,.int .u8 3,.int .u8 30,.int .u8 22,.int .u8 20,.int .u8 15,.int .u8 25,.int .u8 17,.int .u8 4,.int .u8 8,
 .int .u8 31,.int .u8 27,.int .u8 13,.int .u8 23,.int .u8 21,.int .u8 19,.int .u8 16,.int .u8 7,.int .u8 26,.int .u8 12,.int .u8 18,.int .u8 6,.int .u8 11,.int .u8 5,.int .u8 10,.int .u8 9]
def vY:Nat->Option (List Value):=fun g=>match g with
 |0=>some FF
 |_=>none
def om (W:World):Prop:= ∀g l,vY g=some l-> ∃a e d,W.heap[g]? =some (.cells ⟨l++a⟩ e d)
def om.below {w:World} (h:om W) (j:Below W.heap.size W w):om w:=fun g l k=>by
 obtain ⟨a,e,i,d⟩:=h g l k;exact ⟨a,e,i,(j.block g (au.1 d).1).trans d⟩
def mixed:prog.follows .mixedOrders=true:=by kernel_rfl
def PZ:ai->Bool
 | .jm _ _ _ _=>true
 | .j7=>true
 |_=>false
def amp {v:ai} (h:PZ v=true) (m:Mp): ∃a n c,γ m v= .slice a n c:=by
 unfold PZ at h;split at h
 ·rename_i n o l c
  cases c<;>exact ⟨_,_,_,rfl⟩
 ·exact ⟨_,_,_,rfl⟩
 grind
def Ht:VR->Bool
 | .ok (.fm [.agg [.bool _,b,c],.int .i64 (.ofNat 0)]) _=>PZ b&&PZ c
 |_=>false
def isBool (b:Bool):VR->Bool
 | .ok (.bool c) _=>K1 c b
 |_=>false
def aC8 (h:Ht r=true): ∃a b c H,r= .ok (.fm [.agg [.bool a,b,c],.int .i64 0]) H/\PZ b=true/\PZ c=true:=by
 unfold Ht at h;grind
def aC9 (h:isBool b r=true): ∃H,r= .ok (.bool b) H:=by
 unfold isBool at h;split at h
 ·rename_i c H
  have:c=b:=by cases c<;>cases b<;>first|rfl|cases h
  simp_all
 grind
def aDa (W:World) (e:Ending) (w':World):Prop:= ∃(s:Bool) (a:Option Addr) (n c:Nat) (d:Option Addr) (h g:Nat),e= .returned (.tuple #[.agg #[.bool s,.slice a n c,.slice d h g],.int .i64 0])/\Below W.heap.size W w'
def amq (k:(l.all fun s=>Ht (vB (Env.of prog (zc vY)) 200 f [.str s.data.toList] (qs 1)))=true) (i:om W) (p:s∈l):
 Calls prog f #[.string s] W (aDa W):=by
 obtain ⟨a,b,c,H,o,j,hc⟩:=aC8 (dw.1 k s p);refine (ahB mixed o (ahA i) (ak _) ⟨trivial,trivial⟩).mono ?_;rintro e z ⟨m,rfl,_,_,d,_⟩;obtain ⟨x,n,y,g⟩:=amp j m;obtain ⟨t,q,u,h⟩:=amp hc m;exact ⟨a,x,n,y,t,q,u,by simp only [γ,aW,g,h],d⟩
def ad8 (h:(l.all fun s=>isBool b (vB (Env.of prog (zc vY)) 200 f [.str s.data.toList] (qs 1)))=true) (d:om W) (j:s∈l):
 Calls prog f #[.string s] W fun e a=>e= .returned (.bool b)/\Below W.heap.size W a:=by
 obtain ⟨H,i⟩:=aC9 (dw.1 h s j);refine (ahB mixed i (ahA d) (ak _) ⟨trivial,trivial⟩).mono ?_;rintro e a ⟨m,rfl,_,_,g,_⟩;exact ⟨rfl,g⟩
def amr {α:Type} {l:List α} {f:α->Bool} (n:Nat) (a:(l.take n).all f=true) (d:(l.drop n).all f=true):l.all f=true:=by
 rw [<-eS n l,List.all_append,a,d];rfl
set_option maxRecDepth 1000000 in
def aDb:((tQ.take 7).all fun s=>Ht (vB (Env.of prog (zc vY)) 200 112 [.str s.data.toList] (qs 1)))=true:=by kernel_rfl
set_option maxRecDepth 1000000 in
def aDc:((tQ.drop 7).all fun s=>Ht (vB (Env.of prog (zc vY)) 200 112 [.str s.data.toList] (qs 1)))=true:=by kernel_rfl
def aDe:(tQ.all fun s=>Ht (vB (Env.of prog (zc vY)) 200 112 [.str s.data.toList] (qs 1)))=true:=amr 7 aDb aDc
set_option maxRecDepth 1000000 in
def aDf:((tQ.take 7).all fun s=>Ht (vB (Env.of prog (zc vY)) 200 126 [.str s.data.toList] (qs 1)))=true:=by kernel_rfl
set_option maxRecDepth 1000000 in
def aDg:((tQ.drop 7).all fun s=>Ht (vB (Env.of prog (zc vY)) 200 126 [.str s.data.toList] (qs 1)))=true:=by kernel_rfl
def aDh:(tQ.all fun s=>Ht (vB (Env.of prog (zc vY)) 200 126 [.str s.data.toList] (qs 1)))=true:=amr 7 aDf aDg
set_option maxRecDepth 1000000 in
def aDi:(Bf.all fun s=>isBool true (vB (Env.of prog (zc vY)) 200 234 [.str s.data.toList] (qs 1)))=true:=by kernel_rfl
set_option maxRecDepth 1000000 in
def aDj:(Bf.all fun s=>isBool true (vB (Env.of prog (zc vY)) 200 127 [.str s.data.toList] (qs 1)))=true:=by kernel_rfl
set_option maxRecDepth 1000000 in
def aDk:(Bf.all fun s=>isBool false (vB (Env.of prog (zc vY)) 200 128 [.str s.data.toList] (qs 1)))=true:=by kernel_rfl
end
end Go.Proofs.YthleenhngcdgkaaGreatDoor
