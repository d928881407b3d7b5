/- refineFuel_proved. -/
import Derived.Test.YtnmpjdgobafdkaaGreatDoorRows
import Derived.ProofKit
import Derived.LaidMore
import Derived.OpenShut
import Derived.MakeChecks
import Derived.Test.YtnmpjdgobafdkaaGreatDoorPmbq
import Derived.Test.YtnmpjdgobafdkaaGreatDoorPmbr
import Derived.Stop.Joined
set_option maxRecDepth 100000
set_option maxHeartbeats 16000000
set_option linter.all false
noncomputable section
namespace Go.Proofs.YtnmpjdgobafdkaaGreatDoor
section
open Go Go.RowKit Go.ChangeShapes Go.WideShapes Go.ChangeAt
def amr:Tryz.prog.globalNamed "math/bits.deBruijn32tab" =some 0:=by kernel_rfl
def tT:(Tryz.prog.globals[0]?).map (·.type)=some 267:=by kernel_rfl
def uT:Tryz.prog.underlying 267=some (.array 32 5):=by kernel_rfl
def uE:Tryz.prog.underlying 5=some (.int .u8):=by kernel_rfl
def cE:Tryz.prog.cellsOf 5=1:=by kernel_rfl
def cT:Tryz.prog.cellsOf 267=32:=by kernel_rfl
def ns:List Int:= [0,1,28,2,29,14,24,3,30,22,20,15,25,17,4,8,31,27,13,23,21,19,16,7,26,12,18,6,11,5,10,9]
def ad3:E6=ns.map (Value.int .u8):=rfl
def aEr:(Rows.laid_math_bits_deBruijn32tab:DataW Unit)= .agg (ns.map fun n=> .lit (.int .u8 n)):=rfl
def aEs {W:World} (h:laidMetH Tryz.prog Rows.refineFuelRow.laid W): ∃rest e fz,W.heap[0]? =some (.cells ⟨E6++rest⟩ e fz):=by
 rw [MakeChecks.laidMetH_plain _ _ _ (by kernel_rfl)] at h;obtain ⟨ps,⟨g0,t0,cs0,f0,p0,q0,Bh,ht0,Gb,xZ,_⟩,_,_⟩:=h;obtain rfl:=fB (amr.symm.trans Bh);obtain rfl:=fB (tT.symm.trans ht0);obtain ⟨xs,m1,rfl,hx,hlen,hn,hel⟩:=DataW.trod_array uT xZ;rw [aEr] at hx;simp only [ke,DataW.agg.injEq] at hx;rw [cT] at hlen;have hcs:cs0.toList=E6:=by
  apply kp;intro i;by_cases hi:i<32
  ·have h0:=hel i hi
   have D2:i<xs.length:=by omega
   rw [aM D2,cE] at h0;obtain ⟨k,e1,e2,_⟩:=DataW.trod_int uE h0;have h1:(ns.map fun n=>(DataW.lit (.int .u8 n):DataW Unit))[i]? =some (xs[i]).1:=by rw [hx.1];simp [D2]
   rw [e2,dA] at h1;rw [ad3,dA];cases hq:ns[i]? with
   |none=>rw [hq] at h1;cases h1
   |some n=>
    rw [hq] at h1;simp at h1;subst h1;have h2:=congrArg (fun l=>l[0]?) e1;simp at h2
    simpa using h2
  ·rw [bQ (by omega),bQ (by rw [ad3];simp [ns];omega)]
 simp only [World.var?,amr,Option.bind_some] at Gb;split at Gb
 ·rename_i c e fz hb
  cases Gb;exact ⟨[],e,fz,by rw [hb,fU,<-hcs]⟩
 ·cases Gb
def own:ownKnob Tryz.prog.godebug=none:=by kernel_rfl
def firstCells:List Value:=match Pinned.utf8First with
 | .agg l=>l.map fun d=>match d with| .lit (.int k n)=> .int k n|_=>undef
 |_=> []
def aEt {W:World} (h: ∃rest e fz,W.heap[0]? =some (.cells ⟨E6++rest⟩ e fz)):pz W:=fun g l hg=>by
 unfold yY at hg;split at hg
 ·cases hg;exact h
 ·cases hg
def aEu {W:World} (h: ∃rest e fz,W.heap[0]? =some (.cells ⟨E6++rest⟩ e fz)):bw W:=fun j hj=>by
 obtain ⟨rest,e,fz,hb⟩:=h;have hl:E6.length=32:=rfl;have h1:E6[j]? =some (.int .u8 (Lib.deBruijn32tab.getD j 0:Nat)):=by
  have qe:(List.range 32).all (fun j=>decide (ns[j]? =some ((Lib.deBruijn32tab.getD j 0:Nat):Int)))=true:=by decide
  rw [ad3,dA,of_decide_eq_true (ef.1 qe j (m6.2 hj))];rfl
 simp only [World.cell?,hb];simp [iA (show j<E6.length by omega),h1]
def ams (os:Os):World:=
 let w0:=World.doorLaid Tryz.prog 400 os
 {w0 with heap:=w0.heap.modify 2 fun
  | .cells _ t fz=> .cells ⟨firstCells⟩ t fz
  |o=>o}
def aEv (os:Os) (args:Array Value):laidMetH Tryz.prog Rows.refineFuelRow.laid ((ams os).forCall (fun _ _=>0) ⟨#[],args,[]⟩).memory:=by
 rw [MakeChecks.laidMetH_plain _ _ _ (by kernel_rfl)];exact laidMet_of_run' 8 (by kernel_rfl) (by kernel_rfl)
def lifted (os:Os) (started:os.Started) (H:Type) (enc:TypeId×Value->H):
 ReturnsInHanded {} Tryz.checked os 3 .any (fun w args=>(Rows.refineFuelSpec.pre enc Tryz.prog Tryz.f3 [] false w args/\laidMetH Tryz.prog Rows.refineFuelRow.laid w)/\sizedMet enc Tryz.prog Tryz.f3 (OpenSpec.ofChange Rows.refineFuelSpec) false w args)
  (Rows.refineFuelSpec.post enc Tryz.prog Tryz.f3 false true false false):=by
 refine returnsInHanded_of_change_and (C:=Tryz.checked) (X:=fun w _=>laidMetH Tryz.prog Rows.refineFuelRow.laid w) (fun _ _ _ hh h=>h.of_heap hh) own started (by kernel_rfl) Tryz.func3
  (ChangeSpec.witness_shaped (enc:=enc) (C:=Tryz.checked) (os:=os) (X:=fun w _=>laidMetH Tryz.prog Rows.refineFuelRow.laid w) false (ams os) #[.slice none 0 0,.int .i64 0,.int .i64 0,.int .i64 0] 8 rfl (World.shaped_of_RefB (by kernel_rfl) (by kernel_rfl)) (by kernel_rfl) (by kernel_rfl) (by kernel_rfl) (aEv os _)) ?_
 intro W base args ds gs before amt hW _ _ hL _;have hval: ∀(j:Nat) t v,Tryz.f3.params[j]? =some t->args[j]? =some v->Value.okWide Tryz.prog W .any base t v:=amt;have hW':=hW;obtain ⟨p,q,hA0,hV,rfl,FH,vU⟩:=hW;have hA:DataW.TrodAll enc Tryz.prog W 0 (fun _=>true) true Tryz.f3.params.toList args.toList ds p:=hA0;rw [Tryz.params3] at hA hval;obtain ⟨v0,vs0,d0,ds0,p0,q0,qJ,rfl,rfl,h0,r0⟩:=trodAll_cons hA;obtain ⟨v1,vs1,d1,ds1,p1,q1,rfl,rfl,rfl,h1,r1⟩:=trodAll_cons r0;obtain ⟨v2,M9,d2,ds2,p2,q2,rfl,rfl,rfl,h2,r2⟩:=trodAll_cons r1;obtain ⟨v3,vs3,d3,ds3,p3,q3,rfl,rfl,rfl,h3,r3⟩:=trodAll_cons r2;obtain ⟨rfl,rfl,rfl⟩:=trodAll_nil r3;obtain rfl:args= #[v0,v1,v2,v3]:=by cases args;simp_all
 obtain ⟨rfl,rfl⟩:=trodVars_none hV;obtain ⟨a0,Y7,amu,rfl⟩:=okWide_slice Tryz.underlying22 (hval 0 22 v0 rfl rfl);have k0:=h0;have lt0: ∀x∈p0,x.block<W.heap.size:=by obtain ⟨m,hm⟩:=k0;exact DataW.trod_lt m _ _ _ hm
 obtain ⟨wl,w0⟩:Y7<=9223372036854775807/\(Y7<=120->TL W (.slice a0 Y7 amu) Y7):=by
  obtain ⟨fuel,hf⟩:=h0;rcases open_ints Tryz.underlying22 Tryz.underlying3 (by kernel_rfl) hf with ⟨hcs,_⟩|⟨x,l,c,zs,hcs,_,hl,hm,hz,_,hcell,Ca⟩
  ·simp [Value.cells] at hcs
   obtain ⟨rfl,rfl,rfl⟩:=hcs;exact ⟨by omega,fun _=>⟨by omega,_,_,rfl,fun j hj=>by omega⟩⟩
  ·simp [Value.cells] at hcs
   obtain ⟨rfl,rfl,rfl⟩:=hcs;have EY:zs.length=amu:=by simpa using hz
   refine ⟨by unfold maxLen at hm;omega,fun aFZ=>⟨by omega,_,_,rfl,fun j hj=>⟨_,zs.getD j 0,rfl,?_,hcell j (by omega)⟩⟩⟩;exact (bounds_i64 (Ca _ (Yl))).1
 obtain ⟨a1,rfl,rfl,rfl,w1⟩:=open_int Tryz.underlying3 (hval 1 3 v1 rfl rfl) h1;obtain ⟨a2,rfl,rfl,rfl,w2⟩:=open_int Tryz.underlying3 (hval 2 3 v2 rfl rfl) h2;obtain ⟨a3,rfl,rfl,rfl,w3⟩:=open_int Tryz.underlying3 (hval 3 3 v3 rfl rfl) h3;clear hA0 amt;have BW:=aEs hL;refine (aEn wl w0 (bounds_i64 w1).1 (bounds_i64 w2).1 (bounds_i64 w3).1 (aEt BW) (aEu BW) (aEq BW)).mono fun e W' ⟨he,Wq⟩=> ?_
 subst he;exact ⟨_,rfl,_,_,_,[],_,[],hW',trodAll_mk1 (shut_bool Tryz.underlying4 _),(trodAll_cons_mk (Below.trod alD (by kernel_rfl) (of_decide_eq_true (by kernel_rfl)) k0 Wq lt0) (trodAll_cons_mk (shut_int Tryz.underlying3 w1) (trodAll_cons_mk (shut_int Tryz.underlying3 w2) (trodAll_cons_mk (shut_int Tryz.underlying3 w3) trodAll_mk0)))),rfl,Wq.frame _,fun h=>by cases h⟩
end
end Go.Proofs.YtnmpjdgobafdkaaGreatDoor
