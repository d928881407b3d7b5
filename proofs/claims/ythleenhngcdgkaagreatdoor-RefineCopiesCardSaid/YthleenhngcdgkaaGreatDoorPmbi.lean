/- refineCopies_proved. -/
import Derived.Test.YthleenhngcdgkaaGreatDoorRows
import Derived.ProofKit
import Derived.LaidMore
import Derived.OpenShut
import Derived.MakeChecks
import Derived.Test.YthleenhngcdgkaaGreatDoorPmbg
import Derived.Test.YthleenhngcdgkaaGreatDoorPmbh
import Derived.Stop.Joined
set_option maxRecDepth 100000
set_option maxHeartbeats 16000000
set_option linter.all false
noncomputable section
namespace Go.Proofs.YthleenhngcdgkaaGreatDoor
section
open Go Go.RowKit Go.ChangeShapes Go.WideShapes Go.ChangeAt
def ank:Tryz.prog.globalNamed "math/bits.deBruijn32tab" =some 0:=by kernel_rfl
def tT:(Tryz.prog.globals[0]?).map (·.type)=some 296:=by kernel_rfl
def uT:Tryz.prog.underlying 296=some (.array 32 5):=by kernel_rfl
def uE:Tryz.prog.underlying 5=some (.int .u8):=by kernel_rfl
def cE:Tryz.prog.cellsOf 5=1:=by kernel_rfl
def cT:Tryz.prog.cellsOf 296=32:=by kernel_rfl
def ns:List Int:= [0,1,28,2,29,14,24,3,30,22,20,15,25,17,4,8,31,27,13,23,21,19,16,7,26,12,18,6,11,5,10,9]
def aeU:FF=ns.map (Value.int .u8):=rfl
def aFz:(Rows.laid_math_bits_deBruijn32tab:DataW Unit)= .agg (ns.map fun n=> .lit (.int .u8 n)):=rfl
def aFA {W:World} (h:laidMetH Tryz.prog Rows.refineCopiesRow.laid W): ∃rest e fz,W.heap[0]? =some (.cells ⟨FF++rest⟩ e fz):=by
 rw [MakeChecks.laidMetH_plain _ _ _ (by kernel_rfl)] at h;obtain ⟨ps,⟨g0,t0,cs0,f0,p0,q0,BX,ht0,GQ,yJ,_⟩,_,_⟩:=h;obtain rfl:=fk (ank.symm.trans BX);obtain rfl:=fk (tT.symm.trans ht0);obtain ⟨xs,m1,rfl,hx,hlen,hn,hel⟩:=DataW.trod_array uT yJ;rw [aFz] at hx;simp only [Prod.mk.injEq,DataW.agg.injEq] at hx;rw [cT] at hlen;have hcs:cs0.toList=FF:=by
  apply kh;intro i;by_cases hi:i<32
  ·have h0:=hel i hi
   have EI:i<xs.length:=by omega
   rw [aO EI,cE] at h0;obtain ⟨k,e1,e2,_⟩:=DataW.trod_int uE h0;have h1:(ns.map fun n=>(DataW.lit (.int .u8 n):DataW Unit))[i]? =some (xs[i]).1:=by rw [hx.1];simp [EI]
   rw [e2,dL] at h1;rw [aeU,dL];cases hq:ns[i]? with
   |none=>rw [hq] at h1;cases h1
   |some n=>
    rw [hq] at h1;simp at h1;subst h1;have h2:=congrArg (fun l=>l[0]?) e1;simp at h2
    simpa using h2
  ·rw [bS (by omega),bS (by rw [aeU];simp [ns];omega)]
 simp only [World.var?,ank,Option.bind_some] at GQ;split at GQ
 ·rename_i c e fz hb
  cases GQ;exact ⟨[],e,fz,by rw [hb,fO,<-hcs]⟩
 ·cases GQ
def own:ownKnob Tryz.prog.godebug=none:=by kernel_rfl
def firstCells:List Value:=match Pinned.utf8First with
 | .agg l=>l.map fun d=>match d with| .lit (.int k n)=> .int k n|_=>undef
 |_=> []
def aFB {W:World} (h: ∃rest e fz,W.heap[0]? =some (.cells ⟨FF++rest⟩ e fz)):om W:=fun g l hg=>by
 unfold vY at hg;split at hg
 ·cases hg;exact h
 ·cases hg
def aFC {W:World} (h: ∃rest e fz,W.heap[0]? =some (.cells ⟨FF++rest⟩ e fz)):bw W:=fun j hj=>by
 obtain ⟨rest,e,fz,hb⟩:=h;have hl:FF.length=32:=rfl;have h1:FF[j]? =some (.int .u8 (Lib.deBruijn32tab.getD j 0:Nat)):=by
  have qw:(List.range 32).all (fun j=>decide (ns[j]? =some ((Lib.deBruijn32tab.getD j 0:Nat):Int)))=true:=by decide
  rw [aeU,dL,of_decide_eq_true (dw.1 qw j (mO.2 hj))];rfl
 simp only [World.cell?,hb];simp [iC (show j<FF.length by omega),h1]
def anl (os:Os):World:=
 let w0:=World.doorLaid Tryz.prog 400 os
 {w0 with heap:=w0.heap.modify 2 fun
  | .cells _ t fz=> .cells ⟨firstCells⟩ t fz
  |o=>o}
def aFD (os:Os) (args:Array Value):laidMetH Tryz.prog Rows.refineCopiesRow.laid ((anl os).forCall (fun _ _=>0) ⟨#[],args,[]⟩).memory:=by
 rw [MakeChecks.laidMetH_plain _ _ _ (by kernel_rfl)];exact laidMet_of_run' 8 (by kernel_rfl) (by kernel_rfl)
def lifted (os:Os) (started:os.Started) (H:Type) (enc:TypeId×Value->H):
 ReturnsInHanded {} Tryz.checked os 3 .any (fun w args=>(Rows.refineCopiesSpec.pre enc Tryz.prog Tryz.f3 [] false w args/\laidMetH Tryz.prog Rows.refineCopiesRow.laid w)/\sizedMet enc Tryz.prog Tryz.f3 (OpenSpec.ofChange Rows.refineCopiesSpec) false w args)
  (Rows.refineCopiesSpec.post enc Tryz.prog Tryz.f3 false true false false):=by
 refine returnsInHanded_of_change_and (C:=Tryz.checked) (X:=fun w _=>laidMetH Tryz.prog Rows.refineCopiesRow.laid w) (fun _ _ _ hh h=>h.of_heap hh) own started (by kernel_rfl) Tryz.func3
  (ChangeSpec.witness_shaped (enc:=enc) (C:=Tryz.checked) (os:=os) (X:=fun w _=>laidMetH Tryz.prog Rows.refineCopiesRow.laid w) false (anl os) #[.slice none 0 0,.int .i64 0,.int .i64 0,.int .i64 0] 8 rfl (World.shaped_of_RefB (by kernel_rfl) (by kernel_rfl)) (by kernel_rfl) (by kernel_rfl) (by kernel_rfl) (aFD os _)) ?_
 intro W base args ds gs before anm hW _ _ hL _;have hval: ∀(j:Nat) t v,Tryz.f3.params[j]? =some t->args[j]? =some v->Value.okWide Tryz.prog W .any base t v:=anm;have hW':=hW;obtain ⟨p,q,hA0,hV,rfl,yV,wT⟩:=hW;have hA:DataW.TrodAll enc Tryz.prog W 0 (fun _=>true) true Tryz.f3.params.toList args.toList ds p:=hA0;rw [Tryz.params3] at hA hval;obtain ⟨v0,vs0,d0,ds0,p0,q0,qT,rfl,rfl,h0,r0⟩:=trodAll_cons hA;obtain ⟨v1,vs1,d1,ds1,p1,q1,rfl,rfl,rfl,h1,r1⟩:=trodAll_cons r0;obtain ⟨v2,Oi,d2,ds2,p2,q2,rfl,rfl,rfl,h2,r2⟩:=trodAll_cons r1;obtain ⟨v3,vs3,d3,ds3,p3,q3,rfl,rfl,rfl,h3,r3⟩:=trodAll_cons r2;obtain ⟨rfl,rfl,rfl⟩:=trodAll_nil r3;obtain rfl:args= #[v0,v1,v2,v3]:=by cases args;simp_all
 obtain ⟨rfl,rfl⟩:=trodVars_none hV;obtain ⟨a0,ZX,ann,rfl⟩:=okWide_slice Tryz.underlying22 (hval 0 22 v0 rfl rfl);have k0:=h0;have lt0: ∀x∈p0,x.block<W.heap.size:=by obtain ⟨m,hm⟩:=k0;exact DataW.trod_lt m _ _ _ hm
 obtain ⟨wl,w0⟩:ZX<=9223372036854775807/\(ZX<=120->P9 W (.slice a0 ZX ann) ZX):=by
  obtain ⟨fuel,hf⟩:=h0;rcases open_ints Tryz.underlying22 Tryz.underlying3 (by kernel_rfl) hf with ⟨hcs,_⟩|⟨x,l,c,zs,hcs,_,hl,hm,hz,_,hcell,CP⟩
  ·simp [Value.cells] at hcs
   obtain ⟨rfl,rfl,rfl⟩:=hcs;exact ⟨by omega,fun _=>⟨by omega,_,_,rfl,fun j hj=>by omega⟩⟩
  ·simp [Value.cells] at hcs
   obtain ⟨rfl,rfl,rfl⟩:=hcs;have tP:zs.length=ann:=by simpa using hz
   refine ⟨by unfold maxLen at hm;omega,fun aG9=>⟨by omega,_,_,rfl,fun j hj=>⟨_,zs.getD j 0,rfl,?_,hcell j (by omega)⟩⟩⟩;exact (bounds_i64 (CP _ (Ke))).1
 obtain ⟨a1,rfl,rfl,rfl,w1⟩:=open_int Tryz.underlying3 (hval 1 3 v1 rfl rfl) h1;obtain ⟨a2,rfl,rfl,rfl,w2⟩:=open_int Tryz.underlying3 (hval 2 3 v2 rfl rfl) h2;obtain ⟨a3,rfl,rfl,rfl,w3⟩:=open_int Tryz.underlying3 (hval 3 3 v3 rfl rfl) h3;clear hA0 anm;have CG:=aFA hL;refine (aFv wl w0 (bounds_i64 w1).1 (bounds_i64 w2).1 (bounds_i64 w3).1 (aFB CG) (aFC CG) (aFy CG)).mono fun e W' ⟨he,Xr⟩=> ?_
 subst he;exact ⟨_,rfl,_,_,_,[],_,[],hW',trodAll_mk1 (shut_bool Tryz.underlying4 _),(trodAll_cons_mk (Below.trod amB (by kernel_rfl) (of_decide_eq_true (by kernel_rfl)) k0 Xr lt0) (trodAll_cons_mk (shut_int Tryz.underlying3 w1) (trodAll_cons_mk (shut_int Tryz.underlying3 w2) (trodAll_cons_mk (shut_int Tryz.underlying3 w3) trodAll_mk0)))),rfl,Xr.frame _,fun h=>by cases h⟩
end
end Go.Proofs.YthleenhngcdgkaaGreatDoor
