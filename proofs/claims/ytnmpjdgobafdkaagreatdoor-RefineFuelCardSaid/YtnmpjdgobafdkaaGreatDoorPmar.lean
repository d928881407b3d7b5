/- refineFuel_proved. -/
import Derived.Test.YtnmpjdgobafdkaaGreatDoorPmaq
set_option maxRecDepth 100000
set_option maxHeartbeats 16000000
set_option linter.all false
noncomputable section
namespace Go.Proofs.YtnmpjdgobafdkaaGreatDoor
section
open Go.RowKit Go.Ev
def arA (x y:Int):jm (decide (x<0) !=decide (y<0)) (x.natAbs*y.natAbs)=x*y:=by
 conv=>rhs;rw [<-aet x,<-aet y]
 cases decide (x<0)<;>cases decide (y<0)<;>(generalize x.natAbs=a;generalize y.natAbs=b;simp [jm,eB,mL,Int.mul_neg])
def Bz.KW {i j:Nat} {x y:Int} (a:Bz i x) (b:Bz j y):Bz (i+j) (x*y):=by
 unfold Bz;rw [dP];exact Bn.KW a b
section
variable {i j:Nat} {x y:Int}
def KX (h:Bz i x) (k:Bz j y) (hi:i<=10000000:=by omega) (q:j<=10000000:=by omega): ∃z,Bz (i+j) z/\z=x*y/\bJ Tryz.prog bw 310 [dN x,dN y] (dN z):=by
 obtain ⟨m,p,l,g⟩:=ahu h.abs k.abs;refine ⟨x*y,h.KW k,rfl,?_⟩;obtain ⟨z,s,o,a⟩:=nu (b:=decide (x<0) !=decide (y<0)) p;have e:z=x*y:=by rw [o,l];exact arA x y
 rw [<-e];cases d:decide (x<0)<;>cases f:decide (y<0)<;>rw [d,f] at a
 ·exact jK [iS x,iS y,nS m,iS z] mix (F:= []) (T:= [⟨322,[sA 0,sA 1],sA 2⟩,⟨116,[.bool false,sA 2],iP 3⟩]) (pats:= [mW false 0,mW false 1]) (res:=iP 3) (by kernel_rfl)
   jI (cZ (db g (bL (eA rfl) (bL (eA rfl) cY)) (jR rfl)) rfl (cZ (db a (bL jH (bL (eA rfl) cY)) (kj rfl)) rfl jJ)) rfl (fD (nT d rfl) (fD (nT f rfl) jB)) (jL rfl)
 ·exact jK [iS x,iS y,nS m,iS z] mix (F:= []) (T:= [⟨322,[sA 0,sA 1],sA 2⟩,⟨116,[.bool true,sA 2],iP 3⟩]) (pats:= [mW false 0,mW true 1]) (res:=iP 3) (by kernel_rfl)
   jI (cZ (db g (bL (eA rfl) (bL (eA rfl) cY)) (jR rfl)) rfl (cZ (db a (bL jH (bL (eA rfl) cY)) (kj rfl)) rfl jJ)) rfl (fD (nT d rfl) (fD (nT f rfl) jB)) (jL rfl)
 ·exact jK [iS x,iS y,nS m,iS z] mix (F:= []) (T:= [⟨322,[sA 0,sA 1],sA 2⟩,⟨116,[.bool true,sA 2],iP 3⟩]) (pats:= [mW true 0,mW false 1]) (res:=iP 3) (by kernel_rfl)
   jI (cZ (db g (bL (eA rfl) (bL (eA rfl) cY)) (jR rfl)) rfl (cZ (db a (bL jH (bL (eA rfl) cY)) (kj rfl)) rfl jJ)) rfl (fD (nT d rfl) (fD (nT f rfl) jB)) (jL rfl)
 ·exact jK [iS x,iS y,nS m,iS z] mix (F:= []) (T:= [⟨322,[sA 0,sA 1],sA 2⟩,⟨116,[.bool false,sA 2],iP 3⟩]) (pats:= [mW true 0,mW true 1]) (res:=iP 3) (by kernel_rfl)
   jI (cZ (db g (bL (eA rfl) (bL (eA rfl) cY)) (jR rfl)) rfl (cZ (db a (bL jH (bL (eA rfl) cY)) (kj rfl)) rfl jJ)) rfl (fD (nT d rfl) (fD (nT f rfl) jB)) (jL rfl)
def RC (f:Bz i x) (g:Bz j y) (hi:i<=10000000:=by omega) (d:j<=10000000:=by omega): ∃z,Bz (max i j+1) z/\z=x-y/\bJ Tryz.prog bw 329 [dN x,dN y] (dN z):=by
 obtain ⟨n,e,k,b⟩:=Bg g;obtain ⟨z,h,l,a⟩:=xD f e hi d;refine ⟨z,h,by omega,?_⟩;exact jK [iS x,iS y,iS n,iS z] mix (F:= []) (T:= [⟨146,[iP 1],iP 2⟩,⟨83,[iP 0,iP 2],iP 3⟩]) (pats:= [iP 0,iP 1]) (res:=iP 3) (by kernel_rfl)
  jI (cZ (db b (bL (jL rfl) cY) (kj rfl)) rfl (cZ (db a (bL (jL rfl) (bL (jL rfl) cY)) (kj rfl)) rfl jJ)) rfl (fD (kj rfl) (fD (kj rfl) jB)) (jL rfl)
def ahw {n m:Nat} (a:Bn i n) (o:Bn j m) (hi:i<=20000000) (k:j<=20000000) (l:m<=n): ∃d,Bn i d/\d=n-m/\bJ Tryz.prog bw 135 [fw n,fw m] (o9 (fw d) (bj (.bool true))):=
 ⟨_,bh (nr _ _) a,rfl,vh fun w x y h e _=>by
  refine (Zu h e (a.sm hi) (o.sm k)).mono ?_;rintro t z b;rcases b with ⟨s,_,_⟩|⟨_,u,rfl,g,f⟩
  ·omega
  ·exact ⟨_,rfl,fun q p=>⟨_,_,rfl,Ie g q p,rfl⟩,f⟩⟩
def Gh (d:Bool) (a b:Nat):Nat:=if d=true/\a % b≠0 then a/b+1 else a/b
def Wi (d:Bool) (a b:Nat):Nat:=if d=true/\a % b≠0 then b-a % b else a % b
def Ns (W:Bz i x) (P:Bz j y) (hi:i<=10000000:=by omega) (hj:j<=10000000:=by omega) (Y:y≠0:=by omega): ∃z u,Bz (i+1) z/\Bz j u/\z=jm (decide (x<0) !=decide (y<0)) (Gh (decide (x<0) !=decide (y<0)) x.natAbs y.natAbs)/\u=jm (decide (y<0)) (Wi (decide (x<0) !=decide (y<0)) x.natAbs y.natAbs)/\
 bJ Tryz.prog bw 145 [dN x,dN y] (Ef (dN z) (dN u) (bj (.bool true))):=by
 have Q:0<y.natAbs:=by omega
 obtain ⟨q,r,a,D,X,eq,s,o⟩:=ahv W.abs P.abs (by omega) (by omega) Q;obtain ⟨e,Z,C,I⟩:=KJ (n:=1);obtain ⟨p,g,E,J⟩:=Q7 a (show Bn 1 e by rw [C];unfold Bn;decide);have G:r<y.natAbs:=by rw [s];exact dj _ Q
 obtain ⟨t,O,N,M⟩:=ahw P.abs D (by omega) (by omega) (aQ G);have H:Bn (i+1) p:=by
  rw [E,C];have S:q+1<=2^i:=a;have U:2^i<2^(i+1):=g5 (by decide) (by omega);exact bh S U
 by_cases pY:r=0
 ·have R: ¬x.natAbs % y.natAbs≠0:=by omega
  obtain ⟨z,m,k,f⟩:=nu (b:=decide (x<0) !=decide (y<0)) a;obtain ⟨u,l,h,d⟩:=nu (b:=decide (y<0)) D;refine ⟨z,u,m.mono (by omega),l,by rw [k,eq];unfold Gh;simp_all,by rw [h,s];unfold Wi;simp_all,?_⟩;have A:decide (0<(mB r:Int))=false:=by rw [Ig];simp_all
  cases g:decide (x<0)<;>cases a:decide (y<0)<;>rw [g,a] at f<;>rw [a] at d
  ·exact jK [iS x,iS y,nS q,nS r,iS z,iS u] mix (F:= []) (T:= [⟨184,[sA 0,sA 1],.fh [sA 2,sA 3,.bool true]⟩,⟨116,[.bool false,sA 2],iP 4⟩,⟨116,[.bool false,sA 3],iP 5⟩]) (pats:= [mW false 0,mW false 1]) (res:= .fh [iP 4,iP 5,.bool true]) (by kernel_rfl)
    jI (cZ (db o (bL (eA rfl) (bL (eA rfl) cY)) (Bc (jR rfl) (jR rfl) oO)) rfl (cZ (db f (bL jH (bL (eA rfl) cY)) (kj rfl)) rfl (cZ (db d (bL jH (bL (eA rfl) cY)) (kj rfl)) rfl jJ))) rfl (fD (nT g rfl) (fD (nT a rfl) jB)) (Eg (jL rfl) (jL rfl) jH)
  ·exact jK [iS x,iS y,nS q,nS r,iS z,iS u] mix (F:= [⟨.bin .gtr,s2 3,.int .i64 0,.bool false⟩]) (T:= [⟨184,[sA 0,sA 1],.fh [sA 2,sA 3,.bool true]⟩,⟨116,[.bool true,sA 2],iP 4⟩,⟨116,[.bool true,sA 3],iP 5⟩]) (pats:= [mW false 0,mW true 1]) (res:= .fh [iP 4,iP 5,.bool true]) (by kernel_rfl)
    (eS (F5 (Bf rfl) (fun _=>rfl) A) jI) (cZ (db o (bL (eA rfl) (bL (eA rfl) cY)) (Bc (jR rfl) (jR rfl) oO)) rfl (cZ (db f (bL jH (bL (eA rfl) cY)) (kj rfl)) rfl (cZ (db d (bL jH (bL (eA rfl) cY)) (kj rfl)) rfl jJ))) rfl (fD (nT g rfl) (fD (nT a rfl) jB)) (Eg (jL rfl) (jL rfl) jH)
  ·exact jK [iS x,iS y,nS q,nS r,iS z,iS u] mix (F:= [⟨.bin .gtr,s2 3,.int .i64 0,.bool false⟩]) (T:= [⟨184,[sA 0,sA 1],.fh [sA 2,sA 3,.bool true]⟩,⟨116,[.bool true,sA 2],iP 4⟩,⟨116,[.bool false,sA 3],iP 5⟩]) (pats:= [mW true 0,mW false 1]) (res:= .fh [iP 4,iP 5,.bool true]) (by kernel_rfl)
    (eS (F5 (Bf rfl) (fun _=>rfl) A) jI) (cZ (db o (bL (eA rfl) (bL (eA rfl) cY)) (Bc (jR rfl) (jR rfl) oO)) rfl (cZ (db f (bL jH (bL (eA rfl) cY)) (kj rfl)) rfl (cZ (db d (bL jH (bL (eA rfl) cY)) (kj rfl)) rfl jJ))) rfl (fD (nT g rfl) (fD (nT a rfl) jB)) (Eg (jL rfl) (jL rfl) jH)
  ·exact jK [iS x,iS y,nS q,nS r,iS z,iS u] mix (F:= []) (T:= [⟨184,[sA 0,sA 1],.fh [sA 2,sA 3,.bool true]⟩,⟨116,[.bool false,sA 2],iP 4⟩,⟨116,[.bool true,sA 3],iP 5⟩]) (pats:= [mW true 0,mW true 1]) (res:= .fh [iP 4,iP 5,.bool true]) (by kernel_rfl)
    jI (cZ (db o (bL (eA rfl) (bL (eA rfl) cY)) (Bc (jR rfl) (jR rfl) oO)) rfl (cZ (db f (bL jH (bL (eA rfl) cY)) (kj rfl)) rfl (cZ (db d (bL jH (bL (eA rfl) cY)) (kj rfl)) rfl jJ))) rfl (fD (nT g rfl) (fD (nT a rfl) jB)) (Eg (jL rfl) (jL rfl) jH)
 ·have R:x.natAbs % y.natAbs≠0:=by omega
  have A:decide (0<(mB r:Int))=true:=by rw [Ig];simp_all
  cases g:decide (x<0)<;>cases B:decide (y<0)
  ·obtain ⟨z,m,k,f⟩:=nu (b:=false) a
   obtain ⟨u,l,h,d⟩:=nu (b:=false) D;refine ⟨z,u,m.mono (by omega),l,by rw [k,eq];rfl,by rw [h,s];rfl,?_⟩;have a:=B;exact jK [iS x,iS y,nS q,nS r,iS z,iS u] mix (F:= []) (T:= [⟨184,[sA 0,sA 1],.fh [sA 2,sA 3,.bool true]⟩,⟨116,[.bool false,sA 2],iP 4⟩,⟨116,[.bool false,sA 3],iP 5⟩]) (pats:= [mW false 0,mW false 1]) (res:= .fh [iP 4,iP 5,.bool true]) (by kernel_rfl)
    jI (cZ (db o (bL (eA rfl) (bL (eA rfl) cY)) (Bc (jR rfl) (jR rfl) oO)) rfl (cZ (db f (bL jH (bL (eA rfl) cY)) (kj rfl)) rfl (cZ (db d (bL jH (bL (eA rfl) cY)) (kj rfl)) rfl jJ))) rfl (fD (nT g rfl) (fD (nT a rfl) jB)) (Eg (jL rfl) (jL rfl) jH)
  ·obtain ⟨z,m,k,f⟩:=nu (b:=true) H
   obtain ⟨u,l,h,d⟩:=nu (b:=true) O;refine ⟨z,u,m,l,by rw [k,E,C,eq];unfold Gh;simp_all,by rw [h,N,s];unfold Wi;simp_all,?_⟩;have a:=B;exact jK [iS x,iS y,nS q,nS r,nS e,nS p,nS t,iS z,iS u] mix (F:= [⟨.bin .gtr,s2 3,.int .i64 0,.bool true⟩]) (T:= [⟨184,[sA 0,sA 1],.fh [sA 2,sA 3,.bool true]⟩,⟨60,[.int .u64 1],sA 4⟩,⟨134,[sA 2,sA 4],sA 5⟩,⟨135,[sA 1,sA 3],.fh [sA 6,.bool true]⟩,⟨116,[.bool true,sA 5],iP 7⟩,⟨116,[.bool true,sA 6],iP 8⟩]) (pats:= [mW false 0,mW true 1]) (res:= .fh [iP 7,iP 8,.bool true]) (by kernel_rfl)
    (eS (F5 (Bf rfl) (fun _=>rfl) A) jI) (cZ (db o (bL (eA rfl) (bL (eA rfl) cY)) (Bc (jR rfl) (jR rfl) oO)) rfl (cZ (db I (bL yv cY) (jR rfl)) rfl (cZ (db J (bL (eA rfl) (bL (eA rfl) cY)) (jR rfl)) rfl (cZ (db M (bL (eA rfl) (bL (eA rfl) cY)) (QY (jR rfl) oO)) rfl (cZ (db f (bL jH (bL (eA rfl) cY)) (kj rfl)) rfl (cZ (db d (bL jH (bL (eA rfl) cY)) (kj rfl)) rfl jJ)))))) rfl (fD (nT g rfl) (fD (nT a rfl) jB)) (Eg (jL rfl) (jL rfl) jH)
  ·obtain ⟨z,m,k,f⟩:=nu (b:=true) H
   obtain ⟨u,l,h,d⟩:=nu (b:=false) O;refine ⟨z,u,m,l,by rw [k,E,C,eq];unfold Gh;simp_all,by rw [h,N,s];unfold Wi;simp_all,?_⟩;have a:=B;exact jK [iS x,iS y,nS q,nS r,nS e,nS p,nS t,iS z,iS u] mix (F:= [⟨.bin .gtr,s2 3,.int .i64 0,.bool true⟩]) (T:= [⟨184,[sA 0,sA 1],.fh [sA 2,sA 3,.bool true]⟩,⟨60,[.int .u64 1],sA 4⟩,⟨134,[sA 2,sA 4],sA 5⟩,⟨135,[sA 1,sA 3],.fh [sA 6,.bool true]⟩,⟨116,[.bool true,sA 5],iP 7⟩,⟨116,[.bool false,sA 6],iP 8⟩]) (pats:= [mW true 0,mW false 1]) (res:= .fh [iP 7,iP 8,.bool true]) (by kernel_rfl)
    (eS (F5 (Bf rfl) (fun _=>rfl) A) jI) (cZ (db o (bL (eA rfl) (bL (eA rfl) cY)) (Bc (jR rfl) (jR rfl) oO)) rfl (cZ (db I (bL yv cY) (jR rfl)) rfl (cZ (db J (bL (eA rfl) (bL (eA rfl) cY)) (jR rfl)) rfl (cZ (db M (bL (eA rfl) (bL (eA rfl) cY)) (QY (jR rfl) oO)) rfl (cZ (db f (bL jH (bL (eA rfl) cY)) (kj rfl)) rfl (cZ (db d (bL jH (bL (eA rfl) cY)) (kj rfl)) rfl jJ)))))) rfl (fD (nT g rfl) (fD (nT a rfl) jB)) (Eg (jL rfl) (jL rfl) jH)
  ·obtain ⟨z,m,k,f⟩:=nu (b:=false) a
   obtain ⟨u,l,h,d⟩:=nu (b:=true) D;refine ⟨z,u,m.mono (by omega),l,by rw [k,eq];rfl,by rw [h,s];rfl,?_⟩;have a:=B;exact jK [iS x,iS y,nS q,nS r,iS z,iS u] mix (F:= []) (T:= [⟨184,[sA 0,sA 1],.fh [sA 2,sA 3,.bool true]⟩,⟨116,[.bool false,sA 2],iP 4⟩,⟨116,[.bool true,sA 3],iP 5⟩]) (pats:= [mW true 0,mW true 1]) (res:= .fh [iP 4,iP 5,.bool true]) (by kernel_rfl)
    jI (cZ (db o (bL (eA rfl) (bL (eA rfl) cY)) (Bc (jR rfl) (jR rfl) oO)) rfl (cZ (db f (bL jH (bL (eA rfl) cY)) (kj rfl)) rfl (cZ (db d (bL jH (bL (eA rfl) cY)) (kj rfl)) rfl jJ))) rfl (fD (nT g rfl) (fD (nT a rfl) jB)) (Eg (jL rfl) (jL rfl) jH)
end
end
section
open Go.RowKit Go.Ev
def sI (p:Int) (q:Nat):World->Value->Prop:=fun w v=> ∃u d,v= .agg #[.bool (decide (p<0)),u,d]/\dL w u p.natAbs/\dL w d q
def rP (i j:Nat):aj:= .agg [s0 i,sA i,sA j]
section
variable {L:List Slot} {A:World->Prop} {i j:Nat}
def ahx {p:Int} {q:Nat} {a b:u9} (h:kH L i=iS p) (h':kH L j=F6 q a b): @ft ⟨cL L⟩ (fv A L) (rP i j) (sI p q):=
 letI:aJ:=⟨cL L⟩
 (agY (tc (x:= .bool (decide (p<0))) (by rw [h];rfl)) (eA h) (eA h')).to fun w v ⟨c,u,d,e,hc,g,f⟩=>⟨u,d,by rw [e,show c=_ from hc],g,f⟩
end
def abC (p:Int) (q:Nat):Int:=jm (decide (p<0)) (p.natAbs/Nat.gcd p.natAbs q)
def ahy (p:Int) (q:Nat):Nat:=q/Nat.gcd p.natAbs q
def arC {p:Int} {q:Nat} (h:0<q):0<ahy p q:=Nat.div_pos (Nat.gcd_le_right _ h) (iK _ h)
section
variable {i j k l:Nat} {p r:Int} {q s:Nat}
def arD (x:Bz i p) (y:Bn j q) (hi:i<=10000000) (C:j<=10000000) (h:0<q): ∃z d,Bz i z/\Bn j d/\0<d/\z=abC p q/\d=ahy p q/\bJ Tryz.prog bw 115 [dN p,fw q] (sI z d):=by
 obtain ⟨a,b,t,u,m,eb,g⟩:=arw x.abs y (by omega) (by omega) h;obtain ⟨z,B,o,e⟩:=nu (b:=decide (p<0)) t;refine ⟨z,b,B,u,by rw [eb];exact arC h,by rw [o,m];rfl,eb,?_⟩;cases f:decide (p<0)<;>rw [f] at e
 ·exact jK [iS p,nS q,nS a,nS b,iS z] mix (F:= []) (T:= [⟨167,[sA 0,sA 1],.fh [sA 2,sA 3,.bool true]⟩,⟨116,[.bool false,sA 2],iP 4⟩]) (pats:= [mW false 0,sA 1]) (res:=rP 4 3) (by kernel_rfl)
   jI (cZ (db g (bL (eA rfl) (bL (eA rfl) cY)) (Bc (jR rfl) (jR rfl) oO)) rfl (cZ (db e (bL jH (bL (eA rfl) cY)) (kj rfl)) rfl jJ)) rfl (fD (nT f rfl) (fD (jR rfl) jB)) (ahx rfl rfl)
 ·exact jK [iS p,nS q,nS a,nS b,iS z] mix (F:= []) (T:= [⟨167,[sA 0,sA 1],.fh [sA 2,sA 3,.bool true]⟩,⟨116,[.bool true,sA 2],iP 4⟩]) (pats:= [mW true 0,sA 1]) (res:=rP 4 3) (by kernel_rfl)
   jI (cZ (db g (bL (eA rfl) (bL (eA rfl) cY)) (Bc (jR rfl) (jR rfl) oO)) rfl (cZ (db e (bL jH (bL (eA rfl) cY)) (kj rfl)) rfl jJ)) rfl (fD (nT f rfl) (fD (jR rfl) jB)) (ahx rfl rfl)
end
end
section
open Go.RowKit Go.Ev
section
variable {i j k l n:Nat} {p r:Int} {q s:Nat}
def ahz (d:Bn k n) (b:k<=20000000:=by omega):bJ Tryz.prog bw 107 [fw n] (fw n):=
 Ei fun w x h _=>by
  obtain ⟨l,a,e,rfl,f⟩:=abl h (d.sm b);exact (wU a (by omega)).mono fun _ _ h=>CD h
end
end
section
open Go.RowKit Go.Ev
def iR (m e:Int):World->Value->Prop:=fun w x=> ∃v,x= .agg #[.bool (decide (m<0)),v,.int .i64 e]/\dL w v m.natAbs
def dQ (i j:Nat):aj:= .agg [s0 i,sA i,s0 j]
def dZ:aj:= .agg [.bool false,.jP,.int .i64 0]
section
variable {L:List Slot} {A:World->Prop} {i j:Nat} {m e:Int}
def pL (h:kH L i=iS m) (h':(kH L j).v0.v= .int .i64 e): @fm ⟨cL L⟩ (fv A L) (iR m e) (dQ i j):=
 letI:aJ:=⟨cL L⟩
 (aqm (iB (x:= .bool (decide (m<0))) (by rw [h];rfl)) (jR h) (iB h')).of fun w v ⟨u,q,a⟩=>⟨_,u,_,q,rfl,a,rfl⟩
def nA (h:kH L i=iS m) (h':(kH L j).v0.v= .int .i64 e): @ft ⟨cL L⟩ (fv A L) (dQ i j) (iR m e):=
 letI:aJ:=⟨cL L⟩
 (agY (tc (x:= .bool (decide (m<0))) (by rw [h];rfl)) (eA h) (tc h')).to fun w v ⟨b,u,g,q,a,f,d⟩=>⟨u,by rw [q,show b=_ from a,show g=_ from d],f⟩
def Wl: @ft ⟨cL L⟩ (fv A L) dZ (iR 0 0):=by
 rintro w v ⟨g,rfl,a,_,rfl,d,b,_,rfl,f,c,_,rfl,hc,rfl⟩;rw [show a= .bool false from d,show b= .slice none 0 0 from f,show c= .int .i64 0 from hc];exact ⟨_,rfl,(JW w 0).r⟩
end
def En (m e:Int):Bool:=if m=0 then decide (e=0) else decide (eN m.natAbs<=65536)&&decide (-65536<=e)&&decide (e<=65536)&&decide (m.natAbs % 2=1)
section
variable {i k:Nat} {m e:Int}
def arE:bJ Tryz.prog bw 172 [dN m] (bj (.bool true)):=Ei fun a b h _=>(anq h).mono fun _ _ h=>abj h
def arF {n:Nat} (d:Bn k n) (b:k<=20000000:=by omega):bJ Tryz.prog bw 173 [fw n,bj (.int .i64 0)] (bj (.bool (decide (n % 2=1)))):=
 vh fun w x y h a _=>by
  obtain rfl:y=_:=a;exact (anf h (d.sm b)).mono fun _ _ h=>abk h
def arG {n:Nat} (d:Bn k n) (b:k<=20000000:=by omega):bJ Tryz.prog bw 132 [fw n] (bj (.int .i64 (qA n:Nat))):=
 Ei fun f g h a=>(ane h (d.sm b) a).mono fun _ _ h=>abk h
def ahA (t:Bz k m) (y:k<=10000000:=by omega):bJ Tryz.prog bw 124 [iR m e] (bj (.bool (En m e))):=by
 have d:=arE (m:=m);obtain ⟨b,x,eb,f⟩:=F7 t.abs;have o:=arF t.abs;unfold En;by_cases p:m=0
 ·have a:decide ((mB m.natAbs:Int)=0)=true:=by rw [Q5,p];rfl
  rw [if_pos p];cases s:decide (e=0)
  ·exact jK [iS m,dE (dB .i64 e)] mix (F:= [⟨.bin .eql,s2 0,.int .i64 0,.bool true⟩,⟨.bin .eql,s0 1,.int .i64 0,.bool false⟩]) (T:= [⟨172,[iP 0],.bool true⟩]) (pats:= [dQ 0 1]) (res:= .bool false) (by kernel_rfl)
    (eS (tN (Bf rfl) (fun _=>rfl) a) (eS (tN (dm rfl) (fun _=>rfl) s) jI)) (cZ (db d (bL (jL rfl) cY) oO) rfl jJ) rfl (fD (pL rfl rfl) jB) jH
  ·exact jK [iS m,dE (dB .i64 e)] mix (F:= [⟨.bin .eql,s2 0,.int .i64 0,.bool true⟩,⟨.bin .eql,s0 1,.int .i64 0,.bool true⟩]) (T:= [⟨172,[iP 0],.bool true⟩]) (pats:= [dQ 0 1]) (res:= .bool true) (by kernel_rfl)
    (eS (tN (Bf rfl) (fun _=>rfl) a) (eS (tN (dm rfl) (fun _=>rfl) s) jI)) (cZ (db d (bL (jL rfl) cY) oO) rfl jJ) rfl (fD (pL rfl rfl) jB) jH
 ·have a:decide ((mB m.natAbs:Int)=0)=false:=by rw [Q5];simp_all
  have l:decide ((b:Int)<=65536)=decide (eN m.natAbs<=65536):=by grind
  rw [if_neg p,<-l];cases g:decide ((b:Int)<=65536)
  ·exact jK [iS m,dE (dB .i64 e),dE (dB .i64 (b:Nat))] mix (F:= [⟨.bin .eql,s2 0,.int .i64 0,.bool false⟩,⟨.bin .leq,s0 2,.int .i64 65536,.bool false⟩]) (T:= [⟨172,[iP 0],.bool true⟩,⟨127,[sA 0],s0 2⟩]) (pats:= [dQ 0 1]) (res:= .bool false) (by kernel_rfl)
    (eS (tN (Bf rfl) (fun _=>rfl) a) (eS (Eh (dm rfl) (fun _=>rfl) g) jI)) (cZ (db d (bL (jL rfl) cY) oO) rfl (cZ (db f (bL (eA rfl) cY) (iB rfl)) rfl jJ)) rfl (fD (pL rfl rfl) jB) jH
  ·cases h:decide (-65536<=e)
   ·exact jK [iS m,dE (dB .i64 e),dE (dB .i64 (b:Nat))] mix (F:= [⟨.bin .eql,s2 0,.int .i64 0,.bool false⟩,⟨.bin .leq,s0 2,.int .i64 65536,.bool true⟩,⟨.bin .geq,s0 1,.int .i64 (-65536),.bool false⟩]) (T:= [⟨172,[iP 0],.bool true⟩,⟨127,[sA 0],s0 2⟩]) (pats:= [dQ 0 1]) (res:= .bool false) (by kernel_rfl)
     (eS (tN (Bf rfl) (fun _=>rfl) a) (eS (Eh (dm rfl) (fun _=>rfl) g) (eS (Q4 (dm rfl) (fun _=>rfl) h) jI))) (cZ (db d (bL (jL rfl) cY) oO) rfl (cZ (db f (bL (eA rfl) cY) (iB rfl)) rfl jJ)) rfl (fD (pL rfl rfl) jB) jH
   ·cases q:decide (e<=65536)
    ·exact jK [iS m,dE (dB .i64 e),dE (dB .i64 (b:Nat))] mix (F:= [⟨.bin .eql,s2 0,.int .i64 0,.bool false⟩,⟨.bin .leq,s0 2,.int .i64 65536,.bool true⟩,⟨.bin .geq,s0 1,.int .i64 (-65536),.bool true⟩,⟨.bin .leq,s0 1,.int .i64 65536,.bool false⟩]) (T:= [⟨172,[iP 0],.bool true⟩,⟨127,[sA 0],s0 2⟩]) (pats:= [dQ 0 1]) (res:= .bool false) (by kernel_rfl)
      (eS (tN (Bf rfl) (fun _=>rfl) a) (eS (Eh (dm rfl) (fun _=>rfl) g) (eS (Q4 (dm rfl) (fun _=>rfl) h) (eS (Eh (dm rfl) (fun _=>rfl) q) jI)))) (cZ (db d (bL (jL rfl) cY) oO) rfl (cZ (db f (bL (eA rfl) cY) (iB rfl)) rfl jJ)) rfl (fD (pL rfl rfl) jB) jH
    ·cases u:decide (m.natAbs % 2=1)<;>rw [u] at o
     ·exact jK [iS m,dE (dB .i64 e),dE (dB .i64 (b:Nat))] mix (F:= [⟨.bin .eql,s2 0,.int .i64 0,.bool false⟩,⟨.bin .leq,s0 2,.int .i64 65536,.bool true⟩,⟨.bin .geq,s0 1,.int .i64 (-65536),.bool true⟩,⟨.bin .leq,s0 1,.int .i64 65536,.bool true⟩]) (T:= [⟨172,[iP 0],.bool true⟩,⟨127,[sA 0],s0 2⟩,⟨173,[sA 0,.int .i64 0],.bool false⟩]) (pats:= [dQ 0 1]) (res:= .bool false) (by kernel_rfl)
       (eS (tN (Bf rfl) (fun _=>rfl) a) (eS (Eh (dm rfl) (fun _=>rfl) g) (eS (Q4 (dm rfl) (fun _=>rfl) h) (eS (Eh (dm rfl) (fun _=>rfl) q) jI)))) (cZ (db d (bL (jL rfl) cY) oO) rfl (cZ (db f (bL (eA rfl) cY) (iB rfl)) rfl (cZ (db o (bL (eA rfl) (bL yv cY)) oO) rfl jJ))) rfl (fD (pL rfl rfl) jB) jH
     ·exact jK [iS m,dE (dB .i64 e),dE (dB .i64 (b:Nat))] mix (F:= [⟨.bin .eql,s2 0,.int .i64 0,.bool false⟩,⟨.bin .leq,s0 2,.int .i64 65536,.bool true⟩,⟨.bin .geq,s0 1,.int .i64 (-65536),.bool true⟩,⟨.bin .leq,s0 1,.int .i64 65536,.bool true⟩]) (T:= [⟨172,[iP 0],.bool true⟩,⟨127,[sA 0],s0 2⟩,⟨173,[sA 0,.int .i64 0],.bool true⟩]) (pats:= [dQ 0 1]) (res:= .bool true) (by kernel_rfl)
       (eS (tN (Bf rfl) (fun _=>rfl) a) (eS (Eh (dm rfl) (fun _=>rfl) g) (eS (Q4 (dm rfl) (fun _=>rfl) h) (eS (Eh (dm rfl) (fun _=>rfl) q) jI)))) (cZ (db d (bL (jL rfl) cY) oO) rfl (cZ (db f (bL (eA rfl) cY) (iB rfl)) rfl (cZ (db o (bL (eA rfl) (bL yv cY)) oO) rfl jJ))) rfl (fD (pL rfl rfl) jB) jH
end
end
section
open Go.RowKit Go.Ev
def ahB {n k:Nat} (d:n≠0) (h:n<2^k):qA n<k/\n/2^qA n≠0:=by
 obtain ⟨t,u,e⟩:=amU n d;have b:=Zk e;have l:0<2^t:=aO (by decide);have g:2^t<=n:=by grind
 refine ⟨by rw [b];exact (dC (a:=2) (by decide)).1 (bh g h),?_⟩;simp_all
def CO (m e:Int):Int×Int×Int:=
 if e< -131072\/131072<e then (0,0,1) else if m=0 then (0,0,0) else
  if En (jm (decide (m<0)) (m.natAbs/2^qA m.natAbs)) (e+(qA m.natAbs:Nat))=true then (jm (decide (m<0)) (m.natAbs/2^qA m.natAbs),e+(qA m.natAbs:Nat),0) else (0,0,3)
def DB (k:Nat) (t:Int×Int×Int):Prop:=Bz k t.1/\ -65536<=t.2.1/\t.2.1<=65536/\(t.2.2=0\/t.1=0/\t.2.1=0)/\0<=t.2.2/\t.2.2<=3
def DB.none {k:Nat} {c:Int} (a:0<=c) (b:c<=3):DB k (0,0,c):=⟨aO (by decide),by simp_all,by simp_all,.inr ⟨rfl,rfl⟩,a,b⟩
def abD {m e:Int} (h:En m e=true): -65536<=e/\e<=65536:=by
 unfold En at h;grind
section
variable {i j k:Nat} {m e n f:Int}
def arH (l:Bz k m) (Q:k<=1000000): ∃t,DB k t/\t=CO m e/\bJ Tryz.prog bw 80 [dN m,bj (.int .i64 e)] (o9 (iR t.1 t.2.1) (bj (.int .i64 t.2.2))):=by
 refine ⟨CO m e,?_⟩;unfold CO;by_cases q:e< -131072
 ·rw [if_pos (.inl q)]
  refine ⟨DB.none (by decide) (by decide),rfl,?_⟩;have c1:decide (e< -131072)=true:=decide_eq_true q;exact jK [iS m,dE (dB .i64 e)] mix (F:= [⟨.bin .lss,s0 1,.int .i64 (-131072),.bool true⟩]) (T:= []) (pats:= [iP 0,s0 1]) (res:= .fh [dZ,.int .i64 1]) (by kernel_rfl)
   (eS (Bd (dm rfl) (fun _=>rfl) c1) jI) jJ rfl (fD (kj rfl) (fD (iB rfl) jB)) (Ee Wl yv)
 ·have c1:decide (e< -131072)=false:=decide_eq_false q
  by_cases u:131072<e
  ·rw [if_pos (.inr u)]
   refine ⟨DB.none (by decide) (by decide),rfl,?_⟩;have d:decide (131072<e)=true:=decide_eq_true u;exact jK [iS m,dE (dB .i64 e)] mix (F:= [⟨.bin .lss,s0 1,.int .i64 (-131072),.bool false⟩,⟨.bin .gtr,s0 1,.int .i64 131072,.bool true⟩]) (T:= []) (pats:= [iP 0,s0 1]) (res:= .fh [dZ,.int .i64 1]) (by kernel_rfl)
    (eS (Bd (dm rfl) (fun _=>rfl) c1) (eS (F5 (dm rfl) (fun _=>rfl) d) jI)) jJ rfl (fD (kj rfl) (fD (iB rfl) jB)) (Ee Wl yv)
  ·have d:decide (131072<e)=false:=decide_eq_false u
   rw [if_neg (by omega)];obtain ⟨s,P,o⟩:=abo l;by_cases E:m=0
   ·rw [if_pos E]
    refine ⟨DB.none (by decide) (by decide),rfl,?_⟩;have g:decide (s=0)=true:=decide_eq_true (by simp_all);exact jK [iS m,dE (dB .i64 e),dE (dB .i64 s)] mix (F:= [⟨.bin .lss,s0 1,.int .i64 (-131072),.bool false⟩,⟨.bin .gtr,s0 1,.int .i64 131072,.bool false⟩,⟨.bin .eql,s0 2,.int .i64 0,.bool true⟩]) (T:= [⟨126,[iP 0],s0 2⟩]) (pats:= [iP 0,s0 1]) (res:= .fh [dZ,.int .i64 0]) (by kernel_rfl)
     (eS (Bd (dm rfl) (fun _=>rfl) c1) (eS (F5 (dm rfl) (fun _=>rfl) d) (eS (tN (dm rfl) (fun _=>rfl) g) jI))) (cZ (db o (bL (jL rfl) cY) (iB rfl)) rfl jJ) rfl (fD (kj rfl) (fD (iB rfl) jB)) (Ee Wl yv)
   ·rw [if_neg E]
    have g:decide (s=0)=false:=decide_eq_false (by simp_all);obtain ⟨O,y⟩:=ahB (n:=m.natAbs) (by omega) l;have p:=arG l.abs;obtain ⟨t,A⟩:=pQ (qA m.natAbs);rw [A] at O y p⊢;obtain ⟨a,N,J,C⟩:=ag2 (s:=t) (z:=(t:Int)) l.abs rfl;obtain ⟨z,I,M,D⟩:=nu (b:=decide (m<0)) N;have h:=ahA (e:=e+(t:Int)) I;rw [<-J,<-M];obtain ⟨x,H⟩:=pQ (e+(t:Int));have G:IntKind.i64.wrap (e+(t:Int))=x:=by rw [<-H];exact aC _ (by omega)
    rw [H] at h⊢;cases B:En z x<;>rw [B] at h
    ·rw [if_neg (by decide)]
     refine ⟨DB.none (by decide) (by decide),rfl,?_⟩;exact jK [iS m,dE (dB .i64 e),dE (dB .i64 s),dE (dB .i64 (t:Nat)),nS a,iS z,dE (dB .i64 x)] mix (F:= [⟨.bin .lss,s0 1,.int .i64 (-131072),.bool false⟩,⟨.bin .gtr,s0 1,.int .i64 131072,.bool false⟩,⟨.bin .eql,s0 2,.int .i64 0,.bool false⟩,⟨.bin .add,s0 1,s0 3,s0 6⟩]) (T:= [⟨126,[iP 0],s0 2⟩,⟨132,[sA 0],s0 3⟩,⟨133,[sA 0,s0 3],sA 4⟩,⟨116,[s0 0,sA 4],iP 5⟩,⟨124,[dQ 5 6],.bool false⟩]) (pats:= [iP 0,s0 1]) (res:= .fh [dZ,.int .i64 3]) (by kernel_rfl)
      (eS (Bd (dm rfl) (fun _=>rfl) c1) (eS (F5 (dm rfl) (fun _=>rfl) d) (eS (tN (dm rfl) (fun _=>rfl) g) (eS (Na rfl (dm rfl) (dm rfl) (dm rfl) G) jI)))) (cZ (db o (bL (jL rfl) cY) (iB rfl)) rfl (cZ (db p (bL (eA rfl) cY) (iB rfl)) rfl (cZ (db C (bL (eA rfl) (bL (tc rfl) cY)) (jR rfl)) rfl (cZ (db D (bL (tc (x:= .bool (decide (m<0))) rfl) (bL (eA rfl) cY)) (kj rfl)) rfl (cZ (db h (bL (nA rfl rfl) cY) oO) rfl jJ))))) rfl (fD (kj rfl) (fD (iB rfl) jB)) (Ee Wl yv)
    ·rw [if_pos rfl]
     refine ⟨⟨I,(abD B).1,(abD B).2,(.inl rfl),by simp_all,by simp_all⟩,rfl,?_⟩;exact jK [iS m,dE (dB .i64 e),dE (dB .i64 s),dE (dB .i64 (t:Nat)),nS a,iS z,dE (dB .i64 x)] mix (F:= [⟨.bin .lss,s0 1,.int .i64 (-131072),.bool false⟩,⟨.bin .gtr,s0 1,.int .i64 131072,.bool false⟩,⟨.bin .eql,s0 2,.int .i64 0,.bool false⟩,⟨.bin .add,s0 1,s0 3,s0 6⟩]) (T:= [⟨126,[iP 0],s0 2⟩,⟨132,[sA 0],s0 3⟩,⟨133,[sA 0,s0 3],sA 4⟩,⟨116,[s0 0,sA 4],iP 5⟩,⟨124,[dQ 5 6],.bool true⟩]) (pats:= [iP 0,s0 1]) (res:= .fh [dQ 5 6,.int .i64 0]) (by kernel_rfl)
      (eS (Bd (dm rfl) (fun _=>rfl) c1) (eS (F5 (dm rfl) (fun _=>rfl) d) (eS (tN (dm rfl) (fun _=>rfl) g) (eS (Na rfl (dm rfl) (dm rfl) (dm rfl) G) jI)))) (cZ (db o (bL (jL rfl) cY) (iB rfl)) rfl (cZ (db p (bL (eA rfl) cY) (iB rfl)) rfl (cZ (db C (bL (eA rfl) (bL (tc rfl) cY)) (jR rfl)) rfl (cZ (db D (bL (tc (x:= .bool (decide (m<0))) rfl) (bL (eA rfl) cY)) (kj rfl)) rfl (cZ (db h (bL (nA rfl rfl) cY) oO) rfl jJ))))) rfl (fD (kj rfl) (fD (iB rfl) jB)) (Ee (nA rfl rfl) yv)
end
end
section
open Go.RowKit Go.Ev
def EB (e:Int):Prop:= -65536<=e/\e<=65536
section
variable {i j k l:Nat} {m e n f:Int}
def Nt (g:Bz k m) (d:k<=20000000:=by omega): ∃c:Int,c=m.sign/\bJ Tryz.prog bw 73 [iR m e] (bj (.int .i64 c)):=by
 obtain ⟨c,b,a⟩:=abo g d;refine ⟨c,b,?_⟩;exact jK [iS m,dE (dB .i64 e),dE (dB .i64 c)] mix (F:= []) (T:= [⟨126,[iP 0],s0 2⟩]) (pats:= [dQ 0 1]) (res:=s0 2) (by kernel_rfl)
  jI (cZ (db a (bL (jL rfl) cY) (iB rfl)) rfl jJ) rfl (fD (pL rfl rfl) jB) (tc rfl)
def arI (g:Bz k m) (d:k<=20000000:=by omega): ∃z,Bz k z/\z= -m/\bJ Tryz.prog bw 125 [iR m e] (iR z e):=by
 obtain ⟨z,h,b,a⟩:=Bg g d;refine ⟨z,h,b,?_⟩;exact jK [iS m,dE (dB .i64 e),iS z] mix (F:= []) (T:= [⟨146,[iP 0],iP 2⟩]) (pats:= [dQ 0 1]) (res:=dQ 2 1) (by kernel_rfl)
  jI (cZ (db a (bL (jL rfl) cY) (kj rfl)) rfl jJ) rfl (fD (pL rfl rfl) jB) (nA rfl rfl)
end
end
section
open Go.RowKit Go.Ev
section
variable {i j k l:Nat} {m e n f:Int}
def ahC {C:Nat} (E:131072<=C) (D:C<=200000) (p:Bz i m) (q:Bz j n) (h:EB e) (o:EB f) (hi:i<=400000:=by omega) (G:j<=400000:=by omega): ∃x y,Bz (i+C) x/\Bz (j+C) y/\x=m*2^(e-min e f).toNat/\y=n*2^(f-min e f).toNat/\
 bJ Tryz.prog bw 75 [iR m e,iR n f] (Ef (dN x) (dN y) (bj (.int .i64 (min e f)))):=by
 unfold EB at h o;obtain ⟨x,t,d,a⟩:=zW (s:=(e-min e f).toNat) (c:=C) (z:=e-min e f) p;obtain ⟨y,u,g,b⟩:=zW (s:=(f-min e f).toNat) (c:=C) (z:=f-min e f) q;refine ⟨x,y,t,u,d,g,?_⟩;have A:IntKind.i64.wrap (e-min e f)=e-min e f:=aC _ (by omega);have B:IntKind.i64.wrap (f-min e f)=f-min e f:=aC _ (by omega);exact jK [iS m,dE (dB .i64 e),iS n,dE (dB .i64 f),dE (dB .i64 (min e f)),dE (dB .i64 (e-min e f)),dE (dB .i64 (f-min e f)),iS x,iS y] mix (F:= [⟨.mx false,s0 1,s0 3,s0 4⟩,⟨.bin .sub,s0 1,s0 4,s0 5⟩,⟨.bin .sub,s0 3,s0 4,s0 6⟩]) (T:= [⟨128,[iP 0,s0 5],iP 7⟩,⟨128,[iP 2,s0 6],iP 8⟩]) (pats:= [dQ 0 1,dQ 2 3]) (res:= .fh [iP 7,iP 8,s0 4]) (by kernel_rfl)
  (eS (agN rfl (dm rfl) (dm rfl) (dm rfl) rfl) (eS (abe rfl (dm rfl) (dm rfl) (dm rfl) A) (eS (abe rfl (dm rfl) (dm rfl) (dm rfl) B) jI))) (cZ (db a (bL (jL rfl) (bL (tc rfl) cY)) (kj rfl)) rfl (cZ (db b (bL (jL rfl) (bL (tc rfl) cY)) (kj rfl)) rfl jJ)) rfl (fD (pL rfl rfl) (fD (pL rfl rfl) jB)) (Eg (jL rfl) (jL rfl) (tc rfl))
end
end
section
open Go.RowKit Go.Ev
def ko (m e:Int):Int:=if m=0 then 0 else (eN m.natAbs:Nat)+e
def tR (m e n f:Int):Int:=
 if m.sign≠n.sign then (if m.sign<n.sign then-1 else 1) else if m.sign=0 then 0 else
  if ko m e≠ko n f then (if ko m e<ko n f then-m.sign else m.sign) else vL (m*2^(e-min e f).toNat) (n*2^(f-min e f).toNat)
section
variable {i j k l:Nat} {m e n f:Int}
def abE (g:Bz k m) (o:EB e) (u:k<=1000000:=by omega): ∃t,t=ko m e/\bJ Tryz.prog bw 74 [iR m e] (bj (.int .i64 t)):=by
 obtain ⟨c,q,a⟩:=Nt (e:=e) g;refine ⟨ko m e,rfl,?_⟩;unfold ko;by_cases d:m=0
 ·rw [if_pos d]
  have c1:decide (c=0)=true:=decide_eq_true (by simp_all);exact jK [iS m,dE (dB .i64 e),dE (dB .i64 c)] mix (F:= [⟨.bin .eql,s0 2,.int .i64 0,.bool true⟩]) (T:= [⟨73,[dQ 0 1],s0 2⟩]) (pats:= [dQ 0 1]) (res:= .int .i64 0) (by kernel_rfl)
   (eS (tN (dm rfl) (fun _=>rfl) c1) jI) (cZ (db a (bL (nA rfl rfl) cY) (iB rfl)) rfl jJ) rfl (fD (pL rfl rfl) jB) yv
 ·rw [if_neg d]
  have c1:decide (c=0)=false:=decide_eq_false (by simp_all);obtain ⟨b,s,eb,h⟩:=F7 g.abs;rw [<-eb];have p:IntKind.i64.wrap ((b:Int)+e)=(b:Int)+e:=aC _ (by unfold EB at o;omega);exact jK [iS m,dE (dB .i64 e),dE (dB .i64 c),dE (dB .i64 (b:Nat)),dE (dB .i64 ((b:Int)+e))] mix (F:= [⟨.bin .eql,s0 2,.int .i64 0,.bool false⟩,⟨.bin .add,s0 3,s0 1,s0 4⟩]) (T:= [⟨73,[dQ 0 1],s0 2⟩,⟨127,[sA 0],s0 3⟩]) (pats:= [dQ 0 1]) (res:=s0 4) (by kernel_rfl)
   (eS (tN (dm rfl) (fun _=>rfl) c1) (eS (Na rfl (dm rfl) (dm rfl) (dm rfl) p) jI)) (cZ (db a (bL (nA rfl rfl) cY) (iB rfl)) rfl (cZ (db h (bL (eA rfl) cY) (iB rfl)) rfl jJ)) rfl (fD (pL rfl rfl) jB) (tc rfl)
def arJ (H:Bz i m) (I:Bz j n) (J:EB e) (M:EB f) (hi:i<=400000:=by omega) (Z:j<=400000:=by omega) {C:Nat} (Y:131072<=C:=by omega) (N:C<=200000:=by omega): ∃c,c=tR m e n f/\bJ Tryz.prog bw 44 [iR m e,iR n f] (bj (.int .i64 c)):=by
 obtain ⟨s,S,a⟩:=Nt (e:=e) H;obtain ⟨t,U,b⟩:=Nt (e:=f) I;refine ⟨tR m e n f,rfl,?_⟩;unfold tR;rw [<-S,<-U];by_cases h:s≠t
 ·rw [if_pos h]
  have c1:decide (s≠t)=true:=decide_eq_true h;by_cases o:s<t
  ·rw [if_pos o]
   have B:decide (s<t)=true:=decide_eq_true o;exact jK [iS m,dE (dB .i64 e),iS n,dE (dB .i64 f),dE (dB .i64 s),dE (dB .i64 t)] mix (F:= [⟨.bin .neq,s0 4,s0 5,.bool true⟩,⟨.bin .lss,s0 4,s0 5,.bool true⟩]) (T:= [⟨73,[dQ 0 1],s0 4⟩,⟨73,[dQ 2 3],s0 5⟩]) (pats:= [dQ 0 1,dQ 2 3]) (res:= .int .i64 (-1)) (by kernel_rfl)
    (eS (Be (dm rfl) (dm rfl) c1) (eS (Bd (dm rfl) (dm rfl) B) jI)) (cZ (db a (bL (nA rfl rfl) cY) (iB rfl)) rfl (cZ (db b (bL (nA rfl rfl) cY) (iB rfl)) rfl jJ)) rfl (fD (pL rfl rfl) (fD (pL rfl rfl) jB)) yv
  ·rw [if_neg o]
   have B:decide (s<t)=false:=decide_eq_false o;exact jK [iS m,dE (dB .i64 e),iS n,dE (dB .i64 f),dE (dB .i64 s),dE (dB .i64 t)] mix (F:= [⟨.bin .neq,s0 4,s0 5,.bool true⟩,⟨.bin .lss,s0 4,s0 5,.bool false⟩]) (T:= [⟨73,[dQ 0 1],s0 4⟩,⟨73,[dQ 2 3],s0 5⟩]) (pats:= [dQ 0 1,dQ 2 3]) (res:= .int .i64 1) (by kernel_rfl)
    (eS (Be (dm rfl) (dm rfl) c1) (eS (Bd (dm rfl) (dm rfl) B) jI)) (cZ (db a (bL (nA rfl rfl) cY) (iB rfl)) rfl (cZ (db b (bL (nA rfl rfl) cY) (iB rfl)) rfl jJ)) rfl (fD (pL rfl rfl) (fD (pL rfl rfl) jB)) yv
 ·rw [if_neg h]
  have c1:decide (s≠t)=false:=decide_eq_false h;by_cases u:s=0
  ·rw [if_pos u]
   have d:decide (s=0)=true:=decide_eq_true u;exact jK [iS m,dE (dB .i64 e),iS n,dE (dB .i64 f),dE (dB .i64 s),dE (dB .i64 t)] mix (F:= [⟨.bin .neq,s0 4,s0 5,.bool false⟩,⟨.bin .eql,s0 4,.int .i64 0,.bool true⟩]) (T:= [⟨73,[dQ 0 1],s0 4⟩,⟨73,[dQ 2 3],s0 5⟩]) (pats:= [dQ 0 1,dQ 2 3]) (res:= .int .i64 0) (by kernel_rfl)
    (eS (Be (dm rfl) (dm rfl) c1) (eS (tN (dm rfl) (fun _=>rfl) d) jI)) (cZ (db a (bL (nA rfl rfl) cY) (iB rfl)) rfl (cZ (db b (bL (nA rfl rfl) cY) (iB rfl)) rfl jJ)) rfl (fD (pL rfl rfl) (fD (pL rfl rfl) jB)) yv
  ·rw [if_neg u]
   have d:decide (s=0)=false:=decide_eq_false u;obtain ⟨p,R,E⟩:=abE H J;obtain ⟨q,eq,G⟩:=abE I M;rw [<-R,<-eq];by_cases z:p≠q
   ·rw [if_pos z]
    have g:decide (p≠q)=true:=decide_eq_true z;have nZ: -1<=s/\s<=1:=by grind
    have hw:IntKind.i64.wrap (-s)= -s:=aC _ (by omega);by_cases A:p<q
    ·rw [if_pos A]
     have D:decide (p<q)=true:=decide_eq_true A;exact jK [iS m,dE (dB .i64 e),iS n,dE (dB .i64 f),dE (dB .i64 s),dE (dB .i64 t),dE (dB .i64 p),dE (dB .i64 q),dE (dB .i64 (-s))] mix (F:= [⟨.bin .neq,s0 4,s0 5,.bool false⟩,⟨.bin .eql,s0 4,.int .i64 0,.bool false⟩,⟨.bin .neq,s0 6,s0 7,.bool true⟩,⟨.bin .lss,s0 6,s0 7,.bool true⟩,⟨.neg,s0 4,s0 4,s0 8⟩]) (T:= [⟨73,[dQ 0 1],s0 4⟩,⟨73,[dQ 2 3],s0 5⟩,⟨74,[dQ 0 1],s0 6⟩,⟨74,[dQ 2 3],s0 7⟩]) (pats:= [dQ 0 1,dQ 2 3]) (res:=s0 8) (by kernel_rfl)
      (eS (Be (dm rfl) (dm rfl) c1) (eS (tN (dm rfl) (fun _=>rfl) d) (eS (Be (dm rfl) (dm rfl) g) (eS (Bd (dm rfl) (dm rfl) D) (eS (VK rfl (dm rfl) (dm rfl) hw) jI))))) (cZ (db a (bL (nA rfl rfl) cY) (iB rfl)) rfl (cZ (db b (bL (nA rfl rfl) cY) (iB rfl)) rfl (cZ (db E (bL (nA rfl rfl) cY) (iB rfl)) rfl (cZ (db G (bL (nA rfl rfl) cY) (iB rfl)) rfl jJ)))) rfl (fD (pL rfl rfl) (fD (pL rfl rfl) jB)) (tc rfl)
    ·rw [if_neg A]
     have D:decide (p<q)=false:=decide_eq_false A;exact jK [iS m,dE (dB .i64 e),iS n,dE (dB .i64 f),dE (dB .i64 s),dE (dB .i64 t),dE (dB .i64 p),dE (dB .i64 q),dE (dB .i64 (-s))] mix (F:= [⟨.bin .neq,s0 4,s0 5,.bool false⟩,⟨.bin .eql,s0 4,.int .i64 0,.bool false⟩,⟨.bin .neq,s0 6,s0 7,.bool true⟩,⟨.bin .lss,s0 6,s0 7,.bool false⟩]) (T:= [⟨73,[dQ 0 1],s0 4⟩,⟨73,[dQ 2 3],s0 5⟩,⟨74,[dQ 0 1],s0 6⟩,⟨74,[dQ 2 3],s0 7⟩]) (pats:= [dQ 0 1,dQ 2 3]) (res:=s0 4) (by kernel_rfl)
      (eS (Be (dm rfl) (dm rfl) c1) (eS (tN (dm rfl) (fun _=>rfl) d) (eS (Be (dm rfl) (dm rfl) g) (eS (Bd (dm rfl) (dm rfl) D) jI)))) (cZ (db a (bL (nA rfl rfl) cY) (iB rfl)) rfl (cZ (db b (bL (nA rfl rfl) cY) (iB rfl)) rfl (cZ (db E (bL (nA rfl rfl) cY) (iB rfl)) rfl (cZ (db G (bL (nA rfl rfl) cY) (iB rfl)) rfl jJ)))) rfl (fD (pL rfl rfl) (fD (pL rfl rfl) jB)) (tc rfl)
   ·rw [if_neg z]
    have g:decide (p≠q)=false:=decide_eq_false z;obtain ⟨x,y,hx,hy,W,X,O⟩:=ahC Y N H I J M hi Z;obtain ⟨c,Q,P⟩:=Ih (x:=x) (y:=y);rw [<-W,<-X,<-Q];exact jK [iS m,dE (dB .i64 e),iS n,dE (dB .i64 f),dE (dB .i64 s),dE (dB .i64 t),dE (dB .i64 p),dE (dB .i64 q),dE (dB .i64 (-s)),iS x,iS y,dE (dB .i64 (min e f)),dE (dB .i64 c)] mix (F:= [⟨.bin .neq,s0 4,s0 5,.bool false⟩,⟨.bin .eql,s0 4,.int .i64 0,.bool false⟩,⟨.bin .neq,s0 6,s0 7,.bool false⟩]) (T:= [⟨73,[dQ 0 1],s0 4⟩,⟨73,[dQ 2 3],s0 5⟩,⟨74,[dQ 0 1],s0 6⟩,⟨74,[dQ 2 3],s0 7⟩,⟨75,[dQ 0 1,dQ 2 3],.fh [iP 9,iP 10,s0 11]⟩,⟨76,[iP 9,iP 10],s0 12⟩]) (pats:= [dQ 0 1,dQ 2 3]) (res:=s0 12) (by kernel_rfl)
     (eS (Be (dm rfl) (dm rfl) c1) (eS (tN (dm rfl) (fun _=>rfl) d) (eS (Be (dm rfl) (dm rfl) g) jI))) (cZ (db a (bL (nA rfl rfl) cY) (iB rfl)) rfl (cZ (db b (bL (nA rfl rfl) cY) (iB rfl)) rfl (cZ (db E (bL (nA rfl rfl) cY) (iB rfl)) rfl (cZ (db G (bL (nA rfl rfl) cY) (iB rfl)) rfl (cZ (db O (bL (nA rfl rfl) (bL (nA rfl rfl) cY)) (Bc (kj rfl) (kj rfl) (iB rfl))) rfl (cZ (db P (bL (jL rfl) (bL (jL rfl) cY)) (iB rfl)) rfl jJ)))))) rfl (fD (pL rfl rfl) (fD (pL rfl rfl) jB)) (tc rfl)
end
end
end Go.Proofs.YtnmpjdgobafdkaaGreatDoor
