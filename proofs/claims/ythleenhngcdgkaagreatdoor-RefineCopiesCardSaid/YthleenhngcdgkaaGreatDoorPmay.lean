/- refineCopies_proved. -/
import Derived.Test.YthleenhngcdgkaaGreatDoorPmax
import Derived.WalkKit
import Derived.WalkSpells
import Derived.WalkLawsBesides
import Derived.BigQuiet
import Derived.Lib.Hide
import Derived.IntWalk
import Derived.Maps.AppendAt
import Derived.Deep.LoopGhost
import Derived.Deep.RegionHeld3
import Derived.WalkSmall
import Derived.OneCell
import Derived.BigRegion
import Derived.Deep.AppendLies
import Derived.Deep.RegionLaw
set_option maxRecDepth 100000
set_option maxHeartbeats 16000000
set_option linter.all false
noncomputable section
namespace Go.Proofs.YthleenhngcdgkaaGreatDoor
section
open Go.RowKit Go.Ev
def zH:List FuncId:= [185,188,183,184,186,235,294,345,236,237,238,242,241,295,346,376]
def aBG:bo:=mk (fun _=>⟨some 256,[zz 100,.n true 100],[],[.r (.z 0) (.n 1)],[⟨[],[],[],.b true⟩]⟩) fun _ L a _=>by
 obtain ⟨x,L,rfl,m,d,a⟩:=nG a;obtain ⟨y,L,rfl,o,f,a⟩:=s6 a;obtain rfl:L= []:=a;have c1:=akJ d f;have g:eW x.natAbs<=100:=by
  obtain ⟨b,h,e,_⟩:=GN (n:=x.natAbs) (k:=100) d (by decide);rw [<-e];exact h
 have j:eW y<=100:=by
  obtain ⟨b,h,e,_⟩:=GN f (by decide);rw [<-e];exact h
 refine ⟨_,jr _,[],gS,jZ,iV,jK (fR [.z x,.n y,.i (max ((eW x.natAbs:Nat):Int) ((eW y:Nat):Int))] [] 0 [.cm .leq (.i 2) (.l 1024) true] [⟨304,[.r (.z 0) (.n 1)],.i (.i 2)⟩] [.r (.z 0) (.n 1)] (.b true) (by kernel_rfl) (.k ?_ .nil) (.k c1 .nil))⟩;exact decide_eq_true (by show max ((eW x.natAbs:Nat):Int) ((eW y:Nat):Int)<=1024;omega)
def zI:bo:=cD [aBG] [] 0 201 [zz 100,.n true 100] [] [cQ 0 1,.b true] [nY 2 3] 0x1080001480001
def aBH:bo:=cD [zy,(lV false),qD,xz] zH 8 126 [] [] [.lv (.str [48])] [⟨[zz 100,.n true 100],[],[],.t (cQ 0 1) (.i (.l 0))⟩] 0x10c0efe28003e0000010400020830424800c4
def aBI:bo:=cD [aBH,zI] [] 0 149 [.ra] [] [.nd 1 (.l 0) (.l 0) (.l 0) [48],.fc 150 0] [nY 1 2] 0x10000810424800c4
def aBJ:bo:=cD [zy,(lV false),qD,xz] zH 8 126 [] [] [.lv (.str [49])] [⟨[zz 100,.n true 100],[],[],.t (cQ 0 1) (.i (.l 0))⟩] 0x10c0efe28003e0400010400020830424800c4
def aBK:bo:=cD [aBJ,zI] [] 0 149 [.ra] [] [.nd 1 (.l 0) (.l 0) (.l 0) [49],.fc 150 0] [nY 1 2] 0x10000810424800c4
def aBL:bo:=cD [zy,(lV false),qD,xz] zH 8 126 [] [] [.lv (.str [50])] [⟨[zz 100,.n true 100],[],[],.t (cQ 0 1) (.i (.l 0))⟩] 0x10c0efe28003e0800010400020830424800c4
def aBM:bo:=cD [aBL,zI] [] 0 149 [.ra] [] [.nd 1 (.l 0) (.l 0) (.l 0) [50],.fc 150 0] [nY 1 2] 0x10000810424800c4
def aBN:bo:=cD [zy,(lV false),qD,xz] zH 8 126 [] [] [.lv (.str [51])] [⟨[zz 100,.n true 100],[],[],.t (cQ 0 1) (.i (.l 0))⟩] 0x10c0efe28003e0c00010400020830424800c4
def aBO:bo:=cD [aBN,zI] [] 0 149 [.ra] [] [.nd 1 (.l 0) (.l 0) (.l 0) [51],.fc 150 0] [nY 1 2] 0x10000810424800c4
def aBP:bo:=cD [zy,(lV false),qD,xz] zH 8 126 [] [] [.lv (.str [48,46,53])] [⟨[zz 100,.n true 100],[],[],.t (cQ 0 1) (.i (.l 0))⟩] 0x10c0ec500bfc5000041000083002f8a000f80000083043480105
def aBQ:bo:=cD [aBP,zI] [] 0 149 [.ra] [] [.nd 1 (.l 0) (.l 0) (.l 0) [48,46,53],.fc 150 0] [nY 1 2] 0x10000810424800c4
def aBR:bo:=cD [zy,(lV false),qD,xz] zH 8 126 [] [] [.lv (.str [49,46,50,53])] [⟨[zz 100,.n true 100],[],[],.t (cQ 0 1) (.i (.l 0))⟩] 0x10c0efea1003e1420010400020c0088003fc3003f8a000f80000083044480146
def aBS:bo:=cD [aBR,zI] [] 0 149 [.ra] [] [.nd 1 (.l 0) (.l 0) (.l 0) [49,46,50,53],.fc 150 0] [nY 1 2] 0x10000810424800c4
def aBT:bo:=cD [zy,(lV false),qD,xz] zH 8 126 [] [] [.lv (.str [55])] [⟨[zz 100,.n true 100],[],[],.t (cQ 0 1) (.i (.l 0))⟩] 0x10c0efe28003e1c00010400020830424800c4
def aBU:bo:=cD [aBT,zI] [] 0 149 [.ra] [] [.nd 1 (.l 0) (.l 0) (.l 0) [55],.fc 150 0] [nY 1 2] 0x10000810424800c4
def aBV:bo:=cD [zy,(lV false),qD,xz] zH 8 126 [] [] [.lv (.str [49,48])] [⟨[zz 100,.n true 100],[],[],.t (cQ 0 1) (.i (.l 0))⟩] 0x10c0efea0103e2800010400020830424800c4
def aBW:bo:=cD [aBV,zI] [] 0 149 [.ra] [] [.nd 1 (.l 0) (.l 0) (.l 0) [49,48],.fc 150 0] [nY 1 2] 0x10000810424800c4
def aBX:bo:=cD [zy,(lV false),qD,xz] zH 8 126 [] [] [.lv (.str [48,46,49])] [⟨[zz 100,.n true 100],[],[],.t (cQ 0 1) (.i (.l 0))⟩] 0x10c0ec500bfc1000041000083002f8a000f80000083043480105
def aBY:bo:=cD [aBX,zI] [] 0 149 [.ra] [] [.nd 1 (.l 0) (.l 0) (.l 0) [48,46,49],.fc 150 0] [nY 1 2] 0x10000810424800c4
def aBZ:bo:=cD [zy,(lV false),qD,xz] zH 8 126 [] [] [.lv (.str [49,50,46,55,53])] [⟨[zz 100,.n true 100],[],[],.t (cQ 0 1) (.i (.l 0))⟩] 0x10c0efea2e0be3d50010400020c0088003fc3003f8a000f80000083044480146
def aB0:bo:=cD [aBZ,zI] [] 0 149 [.ra] [] [.nd 1 (.l 0) (.l 0) (.l 0) [49,50,46,55,53],.fc 150 0] [nY 1 2] 0x10000810424800c4
def aB1:bo:=cD [zy,(lV false),qD,xz] zH 8 126 [] [] [.lv (.str [49,48,48])] [⟨[zz 100,.n true 100],[],[],.t (cQ 0 1) (.i (.l 0))⟩] 0x10c0efea1003ea010010400020830424800c4
def aB2:bo:=cD [aB1,zI] [] 0 149 [.ra] [] [.nd 1 (.l 0) (.l 0) (.l 0) [49,48,48],.fc 150 0] [nY 1 2] 0x10000810424800c4
def aB3:bo:=cD [zy,(lV false),qD,xz] zH 8 126 [] [] [.lv (.str [51,46,49,52])] [⟨[zz 100,.n true 100],[],[],.t (cQ 0 1) (.i (.l 0))⟩] 0x10c0efea1003e3850010400020c0088003fc3003f8a000f80000083044480146
def aB4:bo:=cD [aB3,zI] [] 0 149 [.ra] [] [.nd 1 (.l 0) (.l 0) (.l 0) [51,46,49,52],.fc 150 0] [nY 1 2] 0x10000810424800c4
def aB5:bo:=cD [zy,(lV false),qD,xz] zH 8 126 [] [] [.lv (.str [54,52])] [⟨[zz 100,.n true 100],[],[],.t (cQ 0 1) (.i (.l 0))⟩] 0x10c0efea0103e1010010400020830424800c4
def aB6:bo:=cD [aB5,zI] [] 0 149 [.ra] [] [.nd 1 (.l 0) (.l 0) (.l 0) [54,52],.fc 150 0] [nY 1 2] 0x10000810424800c4
def aB7:bo:=cD [zy,(lV false),qD,xz] zH 8 126 [] [] [.lv (.str [48,46,48,48,49])] [⟨[zz 100,.n true 100],[],[],.t (cQ 0 1) (.i (.l 0))⟩] 0x10c0ec500bfc100004100008300228007f0c8003fc3004f8a000f80000083045480187
def aB8:bo:=cD [aB7,zI] [] 0 149 [.ra] [] [.nd 1 (.l 0) (.l 0) (.l 0) [48,46,48,48,49],.fc 150 0] [nY 1 2] 0x10000810424800c4
end
section
open Go.Proofs.Tryz Go Go.RowKit Go.Ev
variable {w:World} {b off:Nat} {S:Nat->Prop} {x:Int}
structure Rs where
 p:Int
 q:Nat
 s:Int
variable {r:Rs}
structure Rs.Ok (r:Rs):Prop where
 s0:0<=r.s
 s2:r.s<=2
 hp:Bz 1024 r.p
 hq:Bn 1024 r.q
 pos:r.s=1->0<r.q
 no:r.s≠1->r.p=0/\r.q=0
def Rs.K (r:Rs):World->Value->Prop:=IA r.p r.q r.s
def eR:Rs:=⟨0,0,0⟩
def alM (w:World) (g j:Nat) (r:Rs):Prop:= ∃u d,w.cell? ⟨g,j,none⟩=some (.bool (decide (r.p<0)))/\w.cell? ⟨g,j+1,none⟩=some u/\w.cell? ⟨g,j+2,none⟩=some d/\w.cell? ⟨g,j+3,none⟩=some (.int .i64 r.s)/\eD w u r.p.natAbs/\eD w d r.q
def AtR (l:List Rs):World->Value->Prop:=fun w v=> ∃b g n c,v= .pointer (some ⟨b,0,none⟩)/\w.cell? ⟨b,0,none⟩=some (.slice (some ⟨g,0,none⟩) n c)/\(l.length<=n/\n<=100000)/\ ∀j,j<l.length->alM w g (j*4) (l.getD j eR)
def J6 (l:List Rs): ∀w v,AtR l w v->v.oneCell'=true:=fun w v h=>by
 obtain ⟨b,g,n,c,rfl,_⟩:=h;rfl
def alN (h:jw S w fun f=> ∃c,f.cell? ⟨b,off,none⟩=some c): ¬S b/\b<w.heap.size:=by
 have e:b<w.heap.size:=by
  obtain ⟨c,hc⟩:=h w fun _ _ _=>rfl
  exact aj w _ hc
 refine ⟨fun g=> ?_,e⟩;obtain ⟨c,hc⟩:=h {w with heap:=w.heap.setIfInBounds b (.cells #[] 0 (0,0))} fun k i d=>by
  grind
 have a:({w with heap:=w.heap.setIfInBounds b (.cells #[] 0 (0,0))} :World).heap[b]? =some (.cells #[] 0 (0,0)):=by
  simp_all
 have:=KT a off;simp_all
def adC {a:World} (f: ∀k,k<w.heap.size-> ¬S k->a.heap[k]? =w.heap[k]?) (d: ¬S b) (e:b<w.heap.size):a.cell? ⟨b,off,none⟩=w.cell? ⟨b,off,none⟩:=by
 have:=f b e d;unfold World.cell?;grind
def aB9 {g n c a:Nat} (k:w.cell? ⟨b,0,none⟩=some (.slice (some ⟨g,0,none⟩) n c)) (m:a<n) (j:n<=100000) {a1 a2:Option Addr} {k1 k2 d f:Nat} (c0:w.cell? ⟨g,a*4,none⟩=some (.bool (decide (r.p<0)))) (c1:w.cell? ⟨g,a*4+1,none⟩=some (.slice a1 k1 d)) (c2:w.cell? ⟨g,a*4+2,none⟩=some (.slice a2 k2 f)) (c3:w.cell? ⟨g,a*4+3,none⟩=some (.int .i64 r.s)):
 Calls prog 150 #[.int .i64 a,.pointer (some ⟨b,0,none⟩)] w fun e l=>e= .returned (.agg #[.bool (decide (r.p<0)),.slice a1 k1 d,.slice a2 k2 f,.int .i64 r.s])/\RowKit.Below w.heap.size w l:=by
 have o:b<w.heap.size:=aj w _ k;have q:g<w.heap.size:=aj w _ c0;have t:(0:Int)<=(a:Int):=by omega
 have u:(a:Int)<(n:Int):=by omega
 obtain ⟨x,h⟩:=pS (decide (r.p<0));obtain ⟨y,i⟩:=pS r.s;rw [h] at c0⊢;rw [i] at c3⊢;clear h i;go_enter func150,ntmps150;go_wp2_with fail;refine bodyPost_ret (v:= .agg #[.bool x,.slice a1 k1 d,.slice a2 k2 f,.int .i64 y]) (by simp [results,results150,go_sem]) rfl ?_;exact ⟨rfl,(aG _ _).alloc (ak _) _⟩
def adE {l:List Rs} {a:Int} (h0:0<=a) (h1:a<l.length):bH prog bw 150 [bj (.int .i64 a),AtR l] (l.getD a.toNat eR).K:=fun S w dW D hA I=>by
 obtain ⟨x,vs,rfl,W,y,M,rfl,X,e⟩:=I w fun _ _ _=>rfl
 obtain rfl:M= []:=e;obtain rfl:x= .int .i64 a:=W;have A:jw S w fun h=>AtR l h y:=fun h f=>by
  obtain ⟨x',oA,o,_,y',N,R,Uc,_⟩:=I h f;simp_all
 obtain ⟨b,g,n,c,rfl,H,q2,q3⟩:=X;have B:=alN (S:=S) (b:=b) (off:=0) fun h f=>by
  obtain ⟨O,T,Z,P,o,m,_⟩:=A h f;simp_all
 have i:jw S w fun h=> ∀j,j<l.length->alM h g (j*4) (l.getD j eR):=fun h f=>by
  obtain ⟨O,T,Z,P,o,m,_,p3⟩:=A h f;cases o;rw [adC f B.1 B.2,H] at m;simp_all
 obtain ⟨k,rfl⟩: ∃k:Nat,a=(k:Int):=⟨a.toNat,by omega⟩;have s:k<l.length:=by omega
 have p:=alN (S:=S) (b:=g) (off:=k*4) fun h f=>by
  obtain ⟨u,d,p0,_⟩:=i h f k s;simp_all
 obtain ⟨u,d,c0,c1,z,Q,E,F⟩:=q3 k s;obtain ⟨a1,k1,o,rfl,_⟩:=E.form;obtain ⟨a2,k2,R,rfl,_⟩:=F.form;clear E F;rw [show ((k:Int)).toNat=k by omega];refine (aB9 (r:=l.getD k eR) H (a:=k) (by omega) q2.2 c0 c1 z Q).mono ?_;rintro en h ⟨rfl,q⟩;refine ⟨_,rfl,fun J Y=> ?_,q⟩;have t: ∀j,j<w.heap.size-> ¬S j->J.heap[j]? =w.heap[j]? :=fun j C U=>(Y j (ax C q.size) U).trans (q.block j C)
 obtain ⟨u',d',_,m,G,_,p4,p5⟩:=i J t k s;rw [adC t p.1 p.2,c1] at m;rw [adC t p.1 p.2,z] at G;cases m;cases G;exact ⟨_,_,rfl,p4,p5⟩
def alO (l:List Rs):World->Value->Prop:=fun w v=> ∃p,v= .func (.func 150) #[] #[p]/\AtR l w p
def Y3 (n:Nat):List Alt:= [⟨[zz 1024,.n true 1024],[],[],.res (.z n) (.n (n+1)) (.l 1)⟩,⟨[.z false true false 0,.n false 0],[],[],.res (.z n) (.n (n+1)) (.l 0)⟩,⟨[.z false true false 0,.n false 0],[],[],.res (.z n) (.n (n+1)) (.l 2)⟩]
def bz0 (h:Bz 0 x):x=0:=by
 have:x.natAbs<1:=h;omega
def bn0 {x:Nat} (h:Bn 0 x):x=0:=by
 have:x<1:=h;omega
def adF {L:List SD} {f:FuncId} {ks:List Kd} {al:List Alt} (F:al=Y3 L.length) (h: ∃a∈al,∃M,dY a.nb M/\(∀x∈a.rf,x.2.ok (aU L x.1))/\(∀x∈a.rr,nZ (L++M) x)/\ ∀g,some f=some g->bH prog bw g (ks.map (Kd.rel L)) (a.r.rel (L++M))):
 ∃r:Rs,r.Ok/\bH prog bw f (ks.map (Kd.rel L)) r.K:=by
 subst F;obtain ⟨a,u,M,i,_,_,hc⟩:=h;have t: ∀ {s:Int} {b:BD} {d:BD},a=⟨[b,d],[],[],.res (.z L.length) (.n (L.length+1)) (.l s)⟩-> ∀ {p:Int} {q:Nat},M= [.z p,.n q]->bH prog bw f (ks.map (Kd.rel L)) (IA p q s):=fun {s b d} e {p q} k=>by
  have C:=hc f rfl;rw [e,k] at C;have G:aU (L++ [SD.z p,.n q]) L.length= .z p:=O5 (j:=0);have H:aU (L++ [SD.z p,.n q]) (L.length+1)= .n q:=O5 (j:=1);have D:bH prog bw f (ks.map (Kd.rel L)) (IA (aU (L++ [SD.z p,.n q]) L.length).zv (aU (L++ [SD.z p,.n q]) (L.length+1)).nv s):=C;rw [G,H] at D;exact D
 rcases bq.1 u with e|u
 ·rw [e] at i
  obtain ⟨p,B,k,_,m,i⟩:=nG i;obtain ⟨q,y,A,E,o,i⟩:=s6 i;obtain rfl:y= []:=i;subst A;exact ⟨⟨p,q,1⟩,⟨by simp_all,by simp_all,m,o,fun _=>E rfl,fun h=>absurd rfl h⟩,t e k⟩
 rcases bq.1 u with e|u
 ·rw [e] at i
  obtain ⟨p,B,k,_,m,i⟩:=nG i;obtain ⟨q,y,A,_,o,i⟩:=s6 i;obtain rfl:y= []:=i;subst A;exact ⟨⟨p,q,0⟩,⟨by simp_all,by simp_all,DF m (bZ _),Mi o (bZ _),fun h=>absurd (show (0:Int)=1 from h) (by decide),fun _=>⟨bz0 m,bn0 o⟩⟩,t e k⟩
 rcases bq.1 u with e|u
 ·rw [e] at i
  obtain ⟨p,B,k,_,m,i⟩:=nG i;obtain ⟨q,y,A,_,o,i⟩:=s6 i;obtain rfl:y= []:=i;subst A;exact ⟨⟨p,q,2⟩,⟨by simp_all,by simp_all,DF m (bZ _),Mi o (bZ _),fun h=>absurd (show (2:Int)=1 from h) (by decide),fun _=>⟨bz0 m,bn0 o⟩⟩,t e k⟩
 simp_all
def yv (h: -9223372036854775808<=x:=by decide) (h':x<=9223372036854775807:=by decide):m64.ok (.i x):=⟨h,h'⟩
def adG {B:List BD} {M:List SD} (h:r.Ok) (t:dY B M):dY (zz 1024:: .n false 1024:: .i 0 2::B) (.z r.p:: .n r.q:: .i r.s::M):=qh s7 h.hp (yq Pd h.hq (pw h.s0 h.s2 t))
end
section
open Go Go.RowKit Go.Ev
def ndV (k a b n:Int) (t:List UInt8):World->Value->Prop:=bj (.agg #[.int .i64 k,.int .i64 a,.int .i64 b,.int .i64 n,.string ⟨⟨t⟩⟩])
def adH (a p:Nat):KE:=⟨150,[.i (.i a),.ra 3],.res (.z p) (.n (p+1)) (.i (p+2))⟩
section
variable {l:List Rs} {a b n:Int} {ks:List Kd}
def adI (f: ∀r∈l,r.Ok) {a:Int} (d:0<=a) (e:a<l.length):(l.getD a.toNat eR).Ok:=by
 simp_all
def adJ {a:Int} (d:0<=a) (e:a<l.length) (f:l.length<=100000):m64.ok (.i a):=yv (by omega) (by omega)
def J7 (h:Tn ⟨some 149,[m64,m64,m64,.ra,zz 1024,.n false 1024,.i 0 2],[(10,[6,5])],ks,Y3 7⟩ [adH 0 4]) (j: ∀r∈l,r.Ok) (d:l.length<=100000) (f:0<=a) (g:a<l.length) (m:m64.ok (.i n)):
 ∃r:Rs,r.Ok/\bH Tryz.prog bw 149 (ks.map (Kd.rel [.i a,.i 0,.i n,.ra (AtR l) (J6 l),.z (l.getD a.toNat eR).p,.n (l.getD a.toNat eR).q,.i (l.getD a.toNat eR).s])) r.K:=by
 have e:=adI j f g;have hc:=adE f g;revert e hc;generalize l.getD a.toNat eR=r;intro e hc;refine adF (L:= [.i a,.i 0,.i n,.ra (AtR l) (J6 l),.z r.p,.n r.q,.i r.s]) rfl (h _ ?_ ?_ (.k hc .nil))
 ·exact ⟨_,_,rfl,adJ f g d,_,_,rfl,yv,_,_,rfl,m,_,_,rfl,trivial,adG e gS⟩
 ·exact zx (show RP 10 [r.s,(r.q:Int)] from fun h=>by have:=e.pos h;omega)
def Y4 (h:Tn ⟨some 149,[m64,m64,m64,.ra,zz 1024,.n false 1024,.i 0 2,zz 1024,.n false 1024,.i 0 2],[(10,[6,5]),(10,[9,8])],ks,Y3 10⟩ [adH 0 4,adH 1 7]) (u: ∀r∈l,r.Ok) (d:l.length<=100000) (o:0<=a) (t:a<l.length) (g:0<=b) (j:b<l.length):
 ∃r:Rs,r.Ok/\bH Tryz.prog bw 149 (ks.map (Kd.rel [.i a,.i b,.i 0,.ra (AtR l) (J6 l),.z (l.getD a.toNat eR).p,.n (l.getD a.toNat eR).q,.i (l.getD a.toNat eR).s,.z (l.getD b.toNat eR).p,.n (l.getD b.toNat eR).q,.i (l.getD b.toNat eR).s])) r.K:=by
 have f:=adI u o t;have hc:=adE o t;have e:=adI u g j;have m:=adE g j;revert f hc e m;generalize l.getD a.toNat eR=r;generalize l.getD b.toNat eR=s;intro f hc e m;refine adF (L:= [.i a,.i b,.i 0,.ra (AtR l) (J6 l),.z r.p,.n r.q,.i r.s,.z s.p,.n s.q,.i s.s]) rfl (h _ ?_ ?_ (.k hc (.k m .nil)))
 ·exact ⟨_,_,rfl,adJ o t d,_,_,rfl,adJ g j d,_,_,rfl,yv,_,_,rfl,trivial,adG f (adG e gS)⟩
 ·exact ajD (show RP 10 [r.s,(r.q:Int)] from fun h=>by have:=f.pos h;omega) (zx (show RP 10 [s.s,(s.q:Int)] from fun h=>by have:=e.pos h;omega))
def alP (F:bo) (d:F.c []=⟨some 149,[.ra],[],ks,Y3 1⟩) (e:F.ok []=true): ∃r:Rs,r.Ok/\bH Tryz.prog bw 149 (ks.map (Kd.rel [.ra (AtR l) (J6 l)])) r.K:=by
 have h:=F.h [] e;rw [d] at h;exact adF (L:= [.ra (AtR l) (J6 l)]) rfl (h _ ⟨_,_,rfl,trivial,rfl⟩ iV)
def zK {k:Int} {C:Rs->Prop} (d:k≠1) (h: ∃r:Rs,r.Ok/\C r): ∃r:Rs,r.Ok/\(k=1->r.s=1)/\C r:=by
 simp_all
def zL (F:bo) (g:F.c []=⟨some 149,[.ra],[],ks,[⟨[zz 1024,.n true 1024],[],[],.res (.z 1) (.n 2) (.l 1)⟩]⟩) (j:F.ok []=true): ∃r:Rs,r.Ok/\((1:Int)=1->r.s=1)/\bH Tryz.prog bw 149 (ks.map (Kd.rel [.ra (AtR l) (J6 l)])) r.K:=by
 have h:=F.h [] j;rw [g] at h;obtain ⟨a,i,M,d,_,_,hc⟩:=h [.ra (AtR l) (J6 l)] ⟨_,_,rfl,trivial,rfl⟩ iV;obtain rfl:=cB.1 i;obtain ⟨p,o,rfl,_,k,d⟩:=nG d;obtain ⟨q,e,rfl,f,m,d⟩:=s6 d;obtain rfl:e= []:=d;exact ⟨⟨p,q,1⟩,⟨by simp_all,by simp_all,k,m,fun _=>f rfl,fun h=>absurd rfl h⟩,fun _=>rfl,hc _ rfl⟩
def adK:List (List UInt8):= [[48],[49],[50],[51],[48,46,53],[49,46,50,53],[55],[49,48],[48,46,49],[49,50,46,55,53],[49,48,48],[51,46,49,52],[54,52],[48,46,48,48,49]]
structure Y5 (m:Nat) (k a b n:Int) (t:List UInt8):Prop where
 k1:1<=k
 k2:k<=16
 nm:k≠2
 Ct:k=1->t∈adK
 pP:k≠1->t= []
 pow:k=10-> -3<=n/\n<=4
 lW:k≠10->n=0
 a0:k<=4->a=0
 b0:k<=5\/10<=k->b=0
 ar:5<=k->0<=a/\a<m
 br:6<=k->k<=9->0<=b/\b<m
def aCa (g: ∀r∈l,r.Ok) (d:l.length<=100000) {k:Int} {t:List UInt8} (h:Y5 l.length k a b n t): ∃r:Rs,r.Ok/\(k=1->r.s=1)/\bH Tryz.prog bw 149 [ndV k a b n t,alO l] r.K:=by
 obtain ⟨x,y,nm,p,f,u,e,m,i,ar,j⟩:=h;have q:k=1\/k=3\/k=4\/k=5\/k=6\/k=7\/k=8\/k=9\/k=10\/k=11\/k=12\/k=13\/k=14\/k=15\/k=16:=by omega
 rcases q with rfl|rfl|rfl|rfl|rfl|rfl|rfl|rfl|rfl|rfl|rfl|rfl|rfl|rfl|rfl
 ·have o:=p rfl
  obtain rfl:=e (by decide);obtain rfl:=m (by decide);obtain rfl:=i (by decide);simp only [adK,bq,jd,or_false] at o;rcases o with rfl|rfl|rfl|rfl|rfl|rfl|rfl|rfl|rfl|rfl|rfl|rfl|rfl|rfl
  ·exact zL aBI rfl rfl
  ·exact zL aBK rfl rfl
  ·exact zL aBM rfl rfl
  ·exact zL aBO rfl rfl
  ·exact zL aBQ rfl rfl
  ·exact zL aBS rfl rfl
  ·exact zL aBU rfl rfl
  ·exact zL aBW rfl rfl
  ·exact zL aBY rfl rfl
  ·exact zL aB0 rfl rfl
  ·exact zL aB2 rfl rfl
  ·exact zL aB4 rfl rfl
  ·exact zL aB6 rfl rfl
  ·exact zL aB8 rfl rfl
 ·obtain rfl:=f (by decide)
  obtain rfl:=e (by decide);obtain rfl:=m (by decide);obtain rfl:=i (by decide);exact zK (by decide) (alP aBE rfl rfl)
 ·obtain rfl:=f (by decide)
  obtain rfl:=e (by decide);obtain rfl:=m (by decide);obtain rfl:=i (by decide);exact zK (by decide) (alP aBF rfl rfl)
 ·obtain rfl:=f (by decide)
  obtain rfl:=e (by decide);obtain rfl:=i (by decide);exact zK (by decide) (J7 (n:=0) aBs g d (ar (by decide)).1 (ar (by decide)).2 (yv))
 ·obtain rfl:=f (by decide)
  obtain rfl:=e (by decide);exact zK (by decide) (Y4 aBt g d (ar (by decide)).1 (ar (by decide)).2 (j (by decide) (by decide)).1 (j (by decide) (by decide)).2)
 ·obtain rfl:=f (by decide)
  obtain rfl:=e (by decide);exact zK (by decide) (Y4 aBu g d (ar (by decide)).1 (ar (by decide)).2 (j (by decide) (by decide)).1 (j (by decide) (by decide)).2)
 ·obtain rfl:=f (by decide)
  obtain rfl:=e (by decide);exact zK (by decide) (Y4 aBv g d (ar (by decide)).1 (ar (by decide)).2 (j (by decide) (by decide)).1 (j (by decide) (by decide)).2)
 ·obtain rfl:=f (by decide)
  obtain rfl:=e (by decide);exact zK (by decide) (Y4 aBw g d (ar (by decide)).1 (ar (by decide)).2 (j (by decide) (by decide)).1 (j (by decide) (by decide)).2)
 ·obtain rfl:=f (by decide)
  obtain rfl:=i (by decide);exact zK (by decide) (J7 aBx g d (ar (by decide)).1 (ar (by decide)).2 (yv (by omega) (by omega)))
 ·obtain rfl:=f (by decide)
  obtain rfl:=e (by decide);obtain rfl:=i (by decide);exact zK (by decide) (J7 (n:=0) aBy g d (ar (by decide)).1 (ar (by decide)).2 (yv))
 ·obtain rfl:=f (by decide)
  obtain rfl:=e (by decide);obtain rfl:=i (by decide);exact zK (by decide) (J7 (n:=0) aBz g d (ar (by decide)).1 (ar (by decide)).2 (yv))
 ·obtain rfl:=f (by decide)
  obtain rfl:=e (by decide);obtain rfl:=i (by decide);exact zK (by decide) (J7 (n:=0) aBA g d (ar (by decide)).1 (ar (by decide)).2 (yv))
 ·obtain rfl:=f (by decide)
  obtain rfl:=e (by decide);obtain rfl:=i (by decide);exact zK (by decide) (J7 (n:=0) aBB g d (ar (by decide)).1 (ar (by decide)).2 (yv))
 ·obtain rfl:=f (by decide)
  obtain rfl:=e (by decide);obtain rfl:=i (by decide);exact zK (by decide) (J7 (n:=0) aBC g d (ar (by decide)).1 (ar (by decide)).2 (yv))
 ·obtain rfl:=f (by decide)
  obtain rfl:=e (by decide);obtain rfl:=i (by decide);exact zK (by decide) (J7 (n:=0) aBD g d (ar (by decide)).1 (ar (by decide)).2 (yv))
end
structure Nx where
 k:Int
 a:Int
 b:Int
 n:Int
 t:List UInt8
def Nx.V (x:Nx):World->Value->Prop:=ndV x.k x.a x.b x.n x.t
def Cu:Nx:=⟨0,0,0,0,[]⟩
def adL (L:List Nx):Prop:= ∀i,i<L.length->Y5 i (L.getD i Cu).k (L.getD i Cu).a (L.getD i Cu).b (L.getD i Cu).n (L.getD i Cu).t
def Ud (L:List Nx) (l:List Rs):Prop:=(∀r∈l,r.Ok)/\ ∀i,i<l.length->((L.getD i Cu).k=1->(l.getD i eR).s=1)/\bH Tryz.prog bw 149 [(L.getD i Cu).V,alO (l.take i)] (l.getD i eR).K
def alQ {L:List Nx} (f:adL L) (d:L.length<=100000): ∀k,k<=L.length-> ∃l:List Rs,l.length=k/\Ud L l
 |0,_=>⟨[],rfl,(fun r h=>by cases h),fun i h=>absurd h (iw _)⟩
 |k+1,u=>by
  obtain ⟨l,e,o,s⟩:=alQ f d k (by omega);have g:=f k (by omega);rw [<-e] at g;obtain ⟨r,y,A,hc⟩:=aCa o (by omega) g;refine ⟨l++ [r],by simp [e],fun x z=> ?_,fun i t=> ?_⟩
  ·grind
  ·by_cases q:i<l.length
   ·grind
   ·have p:i=l.length:=by grind
    have j:(l++ [r]).take i=l:=by simp_all
    have m:(l++ [r]).getD i eR=r:=by simp_all
    rw [j,m,p,e];rw [e] at hc;exact ⟨by simp_all,hc⟩
end
section
open Go.Proofs.Tryz Go Go.RowKit
structure Fr (S:Nat->Prop) (w w':World):Prop where
 os:w'.os=w.os
 tape:w'.tape=w.tape
 output:w'.output=w.output
 size:w.heap.size<=w'.heap.size
 block: ∀k,k<w.heap.size-> ¬S k->w'.heap[k]? =w.heap[k]?
section
variable {S S':Nat->Prop} {w w' Fs:World}
def Fr.refl (S:Nat->Prop) (w:World):Fr S w w:=⟨rfl,rfl,rfl,ak _,fun _ _ _=>rfl⟩
def Fr.trans (h:Fr S w w') (k:Fr S' w' Fs) (d: ∀k,k<w.heap.size->S' k->S k):Fr S w Fs:=
 ⟨k.os.trans h.os,k.tape.trans h.tape,k.output.trans h.output,aL h.size k.size,fun i a b=>
  (k.block i (ax a h.size) (fun e=>b (d i a e))).trans (h.block i a b)⟩
def Fr.mono (h:Fr S w w') (b: ∀k,k<w.heap.size->S k->S' k):Fr S' w w':=
 ⟨h.os,h.tape,h.output,h.size,fun i a d=>h.block i a (fun e=>d (b i a e))⟩
def Fr.drew (h:Fr S w w'):Fr S w w'.drew:=⟨h.os,h.tape,h.output,h.size,h.block⟩
def Fr.drewN (h:Fr S w w') (n:Nat):Fr S w (w'.drewN n):=⟨h.os,h.tape,h.output,h.size,h.block⟩
def Fr.alloc (h:Fr S w w') (o:Obj):Fr S w (w'.alloc o):=
 ⟨h.os,h.tape,h.output,by have:=h.size;simp;omega,fun i a b=>by rw [dX _ _ _ (by have:=h.size;omega)];exact h.block i a b⟩
def Fr.setCell (h:Fr S w w') {a:Addr} (u:Value) (f:a.block<w.heap.size->S a.block):Fr S w (w'.setCell a u):=
 ⟨h.os,h.tape,h.output,by have:=h.size;simp_all,fun i b d=>by
  rw [iJ _ _ _ _ (fun e=>by simp_all)];exact h.block i b d⟩
def Fr.below (h:Fr (fun _=>False) w w'):Below w.heap.size w w':=⟨h.os,h.tape,h.output,h.size,fun k a=>h.block k a (fun e=>e)⟩
def Fr.iE (h:Below w.heap.size w w'):Fr S w w':=⟨h.os,h.tape,h.output,h.size,fun k a _=>h.block k a⟩
def Fr.oe {B:Nat} (h:Fr S w w') (a: ∀k,k<B-> ¬S k) (d:B<=w.heap.size):Below B w w':=
 ⟨h.os,h.tape,h.output,h.size,fun k b=>h.block k (by omega) (a k b)⟩
def Fr.frozen (h:Fr S w w') {a:Addr} (d:a.block<w.heap.size) (b: ¬S a.block):w'.frozen? a=w.frozen? a:=World.frozen?_of_block (h.block _ d b)
def Fr.cell (h:Fr S w w') {a:Addr} {v:Value} (hc:w.cell? a=some v) (b: ¬S a.block):w'.cell? a=some v:=by
 rw [<-hc];exact World.cell?_of_block (h.block _ (aj w a hc) b)
end
section
variable {w w':World} {base:Nat} {e:TypeId} {size:Nat} {v:Value} {n:Nat} {xs:List Value}
def oh {S:Nat->Prop} (h:w.ownsRow base e size v n xs) (i:Fr S w w') (d: ∀k,v.ownBlock=some k-> ¬S k):w'.ownsRow base e size v n xs:=by
 refine ⟨h.1,?_⟩;rcases h.2 with j|⟨g,cap,cur,rfl,f,b,a⟩
 ·exact .inl j
 ·refine .inr ⟨g,cap,cur,rfl,f,?_,a⟩
  rw [i.block g (au.1 b).1 (d g rfl)];omega
def vV (h:w.ownsRow base e size v n xs) {k:Nat} (a:v.ownBlock=some k): ∃cur,w.heap[k]? =some (.cells cur e (0,0)):=by
 rcases h.2 with ⟨rfl,_⟩|⟨g,cap,cur,rfl,f,d,b⟩
 ·simp [Value.ownBlock] at a
 ·simp [Value.ownBlock] at a
  simp_all
def Ue (h:w.ownsRow base e size v n xs) {k:Nat} (a:v.ownBlock=some k):k<w.heap.size:=by
 obtain ⟨cur,hc⟩:=vV h a;grind
def MP (h:w.ownsRow base e size v n xs) (k:0<n:=by omega): ∃g cap,v= .slice (some ⟨g,0,none⟩) n cap/\n<=cap/\cap<=maxLen/\g<w.heap.size:=by
 rcases h.2 with ⟨rfl,d⟩|⟨g,cap,cur,rfl,j,b,f,i,a⟩
 all_goals grind
def alR {d:TypeId} {a:Nat} {g:Value} {m base':Nat} {b:List Value} (h:w.ownsRow base e size v n xs) (h':w.ownsRow base' d a g m b) (j:e≠d) {k f:Nat}
 (i:v.ownBlock=some k) (l:g.ownBlock=some f):k≠f:=by
 rintro rfl;obtain ⟨c,hc⟩:=vV h i;obtain ⟨o,p⟩:=vV h' l;simp_all
end
def mD {w:World} {t:Nat} {c:Array Value} {T:Nat} {a:Nat×Nat} (h:w.heap[t]? =some (.cells c T a)) (i:Nat):w.cell? ⟨t,i,none⟩=c[i]? :=by
 simp [World.cell?,h]
def yw {w:World} {t:Nat} {c:Array Value} {T:Nat} (h:w.heap[t]? =some (.cells c T (0,0))) (i:Nat):w.frozen? ⟨t,i,none⟩=false:=by
 simp [World.frozen?,h]
def alS (v n:Int) (d:1<=n):(v % n=v.tmod n/\0<=v.tmod n)\/(v % n=v.tmod n+n/\v.tmod n<0/\ -n<v.tmod n):=by
 have g:=gB v (b:=n) (by omega);have i:=fN v (b:=n) (by omega);rcases kW 0 v with h|h
 ·grind
 ·have e:v.tmod n= -((-v) % n):=by
   have:=Int.neg_tmod v n;grind
  have f:=gB (-v) (b:=n) (by omega);have a:=fN (-v) (b:=n) (by omega);grind
def aCb (v n:Int) (d:1<=n) (i:n<=9223372036854775807) (a: -9223372036854775808<=v) (h:v.tmod n<0):wrap64 (v.tmod n+n)=v % n:=by
 rcases alS v n d with ⟨_,f⟩|⟨b,_,g⟩
 ·omega
 ·rw [b];exact IntWalk.wrap64_in _ ⟨by omega,by omega⟩
def aCc (v n:Int) (a:1<=n) (h:0<=v.tmod n):v.tmod n=v % n:=by
 rcases alS v n a with ⟨b,_⟩|⟨_,d,_⟩
 all_goals grind
def MQ (v n:Int) (a:1<=n) (d:n<=9223372036854775807) (b: -9223372036854775808<=v) (w:World):
 Calls prog 10 #[.int .i64 v,.int .i64 n] w fun e w'=>e= .returned (.int .i64 (v % n))/\w'=w:=by
 go_enter func10,ntmps10;go_wp2
 all_goals go_ret
 ·rename_i h
  exact ⟨by rw [aCb v n a d b h];rfl,rfl⟩
 ·rename_i h
  exact ⟨by rw [aCc v n a h];rfl,rfl⟩
def sC (w:World) (p:Nat) (v:Value) (a:Nat):Prop:=w.heap[p]? =some (.cells #[v,.int .i64 a] 85 (0,0))
def Fu (w:World) (p:Nat) (v:Value) (n:Nat):Prop:=
 n<=1000/\ ∃a c,v= .slice a n c/\ ∀j,j<n-> ∃b x,a=some b/\b.block≠p/\ -9223372036854775808<=x/\w.cell? (b.add j)=some (.int .i64 x)
def Fu.frame {w w':World} {p:Nat} {v:Value} {n:Nat} {S:Nat->Prop} (h:Fu w p v n) (l:Fr S w w') (q: ∀k,S k->k=p\/w.heap.size<=k):Fu w' p v n:=by
 obtain ⟨o,a,c,rfl,h⟩:=h;refine ⟨o,a,c,rfl,fun j m=> ?_⟩;obtain ⟨b,x,f,g,i,d⟩:=h j m;refine ⟨b,x,f,g,i,l.cell d fun e=> ?_⟩;have s:(b.add j).block=b.block:=by unfold Addr.add;grind
 have:=aj w _ d;grind
def sC.frame {w w':World} {p:Nat} {v:Value} {k:Nat} {S:Nat->Prop} (h:sC w p v k) (b:Fr S w w') (a: ¬S p):sC w' p v k:=
 (b.block p (au.1 h).1 a).trans h
def sC.cells {w:World} {p:Nat} {v:Value} {k:Nat} (h:sC w p v k):w.cell? ⟨p,0,none⟩=some v/\w.cell? ⟨p,1,none⟩=some (.int .i64 k):=
 ⟨mD h 0,mD h 1⟩
def alT (b:Addr) (k:Nat):(b.add k).block=b.block:=by unfold Addr.add;split<;>rfl
def sC.lt {w:World} {p:Nat} {v:Value} {k:Nat} (h:sC w p v k):p<w.heap.size:=(au.1 h).1
def aCd {w:World} {p n k:Nat} {v:Value} (b:sC w p v k) (d:Fu w p v n):
 Calls prog 18 #[.pointer (some ⟨p,0,none⟩)] w fun e w'=>e= .returned (.bool (decide (k<n)))/\Fr (fun _=>False) w w':=by
 obtain ⟨f,a,c,rfl,_⟩:=d;obtain ⟨c0,c1⟩:=b.cells;clear b;go_enter func18,ntmps18;go_wp2_with (go_quiet (fail));go_ret;exact ⟨rfl,(Fr.refl _ w).drewN _⟩
def alU (w:World) (p:Nat) (v:Value) (n k:Nat) (lo m:Int) (e:Ending) (w':World):Prop:=
 ∃(r:Int) (a:Nat),e= .returned (.int .i64 r)/\lo<=r/\r<m/\k<=a/\(k<n->a=k+1)/\(k<=n->a<=n)/\sC w' p v a/\Fr (· =p) w w'
def adN {w:World} {p:Nat} {v:Value} {k:Nat} (a:sC w p v k):sC (w.setCell ⟨p,1,none⟩ (.int .i64 ((k+1:Nat):Int))) p v (k+1):=by
 unfold sC at*;unfold World.setCell;grind
def adO {w:World} {p n k:Nat} {v:Value} (d:sC w p v k) (C:Fu w p v n) (m:Int) (D:1<=m) (M:m<=1000000):
 Calls prog 22 #[.pointer (some ⟨p,0,none⟩),.int .i64 m] w (alU w p v n k 0 m):=by
 obtain ⟨H,a,c,rfl,o⟩:=C;obtain ⟨c0,c1⟩:=d.cells;have j:=yw d 1;by_cases u:k<n
 ·obtain ⟨b,x,rfl,B,y,g⟩:=o k u
  have f:=ae d;have A:=ae y;clear d o y;go_enter func22,ntmps22;go_wp2_with (go_quiet (fail));have q:((w.drewN nq).setCell ⟨p,1,none⟩ (.int .i64 ((k:Int)+1))).cell? ⟨p,0,none⟩=some (.slice (some b) n c):=(adN (f.out.frame ((Fr.refl (fun _=>False) w).drewN nq) (fun h=>h))).cells.1;have s:((w.drewN nq).setCell ⟨p,1,none⟩ (.int .i64 ((k:Int)+1))).cell? ⟨p,1,none⟩=some (.int .i64 ((k:Int)+1)):=(adN (f.out.frame ((Fr.refl (fun _=>False) w).drewN nq) (fun h=>h))).cells.2;have i:Fr (· =p) w ((w.drewN nq).setCell ⟨p,1,none⟩ (.int .i64 ((k:Int)+1))):=((Fr.refl (· =p) w).drewN nq).setCell _ (fun _=>rfl);have t:=i.cell g (by rw [alT];exact B);have l:sC ((w.drewN nq).setCell ⟨p,1,none⟩ (.int .i64 ((k:Int)+1))) p (.slice (some b) n c) (k+1):=adN (f.out.frame ((Fr.refl (fun _=>False) w).drewN nq) (fun h=>h));generalize (w.drewN nq).setCell ⟨p,1,none⟩ (.int .i64 ((k:Int)+1))=F at q s i t l⊢;have z:=ae i;have E:=ae l;clear i l c0 c1 j g;have J:(0:Int)<=(k:Int):=by omega
  have G:(k:Int)<(n:Int):=by omega
  have I:IntKind.i64.wrap (k:Int)=(k:Int):=aB _ ⟨by omega,by omega⟩
  go_region_held3 (fun w'=>w'.cell? ⟨p,0,none⟩=some (.slice (some b) n c)/\w'.cell? ⟨p,1,none⟩=some (.int .i64 ((k:Int)+1))/\w'.cell? (b.add k)=some (.int .i64 x)) (exact ⟨q,s,t⟩) (first|(go_at_call 10;refine (MQ x m D (by omega) A.out _).mono ?_;rintro e N ⟨rfl,rfl⟩))
  all_goals
   go_wp2_with fail;go_ret;exact ⟨x % m,k+1,rfl,gB _ (by omega),fN _ (by omega),by omega,fun _=>rfl,fun h=>by omega,E.out.frame ((Fr.refl (fun _=>False) F).drew) (fun h=>h),z.out.drew⟩
 ·clear o
  have f:=ae d;clear d;go_enter func22,ntmps22;go_wp2_with (go_quiet (fail));go_ret;exact ⟨0,k,rfl,by omega,by omega,by omega,fun h=>absurd h u,fun h=>h,f.out.frame ((Fr.refl (fun _=>False) w).drewN _) (fun h=>h),(Fr.refl _ w).drewN _⟩
def aCe {w:World} {p n k:Nat} {v:Value} (d:sC w p v k) (b:Fu w p v n) (lo hi:Int) (j: -1000<=lo) (l:lo<=hi) (m:hi<=1000):
 Calls prog 21 #[.pointer (some ⟨p,0,none⟩),.int .i64 lo,.int .i64 hi] w (alU w p v n k lo (hi+1)):=by
 have h:=ae d;have g:=ae b;clear d b;go_enter func21,ntmps21;go_wp2_with fail;refine (adO h.out g.out (hi-lo+1) (by omega) (by omega)).mono ?_;rintro e s ⟨r,i,rfl,q,o,a⟩;have f:=ae a;clear a;go_wp2_with fail;go_ret;exact ⟨lo+r,i,rfl,by omega,by omega,f.out⟩
def aCf {w:World} {v:Value} {a:Option Addr} {n c:Nat} (b:v= .slice a n c):
 Calls prog 17 #[v] w fun e w'=>e= .returned (.pointer (some ⟨w.heap.size,0,none⟩))/\sC w' w.heap.size v 0/\Fr (fun _=>False) w w':=by
 subst b;go_enter func17,ntmps17;go_wp2_with fail;go_ret;exact ⟨rfl,by show (w.heap.push _)[w.heap.size]? =_;simp,(Fr.refl _ w).alloc _⟩
end
section
open Go Go.RowKit
structure bI where
 k:Int
 a:Int
 b:Int
 n:Int
 t:ByteArray
def fZ (x:bI):List Value:= [.int .i64 x.k,.int .i64 x.a,.int .i64 x.b,.int .i64 x.n,.string x.t]
def gK (x:bI):Value:= .agg #[.int .i64 x.k,.int .i64 x.a,.int .i64 x.b,.int .i64 x.n,.string x.t]
def Cw (l:List bI):List Value:=l.flatMap fZ
def arity (k:Int):Nat:=if k<=4 then 0 else if 6<=k/\k<=9 then 2 else 1
def args (x:bI):List Int:=if arity x.k=0 then [] else if arity x.k=1 then [x.a] else [x.a,x.b]
def kinds {k:Int} (a:1<=k) (b:k<=16):k=1\/k=2\/k=3\/k=4\/k=5\/k=6\/k=7\/k=8\/k=9\/k=10\/k=11\/k=12\/k=13\/k=14\/k=15\/k=16:=by omega
def J8 {k:Int} (a:1<=k) (b:k<=16) (w:World):
 Calls Tryz.prog 69 #[.int .i64 k] w fun e d=>e= .returned (.int .i64 (arity k:Int))/\d=w:=by
 rcases kinds a b with rfl|rfl|rfl|rfl|rfl|rfl|rfl|rfl|rfl|rfl|rfl|rfl|rfl|rfl|rfl|rfl
 all_goals
  clear a b;go_enter Tryz.func69,Tryz.ntmps69;go_wp2;go_ret;exact ⟨rfl,rfl⟩
def MR (w:World) (x:bI) (v:Value) (w':World):Prop:=
 Below w.heap.size w w'/\w'.ownsRow w.heap.size 3 1 v (args x).length ((args x).map (.int .i64))
def adP {w:World} {x:bI} (h:arity x.k=0):MR w x (.slice none 0 0) (w.alloc (.cells ⟨fZ x⟩ 90)):=by
 refine ⟨(aG _ _).alloc (ak _) _,?_⟩;have:args x= []:=by unfold args;simp_all
 rw [this];exact World.ownsRow_nil _ _ _ _
def adQ {w:World} {x:bI} (h:arity x.k=1):MR w x (.slice (some ⟨w.heap.size+1,0,none⟩) 1 1) ((w.alloc (.cells ⟨fZ x⟩ 90)).alloc (.cells #[.int .i64 x.a] 3)):=by
 refine ⟨((aG _ _).alloc (ak _) _).alloc (by simp) _,?_⟩;have:args x= [x.a]:=by unfold args;simp_all
 rw [this];have:=World.ownsRow_lit (base:=w.heap.size) (e:=3) (size:=1) (w.alloc (.cells ⟨fZ x⟩ 90)) #[.int .i64 x.a] 1 (by simp) (by unfold maxLen;omega) rfl;simp_all
def adR {w:World} {x:bI} (h:arity x.k=2):MR w x (.slice (some ⟨w.heap.size+1,0,none⟩) 2 2) ((w.alloc (.cells ⟨fZ x⟩ 90)).alloc (.cells #[.int .i64 x.a,.int .i64 x.b] 3)):=by
 refine ⟨((aG _ _).alloc (ak _) _).alloc (by simp) _,?_⟩;have:args x= [x.a,x.b]:=by unfold args;simp_all
 rw [this];have:=World.ownsRow_lit (base:=w.heap.size) (e:=3) (size:=1) (w.alloc (.cells ⟨fZ x⟩ 90)) #[.int .i64 x.a,.int .i64 x.b] 2 (by simp) (by unfold maxLen;omega) rfl;simp_all
def Y6 {x:bI} (d:1<=x.k) (f:x.k<=16) (w:World):
 Calls Tryz.prog 55 #[gK x] w fun e j=> ∃v,e= .returned v/\MR w x v j:=by
 obtain ⟨k,a,b,n,t⟩:=x;have g:= @adP w ⟨k,a,b,n,t⟩;have h:= @adQ w ⟨k,a,b,n,t⟩;have i:= @adR w ⟨k,a,b,n,t⟩;have Q:=ae (af g (af h i));clear g h i;unfold gK;simp only at d f⊢;rcases kinds d f with rfl|rfl|rfl|rfl|rfl|rfl|rfl|rfl|rfl|rfl|rfl|rfl|rfl|rfl|rfl|rfl
 all_goals
  clear d f;go_enter Tryz.func55,Tryz.ntmps55;go_wp2;go_ret
  first|exact ⟨_,rfl,Q.out.1 rfl⟩|exact ⟨_,rfl,Q.out.2.1 rfl⟩|exact ⟨_,rfl,Q.out.2.2 rfl⟩
def adS {x:bI} (d:1<=x.k) (f:x.k<=16) (w:World):
 Calls Tryz.prog 180 #[gK x] w fun e m=> ∃v,e= .returned v/\MR w x v m:=by
 obtain ⟨k,a,b,n,t⟩:=x;have i:= @adP w ⟨k,a,b,n,t⟩;have j:= @adQ w ⟨k,a,b,n,t⟩;have l:= @adR w ⟨k,a,b,n,t⟩;have O:=fun w=>J8 d f w
 have Q:=ae (af i (af j (af l O)));clear i j l O;unfold gK;have g:(arity k:Int)=0\/(arity k:Int)=1\/(arity k:Int)=2:=by unfold arity;split;exact .inl rfl;split;exact .inr (.inr rfl);exact .inr (.inl rfl)
 simp only at d f Q⊢;rcases g with e|e|e
 all_goals
  have h:=ae (show arity k=_ from Int.ofNat.inj e);clear d f;go_enter Tryz.func180,Tryz.ntmps180;go_wp2_with fail;refine (Q.out.2.2.2 _).mono ?_;rintro o p ⟨rfl,rfl⟩;rw [e];clear e;go_wp2_with fail;go_ret
  first|exact ⟨_,rfl,Q.out.1 h.out⟩|exact ⟨_,rfl,Q.out.2.1 h.out⟩|exact ⟨_,rfl,Q.out.2.2.1 h.out⟩
def J9 {x:bI} (d:1<=x.k) (f:x.k<=16) (w:World):
 Calls Tryz.prog 65 #[gK x] w fun e j=> ∃v,e= .returned (.tuple #[v,.bool true])/\MR w x v j:=by
 obtain ⟨k,a,b,n,t⟩:=x;have g:= @adP w ⟨k,a,b,n,t⟩;have h:= @adQ w ⟨k,a,b,n,t⟩;have i:= @adR w ⟨k,a,b,n,t⟩;have Q:=ae (af g (af h i));clear g h i;unfold gK;simp only at d f⊢;rcases kinds d f with rfl|rfl|rfl|rfl|rfl|rfl|rfl|rfl|rfl|rfl|rfl|rfl|rfl|rfl|rfl|rfl
 all_goals
  clear d f;go_enter Tryz.func65,Tryz.ntmps65;go_wp2;go_ret2
  first|exact ⟨_,rfl,Q.out.1 rfl⟩|exact ⟨_,rfl,Q.out.2.1 rfl⟩|exact ⟨_,rfl,Q.out.2.2 rfl⟩
end
section
open Go Go.RowKit
def ints (l:List Int):List Value:=l.map (.int .i64)
def aCg (l:List Int):(ints l).length=l.length:=by simp [ints]
def PK {l:List Int} {i:Nat} (h:i<l.length):(ints l)[i]? =some (.int .i64 (l.getD i 0)):=by simp [ints,h]
def ints_set (l:List Int) (i:Nat) (x:Int):ints (l.set i x)=(ints l).set i (.int .i64 x):=by simp [ints,oJ]
structure iW (w:World) (B q:Nat) (v:Value) (l:List Int):Prop where
 blk:w.heap[q]? =some (.cells #[v] 210 (0,0))
 own:w.ownsRow B 3 1 v l.length (ints l)
 ne:v.ownBlock≠some q
def ptr (q:Nat):Value:= .pointer (some ⟨q,0,none⟩)
def J' (q:Nat):Value:= .iface 209 (ptr q)
section
variable {w w':World} {B q:Nat} {v:Value} {l:List Int}
def iW.cell (h:iW w B q v l):w.cell? ⟨q,0,none⟩=some v:=mD h.blk 0
def iW.frz (h:iW w B q v l):w.frozen? ⟨q,0,none⟩=false:=yw h.blk 0
def iW.lt (h:iW w B q v l):q<w.heap.size:=(au.1 h.blk).1
def iW.frame {S:Nat->Prop} (h:iW w B q v l) (a:Fr S w w') (b: ¬S q) (d: ∀k,v.ownBlock=some k-> ¬S k):iW w' B q v l:=
 ⟨(a.block q h.lt b).trans h.blk,oh h.own a d,h.ne⟩
def iW.quiet (h:iW w B q v l) (a:Fr (fun _=>False) w w'):iW w' B q v l:=h.frame a (fun e=>e) (fun _ _ e=>e)
def iW.form (h:iW w B q v l) (b:0<l.length): ∃g c,v= .slice (some ⟨g,0,none⟩) l.length c/\g≠q/\ ∀i,i<l.length->w.cell? ⟨g,i,none⟩=some (.int .i64 (l.getD i 0)):=by
 obtain ⟨g,c,rfl,_⟩:=MP h.own b;refine ⟨g,c,rfl,fun e=>h.ne (by rw [e];rfl),fun i a=> ?_⟩;rw [h.own.cellAt i (by omega),PK a]
def iW.slice (h:iW w B q v l): ∃a c,v= .slice a l.length c:=by
 rcases h.own.2 with ⟨rfl,e⟩|⟨g,c,_,rfl,_⟩
 all_goals grind
def adT (h:iW w B q v l):Calls Tryz.prog 146 #[ptr q] w fun e w'=>e= .returned (.int .i64 (l.length:Int))/\w'=w:=by
 obtain ⟨a,c,rfl⟩:=h.slice;have c0:=h.cell;clear h;unfold ptr;go_enter Tryz.func146,Tryz.ntmps146;go_wp2_with fail;go_ret;exact ⟨rfl,rfl⟩
def Uf (h:iW w B q v l) {i j:Nat} (hi:i<l.length) (d:j<l.length) (o:l.length<=10000):
 Calls Tryz.prog 414 #[ptr q,.int .i64 i,.int .i64 j] w fun e w'=>e= .returned (.bool (decide (l.getD j 0<l.getD i 0)))/\Fr (fun _=>False) w w':=by
 obtain ⟨g,c,rfl,p,hc⟩:=h.form (by omega);have c0:=h.cell;have k:=hc i hi;have m:=hc j d;clear h hc;obtain ⟨x,a⟩:=pS (l.getD i 0);obtain ⟨y,b⟩:=pS (l.getD j 0);obtain ⟨n,f⟩:=pS l.length;rw [a] at k;rw [b] at m;rw [a,b];rw [f] at hi d o c0;clear a b f p;have s:(0:Int)<=(i:Int):=by omega
 have t:(i:Int)<(n:Int):=by omega
 have u:(0:Int)<=(j:Int):=by omega
 have z:(j:Int)<(n:Int):=by omega
 unfold ptr;go_enter Tryz.func414,Tryz.ntmps414;go_wp2_with (go_quiet (fail));go_ret;exact ⟨rfl,(Fr.refl _ w).drewN _⟩
end
end
section
open Go.Proofs.Tryz Go Go.RowKit
section
variable {w w':World} {B q:Nat} {v:Value} {l:List Int}
def yx (l:List Int) (i j:Nat):List Int:=(l.set i (l.getD j 0)).set j (l.getD i 0)
def zM (l:List Int) (i j:Nat):(yx l i j).length=l.length:=by simp [yx]
def iW.store {g c n:Nat} (a:l.length=n) (h:iW w B q (.slice (some ⟨g,0,none⟩) n c) l) (i:Nat) (x:Int):iW (w.setCell ⟨g,i,none⟩ (.int .i64 x)) B q (.slice (some ⟨g,0,none⟩) n c) (l.set i x):=by
 subst a;have b:g≠q:=fun e=>h.ne (by rw [e];rfl)
 refine ⟨?_,?_,h.ne⟩
 ·rw [iJ _ _ _ _ (fun e=>b e.symm)];exact h.blk
 ·rw [bu,ints_set];exact (h.own.stored i (.int .i64 x)).1
def iW.drew (h:iW w B q v l):iW w.drew B q v l:=h.quiet ((Fr.refl _ w).drew)
def Ug (h:iW w B q v l) {i j:Nat} (hi:i<l.length) (m:j<l.length) (C:l.length<=10000):
 Calls prog 417 #[ptr q,.int .i64 i,.int .i64 j] w fun e w'=>e= .returned (.tuple #[])/\iW w' B q v (yx l i j)/\Fr (fun k=>v.ownBlock=some k) w w':=by
 have H:=ae h;obtain ⟨g,c,rfl,D,hc⟩:=h.form (by omega);have c0:=h.cell;have z:=hc i hi;have A:=hc j m;have F:=h.own.frozenAt i;have G:=h.own.frozenAt j;have b:=h.store rfl i (l.getD j 0);have d:(w.setCell ⟨g,i,none⟩ (.int .i64 (l.getD j 0))).cell? ⟨g,j,none⟩=some (.int .i64 (l.getD j 0)):=by
  have:=b.own;rw [bu] at this;rw [this.cellAt j (by omega),PK (by simpa using m)];rw [aD,List.getElem?_set];by_cases e:i=j
  ·subst e;simp [hi]
  ·simp [e]
 have f:(w.setCell ⟨g,i,none⟩ (.int .i64 (l.getD j 0))).frozen? ⟨g,j,none⟩=false:=by
  have:=b.own;rw [bu] at this;exact this.frozenAt j
 clear h hc b;obtain ⟨x,p⟩:=pS (l.getD i 0);obtain ⟨y,s⟩:=pS (l.getD j 0);obtain ⟨n,o⟩:=pS l.length;rw [p] at z;rw [s] at A d f;rw [o] at hi m C c0;have t:=ae p;have u:=ae s;have E:=ae o;clear p s o D;have I:(0:Int)<=(i:Int):=by omega
 have J:(i:Int)<(n:Int):=by omega
 have M:(0:Int)<=(j:Int):=by omega
 have N:(j:Int)<(n:Int):=by omega
 unfold ptr;go_enter func417,ntmps417;go_region
 all_goals
  go_wp2_with fail;refine bodyPost_end (results_none rfl _ _ _) rfl ?_;have R:=((H.out.store rfl i y).store (by simp) j x).drew;rw [<-t.out,<-u.out] at R⊢;exact ⟨rfl,R,(((Fr.refl (fun k=>some g=some k) w).setCell (a:=⟨g,i,none⟩) _ (fun _=>rfl)).setCell (a:=⟨g,j,none⟩) _ (fun _=>rfl)).drew⟩
def Tryz.info3:(prog.info? 3).map (fun i=>(i.zero,i.size,i.bytes))=some (some (.int .i64 0),1,8):=by kernel_rfl
def vW {w w':World} {b:Option Nat} (a:w.grownBy w' b):Fr (fun k=>b=some k) w w':=
 ⟨a.os,a.tape,a.output,a.size,fun k d f=>a.block k d (fun e=>f e.symm)⟩
def aCh {b:Array Oper} {o:Oper} {a:Act} {w:World} {K:Act->World->Prop} {Q:Exit->Act->World->Prop} {E:Prop} (M:o.guard=none) (s x:Operand) (F:o.op= .call {callee:= .builtin .append,args:= #[s,x],argTypes:= #[210,210]})
 (base:Nat) (J:base<=w.heap.size) (v:Value) (n:Nat) (xs:List Value) (G:a.eval s=v) (i:w.ownsRow base 3 1 v n xs) (B:Nat) (p:Value) (H:a.eval x= .slice (some ⟨B,0,none⟩) 1 1)
 (D:w.heap[B]? =some (.cells #[p] 3 (0,0))) (y:p.oneCell'=true) (N:n<=100000)
 (h: ∀g cap w',w'.ownsRow base 3 1 (.slice (some ⟨g,0,none⟩) (n+1) cap) (n+1) (xs++ [p])->Fr (fun k=>v.ownBlock=some k) w w'->(v.ownBlock=some g\/w.heap.size<=g)->
  K (a.put o.dst (.slice (some ⟨g,0,none⟩) (n+1) cap)) w'):
 if Region.wanted o (yielded b a.tmps)=true then Oper.wp prog o a w K Q else E:=by
 obtain ⟨I,f,m,t,j⟩:=info_parts Tryz.info3;refine step_append_lies w M s x 210 F base 3 I _ 1 8 underlying210 f m t j rfl (by omega) v n xs G i ⟨B,0,none⟩ 1 1 [p] H rfl (World.news_of_block (cs:= #[p]) D)
  (by intro u d;simp at d;rw [d];exact y) (by omega) (by unfold maxLen;omega) (by omega) J w.heap.size rfl ?_
 intro g cap w' z A C _;exact h g cap w' z (vW A) (C.imp id (fun e=>by omega))
def aCi {w f:World} {a:Option Addr} {n c b d:Nat} {o:Obj} {x:Int} (H:iW w B q (.slice a n c) l) (p:l.length=n)
 (g:f.ownsRow B 3 1 (.slice (some ⟨b,0,none⟩) (n+1) d) (n+1) (ints l++ [.int .i64 x])) (j:Fr (fun k=>(Value.slice a n c).ownBlock=some k) (w.alloc o).drew f)
 (u:(Value.slice a n c).ownBlock=some b\/(w.alloc o).drew.heap.size<=b):
 iW (f.setCell ⟨q,0,none⟩ (.slice (some ⟨b,0,none⟩) (n+1) d)) B q (.slice (some ⟨b,0,none⟩) (n+1) d) (l++ [x])/\
  (∀k,(Value.slice (some ⟨b,0,none⟩) (n+1) d).ownBlock=some k->(Value.slice a n c).ownBlock=some k\/w.heap.size<=k)/\
  Fr (fun k=>k=q\/(Value.slice a n c).ownBlock=some k) w (f.setCell ⟨q,0,none⟩ (.slice (some ⟨b,0,none⟩) (n+1) d)):=by
 have s:=H.lt;have t:(w.alloc o).drew.heap.size=w.heap.size+1:=by simp_all
 have i:b≠q:=by
  rintro rfl;rcases u with h|h
  ·exact H.ne h
  omega
 have y:f.heap[q]? =some (.cells #[.slice a n c] 210 (0,0)):=by
  rw [j.block q (by omega) H.ne];exact (((aG w.heap.size w).alloc (ak _) o).drew.block q s).trans H.blk
 refine ⟨⟨?_,?_,fun e=>i (by simpa [Value.ownBlock] using e)⟩,fun k m=> ?_,?_⟩
 ·unfold World.setCell
  grind
 ·rw [bp,p]
  have:ints (l++ [x])=ints l++ [.int .i64 x]:=by simp [ints]
  rw [this];exact ownsRow_setCell_other (a:=⟨q,0,none⟩) g (by simp [Value.ownBlock];omega) _
 ·have:b=k:=by simpa [Value.ownBlock] using m
  grind
 ·exact (((Fr.refl (fun k=>k=q\/(Value.slice a n c).ownBlock=some k) w).alloc o).drew.trans j (fun k _ e=> .inr e)).setCell _ (fun _=> .inl rfl)
def alV (x:Int) (w:World):Sem.run prog (Instr.typeAssert (.iface 3 (.int .i64 x)) 20 3 false) w= .ok (.int .i64 x) w:=by kernel_rfl
def aCj (h:iW w B q v l) (s:B<=w.heap.size) (D:l.length<=10000) (x:Int):
 Calls prog 416 #[ptr q,.iface 3 (.int .i64 x)] w fun e w'=>e= .returned (.tuple #[])/\ ∃y,iW w' B q y (l++ [x])/\(∀k,y.ownBlock=some k->v.ownBlock=some k\/w.heap.size<=k)/\Fr (fun k=>k=q\/v.ownBlock=some k) w w':=by
 have H:=ae h;have t:=h.lt;have HO:=ae h.own;have c0:=h.cell;have C:=h.frz;have b:=h.ne;obtain ⟨a,c,rfl⟩:=h.slice;obtain ⟨n,g⟩:=pS l.length;rw [g] at H HO c0 b D⊢;have A:=ae g;clear h g;have j:=ae b;have d:=ae (af s t);clear b s t;have u: ∀o,Below w.heap.size w (w.alloc o).drew:=fun o=>((aG _ w).alloc (ak _) o).drew
 have m:=ae u;clear u;have M:=alV x;have F:(w.alloc (.cells #[.int .i64 x] 3)).cell? ⟨q,0,none⟩=some (.slice a n c):=(((aG _ w).alloc (ak _) (.cells #[.int .i64 x] 3)).cell (p:=⟨q,0,none⟩) d.out.2).trans c0;unfold ptr;go_enter func416,ntmps416
 go_region_law (refine aCh (by rfl) _ _ (by rfl) B (by have:=d.out.1;simp;omega) _ _ _ (by rfl) ((HO.out.alloc _).drew) w.heap.size _ (by rfl) (heap_alloc_new w _) (by simp [Value.oneCell']) (by omega) ?_;intro G I z f i E;have J:z.cell? ⟨q,0,none⟩=some (.slice a n c):=i.cell (((m.out _).cell (p:=⟨q,0,none⟩) d.out.2).trans c0) j.out;have s2:z.frozen? ⟨q,0,none⟩=false:=(i.frozen (a:=⟨q,0,none⟩) (by have:=d.out.2;simp;omega) j.out).trans (((m.out _).frozen (p:=⟨q,0,none⟩) d.out.2).trans C))
 all_goals
  go_wp2_with fail;refine bodyPost_end (results_none rfl _ _ _) rfl ?_;have R:=aCi H.out A.out f i E;exact ⟨rfl,_,R⟩
def iW.cap {a:Addr} {n c:Nat} (h:iW w B q (.slice (some a) n c) l):n<=c:=by
 rcases h.own.2 with ⟨e,_⟩|⟨g,cap,cur,e,_,_,b,_⟩
 all_goals grind
def aCk {w:World} {g c m:Nat} (H:iW w B q (.slice (some ⟨g,0,none⟩) (m+1) c) l) (f:l.length=m+1):
 iW (w.setCell ⟨q,0,none⟩ (.slice (some ⟨g,0,none⟩) m c)) B q (.slice (some ⟨g,0,none⟩) m c) (l.take m):=by
 have h:g≠q:=fun e=>H.ne (by rw [e];rfl)
 refine ⟨?_,?_,H.ne⟩
 ·unfold World.setCell
  simp only [eL,H.blk];simp
 ·have b:=ownsRow_setCell_other (a:=⟨q,0,none⟩) H.own (by simp [Value.ownBlock];omega) (.slice (some ⟨g,0,none⟩) m c)
  rw [f] at b;have e:ints l=ints (l.take m)++ints (l.drop m):=by simp [ints]
  rw [e] at b;have d:(l.take m).length=m:=by simp [f]
  rw [d];exact ownsRow_pop (by rw [aCg,d];simp) b
def aCl {m:Nat} (h:iW w B q v l) (a:l.length=m+1) (u:m<=10000):
 Calls prog 415 #[ptr q] w fun e w'=>e= .returned (.iface 3 (.int .i64 (l.getD m 0)))/\ ∃d,iW w' B q d (l.take m)/\d.ownBlock=v.ownBlock/\Fr (fun k=>k=q) w w':=by
 have H:=ae h;obtain ⟨g,c,rfl,s,hc⟩:=h.form (by omega);have c0:=h.cell;have t:=h.frz;have p:=hc m (by omega);have f:=h.cap;rw [a] at c0 H f;have i:=ae a;have o:m<=c:=by omega
 have j:(m:Int)<=(c:Int):=by omega
 clear f;clear h hc s a;obtain ⟨x,b⟩:=pS (l.getD m 0);rw [b] at p⊢;clear b;have y:(0:Int)<=(m:Int):=by omega
 unfold ptr;go_enter func415,ntmps415;go_wp2_with fail;go_ret;exact ⟨rfl,_,aCk H.out i.out,rfl,(Fr.refl _ w).setCell _ (fun _=>rfl)⟩
end
end
section
open Go Go.RowKit
variable {l:List Int} {j i:Nat}
def PL (l:List Int) (j:Nat):Prop:=
 (∀i,0<i->i<l.length->i≠j->l.getD i 0<=l.getD ((i-1)/2) 0)/\
 (0<j-> ∀i,0<i->i<l.length->(i-1)/2=j->l.getD i 0<=l.getD ((j-1)/2) 0)
def HO (l:List Int):Prop:= ∀i,0<i->i<l.length->l.getD i 0<=l.getD ((i-1)/2) 0
def xC (hi:i<l.length) (a:j<l.length) (k:Nat):(yx l i j).getD k 0=if k=j then l.getD i 0 else if k=i then l.getD j 0 else l.getD k 0:=by
 unfold yx;grind
def Hn {x:Int} :x∈l↔ ∃k,k<l.length/\l.getD k 0=x:=by
 rw [List.mem_iff_getElem?];grind
def alW (hi:i<l.length) (a:j<l.length) (x:Int):x∈yx l i j↔x∈l:=by
 rw [Hn,Hn];constructor
 ·rintro ⟨k,e,f⟩
  rw [zM] at e;rw [xC hi a] at f;grind
 ·rintro ⟨k,e,f⟩
  by_cases b:k=j
  ·subst b
   refine ⟨i,by rw [zM];omega,?_⟩;rw [xC hi a];simp_all
  ·by_cases d:k=i
   ·subst d
    exact ⟨j,by rw [zM];omega,by rw [xC hi a,if_pos rfl];omega⟩
   ·exact ⟨k,by rw [zM];omega,by rw [xC hi a,if_neg b,if_neg d];omega⟩
def alX (h:PL l j) (d:j=0\/ ¬l.getD ((j-1)/2) 0<l.getD j 0):HO l:=fun i a b=>by
 by_cases e:i=j
 ·grind
 ·exact h.1 i a b e
def aCm (h:PL l j) (q:0<j) (b:j<l.length) (s:l.getD ((j-1)/2) 0<l.getD j 0):PL (yx l ((j-1)/2) j) ((j-1)/2):=by
 have a:(j-1)/2<l.length:=by omega
 obtain ⟨m,o⟩:=h;refine ⟨fun i f d e=> ?_,fun k i f d p=> ?_⟩
 ·rw [zM] at d
  rw [xC a b,xC a b]
  all_goals grind
 ·rw [zM] at d
  rw [xC a b,xC a b];have g:((j-1)/2-1)/2≠j:=by omega
  all_goals grind
end
section
open Go.Proofs.Tryz Go Go.RowKit
variable {l l':List Int} {w wr w1:World} {B q:Nat} {v:Value}
def PM (w:World) (B q:Nat) (v:Value) (l:List Int) (l':List Int) (wr:World):Prop:=
 iW wr B q v l'/\l'.length=l.length/\(∀x,x∈l'↔x∈l)/\Fr (fun k=>v.ownBlock=some k) w wr
def aCn (h:PM w B q v l l' wr) (a:Fr (fun _=>False) wr w1):PM w B q v l l' w1:=
 ⟨h.1.quiet a,h.2.1,h.2.2.1,h.2.2.2.trans a (fun _ _ e=>e.elim)⟩
def aCo {i j:Nat} (h:PM w B q v l l' wr) (hi:i<l'.length) (d:j<l'.length) (a:iW w1 B q v (yx l' i j)) (b:Fr (fun k=>v.ownBlock=some k) wr w1):PM w B q v l (yx l' i j) w1:=
 ⟨a,by rw [zM];exact h.2.1,fun x=>(alW hi d x).trans (h.2.2.1 x),h.2.2.2.trans b (fun _ _ e=>e)⟩
def alY (q:Nat): ∀(n:Nat) (w:World),Sem.run prog (method (n+1) 209 (.pointer (some ⟨q,0,none⟩)) "Less") w= .ok (414,.pointer (some ⟨q,0,none⟩)) w:=fun _ _=>by kernel_rfl
def adV (q:Nat): ∀(n:Nat) (w:World),Sem.run prog (method (n+1) 209 (.pointer (some ⟨q,0,none⟩)) "Swap") w= .ok (417,.pointer (some ⟨q,0,none⟩)) w:=fun _ _=>by kernel_rfl
def alZ (q:Nat): ∀(n:Nat) (w:World),Sem.run prog (method (n+1) 209 (.pointer (some ⟨q,0,none⟩)) "Len") w= .ok (146,.pointer (some ⟨q,0,none⟩)) w:=fun _ _=>by kernel_rfl
def aCp (q:Nat): ∀(n:Nat) (w:World),Sem.run prog (method (n+1) 209 (.pointer (some ⟨q,0,none⟩)) "Push") w= .ok (416,.pointer (some ⟨q,0,none⟩)) w:=fun _ _=>by kernel_rfl
def aCq (q:Nat): ∀(n:Nat) (w:World),Sem.run prog (method (n+1) 209 (.pointer (some ⟨q,0,none⟩)) "Pop") w= .ok (415,.pointer (some ⟨q,0,none⟩)) w:=fun _ _=>by kernel_rfl
def aCr (h:iW w B q v l) (j:Nat) (J:j<l.length) (N:l.length<=10000) (O:PL l j):
 Calls prog 200 #[J' q,.int .i64 j] w fun e X=>e= .returned (.tuple #[])/\ ∃l',PM w B q v l l' X/\HO l':=by
 have H:=ae h;have x:=ae O;have u:=ae (af J N);clear h O J N;have rl:=alY q;have rs:=adV q;unfold J' ptr;go_enter func200,ntmps200;go_wp2_with fail;go_loopw [1] (fun D wr=> ∃k l',D= .int .i64 ((k:Nat):Int)/\k<l'.length/\PM w B q v l l' wr/\PL l' k) (fun D _=>(intOf D).toNat)
 case atStart=>exact ⟨j,l,rfl,u.out.1,⟨H.out,rfl,fun _=>jY,Fr.refl _ _⟩,x.out⟩
 case round=>
  obtain ⟨k,l',rfl,M,C,Q⟩:=hrel;have o:=ae C;have y:=ae Q;have d:=ae M;have W:k<=10000:=by have:=C.2.1;have:=u.out.2;omega
  clear C Q M;by_cases E:k=0
  ·subst E
   go_wp2_with fail;refine bodyPost_end (results_none rfl _ _ _) rfl ?_;exact ⟨rfl,_,o.out,alX y.out (.inl rfl)⟩
  ·obtain ⟨p,P⟩:=pS ((k-1)/2)
   obtain ⟨m,A⟩: ∃m:Int,(k:Int)-1=m:=⟨_,rfl⟩;have Y:IntKind.i64.wrap ((k:Int)-1)=m:=by rw [<-A];exact aB _ ⟨by omega,by omega⟩
   have Z:IntKind.i64.wrap (m.tdiv 2)=(p:Int):=by
    rw [<-A,IntWalk.i64_quo _ _ ⟨by omega,by omega,by omega⟩];omega
   have g:p<k:=by omega
   have U:((p:Int)==(k:Int))=false:=by simp;omega
   have G:=ae P;have a:=ae (af g E);clear P A g E W;go_wp2_with fail;have t:p<l'.length:=by have:=a.out.1;have:=d.out;omega
   have F:l'.length<=10000:=by have:=o.out.2.1;have:=u.out.2;omega
   refine (Uf o.out.1 d.out t F).mono ?_;rintro e w1 ⟨rfl,R⟩;have z:=ae (aCn o.out R);have i:=ae (af t F);clear R t F;by_cases b:l'.getD p 0<l'.getD k 0
   ·have f:decide (l'.getD p 0<l'.getD k 0)=true:=by simpa using b
    rw [f];have s:=ae b;clear b f;go_wp2_with fail;refine (Ug z.out.1 i.out.1 d.out i.out.2).mono ?_;rintro e w2 ⟨rfl,I,S⟩;have T:=ae (aCo z.out i.out.1 d.out I S);clear I S;go_wp2_with fail;go_roundw
    case rel=>exact ⟨p,_,rfl,by rw [zM];exact i.out.1,T.out,by rw [<-G.out] at s⊢;exact aCm y.out (by have:=a.out.2;omega) d.out s.out⟩
    case measure=>have:=a.out.1;simp [intOf];omega
   ·have f:decide (l'.getD p 0<l'.getD k 0)=false:=by simpa using b
    rw [f];have s:=ae b;clear b f;go_wp2_with fail;refine bodyPost_end (results_none rfl _ _ _) rfl ?_;exact ⟨rfl,_,z.out,alX y.out (.inr (by rw [G.out];exact jM.2 s.out))⟩
def aCs (h:HO l) (x:Int):PL (l++ [x]) l.length:=by
 have g: ∀i,i<l.length->(l++ [x]).getD i 0=l.getD i 0:=fun i a=>by
  grind
 refine ⟨fun i b d e=> ?_,fun _ i b d e=> ?_⟩
 ·have a:i<l.length:=by grind
  rw [g i a,g _ (by omega)];exact h i b a
 grind
def al0 (h:iW w B q v l) (s:B<=w.heap.size) (t:l.length<10000) (u:HO l) (x:Int):
 Calls prog 148 #[J' q,.iface 3 (.int .i64 x)] w fun e F=>e= .returned (.tuple #[])/\ ∃E l',iW F B q E l'/\HO l'/\l'.length=l.length+1/\(∀y,y∈l'↔y=x\/y∈l)/\
  (∀k,E.ownBlock=some k->v.ownBlock=some k\/w.heap.size<=k)/\Fr (fun k=>k=q\/v.ownBlock=some k) w F:=by
 have H:=ae h;have d:=ae (af u (af s t));clear h u s t;have O:=aCp q;have N:=alZ q;unfold J';unfold ptr;go_enter func148,ntmps148;go_wp2_with fail;refine (aCj H.out d.out.2.1 (by have:=d.out.2.2;omega) x).mono ?_;rintro e w1 ⟨rfl,G,p,D,C⟩;have j:=ae p;have i:=ae (af D C);clear p D C;go_wp2_with fail;refine (adT j.out).mono ?_;rintro e P ⟨rfl,rfl⟩;have a:(((l++ [x]).length:Nat):Int)-1=(l.length:Int):=by simp
 obtain ⟨n,f⟩:=pS ((l++ [x]).length);obtain ⟨m,g⟩:=pS l.length;rw [f,g] at a;rw [f];have M:IntKind.i64.wrap ((n:Int)-1)=(m:Int):=by rw [a];exact aB _ ⟨by omega,by have:=d.out.2.2;omega⟩
 have I:=ae f;have o:=ae g;clear f g a;go_wp2_with fail;refine (aCr j.out m (by rw [<-o.out];simp) (by have:=d.out.2.2;simp;omega) (by rw [<-o.out];exact aCs d.out.1 x)).mono ?_;rintro e Q ⟨rfl,l',z,A⟩;have b:=ae (af z A);clear z A;go_wp2_with fail;refine bodyPost_end (results_none rfl _ _ _) rfl ?_;refine ⟨rfl,G,l',b.out.1.1,b.out.2,by rw [b.out.1.2.1];simp,fun y=>(b.out.1.2.2.1 y).trans (by simp [or_comm]),i.out.1,?_⟩;refine i.out.2.trans b.out.1.2.2.2 fun k J e=> ?_
 rcases i.out.1 k e with h|h
 ·exact .inr h
 ·omega
end
section
open Go Go.RowKit
variable {l l':List Int} {n j c B q i:Nat} {w wr w1:World} {v:Value}
def MU (l:List Int) (n c:Nat):Prop:=
 (∀i,0<i->i<n->(i-1)/2≠c->l.getD i 0<=l.getD ((i-1)/2) 0)/\
 (0<c-> ∀i,0<i->i<n->(i-1)/2=c->l.getD i 0<=l.getD ((c-1)/2) 0)
def Ui (l:List Int) (n:Nat):Prop:= ∀i,0<i->i<n->l.getD i 0<=l.getD ((i-1)/2) 0
def aCt (h:MU l n c) (hc:n<=2*c+1):Ui l n:=fun i a b=>h.1 i a b (by omega)
def adW (h:MU l n c) (d: ∀i,0<i->i<n->(i-1)/2=c->l.getD i 0<=l.getD j 0) (f: ¬l.getD c 0<l.getD j 0):Ui l n:=fun i a b=>by
 by_cases e:(i-1)/2=c
 ·grind
 ·exact h.1 i a b e
def adX (h:MU l n c) (u:n<=l.length) (t: ∀i,0<i->i<n->(i-1)/2=c->l.getD i 0<=l.getD j 0) (k:j<n) (f:(j-1)/2=c) (y:0<j) (x:l.getD c 0<l.getD j 0):MU (yx l c j) n j:=by
 have hc:c<l.length:=by omega
 have a:j<l.length:=by omega
 obtain ⟨o,p⟩:=h;refine ⟨fun i g e b=> ?_,fun _ i g e s=> ?_⟩
 ·rw [xC hc a,xC hc a]
  rw [if_neg b];by_cases d:i=j
  ·omega
  ·rw [if_neg d]
   by_cases m:i=c
   all_goals grind
 ·rw [xC hc a,xC hc a]
  grind
def MV (w:World) (B q:Nat) (v:Value) (n:Nat) (l:List Int) (l':List Int) (wr:World):Prop:=
 iW wr B q v l'/\l'.length=l.length/\(∀x,(∃k,k<n/\l'.getD k 0=x)↔(∃k,k<n/\l.getD k 0=x))/\(∀k,n<=k->l'.getD k 0=l.getD k 0)/\Fr (fun k=>v.ownBlock=some k) w wr
def Y' (h:MV w B q v n l l' wr) (a:Fr (fun _=>False) wr w1):MV w B q v n l l' w1:=
 ⟨h.1.quiet a,h.2.1,h.2.2.1,h.2.2.2.1,h.2.2.2.2.trans a (fun _ _ e=>e.elim)⟩
def aCu (b:n<=l.length) (hi:i<n) (a:j<n) (x:Int):(∃k,k<n/\(yx l i j).getD k 0=x)↔(∃k,k<n/\l.getD k 0=x):=by
 have g:=fun k=>xC (l:=l) (i:=i) (j:=j) (by omega) (by omega) k
 grind
def adY (h:MV w B q v n l l' wr) (g:n<=l'.length) (hi:i<n) (d:j<n) (a:iW w1 B q v (yx l' i j)) (b:Fr (fun k=>v.ownBlock=some k) wr w1):MV w B q v n l (yx l' i j) w1:=
 ⟨a,by rw [zM];exact h.2.1,fun x=>(aCu g hi d x).trans (h.2.2.1 x),fun k f=>by rw [xC (by omega) (by omega),if_neg (by omega),if_neg (by omega)];exact h.2.2.2.1 k f,h.2.2.2.2.trans b (fun _ _ e=>e)⟩
end
end Go.Proofs.YthleenhngcdgkaaGreatDoor
