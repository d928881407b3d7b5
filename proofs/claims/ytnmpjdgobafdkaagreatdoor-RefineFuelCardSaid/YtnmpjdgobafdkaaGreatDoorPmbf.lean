/- refineFuel_proved. -/
import Derived.Test.YtnmpjdgobafdkaaGreatDoorPmbe
import Derived.Test.YtnmpjdgobafdkaaGreatDoorPmbd
import Derived.WalkKit
import Derived.WalkSpells
import Derived.WalkLawsBesides
import Derived.BigQuiet
import Derived.Lib.Hide
import Derived.IntWalk
import Derived.Maps.AppendAt
import Derived.Deep.LoopGhost
import Derived.Deep.RegionHeld3
import Derived.WalkSmall
import Derived.OneCell
set_option maxRecDepth 100000
set_option maxHeartbeats 16000000
set_option linter.all false
noncomputable section
namespace Go.Proofs.YtnmpjdgobafdkaaGreatDoor
section
open Go.RowKit Go.Ev
def smR:List (Nat×List Nat):= [(3,[0,1]),(3,[2,3]),(1,[0,1,2,3]),(4,[0,1]),(4,[2,3])]
def acV (f:FuncId):List BD->Cn:=fun _=>⟨some f,[zz 65536,eb,zz 65536,eb,m64],smR,[.v (.z 0) (.i 1) (.z 2) (.i 3),ki 4],dK [zz 65536,eb,zz 65536,eb,.i 0 11] (.t (.v (.z 5) (.i 6) (.z 7) (.i 8)) (ki 9))⟩
def aAu:=acV 195
def aAv:=acV 196
def akR {f:FuncId} (h: ∀ {m e n g w:Int},S4 m e n g-> ∃t,VT t/\bJ Tryz.prog bw f [nB m e n g,bj (.int .i64 w)] (o9 (nB t.1.1 t.1.2 t.2.1.1 t.2.1.2) (bj (.int .i64 t.2.2)))) (l:List BD):Holds (acV f l):=fun L a b=>by
 obtain ⟨m,e,L,rfl,s,a⟩:=tz a;obtain ⟨n,g,L,rfl,u,a⟩:=tz a;obtain ⟨w,L,rfl,_,_,a⟩:=qq a;obtain rfl:L= []:=a;have y:RP 3 [m,e]:=b _ aE;have A:RP 3 [n,g]:=b _ (aw _ aE);have B:RP 1 [m,e,n,g]:=b _ (aw _ (aw _ aE));have C:RP 4 [m,e]:=b _ (aw _ (aw _ (aw _ aE)));have D:RP 4 [n,g]:=b _ (aw _ (aw _ (aw _ (aw _ aE))));obtain ⟨t,d,x⟩:=h (w:=w) (⟨y,A,B,C,D,s,u⟩:S4 m e n g);obtain ⟨j,k,o⟩:=De d.1;obtain ⟨b1,p,q⟩:=De d.2.1;exact ⟨_,jc _,[.z t.1.1,.i t.1.2,.z t.2.1.1,.i t.2.1.2,.i t.2.2],pS sQ j (oU k o (pS sQ b1 (oU p q (oU d.2.2.1 d.2.2.2 gH)))),jN,iG,jt x⟩
def aAw:bo:=mk aAu (akR aAs)
def aAx:bo:=mk aAv (akR aAt)
def aAy:=yJ [xL,aAw,xM] [95,147,187,198,185,234,251,233,188] 9 Tryz.f54 [zz 65536,eb,zz 65536,eb,.i 0 11,m64,.i 0 0,ww] [] ⟨[⟨2049,110,7,.out (.z 0) (.i 1) (.z 2) (.i 3) (.i 4)⟩],[(0,.nd 14 (.i 5) (.l 0) (.l 0) []),(2,ki 7)]⟩ [⟨[zz 65536,eb,zz 65536,eb,.i 0 11],[],[],.out (.z 8) (.i 9) (.z 10) (.i 11) (.i 12)⟩] 0x1904f1634003f944f00540180a3f1201fc0211fd8100840000420c50400420c71421404ff54034e3d04450baf00ebc03c09500824a2cc
def aAz:=yJ [xL,aAx,xM] [95,147,187,198,185,234,251,233,188] 9 Tryz.f54 [zz 65536,eb,zz 65536,eb,.i 0 11,m64,.i 0 0,ww] [] ⟨[⟨2049,110,7,.out (.z 0) (.i 1) (.z 2) (.i 3) (.i 4)⟩],[(0,.nd 15 (.i 5) (.l 0) (.l 0) []),(2,ki 7)]⟩ [⟨[zz 65536,eb,zz 65536,eb,.i 0 11],[],[],.out (.z 8) (.i 9) (.z 10) (.i 11) (.i 12)⟩] 0x1904f1634003f944f00540180a3f1201fc0211fd8100840000420c50400420c71421404ff54034e3d04450baf00ebc03c09500824a2cc
def aAA:=BG [Df,BJ,awS,BL] [] 9 140 [m64,m64,m64,.ra,zz 1024,.n false 1024,.i 0 2] [(10,[6,5])] [.nd 5 (.i 0) (.l 0) (.l 0) [],.fc 141 3] [nG 7 8,nF 7 8 0,nF 7 8 2] [⟨141,[.i (.i 0),.ra 3],wD 4 5 6⟩] 0x400241bc1120baee51bc09207aec2046147084147200f00f0008324a4802cc4812cc4822cc481ebb482ebb
def aAB:=BG [BJ,awT,BL] [] 9 140 [m64,m64,m64,.ra,zz 1024,.n false 1024,.i 0 2,zz 1024,.n false 1024,.i 0 2] [(10,[6,5]),(10,[9,8])] [.nd 6 (.i 0) (.i 1) (.l 0) [],.fc 141 3] [nG 10 11,nF 10 11 0,nF 10 11 2] [⟨141,[.i (.i 0),.ra 3],wD 4 5 6⟩,⟨141,[.i (.i 1),.ra 3],wD 7 8 9⟩] 0x19061800bf909f04482ebb9461800bf949f02481ebb0801850802481c11051c8001f0008228b48030d48130d48230d481ebb482ebb
def aAC:=BG [BJ,awU,BL] [] 9 140 [m64,m64,m64,.ra,zz 1024,.n false 1024,.i 0 2,zz 1024,.n false 1024,.i 0 2] [(10,[6,5]),(10,[9,8])] [.nd 7 (.i 0) (.i 1) (.l 0) [],.fc 141 3] [nG 10 11,nF 10 11 0,nF 10 11 2] [⟨141,[.i (.i 0),.ra 3],wD 4 5 6⟩,⟨141,[.i (.i 1),.ra 3],wD 7 8 9⟩] 0x19061800bf909f04482ebb9461800bf949f02481ebb0801850802481c11051c8001f0008228b48030d48130d48230d481ebb482ebb
def aAD:=BG [BJ,awV,BL] [] 9 140 [m64,m64,m64,.ra,zz 1024,.n false 1024,.i 0 2,zz 1024,.n false 1024,.i 0 2] [(10,[6,5]),(10,[9,8])] [.nd 8 (.i 0) (.i 1) (.l 0) [],.fc 141 3] [nG 10 11,nF 10 11 0,nF 10 11 2] [⟨141,[.i (.i 0),.ra 3],wD 4 5 6⟩,⟨141,[.i (.i 1),.ra 3],wD 7 8 9⟩] 0x19061800bf909f04482ebb9461800bf949f02481ebb0801850802481c11051c8001f0008228b48030d48130d48230d481ebb482ebb
def aAE:=BG [BJ,wI,awW,BL] [] 9 140 [m64,m64,m64,.ra,zz 1024,.n false 1024,.i 0 2,zz 1024,.n false 1024,.i 0 2] [(10,[6,5]),(10,[9,8])] [.nd 9 (.i 0) (.i 1) (.l 0) [],.fc 141 3] [nG 10 11,nF 10 11 0,nF 10 11 2] [⟨141,[.i (.i 0),.ra 3],wD 4 5 6⟩,⟨141,[.i (.i 1),.ra 3],wD 7 8 9⟩] 0x641bc20003f1120baee41403ff2480811c8c001bf48083f0801851c21051c8001f0008328b48030d48130d48230d481ebb482ebb9461800bf949f02481ebb
def aAF:=BG [Df,BJ,awX,BL] [] 9 140 [m64,m64,m64,.ra,zz 1024,.n false 1024,.i 0 2] [(10,[6,5])] [.nd 10 (.i 0) (.l 0) (.i 2) [],.fc 141 3] [nG 7 8,nF 7 8 0,nF 7 8 2] [⟨141,[.i (.i 0),.ra 3],wD 4 5 6⟩] 0x1000906f04482ebb946f02481ebb0811851c21051c803c00208324a4802cc4812cc4822cc481ebb482ebb
def aAG:=BG [Df,BJ,awY,BL] [] 9 140 [m64,m64,m64,.ra,zz 1024,.n false 1024,.i 0 2] [(10,[6,5])] [.nd 11 (.i 0) (.l 0) (.l 0) [],.fc 141 3] [nG 7 8,nF 7 8 0,nF 7 8 2] [⟨141,[.i (.i 0),.ra 3],wD 4 5 6⟩] 0x400241bc1120baee51bc09207aec2046147084147200f00f0008324a4802cc4812cc4822cc481ebb482ebb
def aAH:=BG [Df,BJ,awZ,BL] [] 9 140 [m64,m64,m64,.ra,zz 1024,.n false 1024,.i 0 2] [(10,[6,5])] [.nd 12 (.i 0) (.l 0) (.l 0) [],.fc 141 3] [nG 7 8,nF 7 8 0,nF 7 8 2] [⟨141,[.i (.i 0),.ra 3],wD 4 5 6⟩] 0x400241bc1120baee51bc09207aec2046147084147200f00f0008324a4802cc4812cc4822cc481ebb482ebb
def aAI:=BG [Df,BJ,aw0,BL] [] 9 140 [m64,m64,m64,.ra,zz 1024,.n false 1024,.i 0 2] [(10,[6,5])] [.nd 13 (.i 0) (.l 0) (.l 0) [],.fc 141 3] [nG 7 8,nF 7 8 0,nF 7 8 2] [⟨141,[.i (.i 0),.ra 3],wD 4 5 6⟩] 0x400241bc1120baee51bc09207aec2046147084147200f00f0008324a4802cc4812cc4822cc481ebb482ebb
def aAJ:=BG [Df,BJ,aw1,BL] [] 9 140 [m64,m64,m64,.ra,zz 1024,.n false 1024,.i 0 2] [(10,[6,5])] [.nd 14 (.i 0) (.l 0) (.l 0) [],.fc 141 3] [nG 7 8,nF 7 8 0,nF 7 8 2] [⟨141,[.i (.i 0),.ra 3],wD 4 5 6⟩] 0x400241bc1120baee51bc09207aec2046147084147200f00f0008324a4802cc4812cc4822cc481ebb482ebb
def aAK:=BG [Df,BJ,aw2,BL] [] 9 140 [m64,m64,m64,.ra,zz 1024,.n false 1024,.i 0 2] [(10,[6,5])] [.nd 15 (.i 0) (.l 0) (.l 0) [],.fc 141 3] [nG 7 8,nF 7 8 0,nF 7 8 2] [⟨141,[.i (.i 0),.ra 3],wD 4 5 6⟩] 0x400241bc1120baee51bc09207aec2046147084147200f00f0008324a4802cc4812cc4822cc481ebb482ebb
def aAL:=BG [Df,BJ,aw3,BL] [] 9 140 [m64,m64,m64,.ra,zz 1024,.n false 1024,.i 0 2] [(10,[6,5])] [.nd 16 (.i 0) (.l 0) (.l 0) [],.fc 141 3] [nG 7 8,nF 7 8 0,nF 7 8 2] [⟨141,[.i (.i 0),.ra 3],wD 4 5 6⟩] 0x400241bc1120baee51bc09207aec2046147084147200f00f0008324a4802cc4812cc4822cc481ebb482ebb
def aAM:bo:=cB [] [] 0 140 [.ra] [] [.nd 3 (.l 0) (.l 0) (.l 0) [],.fc 141 0] [nG 1 2,nF 1 2 0,nF 1 2 2] 21503675
def aAN:bo:=cB [] [] 0 140 [.ra] [] [.nd 4 (.l 0) (.l 0) (.l 0) [],.fc 141 0] [nG 1 2,nF 1 2 0,nF 1 2 2] 21503675
def yS:List FuncId:= [113,117,111,112,114,158,208,262,159,160,161,165,164,209,263,316]
def aAO:bo:=mk (fun _=>⟨some 225,[zz 100,.n true 100],[],[.r (.z 0) (.n 1)],[⟨[],[],[],.b true⟩]⟩) fun _ L a _=>by
 obtain ⟨x,L,rfl,m,d,a⟩:=m5 a;obtain ⟨y,L,rfl,o,f,a⟩:=sP a;obtain rfl:L= []:=a;have c1:=ajR d f;have g:eN x.natAbs<=100:=by
  obtain ⟨b,h,e,_⟩:=F7 (n:=x.natAbs) (k:=100) d (by decide);rw [<-e];exact h
 have j:eN y<=100:=by
  obtain ⟨b,h,e,_⟩:=F7 f (by decide);rw [<-e];exact h
 refine ⟨_,jc _,[],gH,jN,iG,jt (fP [.z x,.n y,.i (max ((eN x.natAbs:Nat):Int) ((eN y:Nat):Int))] [] 0 [.cm .leq (.i 2) (.l 1024) true] [⟨275,[.r (.z 0) (.n 1)],.i (.i 2)⟩] [.r (.z 0) (.n 1)] (.b true) (by kernel_rfl) (.k ?_ .nil) (.k c1 .nil))⟩;exact decide_eq_true (by show max ((eN x.natAbs:Nat):Int) ((eN y:Nat):Int)<=1024;omega)
def yT:bo:=cB [aAO] [] 0 180 [zz 100,.n true 100] [] [cM 0 1,.b true] [nG 2 3] 0x1080001480001
def aAP:bo:=cB [yL,(lx false),qs,wH] yS 8 65 [] [] [.lv (.str [48])] [⟨[zz 100,.n true 100],[],[],.t (cM 0 1) (.i (.l 0))⟩] 0x10c0efe28003e0000010400020830424800c4
def aAQ:bo:=cB [aAP,yT] [] 0 140 [.ra] [] [.nd 1 (.l 0) (.l 0) (.l 0) [48],.fc 141 0] [nG 1 2] 0x10000810424800c4
def aAR:bo:=cB [yL,(lx false),qs,wH] yS 8 65 [] [] [.lv (.str [49])] [⟨[zz 100,.n true 100],[],[],.t (cM 0 1) (.i (.l 0))⟩] 0x10c0efe28003e0400010400020830424800c4
def aAS:bo:=cB [aAR,yT] [] 0 140 [.ra] [] [.nd 1 (.l 0) (.l 0) (.l 0) [49],.fc 141 0] [nG 1 2] 0x10000810424800c4
def aAT:bo:=cB [yL,(lx false),qs,wH] yS 8 65 [] [] [.lv (.str [50])] [⟨[zz 100,.n true 100],[],[],.t (cM 0 1) (.i (.l 0))⟩] 0x10c0efe28003e0800010400020830424800c4
def aAU:bo:=cB [aAT,yT] [] 0 140 [.ra] [] [.nd 1 (.l 0) (.l 0) (.l 0) [50],.fc 141 0] [nG 1 2] 0x10000810424800c4
def aAV:bo:=cB [yL,(lx false),qs,wH] yS 8 65 [] [] [.lv (.str [51])] [⟨[zz 100,.n true 100],[],[],.t (cM 0 1) (.i (.l 0))⟩] 0x10c0efe28003e0c00010400020830424800c4
def aAW:bo:=cB [aAV,yT] [] 0 140 [.ra] [] [.nd 1 (.l 0) (.l 0) (.l 0) [51],.fc 141 0] [nG 1 2] 0x10000810424800c4
def aAX:bo:=cB [yL,(lx false),qs,wH] yS 8 65 [] [] [.lv (.str [48,46,53])] [⟨[zz 100,.n true 100],[],[],.t (cM 0 1) (.i (.l 0))⟩] 0x10c0ec500bfc5000041000083002f8a000f80000083043480105
def aAY:bo:=cB [aAX,yT] [] 0 140 [.ra] [] [.nd 1 (.l 0) (.l 0) (.l 0) [48,46,53],.fc 141 0] [nG 1 2] 0x10000810424800c4
def aAZ:bo:=cB [yL,(lx false),qs,wH] yS 8 65 [] [] [.lv (.str [49,46,50,53])] [⟨[zz 100,.n true 100],[],[],.t (cM 0 1) (.i (.l 0))⟩] 0x10c0efea1003e1420010400020c0088003fc3003f8a000f80000083044480146
def aA0:bo:=cB [aAZ,yT] [] 0 140 [.ra] [] [.nd 1 (.l 0) (.l 0) (.l 0) [49,46,50,53],.fc 141 0] [nG 1 2] 0x10000810424800c4
def aA1:bo:=cB [yL,(lx false),qs,wH] yS 8 65 [] [] [.lv (.str [55])] [⟨[zz 100,.n true 100],[],[],.t (cM 0 1) (.i (.l 0))⟩] 0x10c0efe28003e1c00010400020830424800c4
def aA2:bo:=cB [aA1,yT] [] 0 140 [.ra] [] [.nd 1 (.l 0) (.l 0) (.l 0) [55],.fc 141 0] [nG 1 2] 0x10000810424800c4
def aA3:bo:=cB [yL,(lx false),qs,wH] yS 8 65 [] [] [.lv (.str [49,48])] [⟨[zz 100,.n true 100],[],[],.t (cM 0 1) (.i (.l 0))⟩] 0x10c0efea0103e2800010400020830424800c4
def aA4:bo:=cB [aA3,yT] [] 0 140 [.ra] [] [.nd 1 (.l 0) (.l 0) (.l 0) [49,48],.fc 141 0] [nG 1 2] 0x10000810424800c4
def aA5:bo:=cB [yL,(lx false),qs,wH] yS 8 65 [] [] [.lv (.str [48,46,49])] [⟨[zz 100,.n true 100],[],[],.t (cM 0 1) (.i (.l 0))⟩] 0x10c0ec500bfc1000041000083002f8a000f80000083043480105
def aA6:bo:=cB [aA5,yT] [] 0 140 [.ra] [] [.nd 1 (.l 0) (.l 0) (.l 0) [48,46,49],.fc 141 0] [nG 1 2] 0x10000810424800c4
def aA7:bo:=cB [yL,(lx false),qs,wH] yS 8 65 [] [] [.lv (.str [49,50,46,55,53])] [⟨[zz 100,.n true 100],[],[],.t (cM 0 1) (.i (.l 0))⟩] 0x10c0efea2e0be3d50010400020c0088003fc3003f8a000f80000083044480146
def aA8:bo:=cB [aA7,yT] [] 0 140 [.ra] [] [.nd 1 (.l 0) (.l 0) (.l 0) [49,50,46,55,53],.fc 141 0] [nG 1 2] 0x10000810424800c4
def aA9:bo:=cB [yL,(lx false),qs,wH] yS 8 65 [] [] [.lv (.str [49,48,48])] [⟨[zz 100,.n true 100],[],[],.t (cM 0 1) (.i (.l 0))⟩] 0x10c0efea1003ea010010400020830424800c4
def aBa:bo:=cB [aA9,yT] [] 0 140 [.ra] [] [.nd 1 (.l 0) (.l 0) (.l 0) [49,48,48],.fc 141 0] [nG 1 2] 0x10000810424800c4
def aBb:bo:=cB [yL,(lx false),qs,wH] yS 8 65 [] [] [.lv (.str [51,46,49,52])] [⟨[zz 100,.n true 100],[],[],.t (cM 0 1) (.i (.l 0))⟩] 0x10c0efea1003e3850010400020c0088003fc3003f8a000f80000083044480146
def aBc:bo:=cB [aBb,yT] [] 0 140 [.ra] [] [.nd 1 (.l 0) (.l 0) (.l 0) [51,46,49,52],.fc 141 0] [nG 1 2] 0x10000810424800c4
def aBd:bo:=cB [yL,(lx false),qs,wH] yS 8 65 [] [] [.lv (.str [54,52])] [⟨[zz 100,.n true 100],[],[],.t (cM 0 1) (.i (.l 0))⟩] 0x10c0efea0103e1010010400020830424800c4
def aBe:bo:=cB [aBd,yT] [] 0 140 [.ra] [] [.nd 1 (.l 0) (.l 0) (.l 0) [54,52],.fc 141 0] [nG 1 2] 0x10000810424800c4
def aBf:bo:=cB [yL,(lx false),qs,wH] yS 8 65 [] [] [.lv (.str [48,46,48,48,49])] [⟨[zz 100,.n true 100],[],[],.t (cM 0 1) (.i (.l 0))⟩] 0x10c0ec500bfc100004100008300228007f0c8003fc3004f8a000f80000083045480187
def aBg:bo:=cB [aBf,yT] [] 0 140 [.ra] [] [.nd 1 (.l 0) (.l 0) (.l 0) [48,46,48,48,49],.fc 141 0] [nG 1 2] 0x10000810424800c4
end
section
open Go.Proofs.Tryz Go Go.RowKit Go.Ev
variable {w:World} {b off:Nat} {S:Nat->Prop} {x:Int}
structure Rs where
 p:Int
 q:Nat
 s:Int
variable {r:Rs}
structure Rs.Ok (r:Rs):Prop where
 s0:0<=r.s
 s2:r.s<=2
 hp:Bz 1024 r.p
 hq:Bn 1024 r.q
 pos:r.s=1->0<r.q
 no:r.s≠1->r.p=0/\r.q=0
def Rs.K (r:Rs):World->Value->Prop:=Hj r.p r.q r.s
def eH:Rs:=⟨0,0,0⟩
def akS (w:World) (g j:Nat) (r:Rs):Prop:= ∃u d,w.cell? ⟨g,j,none⟩=some (.bool (decide (r.p<0)))/\w.cell? ⟨g,j+1,none⟩=some u/\w.cell? ⟨g,j+2,none⟩=some d/\w.cell? ⟨g,j+3,none⟩=some (.int .i64 r.s)/\dL w u r.p.natAbs/\dL w d r.q
def AtR (l:List Rs):World->Value->Prop:=fun w v=> ∃b g n c,v= .pointer (some ⟨b,0,none⟩)/\w.cell? ⟨b,0,none⟩=some (.slice (some ⟨g,0,none⟩) n c)/\(l.length<=n/\n<=100000)/\ ∀j,j<l.length->akS w g (j*4) (l.getD j eH)
def Jp (l:List Rs): ∀w v,AtR l w v->v.oneCell'=true:=fun w v h=>by
 obtain ⟨b,g,n,c,rfl,_⟩:=h;rfl
def akT (h:jh S w fun f=> ∃c,f.cell? ⟨b,off,none⟩=some c): ¬S b/\b<w.heap.size:=by
 have e:b<w.heap.size:=by
  obtain ⟨c,hc⟩:=h w fun _ _ _=>rfl
  exact ak w _ hc
 refine ⟨fun g=> ?_,e⟩;obtain ⟨c,hc⟩:=h {w with heap:=w.heap.setIfInBounds b (.cells #[] 0 (0,0))} fun k i d=>by
  grind
 have a:({w with heap:=w.heap.setIfInBounds b (.cells #[] 0 (0,0))} :World).heap[b]? =some (.cells #[] 0 (0,0)):=by
  simp_all
 have:=JZ a off;simp_all
def acW {a:World} (f: ∀k,k<w.heap.size-> ¬S k->a.heap[k]? =w.heap[k]?) (d: ¬S b) (e:b<w.heap.size):a.cell? ⟨b,off,none⟩=w.cell? ⟨b,off,none⟩:=by
 have:=f b e d;unfold World.cell?;grind
def aBh {g n c a:Nat} (k:w.cell? ⟨b,0,none⟩=some (.slice (some ⟨g,0,none⟩) n c)) (m:a<n) (j:n<=100000) {a1 a2:Option Addr} {k1 k2 d f:Nat} (c0:w.cell? ⟨g,a*4,none⟩=some (.bool (decide (r.p<0)))) (c1:w.cell? ⟨g,a*4+1,none⟩=some (.slice a1 k1 d)) (c2:w.cell? ⟨g,a*4+2,none⟩=some (.slice a2 k2 f)) (c3:w.cell? ⟨g,a*4+3,none⟩=some (.int .i64 r.s)):
 Calls prog 141 #[.int .i64 a,.pointer (some ⟨b,0,none⟩)] w fun e l=>e= .returned (.agg #[.bool (decide (r.p<0)),.slice a1 k1 d,.slice a2 k2 f,.int .i64 r.s])/\RowKit.Below w.heap.size w l:=by
 have o:b<w.heap.size:=ak w _ k;have q:g<w.heap.size:=ak w _ c0;have t:(0:Int)<=(a:Int):=by omega
 have u:(a:Int)<(n:Int):=by omega
 obtain ⟨x,h⟩:=pQ (decide (r.p<0));obtain ⟨y,i⟩:=pQ r.s;rw [h] at c0⊢;rw [i] at c3⊢;clear h i;go_enter func141,ntmps141;go_wp2_with fail;refine bodyPost_ret (v:= .agg #[.bool x,.slice a1 k1 d,.slice a2 k2 f,.int .i64 y]) (by simp [results,results141,go_sem]) rfl ?_;exact ⟨rfl,(aH _ _).alloc (aq _) _⟩
def acX {l:List Rs} {a:Int} (h0:0<=a) (h1:a<l.length):bJ prog bw 141 [bj (.int .i64 a),AtR l] (l.getD a.toNat eH).K:=fun S w dS D hA I=>by
 obtain ⟨x,vs,rfl,W,y,M,rfl,X,e⟩:=I w fun _ _ _=>rfl
 obtain rfl:M= []:=e;obtain rfl:x= .int .i64 a:=W;have A:jh S w fun h=>AtR l h y:=fun h f=>by
  obtain ⟨x',nR,o,_,y',N,R,ER,_⟩:=I h f;simp_all
 obtain ⟨b,g,n,c,rfl,H,q2,q3⟩:=X;have B:=akT (S:=S) (b:=b) (off:=0) fun h f=>by
  obtain ⟨O,T,Z,P,o,m,_⟩:=A h f;simp_all
 have i:jh S w fun h=> ∀j,j<l.length->akS h g (j*4) (l.getD j eH):=fun h f=>by
  obtain ⟨O,T,Z,P,o,m,_,p3⟩:=A h f;cases o;rw [acW f B.1 B.2,H] at m;simp_all
 obtain ⟨k,rfl⟩: ∃k:Nat,a=(k:Int):=⟨a.toNat,by omega⟩;have s:k<l.length:=by omega
 have p:=akT (S:=S) (b:=g) (off:=k*4) fun h f=>by
  obtain ⟨u,d,p0,_⟩:=i h f k s;simp_all
 obtain ⟨u,d,c0,c1,z,Q,E,F⟩:=q3 k s;obtain ⟨a1,k1,o,rfl,_⟩:=E.form;obtain ⟨a2,k2,R,rfl,_⟩:=F.form;clear E F;rw [show ((k:Int)).toNat=k by omega];refine (aBh (r:=l.getD k eH) H (a:=k) (by omega) q2.2 c0 c1 z Q).mono ?_;rintro en h ⟨rfl,q⟩;refine ⟨_,rfl,fun J Y=> ?_,q⟩;have t: ∀j,j<w.heap.size-> ¬S j->J.heap[j]? =w.heap[j]? :=fun j C U=>(Y j (az C q.size) U).trans (q.block j C)
 obtain ⟨u',d',_,m,G,_,p4,p5⟩:=i J t k s;rw [acW t p.1 p.2,c1] at m;rw [acW t p.1 p.2,z] at G;cases m;cases G;exact ⟨_,_,rfl,p4,p5⟩
def akU (l:List Rs):World->Value->Prop:=fun w v=> ∃p,v= .func (.func 141) #[] #[p]/\AtR l w p
def Ye (n:Nat):List Alt:= [⟨[zz 1024,.n true 1024],[],[],.res (.z n) (.n (n+1)) (.l 1)⟩,⟨[.z false true false 0,.n false 0],[],[],.res (.z n) (.n (n+1)) (.l 0)⟩,⟨[.z false true false 0,.n false 0],[],[],.res (.z n) (.n (n+1)) (.l 2)⟩]
def bz0 (h:Bz 0 x):x=0:=by
 have:x.natAbs<1:=h;omega
def bn0 {x:Nat} (h:Bn 0 x):x=0:=by
 have:x<1:=h;omega
def acY {L:List SD} {f:FuncId} {ks:List Kd} {al:List Alt} (F:al=Ye L.length) (h: ∃a∈al,∃M,dU a.nb M/\(∀x∈a.rf,x.2.ok (aU L x.1))/\(∀x∈a.rr,nH (L++M) x)/\ ∀g,some f=some g->bJ prog bw g (ks.map (Kd.rel L)) (a.r.rel (L++M))):
 ∃r:Rs,r.Ok/\bJ prog bw f (ks.map (Kd.rel L)) r.K:=by
 subst F;obtain ⟨a,u,M,i,_,_,hc⟩:=h;have t: ∀ {s:Int} {b:BD} {d:BD},a=⟨[b,d],[],[],.res (.z L.length) (.n (L.length+1)) (.l s)⟩-> ∀ {p:Int} {q:Nat},M= [.z p,.n q]->bJ prog bw f (ks.map (Kd.rel L)) (Hj p q s):=fun {s b d} e {p q} k=>by
  have C:=hc f rfl;rw [e,k] at C;have G:aU (L++ [SD.z p,.n q]) L.length= .z p:=NZ (j:=0);have H:aU (L++ [SD.z p,.n q]) (L.length+1)= .n q:=NZ (j:=1);have D:bJ prog bw f (ks.map (Kd.rel L)) (Hj (aU (L++ [SD.z p,.n q]) L.length).zv (aU (L++ [SD.z p,.n q]) (L.length+1)).nv s):=C;rw [G,H] at D;exact D
 rcases bu.1 u with e|u
 ·rw [e] at i
  obtain ⟨p,B,k,_,m,i⟩:=m5 i;obtain ⟨q,y,A,E,o,i⟩:=sP i;obtain rfl:y= []:=i;subst A;exact ⟨⟨p,q,1⟩,⟨by simp_all,by simp_all,m,o,fun _=>E rfl,fun h=>absurd rfl h⟩,t e k⟩
 rcases bu.1 u with e|u
 ·rw [e] at i
  obtain ⟨p,B,k,_,m,i⟩:=m5 i;obtain ⟨q,y,A,_,o,i⟩:=sP i;obtain rfl:y= []:=i;subst A;exact ⟨⟨p,q,0⟩,⟨by simp_all,by simp_all,C3 m (b6 _),Lo o (b6 _),fun h=>absurd (show (0:Int)=1 from h) (by decide),fun _=>⟨bz0 m,bn0 o⟩⟩,t e k⟩
 rcases bu.1 u with e|u
 ·rw [e] at i
  obtain ⟨p,B,k,_,m,i⟩:=m5 i;obtain ⟨q,y,A,_,o,i⟩:=sP i;obtain rfl:y= []:=i;subst A;exact ⟨⟨p,q,2⟩,⟨by simp_all,by simp_all,C3 m (b6 _),Lo o (b6 _),fun h=>absurd (show (2:Int)=1 from h) (by decide),fun _=>⟨bz0 m,bn0 o⟩⟩,t e k⟩
 simp_all
def xN (h: -9223372036854775808<=x:=by decide) (h':x<=9223372036854775807:=by decide):m64.ok (.i x):=⟨h,h'⟩
def acZ {B:List BD} {M:List SD} (h:r.Ok) (t:dU B M):dU (zz 1024:: .n false 1024:: .i 0 2::B) (.z r.p:: .n r.q:: .i r.s::M):=pS sQ h.hp (xK Oa h.hq (oU h.s0 h.s2 t))
end
section
open Go Go.RowKit Go.Ev
def ndV (k a b n:Int) (t:List UInt8):World->Value->Prop:=bj (.agg #[.int .i64 k,.int .i64 a,.int .i64 b,.int .i64 n,.string ⟨⟨t⟩⟩])
def ac0 (a p:Nat):KE:=⟨141,[.i (.i a),.ra 3],.res (.z p) (.n (p+1)) (.i (p+2))⟩
section
variable {l:List Rs} {a b n:Int} {ks:List Kd}
def ac1 (f: ∀r∈l,r.Ok) {a:Int} (d:0<=a) (e:a<l.length):(l.getD a.toNat eH).Ok:=by
 simp_all
def ac2 {a:Int} (d:0<=a) (e:a<l.length) (f:l.length<=100000):m64.ok (.i a):=xN (by omega) (by omega)
def Jq (h:Sp ⟨some 140,[m64,m64,m64,.ra,zz 1024,.n false 1024,.i 0 2],[(10,[6,5])],ks,Ye 7⟩ [ac0 0 4]) (j: ∀r∈l,r.Ok) (d:l.length<=100000) (f:0<=a) (g:a<l.length) (m:m64.ok (.i n)):
 ∃r:Rs,r.Ok/\bJ Tryz.prog bw 140 (ks.map (Kd.rel [.i a,.i 0,.i n,.ra (AtR l) (Jp l),.z (l.getD a.toNat eH).p,.n (l.getD a.toNat eH).q,.i (l.getD a.toNat eH).s])) r.K:=by
 have e:=ac1 j f g;have hc:=acX f g;revert e hc;generalize l.getD a.toNat eH=r;intro e hc;refine acY (L:= [.i a,.i 0,.i n,.ra (AtR l) (Jp l),.z r.p,.n r.q,.i r.s]) rfl (h _ ?_ ?_ (.k hc .nil))
 ·exact ⟨_,_,rfl,ac2 f g d,_,_,rfl,xN,_,_,rfl,m,_,_,rfl,trivial,acZ e gH⟩
 ·exact yK (show RP 10 [r.s,(r.q:Int)] from fun h=>by have:=e.pos h;omega)
def Yf (h:Sp ⟨some 140,[m64,m64,m64,.ra,zz 1024,.n false 1024,.i 0 2,zz 1024,.n false 1024,.i 0 2],[(10,[6,5]),(10,[9,8])],ks,Ye 10⟩ [ac0 0 4,ac0 1 7]) (u: ∀r∈l,r.Ok) (d:l.length<=100000) (o:0<=a) (t:a<l.length) (g:0<=b) (j:b<l.length):
 ∃r:Rs,r.Ok/\bJ Tryz.prog bw 140 (ks.map (Kd.rel [.i a,.i b,.i 0,.ra (AtR l) (Jp l),.z (l.getD a.toNat eH).p,.n (l.getD a.toNat eH).q,.i (l.getD a.toNat eH).s,.z (l.getD b.toNat eH).p,.n (l.getD b.toNat eH).q,.i (l.getD b.toNat eH).s])) r.K:=by
 have f:=ac1 u o t;have hc:=acX o t;have e:=ac1 u g j;have m:=acX g j;revert f hc e m;generalize l.getD a.toNat eH=r;generalize l.getD b.toNat eH=s;intro f hc e m;refine acY (L:= [.i a,.i b,.i 0,.ra (AtR l) (Jp l),.z r.p,.n r.q,.i r.s,.z s.p,.n s.q,.i s.s]) rfl (h _ ?_ ?_ (.k hc (.k m .nil)))
 ·exact ⟨_,_,rfl,ac2 o t d,_,_,rfl,ac2 g j d,_,_,rfl,xN,_,_,rfl,trivial,acZ f (acZ e gH)⟩
 ·exact aiL (show RP 10 [r.s,(r.q:Int)] from fun h=>by have:=f.pos h;omega) (yK (show RP 10 [s.s,(s.q:Int)] from fun h=>by have:=e.pos h;omega))
def akV (F:bo) (d:F.c []=⟨some 140,[.ra],[],ks,Ye 1⟩) (e:F.ok []=true): ∃r:Rs,r.Ok/\bJ Tryz.prog bw 140 (ks.map (Kd.rel [.ra (AtR l) (Jp l)])) r.K:=by
 have h:=F.h [] e;rw [d] at h;exact acY (L:= [.ra (AtR l) (Jp l)]) rfl (h _ ⟨_,_,rfl,trivial,rfl⟩ iG)
def yU {k:Int} {C:Rs->Prop} (d:k≠1) (h: ∃r:Rs,r.Ok/\C r): ∃r:Rs,r.Ok/\(k=1->r.s=1)/\C r:=by
 simp_all
def yV (F:bo) (g:F.c []=⟨some 140,[.ra],[],ks,[⟨[zz 1024,.n true 1024],[],[],.res (.z 1) (.n 2) (.l 1)⟩]⟩) (j:F.ok []=true): ∃r:Rs,r.Ok/\((1:Int)=1->r.s=1)/\bJ Tryz.prog bw 140 (ks.map (Kd.rel [.ra (AtR l) (Jp l)])) r.K:=by
 have h:=F.h [] j;rw [g] at h;obtain ⟨a,i,M,d,_,_,hc⟩:=h [.ra (AtR l) (Jp l)] ⟨_,_,rfl,trivial,rfl⟩ iG;obtain rfl:=b7.1 i;obtain ⟨p,o,rfl,_,k,d⟩:=m5 d;obtain ⟨q,e,rfl,f,m,d⟩:=sP d;obtain rfl:e= []:=d;exact ⟨⟨p,q,1⟩,⟨by simp_all,by simp_all,k,m,fun _=>f rfl,fun h=>absurd rfl h⟩,fun _=>rfl,hc _ rfl⟩
def ac3:List (List UInt8):= [[48],[49],[50],[51],[48,46,53],[49,46,50,53],[55],[49,48],[48,46,49],[49,50,46,55,53],[49,48,48],[51,46,49,52],[54,52],[48,46,48,48,49]]
structure Yg (m:Nat) (k a b n:Int) (t:List UInt8):Prop where
 k1:1<=k
 k2:k<=16
 nm:k≠2
 ES:k=1->t∈ac3
 qt:k≠1->t= []
 pow:k=10-> -3<=n/\n<=4
 lH:k≠10->n=0
 a0:k<=4->a=0
 b0:k<=5\/10<=k->b=0
 ar:5<=k->0<=a/\a<m
 br:6<=k->k<=9->0<=b/\b<m
def aBi (g: ∀r∈l,r.Ok) (d:l.length<=100000) {k:Int} {t:List UInt8} (h:Yg l.length k a b n t): ∃r:Rs,r.Ok/\(k=1->r.s=1)/\bJ Tryz.prog bw 140 [ndV k a b n t,akU l] r.K:=by
 obtain ⟨x,y,nm,p,f,u,e,m,i,ar,j⟩:=h;have q:k=1\/k=3\/k=4\/k=5\/k=6\/k=7\/k=8\/k=9\/k=10\/k=11\/k=12\/k=13\/k=14\/k=15\/k=16:=by omega
 rcases q with rfl|rfl|rfl|rfl|rfl|rfl|rfl|rfl|rfl|rfl|rfl|rfl|rfl|rfl|rfl
 ·have o:=p rfl
  obtain rfl:=e (by decide);obtain rfl:=m (by decide);obtain rfl:=i (by decide);simp only [ac3,bu,jj,or_false] at o;rcases o with rfl|rfl|rfl|rfl|rfl|rfl|rfl|rfl|rfl|rfl|rfl|rfl|rfl|rfl
  ·exact yV aAQ rfl rfl
  ·exact yV aAS rfl rfl
  ·exact yV aAU rfl rfl
  ·exact yV aAW rfl rfl
  ·exact yV aAY rfl rfl
  ·exact yV aA0 rfl rfl
  ·exact yV aA2 rfl rfl
  ·exact yV aA4 rfl rfl
  ·exact yV aA6 rfl rfl
  ·exact yV aA8 rfl rfl
  ·exact yV aBa rfl rfl
  ·exact yV aBc rfl rfl
  ·exact yV aBe rfl rfl
  ·exact yV aBg rfl rfl
 ·obtain rfl:=f (by decide)
  obtain rfl:=e (by decide);obtain rfl:=m (by decide);obtain rfl:=i (by decide);exact yU (by decide) (akV aAM rfl rfl)
 ·obtain rfl:=f (by decide)
  obtain rfl:=e (by decide);obtain rfl:=m (by decide);obtain rfl:=i (by decide);exact yU (by decide) (akV aAN rfl rfl)
 ·obtain rfl:=f (by decide)
  obtain rfl:=e (by decide);obtain rfl:=i (by decide);exact yU (by decide) (Jq (n:=0) aAA g d (ar (by decide)).1 (ar (by decide)).2 (xN))
 ·obtain rfl:=f (by decide)
  obtain rfl:=e (by decide);exact yU (by decide) (Yf aAB g d (ar (by decide)).1 (ar (by decide)).2 (j (by decide) (by decide)).1 (j (by decide) (by decide)).2)
 ·obtain rfl:=f (by decide)
  obtain rfl:=e (by decide);exact yU (by decide) (Yf aAC g d (ar (by decide)).1 (ar (by decide)).2 (j (by decide) (by decide)).1 (j (by decide) (by decide)).2)
 ·obtain rfl:=f (by decide)
  obtain rfl:=e (by decide);exact yU (by decide) (Yf aAD g d (ar (by decide)).1 (ar (by decide)).2 (j (by decide) (by decide)).1 (j (by decide) (by decide)).2)
 ·obtain rfl:=f (by decide)
  obtain rfl:=e (by decide);exact yU (by decide) (Yf aAE g d (ar (by decide)).1 (ar (by decide)).2 (j (by decide) (by decide)).1 (j (by decide) (by decide)).2)
 ·obtain rfl:=f (by decide)
  obtain rfl:=i (by decide);exact yU (by decide) (Jq aAF g d (ar (by decide)).1 (ar (by decide)).2 (xN (by omega) (by omega)))
 ·obtain rfl:=f (by decide)
  obtain rfl:=e (by decide);obtain rfl:=i (by decide);exact yU (by decide) (Jq (n:=0) aAG g d (ar (by decide)).1 (ar (by decide)).2 (xN))
 ·obtain rfl:=f (by decide)
  obtain rfl:=e (by decide);obtain rfl:=i (by decide);exact yU (by decide) (Jq (n:=0) aAH g d (ar (by decide)).1 (ar (by decide)).2 (xN))
 ·obtain rfl:=f (by decide)
  obtain rfl:=e (by decide);obtain rfl:=i (by decide);exact yU (by decide) (Jq (n:=0) aAI g d (ar (by decide)).1 (ar (by decide)).2 (xN))
 ·obtain rfl:=f (by decide)
  obtain rfl:=e (by decide);obtain rfl:=i (by decide);exact yU (by decide) (Jq (n:=0) aAJ g d (ar (by decide)).1 (ar (by decide)).2 (xN))
 ·obtain rfl:=f (by decide)
  obtain rfl:=e (by decide);obtain rfl:=i (by decide);exact yU (by decide) (Jq (n:=0) aAK g d (ar (by decide)).1 (ar (by decide)).2 (xN))
 ·obtain rfl:=f (by decide)
  obtain rfl:=e (by decide);obtain rfl:=i (by decide);exact yU (by decide) (Jq (n:=0) aAL g d (ar (by decide)).1 (ar (by decide)).2 (xN))
end
structure Nx where
 k:Int
 a:Int
 b:Int
 n:Int
 t:List UInt8
def Nx.V (x:Nx):World->Value->Prop:=ndV x.k x.a x.b x.n x.t
def BP:Nx:=⟨0,0,0,0,[]⟩
def ac4 (L:List Nx):Prop:= ∀i,i<L.length->Yg i (L.getD i BP).k (L.getD i BP).a (L.getD i BP).b (L.getD i BP).n (L.getD i BP).t
def Th (L:List Nx) (l:List Rs):Prop:=(∀r∈l,r.Ok)/\ ∀i,i<l.length->((L.getD i BP).k=1->(l.getD i eH).s=1)/\bJ Tryz.prog bw 140 [(L.getD i BP).V,akU (l.take i)] (l.getD i eH).K
def akW {L:List Nx} (f:ac4 L) (d:L.length<=100000): ∀k,k<=L.length-> ∃l:List Rs,l.length=k/\Th L l
 |0,_=>⟨[],rfl,(fun r h=>by cases h),fun i h=>absurd h (gJ _)⟩
 |k+1,u=>by
  obtain ⟨l,e,o,s⟩:=akW f d k (by omega);have g:=f k (by omega);rw [<-e] at g;obtain ⟨r,y,A,hc⟩:=aBi o (by omega) g;refine ⟨l++ [r],by simp [e],fun x z=> ?_,fun i t=> ?_⟩
  ·grind
  ·by_cases q:i<l.length
   ·grind
   ·have p:i=l.length:=by grind
    have j:(l++ [r]).take i=l:=by simp_all
    have m:(l++ [r]).getD i eH=r:=by simp_all
    rw [j,m,p,e];rw [e] at hc;exact ⟨by simp_all,hc⟩
end
section
open Go.Proofs.Tryz Go Go.RowKit
structure Fr (S:Nat->Prop) (w w':World):Prop where
 os:w'.os=w.os
 tape:w'.tape=w.tape
 output:w'.output=w.output
 size:w.heap.size<=w'.heap.size
 block: ∀k,k<w.heap.size-> ¬S k->w'.heap[k]? =w.heap[k]?
section
variable {S S':Nat->Prop} {w w' ET:World}
def Fr.refl (S:Nat->Prop) (w:World):Fr S w w:=⟨rfl,rfl,rfl,aq _,fun _ _ _=>rfl⟩
def Fr.trans (h:Fr S w w') (k:Fr S' w' ET) (d: ∀k,k<w.heap.size->S' k->S k):Fr S w ET:=
 ⟨k.os.trans h.os,k.tape.trans h.tape,k.output.trans h.output,aK h.size k.size,fun i a b=>
  (k.block i (az a h.size) (fun e=>b (d i a e))).trans (h.block i a b)⟩
def Fr.mono (h:Fr S w w') (b: ∀k,k<w.heap.size->S k->S' k):Fr S' w w':=
 ⟨h.os,h.tape,h.output,h.size,fun i a d=>h.block i a (fun e=>d (b i a e))⟩
def Fr.drew (h:Fr S w w'):Fr S w w'.drew:=⟨h.os,h.tape,h.output,h.size,h.block⟩
def Fr.drewN (h:Fr S w w') (n:Nat):Fr S w (w'.drewN n):=⟨h.os,h.tape,h.output,h.size,h.block⟩
def Fr.alloc (h:Fr S w w') (o:Obj):Fr S w (w'.alloc o):=
 ⟨h.os,h.tape,h.output,by have:=h.size;simp;omega,fun i a b=>by rw [dI _ _ _ (by have:=h.size;omega)];exact h.block i a b⟩
def Fr.setCell (h:Fr S w w') {a:Addr} (u:Value) (f:a.block<w.heap.size->S a.block):Fr S w (w'.setCell a u):=
 ⟨h.os,h.tape,h.output,by have:=h.size;simp_all,fun i b d=>by
  rw [gI _ _ _ _ (fun e=>by simp_all)];exact h.block i b d⟩
def Fr.below (h:Fr (fun _=>False) w w'):Below w.heap.size w w':=⟨h.os,h.tape,h.output,h.size,fun k a=>h.block k a (fun e=>e)⟩
def Fr.jq (h:Below w.heap.size w w'):Fr S w w':=⟨h.os,h.tape,h.output,h.size,fun k a _=>h.block k a⟩
def Fr.nJ {B:Nat} (h:Fr S w w') (a: ∀k,k<B-> ¬S k) (d:B<=w.heap.size):Below B w w':=
 ⟨h.os,h.tape,h.output,h.size,fun k b=>h.block k (by omega) (a k b)⟩
def Fr.frozen (h:Fr S w w') {a:Addr} (d:a.block<w.heap.size) (b: ¬S a.block):w'.frozen? a=w.frozen? a:=World.frozen?_of_block (h.block _ d b)
def Fr.cell (h:Fr S w w') {a:Addr} {v:Value} (hc:w.cell? a=some v) (b: ¬S a.block):w'.cell? a=some v:=by
 rw [<-hc];exact World.cell?_of_block (h.block _ (ak w a hc) b)
end
section
variable {w w':World} {base:Nat} {e:TypeId} {size:Nat} {v:Value} {n:Nat} {xs:List Value}
def qu {S:Nat->Prop} (h:w.ownsRow base e size v n xs) (f:Fr S w w') (b: ∀k,v.ownBlock=some k-> ¬S k):w'.ownsRow base e size v n xs:=by
 refine ⟨h.1,?_⟩;rcases h.2 with i|⟨g,cap,cur,rfl,d,j,a⟩
 ·exact .inl i
 ·refine .inr ⟨g,cap,cur,rfl,d,?_,a⟩
  rw [f.block g (ax.1 j).1 (b g rfl)];omega
def Dg (h:w.ownsRow base e size v n xs) {k:Nat} (a:v.ownBlock=some k): ∃cur,w.heap[k]? =some (.cells cur e (0,0)):=by
 rcases h.2 with ⟨rfl,_⟩|⟨g,cap,cur,rfl,d,f,b⟩
 ·simp [Value.ownBlock] at a
 ·simp [Value.ownBlock] at a
  simp_all
def LU (h:w.ownsRow base e size v n xs) {k:Nat} (a:v.ownBlock=some k):k<w.heap.size:=by
 obtain ⟨cur,hc⟩:=Dg h a;grind
def OE (h:w.ownsRow base e size v n xs) (j:0<n:=by omega): ∃g cap,v= .slice (some ⟨g,0,none⟩) n cap/\n<=cap/\cap<=maxLen/\g<w.heap.size:=by
 rcases h.2 with ⟨rfl,b⟩|⟨g,cap,cur,rfl,i,k,d,f,a⟩
 all_goals grind
def Yh {d:TypeId} {a:Nat} {g:Value} {m base':Nat} {b:List Value} (h:w.ownsRow base e size v n xs) (h':w.ownsRow base' d a g m b) (j:e≠d) {k f:Nat}
 (i:v.ownBlock=some k) (l:g.ownBlock=some f):k≠f:=by
 rintro rfl;obtain ⟨c,hc⟩:=Dg h i;obtain ⟨o,p⟩:=Dg h' l;simp_all
end
def qv {w:World} {t:Nat} {c:Array Value} {T:Nat} {a:Nat×Nat} (h:w.heap[t]? =some (.cells c T a)) (i:Nat):w.cell? ⟨t,i,none⟩=c[i]? :=by
 simp [World.cell?,h]
def Au {w:World} {t:Nat} {c:Array Value} {T:Nat} (h:w.heap[t]? =some (.cells c T (0,0))) (i:Nat):w.frozen? ⟨t,i,none⟩=false:=by
 simp [World.frozen?,h]
def akX (v n:Int) (d:1<=n):(v % n=v.tmod n/\0<=v.tmod n)\/(v % n=v.tmod n+n/\v.tmod n<0/\ -n<v.tmod n):=by
 have g:=gK v (b:=n) (by omega);have i:=fR v (b:=n) (by omega);rcases lW 0 v with h|h
 ·grind
 ·have e:v.tmod n= -((-v) % n):=by
   have:=Int.neg_tmod v n;grind
  have f:=gK (-v) (b:=n) (by omega);have a:=fR (-v) (b:=n) (by omega);grind
def aBj (v n:Int) (d:1<=n) (i:n<=9223372036854775807) (a: -9223372036854775808<=v) (h:v.tmod n<0):wrap64 (v.tmod n+n)=v % n:=by
 rcases akX v n d with ⟨_,f⟩|⟨b,_,g⟩
 ·omega
 ·rw [b];exact IntWalk.wrap64_in _ ⟨by omega,by omega⟩
def aBk (v n:Int) (a:1<=n) (h:0<=v.tmod n):v.tmod n=v % n:=by
 rcases akX v n a with ⟨b,_⟩|⟨_,d,_⟩
 all_goals grind
def Yi (v n:Int) (a:1<=n) (d:n<=9223372036854775807) (b: -9223372036854775808<=v) (w:World):
 Calls prog 10 #[.int .i64 v,.int .i64 n] w fun e w'=>e= .returned (.int .i64 (v % n))/\w'=w:=by
 go_enter func10,ntmps10;go_wp2
 all_goals go_ret
 ·rename_i h
  exact ⟨by rw [aBj v n a d b h];rfl,rfl⟩
 ·rename_i h
  exact ⟨by rw [aBk v n a h];rfl,rfl⟩
def sS (w:World) (p:Nat) (v:Value) (a:Nat):Prop:=w.heap[p]? =some (.cells #[v,.int .i64 a] 53 (0,0))
def EU (w:World) (p:Nat) (v:Value) (n:Nat):Prop:=
 n<=1000/\ ∃a c,v= .slice a n c/\ ∀j,j<n-> ∃b x,a=some b/\b.block≠p/\ -9223372036854775808<=x/\w.cell? (b.add j)=some (.int .i64 x)
def EU.frame {w w':World} {p:Nat} {v:Value} {n:Nat} {S:Nat->Prop} (h:EU w p v n) (l:Fr S w w') (q: ∀k,S k->k=p\/w.heap.size<=k):EU w' p v n:=by
 obtain ⟨o,a,c,rfl,h⟩:=h;refine ⟨o,a,c,rfl,fun j m=> ?_⟩;obtain ⟨b,x,f,g,i,d⟩:=h j m;refine ⟨b,x,f,g,i,l.cell d fun e=> ?_⟩;have s:(b.add j).block=b.block:=by unfold Addr.add;grind
 have:=ak w _ d;grind
def sS.frame {w w':World} {p:Nat} {v:Value} {k:Nat} {S:Nat->Prop} (h:sS w p v k) (b:Fr S w w') (a: ¬S p):sS w' p v k:=
 (b.block p (ax.1 h).1 a).trans h
def sS.cells {w:World} {p:Nat} {v:Value} {k:Nat} (h:sS w p v k):w.cell? ⟨p,0,none⟩=some v/\w.cell? ⟨p,1,none⟩=some (.int .i64 k):=
 ⟨qv h 0,qv h 1⟩
def akY (b:Addr) (k:Nat):(b.add k).block=b.block:=by unfold Addr.add;split<;>rfl
def sS.lt {w:World} {p:Nat} {v:Value} {k:Nat} (h:sS w p v k):p<w.heap.size:=(ax.1 h).1
def aBl {w:World} {p n k:Nat} {v:Value} (b:sS w p v k) (d:EU w p v n):
 Calls prog 32 #[.pointer (some ⟨p,0,none⟩)] w fun e w'=>e= .returned (.bool (decide (k<n)))/\Fr (fun _=>False) w w':=by
 obtain ⟨f,a,c,rfl,_⟩:=d;obtain ⟨c0,c1⟩:=b.cells;clear b;go_enter func32,ntmps32;go_wp2_with (go_quiet (fail));go_ret;exact ⟨rfl,(Fr.refl _ w).drewN _⟩
def akZ (w:World) (p:Nat) (v:Value) (n k:Nat) (lo m:Int) (e:Ending) (w':World):Prop:=
 ∃(r:Int) (a:Nat),e= .returned (.int .i64 r)/\lo<=r/\r<m/\k<=a/\(k<n->a=k+1)/\(k<=n->a<=n)/\sS w' p v a/\Fr (· =p) w w'
def ac7 {w:World} {p:Nat} {v:Value} {k:Nat} (a:sS w p v k):sS (w.setCell ⟨p,1,none⟩ (.int .i64 ((k+1:Nat):Int))) p v (k+1):=by
 unfold sS at*;unfold World.setCell;grind
def ac8 {w:World} {p n k:Nat} {v:Value} (d:sS w p v k) (C:EU w p v n) (m:Int) (D:1<=m) (M:m<=1000000):
 Calls prog 33 #[.pointer (some ⟨p,0,none⟩),.int .i64 m] w (akZ w p v n k 0 m):=by
 obtain ⟨G,a,c,rfl,o⟩:=C;obtain ⟨c0,c1⟩:=d.cells;have j:=Au d 1;by_cases u:k<n
 ·obtain ⟨b,x,rfl,B,y,g⟩:=o k u
  have f:=ae d;have A:=ae y;clear d o y;go_enter func33,ntmps33;go_wp2_with (go_quiet (fail));have q:((w.drewN nq).setCell ⟨p,1,none⟩ (.int .i64 ((k:Int)+1))).cell? ⟨p,0,none⟩=some (.slice (some b) n c):=(ac7 (f.out.frame ((Fr.refl (fun _=>False) w).drewN nq) (fun h=>h))).cells.1;have s:((w.drewN nq).setCell ⟨p,1,none⟩ (.int .i64 ((k:Int)+1))).cell? ⟨p,1,none⟩=some (.int .i64 ((k:Int)+1)):=(ac7 (f.out.frame ((Fr.refl (fun _=>False) w).drewN nq) (fun h=>h))).cells.2;have i:Fr (· =p) w ((w.drewN nq).setCell ⟨p,1,none⟩ (.int .i64 ((k:Int)+1))):=((Fr.refl (· =p) w).drewN nq).setCell _ (fun _=>rfl);have t:=i.cell g (by rw [akY];exact B);have l:sS ((w.drewN nq).setCell ⟨p,1,none⟩ (.int .i64 ((k:Int)+1))) p (.slice (some b) n c) (k+1):=ac7 (f.out.frame ((Fr.refl (fun _=>False) w).drewN nq) (fun h=>h));generalize (w.drewN nq).setCell ⟨p,1,none⟩ (.int .i64 ((k:Int)+1))=F at q s i t l⊢;have z:=ae i;have E:=ae l;clear i l c0 c1 j g;have J:(0:Int)<=(k:Int):=by omega
  have I:(k:Int)<(n:Int):=by omega
  have H:IntKind.i64.wrap (k:Int)=(k:Int):=aC _ ⟨by omega,by omega⟩
  go_region_held3 (fun w'=>w'.cell? ⟨p,0,none⟩=some (.slice (some b) n c)/\w'.cell? ⟨p,1,none⟩=some (.int .i64 ((k:Int)+1))/\w'.cell? (b.add k)=some (.int .i64 x)) (exact ⟨q,s,t⟩) (first|(go_at_call 10;refine (Yi x m D (by omega) A.out _).mono ?_;rintro e N ⟨rfl,rfl⟩))
  all_goals
   go_wp2_with fail;go_ret;exact ⟨x % m,k+1,rfl,gK _ (by omega),fR _ (by omega),by omega,fun _=>rfl,fun h=>by omega,E.out.frame ((Fr.refl (fun _=>False) F).drew) (fun h=>h),z.out.drew⟩
 ·clear o
  have f:=ae d;clear d;go_enter func33,ntmps33;go_wp2_with (go_quiet (fail));go_ret;exact ⟨0,k,rfl,by omega,by omega,by omega,fun h=>absurd h u,fun h=>h,f.out.frame ((Fr.refl (fun _=>False) w).drewN _) (fun h=>h),(Fr.refl _ w).drewN _⟩
def aBm {w:World} {p n k:Nat} {v:Value} (d:sS w p v k) (b:EU w p v n) (lo hi:Int) (j: -1000<=lo) (l:lo<=hi) (m:hi<=1000):
 Calls prog 36 #[.pointer (some ⟨p,0,none⟩),.int .i64 lo,.int .i64 hi] w (akZ w p v n k lo (hi+1)):=by
 have h:=ae d;have g:=ae b;clear d b;go_enter func36,ntmps36;go_wp2_with fail;refine (ac8 h.out g.out (hi-lo+1) (by omega) (by omega)).mono ?_;rintro e s ⟨r,i,rfl,q,o,a⟩;have f:=ae a;clear a;go_wp2_with fail;go_ret;exact ⟨lo+r,i,rfl,by omega,by omega,f.out⟩
def aBn {w:World} {v:Value} {a:Option Addr} {n c:Nat} (b:v= .slice a n c):
 Calls prog 7 #[v] w fun e w'=>e= .returned (.pointer (some ⟨w.heap.size,0,none⟩))/\sS w' w.heap.size v 0/\Fr (fun _=>False) w w':=by
 subst b;go_enter func7,ntmps7;go_wp2_with fail;go_ret;exact ⟨rfl,by show (w.heap.push _)[w.heap.size]? =_;simp,(Fr.refl _ w).alloc _⟩
end
section
open Go Go.RowKit
structure b8 where
 k:Int
 a:Int
 b:Int
 n:Int
 t:ByteArray
def jD (x:b8):List Value:= [.int .i64 x.k,.int .i64 x.a,.int .i64 x.b,.int .i64 x.n,.string x.t]
def ig (x:b8):Value:= .agg #[.int .i64 x.k,.int .i64 x.a,.int .i64 x.b,.int .i64 x.n,.string x.t]
def Di (l:List b8):List Value:=l.flatMap jD
def arity (k:Int):Nat:=if k<=4 then 0 else if 6<=k/\k<=9 then 2 else 1
def args (x:b8):List Int:=if arity x.k=0 then [] else if arity x.k=1 then [x.a] else [x.a,x.b]
def kinds {k:Int} (a:1<=k) (b:k<=16):k=1\/k=2\/k=3\/k=4\/k=5\/k=6\/k=7\/k=8\/k=9\/k=10\/k=11\/k=12\/k=13\/k=14\/k=15\/k=16:=by omega
def aBo {k:Int} (a:1<=k) (b:k<=16) (w:World):
 Calls Tryz.prog 37 #[.int .i64 k] w fun e d=>e= .returned (.int .i64 (arity k:Int))/\d=w:=by
 rcases kinds a b with rfl|rfl|rfl|rfl|rfl|rfl|rfl|rfl|rfl|rfl|rfl|rfl|rfl|rfl|rfl|rfl
 all_goals
  clear a b;go_enter Tryz.func37,Tryz.ntmps37;go_wp2;go_ret;exact ⟨rfl,rfl⟩
def OG (w:World) (x:b8) (v:Value) (w':World):Prop:=
 Below w.heap.size w w'/\w'.ownsRow w.heap.size 3 1 v (args x).length ((args x).map (.int .i64))
def ak0 {w:World} {x:b8} (h:arity x.k=0):OG w x (.slice none 0 0) (w.alloc (.cells ⟨jD x⟩ 60)):=by
 refine ⟨(aH _ _).alloc (aq _) _,?_⟩;have:args x= []:=by unfold args;simp_all
 rw [this];exact World.ownsRow_nil _ _ _ _
def ak1 {w:World} {x:b8} (h:arity x.k=1):OG w x (.slice (some ⟨w.heap.size+1,0,none⟩) 1 1) ((w.alloc (.cells ⟨jD x⟩ 60)).alloc (.cells #[.int .i64 x.a] 3)):=by
 refine ⟨((aH _ _).alloc (aq _) _).alloc (by simp) _,?_⟩;have:args x= [x.a]:=by unfold args;simp_all
 rw [this];have:=World.ownsRow_lit (base:=w.heap.size) (e:=3) (size:=1) (w.alloc (.cells ⟨jD x⟩ 60)) #[.int .i64 x.a] 1 (by simp) (by unfold maxLen;omega) rfl;simp_all
def ak2 {w:World} {x:b8} (h:arity x.k=2):OG w x (.slice (some ⟨w.heap.size+1,0,none⟩) 2 2) ((w.alloc (.cells ⟨jD x⟩ 60)).alloc (.cells #[.int .i64 x.a,.int .i64 x.b] 3)):=by
 refine ⟨((aH _ _).alloc (aq _) _).alloc (by simp) _,?_⟩;have:args x= [x.a,x.b]:=by unfold args;simp_all
 rw [this];have:=World.ownsRow_lit (base:=w.heap.size) (e:=3) (size:=1) (w.alloc (.cells ⟨jD x⟩ 60)) #[.int .i64 x.a,.int .i64 x.b] 2 (by simp) (by unfold maxLen;omega) rfl;simp_all
def Yj {x:b8} (d:1<=x.k) (f:x.k<=16) (w:World):
 Calls Tryz.prog 53 #[ig x] w fun e j=> ∃v,e= .returned v/\OG w x v j:=by
 obtain ⟨k,a,b,n,t⟩:=x;have g:= @ak0 w ⟨k,a,b,n,t⟩;have h:= @ak1 w ⟨k,a,b,n,t⟩;have i:= @ak2 w ⟨k,a,b,n,t⟩;have Q:=ae (af g (af h i));clear g h i;unfold ig;simp only at d f⊢;rcases kinds d f with rfl|rfl|rfl|rfl|rfl|rfl|rfl|rfl|rfl|rfl|rfl|rfl|rfl|rfl|rfl|rfl
 all_goals
  clear d f;go_enter Tryz.func53,Tryz.ntmps53;go_wp2;go_ret
  first|exact ⟨_,rfl,Q.out.1 rfl⟩|exact ⟨_,rfl,Q.out.2.1 rfl⟩|exact ⟨_,rfl,Q.out.2.2 rfl⟩
def Jr {x:b8} (d:1<=x.k) (f:x.k<=16) (w:World):
 Calls Tryz.prog 20 #[ig x] w fun e j=> ∃v,e= .returned (.tuple #[v,.bool true])/\OG w x v j:=by
 obtain ⟨k,a,b,n,t⟩:=x;have g:= @ak0 w ⟨k,a,b,n,t⟩;have h:= @ak1 w ⟨k,a,b,n,t⟩;have i:= @ak2 w ⟨k,a,b,n,t⟩;have Q:=ae (af g (af h i));clear g h i;unfold ig;simp only at d f⊢;rcases kinds d f with rfl|rfl|rfl|rfl|rfl|rfl|rfl|rfl|rfl|rfl|rfl|rfl|rfl|rfl|rfl|rfl
 all_goals
  clear d f;go_enter Tryz.func20,Tryz.ntmps20;go_wp2;go_ret2
  first|exact ⟨_,rfl,Q.out.1 rfl⟩|exact ⟨_,rfl,Q.out.2.1 rfl⟩|exact ⟨_,rfl,Q.out.2.2 rfl⟩
end
section
open Go Go.RowKit
def ints (l:List Int):List Value:=l.map (.int .i64)
def aBp (l:List Int):(ints l).length=l.length:=by simp [ints]
def OH {l:List Int} {i:Nat} (h:i<l.length:=by omega):(ints l)[i]? =some (.int .i64 (l.getD i 0)):=by simp [ints,h]
def ints_set (l:List Int) (i:Nat) (x:Int):ints (l.set i x)=(ints l).set i (.int .i64 x):=by simp [ints,oD]
structure iH (w:World) (B q:Nat) (v:Value) (l:List Int):Prop where
 blk:w.heap[q]? =some (.cells #[v] 195 (0,0))
 own:w.ownsRow B 3 1 v l.length (ints l)
 ne:v.ownBlock≠some q
def ptr (q:Nat):Value:= .pointer (some ⟨q,0,none⟩)
def Js (q:Nat):Value:= .iface 194 (ptr q)
section
variable {w w':World} {B q:Nat} {v:Value} {l:List Int}
def iH.cell (h:iH w B q v l):w.cell? ⟨q,0,none⟩=some v:=qv h.blk 0
def iH.frz (h:iH w B q v l):w.frozen? ⟨q,0,none⟩=false:=Au h.blk 0
def iH.lt (h:iH w B q v l):q<w.heap.size:=(ax.1 h.blk).1
def iH.frame {S:Nat->Prop} (h:iH w B q v l) (a:Fr S w w') (b: ¬S q) (d: ∀k,v.ownBlock=some k-> ¬S k):iH w' B q v l:=
 ⟨(a.block q h.lt b).trans h.blk,qu h.own a d,h.ne⟩
def iH.quiet (h:iH w B q v l) (a:Fr (fun _=>False) w w'):iH w' B q v l:=h.frame a (fun e=>e) (fun _ _ e=>e)
def iH.form (h:iH w B q v l) (b:0<l.length): ∃g c,v= .slice (some ⟨g,0,none⟩) l.length c/\g≠q/\ ∀i,i<l.length->w.cell? ⟨g,i,none⟩=some (.int .i64 (l.getD i 0)):=by
 obtain ⟨g,c,rfl,_⟩:=OE h.own b;refine ⟨g,c,rfl,fun e=>h.ne (by rw [e];rfl),fun i a=> ?_⟩;rw [h.own.cellAt i (by omega),OH a]
def iH.slice (h:iH w B q v l): ∃a c,v= .slice a l.length c:=by
 rcases h.own.2 with ⟨rfl,e⟩|⟨g,c,_,rfl,_⟩
 all_goals grind
def ac9 (h:iH w B q v l):Calls Tryz.prog 137 #[ptr q] w fun e w'=>e= .returned (.int .i64 (l.length:Int))/\w'=w:=by
 obtain ⟨a,c,rfl⟩:=h.slice;have c0:=h.cell;clear h;unfold ptr;go_enter Tryz.func137,Tryz.ntmps137;go_wp2_with fail;go_ret;exact ⟨rfl,rfl⟩
def Ti (h:iH w B q v l) {i j:Nat} (hi:i<l.length) (d:j<l.length) (o:l.length<=10000):
 Calls Tryz.prog 376 #[ptr q,.int .i64 i,.int .i64 j] w fun e w'=>e= .returned (.bool (decide (l.getD j 0<l.getD i 0)))/\Fr (fun _=>False) w w':=by
 obtain ⟨g,c,rfl,p,hc⟩:=h.form (by omega);have c0:=h.cell;have k:=hc i hi;have m:=hc j d;clear h hc;obtain ⟨x,a⟩:=pQ (l.getD i 0);obtain ⟨y,b⟩:=pQ (l.getD j 0);obtain ⟨n,f⟩:=pQ l.length;rw [a] at k;rw [b] at m;rw [a,b];rw [f] at hi d o c0;clear a b f p;have s:(0:Int)<=(i:Int):=by omega
 have t:(i:Int)<(n:Int):=by omega
 have u:(0:Int)<=(j:Int):=by omega
 have z:(j:Int)<(n:Int):=by omega
 unfold ptr;go_enter Tryz.func376,Tryz.ntmps376;go_wp2_with (go_quiet (fail));go_ret;exact ⟨rfl,(Fr.refl _ w).drewN _⟩
end
end
end Go.Proofs.YtnmpjdgobafdkaaGreatDoor
