/- refineFuel_proved. -/
import Derived.Test.YtnmpjdgobafdkaaGreatDoorPmar
import Derived.Test.YtnmpjdgobafdkaaGreatDoorPmas
set_option maxRecDepth 100000
set_option maxHeartbeats 16000000
set_option linter.all false
noncomputable section
namespace Go.Proofs.YtnmpjdgobafdkaaGreatDoor
section
open Go.RowKit Go.Ev
def ND (x y:Int):Int:=jm (decide (x<0) !=decide (y<0)) (Gh (decide (x<0) !=decide (y<0)) x.natAbs y.natAbs)
end
section
open Go.RowKit Go.Ev
def asi (g h o p q s:World->Value->Prop):World->Value->Prop:=fun w v=> ∃a b c d e f,v= .agg #[a,b,c,d,e,f]/\(g w a/\h w b/\o w c)/\p w d/\q w e/\s w f
def asj {Q:aJ} {G:gb} {t u x y z B:aj} {g h o p q s:World->Value->Prop} (C:fm G g t) (D:fm G h u) (E:fm G o x) (F:fm G p y) (H:fm G q z) (I:fm G s B):fm G (asi g h o p q s) (.agg [t,u,x,y,z,B]):=by
 rintro w v ⟨a,b,c,d,e,f,rfl,⟨J,M,hc⟩,N,O,P⟩;exact ⟨[a,b,c,d,e,f],rfl,a,_,rfl,C w a J,b,_,rfl,D w b M,c,_,rfl,E w c hc,d,_,rfl,F w d N,e,_,rfl,H w e O,f,[],rfl,I w f P,rfl⟩
def nB (m e n f:Int):World->Value->Prop:=fun w x=> ∃a b,x= .agg #[.bool (decide (m<0)),a,.int .i64 e,.bool (decide (n<0)),b,.int .i64 f]/\dL w a m.natAbs/\dL w b n.natAbs
def vQ (i j k l:Nat):aj:= .agg [s0 i,sA i,s0 j,s0 k,sA k,s0 l]
section
variable {L:List Slot} {A:World->Prop} {i j k l:Nat} {m e n f:Int}
def ahV (h:kH L i=iS m) (h':(kH L j).v0.v= .int .i64 e) (d:kH L k=iS n) (g:(kH L l).v0.v= .int .i64 f): @fm ⟨cL L⟩ (fv A L) (nB m e n f) (vQ i j k l):=
 letI:aJ:=⟨cL L⟩
 (asj (iB (x:= .bool (decide (m<0))) (by rw [h];rfl)) (jR h) (iB h') (iB (x:= .bool (decide (n<0))) (by rw [d];rfl)) (jR d) (iB g)).of fun w v ⟨a,b,q,o,p⟩=>⟨_,a,_,_,b,_,q,⟨rfl,o,rfl⟩,rfl,p,rfl⟩
end
end
section
open Go.RowKit Go.Ev
section
variable {i j:Nat} {m e n f:Int}
def asl (k:Bz i m) (l:Bz j n) (hi:i<=400000:=by omega) (o:j<=400000:=by omega): ∃s:Int,s=(if m.sign≠n.sign then 0 else m.sign)/\bJ Tryz.prog bw 256 [nB m e n f] (o9 (bj (.int .i64 s)) (bj (.bool (decide (m.sign=n.sign))))):=by
 obtain ⟨s,g,b⟩:=Nt (e:=e) k;obtain ⟨t,h,d⟩:=Nt (e:=f) l;refine ⟨_,rfl,?_⟩;rw [<-g,<-h];by_cases a:s≠t
 ·rw [if_pos a,decide_eq_false a]
  have c1:=decide_eq_true a;exact jK [iS m,dE (dB .i64 e),iS n,dE (dB .i64 f),dE (dB .i64 s),dE (dB .i64 t)] mix (F:= [⟨.bin .neq,s0 4,s0 5,.bool true⟩]) (T:= [⟨73,[dQ 0 1],s0 4⟩,⟨73,[dQ 2 3],s0 5⟩]) (pats:= [vQ 0 1 2 3]) (res:= .fh [.int .i64 0,.bool false]) (by kernel_rfl)
   (eS (Be (dm rfl) (dm rfl) c1) jI) (cZ (db b (bL (nA rfl rfl) cY) (iB rfl)) rfl (cZ (db d (bL (nA rfl rfl) cY) (iB rfl)) rfl jJ)) rfl (fD (ahV rfl rfl rfl rfl) jB) (Ee yv jH)
 ·rw [if_neg a,decide_eq_true (by omega:s=t)]
  have c1:=decide_eq_false a;exact jK [iS m,dE (dB .i64 e),iS n,dE (dB .i64 f),dE (dB .i64 s),dE (dB .i64 t)] mix (F:= [⟨.bin .neq,s0 4,s0 5,.bool false⟩]) (T:= [⟨73,[dQ 0 1],s0 4⟩,⟨73,[dQ 2 3],s0 5⟩]) (pats:= [vQ 0 1 2 3]) (res:= .fh [s0 4,.bool true]) (by kernel_rfl)
   (eS (Be (dm rfl) (dm rfl) c1) jI) (cZ (db b (bL (nA rfl rfl) cY) (iB rfl)) rfl (cZ (db d (bL (nA rfl rfl) cY) (iB rfl)) rfl jJ)) rfl (fD (ahV rfl rfl rfl rfl) jB) (Ee (tc rfl) jH)
end
end
section
open Go.RowKit Go.Ev
def Zb (N:Nat) (z:Int):Prop:= ∃k,k<=N/\Bz k z
def Nb (N:Nat) (n:Nat):Prop:= ∃k,k<=N/\Bn k n
def Zb.mk {k N:Nat} {z:Int} (h:Bz k z) (g:k<=N):Zb N z:=⟨k,g,h⟩
def DV (m e:Int):Prop:= ∃k,k<=65536/\Bz k m/\EB e
def DT (t:Int×Int×Int):Prop:=DV t.1 t.2.1/\0<=t.2.2/\t.2.2<=3
def Et (n:Nat):n<2^eN n:=by
 unfold eN;by_cases h:n=0
 ·simp_all
 ·rw [if_neg h];exact Nat.lt_log2_self
def DV.zero:DV 0 0:=⟨0,b6 _,by unfold Bz;decide,by unfold EB;decide⟩
def ahW {m e:Int} (h:En m e=true):DV m e:=by
 have i:=abD h;unfold En at h;by_cases g:m=0
 ·subst g
  exact ⟨0,b6 _,by unfold Bz;decide,i⟩
 ·rw [if_neg g] at h
  simp only [au,decide_eq_true_eq] at h;exact ⟨eN m.natAbs,h.1.1.1,Et _,i⟩
def DT.none {c:Int} (g:0<=c) (h:c<=3):DT (0,0,c):=⟨DV.zero,g,h⟩
def asm (m e:Int):DT (CO m e):=by
 unfold CO;split
 ·exact DT.none (by decide) (by decide)
 ·split
  ·exact DT.none (by decide) (by decide)
  ·split
   ·rename_i h
    exact ⟨ahW h,by simp_all,by simp_all⟩
   ·exact DT.none (by decide) (by decide)
def ahX (n:Nat):decide ((mB n:Int)≠0)=decide (n≠0):=by
 by_cases h:n=0
 ·subst h;rw [abi];rfl
 ·have:=abm h (abn n)
  grind
def cD (lo hi:Int):World->Value->Prop:=fun w v=> ∃a b,v= .agg #[.bool (decide (lo<0)),a,.bool (decide (hi<0)),b]/\dL w a lo.natAbs/\dL w b hi.natAbs
section
variable {ri:aJ} {G:gb} {a b c d x y u:aj} {m e n f:Int} {q:Nat}
def RM (h:fm G (dN m) (.agg [a,b])) (o:fm G (bj (.int .i64 e)) x):fm G (iR m e) (.agg [a,b,x]):=by
 rintro w v ⟨r,rfl,s⟩;obtain ⟨z,g,t,_,rfl,i,b1,_,rfl,l,rfl⟩:=h w (.agg #[.bool (decide (m<0)),r]) ⟨r,rfl,s⟩;cases g;exact ⟨_,rfl,_,_,rfl,i,_,_,rfl,l,_,_,rfl,o w _ rfl,rfl⟩
def RN (h:ft G (.agg [a,b]) (dN m)) (t:ft G x (bj (.int .i64 e))):ft G (.agg [a,b,x]) (iR m e):=by
 rintro w v ⟨A,rfl,g,_,rfl,l,b1,_,rfl,o,c1,_,rfl,s,rfl⟩;obtain ⟨r,i,z⟩:=h w (.agg #[g,b1]) ⟨_,rfl,_,_,rfl,l,_,_,rfl,o,rfl⟩;cases i;have:=t w _ s;subst this;exact ⟨_,rfl,z⟩
def asn (h:fm G (dN m) (.agg [a,b])) (s:fm G (fw q) x):fm G (sI m q) (.agg [a,b,x]):=by
 rintro w v ⟨r,d,rfl,t,o⟩;obtain ⟨A,g,z,_,rfl,i,b1,_,rfl,l,rfl⟩:=h w (.agg #[.bool (decide (m<0)),r]) ⟨r,rfl,t⟩;cases g;exact ⟨_,rfl,_,_,rfl,i,_,_,rfl,l,_,_,rfl,s w _ o,rfl⟩
def aso (h:ft G (.agg [a,b]) (dN m)) (t:ft G x (fw q)):ft G (.agg [a,b,x]) (sI m q):=by
 rintro w v ⟨A,rfl,g,_,rfl,l,b1,_,rfl,o,c1,_,rfl,s,rfl⟩;obtain ⟨r,i,z⟩:=h w (.agg #[g,b1]) ⟨_,rfl,_,_,rfl,l,_,_,rfl,o,rfl⟩;cases i;exact ⟨_,c1,rfl,z,t w _ s⟩
def asp (h:fm G (dN m) (.agg [a,b])) (h':fm G (dN n) (.agg [c,d])):fm G (cD m n) (.agg [a,b,c,d]):=by
 rintro w v ⟨r,s,rfl,A,B⟩;obtain ⟨C,g,i,_,rfl,l,b1,_,rfl,o,rfl⟩:=h w (.agg #[.bool (decide (m<0)),r]) ⟨r,rfl,A⟩;cases g;obtain ⟨C,g,i,_,rfl,t,b1,_,rfl,z,rfl⟩:=h' w (.agg #[.bool (decide (n<0)),s]) ⟨s,rfl,B⟩;cases g;exact ⟨_,rfl,_,_,rfl,l,_,_,rfl,o,_,_,rfl,t,_,_,rfl,z,rfl⟩
def asq (h:ft G (.agg [a,b]) (dN m)) (h':ft G (.agg [c,d]) (dN n)):ft G (.agg [a,b,c,d]) (cD m n):=by
 rintro w v ⟨D,rfl,i,_,rfl,o,b1,_,rfl,t,c1,_,rfl,z,l,_,rfl,A,rfl⟩;obtain ⟨r,g,B⟩:=h w (.agg #[i,b1]) ⟨_,rfl,_,_,rfl,o,_,_,rfl,t,rfl⟩;cases g;obtain ⟨s,g,C⟩:=h' w (.agg #[c1,l]) ⟨_,rfl,_,_,rfl,z,_,_,rfl,A,rfl⟩;cases g;exact ⟨_,_,rfl,B,C⟩
def asr (h:fm G (iR m e) (.agg [a,b,x])) (h':fm G (iR n f) (.agg [c,d,y])):fm G (nB m e n f) (.agg [a,b,x,c,d,y]):=by
 rintro w v ⟨r,s,rfl,C,D⟩;obtain ⟨E,g,i,_,rfl,l,b1,_,rfl,o,F,_,rfl,A,rfl⟩:=h w (.agg #[.bool (decide (m<0)),r,.int .i64 e]) ⟨r,rfl,C⟩;cases g;obtain ⟨E,g,i,_,rfl,t,b1,_,rfl,z,F,_,rfl,B,rfl⟩:=h' w (.agg #[.bool (decide (n<0)),s,.int .i64 f]) ⟨s,rfl,D⟩;cases g;exact ⟨_,rfl,_,_,rfl,l,_,_,rfl,o,_,_,rfl,A,_,_,rfl,t,_,_,rfl,z,_,_,rfl,B,rfl⟩
def ass (h:ft G (.agg [a,b,x]) (iR m e)) (h':ft G (.agg [c,d,y]) (iR n f)):ft G (.agg [a,b,x,c,d,y]) (nB m e n f):=by
 rintro w v ⟨I,rfl,i,_,rfl,o,b1,_,rfl,t,F,_,rfl,B,c1,_,rfl,z,l,_,rfl,A,H,_,rfl,C,rfl⟩;obtain ⟨r,g,D⟩:=h w (.agg #[i,b1,F]) ⟨_,rfl,_,_,rfl,o,_,_,rfl,t,_,_,rfl,B,rfl⟩;cases g;obtain ⟨s,g,E⟩:=h' w (.agg #[c1,l,H]) ⟨_,rfl,_,_,rfl,z,_,_,rfl,A,_,_,rfl,C,rfl⟩;cases g;exact ⟨_,_,rfl,D,E⟩
def ast:ft G (.agg [.bool false,.jP]) (dN 0):=by
 rintro w v ⟨l,rfl,g,_,rfl,h,b1,_,rfl,i,rfl⟩;rw [show g= .bool false from h,show b1= .slice none 0 0 from i];exact ⟨_,rfl,(JW w 0).r⟩
def asu:ft G .jP (fw 0):=by
 rintro w v h;rw [show v= .slice none 0 0 from h];exact (JW w 0).r
end
section
variable {k j:Nat} {m e n f p:Int}
def RO (l:Bz k m) (i:k<=1000000:=by omega): ∃t,DT t/\t=CO m e/\bJ Tryz.prog bw 80 [dN m,bj (.int .i64 e)] (o9 (iR t.1 t.2.1) (bj (.int .i64 t.2.2))):=by
 obtain ⟨t,_,g,h⟩:=arH (e:=e) l i;exact ⟨t,g▸asm m e,g,h⟩
def asv (h:DV m e):DV (-m) e/\bJ Tryz.prog bw 125 [iR m e] (iR (-m) e):=by
 obtain ⟨i,t,g,s⟩:=h;obtain ⟨z,_,o,l⟩:=arI (e:=e) g;exact ⟨⟨i,t,g.neg,s⟩,o▸l⟩
def NH (h:DV m e) (h':DV n f): ∃c,c=tR m e n f/\bJ Tryz.prog bw 44 [iR m e,iR n f] (bj (.int .i64 c)):=by
 obtain ⟨i,z,o,g⟩:=h;obtain ⟨j,A,s,l⟩:=h';obtain ⟨C,t⟩: ∃C:Nat,C=170000:=⟨_,rfl⟩;exact arJ o s g l (C:=C)
def asw (h:DV m e): ∃c:Int,c=m.sign/\bJ Tryz.prog bw 73 [iR m e] (bj (.int .i64 c)):=by
 obtain ⟨i,o,g,l⟩:=h;exact Nt g
def abQ (h:DV m e): ∃t,t=ko m e/\bJ Tryz.prog bw 74 [iR m e] (bj (.int .i64 t)):=by
 obtain ⟨i,o,l,g⟩:=h;exact abE l g
def VT (t:(Int×Int)×(Int×Int)×Int):Prop:=DV t.1.1 t.1.2/\DV t.2.1.1 t.2.1.2/\0<=t.2.2/\t.2.2<=11
def ahY (h:DV m e) (h':DV n f): ∃s:Int,s=(if m.sign≠n.sign then 0 else m.sign)/\bJ Tryz.prog bw 256 [nB m e n f] (o9 (bj (.int .i64 s)) (bj (.bool (decide (m.sign=n.sign))))):=by
 obtain ⟨i,z,g,o⟩:=h;obtain ⟨j,A,l,t⟩:=h';exact asl g l
end
end
section
open Go.RowKit Go.Ev
inductive SD where
 |z (z:Int)|n (n:Nat)|i (x:Int)|u (x:Nat)|o|zs (z:Int) (b:Bool) (h:decide (z<0)=b)|ra (R:World->Value->Prop) (h: ∀w v,R w v->v.oneCell'=true)
def SD.slot:SD->Slot
 | .z x=>iS x
 | .n x=>nS x
 | .i x=>dE (dB .i64 x)
 | .u x=>dE (dB .u32 (x:Int))
 | .o=>agO
 | .zs x _ _=>iS x
 | .ra R h=>⟨R,h,default,default,default,false,fun e=>by cases e⟩
def aU:List SD->Nat->SD
 | [],_=> .o
 |d::_,0=>d
 |_::l,n+1=>aU l n
def CT: ∀(L:List SD) (j:Nat),kH (L.map SD.slot) j=(aU L j).slot
 | [],_=>rfl
 |_::_,0=>rfl
 |_::l,n+1=>CT l n
def SD.zv:SD->Int
 | .z x=>x
 | .zs x _ _=>x
 |_=>0
def SD.nv:SD->Nat
 | .n x=>x
 | .z x=>x.natAbs
 | .zs x _ _=>x.natAbs
 |_=>0
def SD.iv:SD->Int
 | .i x=>x
 | .u x=>x
 |_=>0
def SD.rO:SD->Bool
 | .z _=>true
 | .zs _ _ _=>true
 |_=>false
def SD.sg:SD->Bool->Bool
 | .zs _ true _,c=>c
 | .zs _ false _,c=> !c
 |_,_=>false
def SD.Bp:SD->Bool
 | .ra _ _=>true
 |_=>false
def SD.ar:SD->World->Value->Prop
 | .ra R _=>R
 |_=>fun _ _=>False
def SD.Bq:SD->Bool
 | .n _=>true
 |_=>false
def SD.WN:SD->Bool
 | .i _=>true
 |_=>false
def SD.isU:SD->Bool
 | .u _=>true
 |_=>false
inductive KZ where
 |z (j:Nat)|o|s (b:Bool) (j:Nat)
inductive KN where
 |n (j:Nat)|m (j:Nat)|o
inductive KI where
 |i (j:Nat)|l (k:Int)|u (j:Nat)|k (d:IntKind) (v:Int)|len (j:Nat)
def KZ.c0:KZ->aj
 | .z j=>s0 j
 | .o=> .bool false
 | .s x _=> .bool x
def KZ.c1:KZ->aj
 | .z j=>sA j
 | .o=> .jP
 | .s _ j=>sA j
def KZ.val (L:List SD):KZ->Int
 | .z j=>(aU L j).zv
 | .o=>0
 | .s _ j=>(aU L j).zv
def KZ.ok (L:List SD) (a:Bool):KZ->Bool
 | .z j=>(aU L j).rO
 | .o=> !a
 | .s x j=>(aU L j).sg x
def KN.pat:KN->aj
 | .n j=>sA j
 | .m j=>sA j
 | .o=> .jP
def KN.val (L:List SD):KN->Nat
 | .n j=>(aU L j).nv
 | .m j=>(aU L j).nv
 | .o=>0
def KN.ok (L:List SD) (a:Bool):KN->Bool
 | .n j=>(aU L j).Bq
 | .m j=>(aU L j).rO
 | .o=> !a
def KI.pat:KI->aj
 | .i j=>s0 j
 | .l y=> .int .i64 y
 | .u j=>s0 j
 | .k d v=> .int d v
 | .len j=>s2 j
def KI.kd:KI->IntKind
 | .u _=> .u32
 | .k d _=>d
 |_=> .i64
def KI.val (L:List SD):KI->Int
 | .i j=>(aU L j).iv
 | .l y=>y
 | .u j=>(aU L j).iv
 | .k _ v=>v
 | .len j=>(mB (aU L j).nv:Nat)
def KI.ok (L:List SD):KI->Bool
 | .i j=>(aU L j).WN
 | .u j=>(aU L j).isU
 | .len j=>(aU L j).Bq||(aU L j).rO
 |_=>true
def KI.w:KI->Bool
 | .i _=>true
 | .l _=>true
 |_=>false
inductive Kd where
 |z (a:KZ)|n (a:KN)|i (a:KI)|b (b:Bool)|d (a:KZ) (e:KI)|r (a:KZ) (q:KN)|v (a:KZ) (e:KI) (c:KZ) (f:KI)|s (a b:KZ)|t (a b:Kd)|t3 (a b c:Kd)|lit (l:List aj)
 |nd (k:Int) (a b n:KI) (t:List UInt8)|res (a:KZ) (q:KN) (s:KI)|out (a:KZ) (e:KI) (c:KZ) (f:KI) (s:KI)
 |cat (a b:Kd)|nil|ra (j:Nat)|fc (f:FuncId) (j:Nat)|lv (v:aj)
def aL(j:Nat):Kd:=.z (.z j)
def aA(j:Nat):Kd:=.i (.i j)
def gz(k:Int):Kd:=.i (.l k)
def cU(j:Nat):Kd:=.n (.n j)
def ah(i j:Nat):Kd:=.s (.z i) (.z j)
def eE(i j:Nat):Kd:=.d (.z i) (.i j)
def Hj (p:Int) (q:Nat) (s:Int):World->Value->Prop:=fun w v=> ∃u d,v= .agg #[.bool (decide (p<0)),u,d,.int .i64 s]/\dL w u p.natAbs/\dL w d q
def WO (m e n f s:Int):World->Value->Prop:=fun w x=> ∃a b,x= .agg #[.bool (decide (m<0)),a,.int .i64 e,.bool (decide (n<0)),b,.int .i64 f,.int .i64 s]/\dL w a m.natAbs/\dL w b n.natAbs
def isLit:aj->Bool
 | .bool _=>true
 | .jP=>true
 | .int _ _=>true
 |_=>false
def Gm:aj->Value
 | .bool x=> .bool x
 | .jP=> .slice none 0 0
 | .int k x=> .int k x
 |_=> .bool false
def isW:aj->Bool
 | .str _=>true
 |v=>isLit v
def ahZ:aj->Value
 | .str s=> .string ⟨⟨s⟩⟩
 |v=>Gm v
def Iv:List aj->Bool
 | []=>true
 |a::l=>isLit a&&Iv l
def Kd.cells:Kd->List aj
 | .z a=> [a.c0,a.c1]
 | .d a e=> [a.c0,a.c1,e.pat]
 | .r a q=> [a.c0,a.c1,q.pat]
 | .v a e c f=> [a.c0,a.c1,e.pat,c.c0,c.c1,f.pat]
 | .s a y=> [a.c0,a.c1,y.c0,y.c1]
 | .lit l=>l
 | .res a x y=> [a.c0,a.c1,x.pat,y.pat]
 | .out a e c f y=> [a.c0,a.c1,e.pat,c.c0,c.c1,f.pat,y.pat]
 | .cat a y=>a.cells++y.cells
 |_=> []
def Kd.tU:Kd->Bool
 | .z _=>true
 | .d _ _=>true
 | .r _ _=>true
 | .v _ _ _ _=>true
 | .s _ _=>true
 | .lit _=>true
 | .res _ _ _=>true
 | .out _ _ _ _ _=>true
 | .cat a y=>a.tU&&y.tU
 |_=>false
def abR (d e:World->Value->Prop):World->Value->Prop:=fun w v=> ∃a b,v= .agg ⟨a++b⟩/\d w (.agg ⟨a⟩)/\e w (.agg ⟨b⟩)
def Kd.pat:Kd->aj
 | .z a=> .agg [a.c0,a.c1]
 | .n a=>a.pat
 | .i a=>a.pat
 | .b x=> .bool x
 | .d a e=> .agg [a.c0,a.c1,e.pat]
 | .r a q=> .agg [a.c0,a.c1,q.pat]
 | .v a e c f=> .agg [a.c0,a.c1,e.pat,c.c0,c.c1,f.pat]
 | .s a y=> .agg [a.c0,a.c1,y.c0,y.c1]
 | .t a y=> .fh [a.pat,y.pat]
 | .t3 a y x=> .fh [a.pat,y.pat,x.pat]
 | .lit l=> .agg l
 | .nd k a y x l=> .agg [.int .i64 k,a.pat,y.pat,x.pat,.str l]
 | .res a x y=> .agg [a.c0,a.c1,x.pat,y.pat]
 | .out a e c f y=> .agg [a.c0,a.c1,e.pat,c.c0,c.c1,f.pat,y.pat]
 | .cat a y=> .agg (a.cells++y.cells)
 | .nil=> .jP
 | .ra j=>sA j
 | .fc f j=> .func (.func f) [] [sA j]
 | .lv g=>g
def Kd.rel (L:List SD):Kd->World->Value->Prop
 | .z a=>dN (a.val L)
 | .n a=>fw (a.val L)
 | .i a=>bj (.int a.kd (a.val L))
 | .b x=>bj (.bool x)
 | .d a e=>iR (a.val L) (e.val L)
 | .r a q=>sI (a.val L) (q.val L)
 | .v a e c f=>nB (a.val L) (e.val L) (c.val L) (f.val L)
 | .s a y=>cD (a.val L) (y.val L)
 | .t a y=>o9 (a.rel L) (y.rel L)
 | .t3 a y x=>Ef (a.rel L) (y.rel L) (x.rel L)
 | .lit l=>bj (.agg ⟨l.map Gm⟩)
 | .nd k a y x l=>bj (.agg #[.int .i64 k,.int .i64 (a.val L),.int .i64 (y.val L),.int .i64 (x.val L),.string ⟨⟨l⟩⟩])
 | .res a x y=>Hj (a.val L) (x.val L) (y.val L)
 | .out a e c f y=>WO (a.val L) (e.val L) (c.val L) (f.val L) (y.val L)
 | .cat a y=>abR (a.rel L) (y.rel L)
 | .nil=>bj (.slice none 0 0)
 | .ra j=>(aU L j).ar
 | .fc f j=>fun w v=> ∃p,v= .func (.func f) #[] #[p]/\(aU L j).ar w p
 | .lv g=>bj (ahZ g)
def Kd.ok (L:List SD) (p:Bool):Kd->Bool
 | .z a=>a.ok L p
 | .n a=>a.ok L p
 | .i a=>a.ok L
 | .b _=>true
 | .d a e=>a.ok L p&&(e.ok L&&e.w)
 | .r a q=>a.ok L p&&q.ok L p
 | .v a e c f=>a.ok L p&&(e.ok L&&e.w)&&(c.ok L p&&(f.ok L&&f.w))
 | .s a y=>a.ok L p&&y.ok L p
 | .t a y=>a.ok L p&&y.ok L p
 | .t3 a y x=>a.ok L p&&(y.ok L p&&x.ok L p)
 | .lit l=>Iv l
 | .nd _ a y x _=>(a.ok L&&a.w)&&((y.ok L&&y.w)&&(x.ok L&&x.w))
 | .res a x y=>a.ok L p&&(x.ok L p&&(y.ok L&&y.w))
 | .out a e c f y=>(a.ok L p&&(e.ok L&&e.w))&&((c.ok L p&&(f.ok L&&f.w))&&(y.ok L&&y.w))
 | .cat a y=>(a.ok L p&&a.tU)&&(y.ok L p&&y.tU)
 | .nil=>true
 | .ra j=>(aU L j).Bp
 | .fc _ j=>(aU L j).Bp
 | .lv g=>isW g
section
variable {L:List SD} {A:World->Prop}
def abS {d:SD} (h:d.rO=true):d.slot=iS d.zv:=by cases d<;>first|rfl|cases h
def WQ {d:SD} {b:Bool} (h:d.sg b=true):d.slot=iS d.zv/\decide (d.zv<0)=b/\d.rO=true:=by
 cases d with
 |zs x c hc=>cases c<;>cases b<;>first|exact ⟨rfl,hc,rfl⟩|cases h
 |_=>cases h
def asx {d:SD} (h:d.Bq=true):d= .n d.nv:=by cases d<;>first|rfl|cases h
def RQ {d:SD} (h:d.rO=true):d.nv=d.zv.natAbs:=by cases d<;>first|rfl|cases h
def KZ.into {a:KZ} (h:a.ok L true=true): @fm ⟨cL (L.map SD.slot)⟩ (fv A (L.map SD.slot)) (dN (a.val L)) (.agg [a.c0,a.c1]):=by
 cases a with
 |z j=>exact kj (by rw [CT,abS h];rfl)
 |o=>cases h
 |s b j=>exact nT (WQ h).2.1 (by rw [CT,(WQ h).1];rfl)
def KZ.qK {a:KZ} (h:a.ok L false=true): @ft ⟨cL (L.map SD.slot)⟩ (fv A (L.map SD.slot)) (.agg [a.c0,a.c1]) (dN (a.val L)):=by
 cases a with
 |z j=>exact jL (by rw [CT,abS h];rfl)
 |o=>exact @ast ⟨cL (L.map SD.slot)⟩ _
 |s b j=>exact ag0 (WQ h).2.1 (by rw [CT,(WQ h).1];rfl)
def abT {j:Nat} (h:(aU L j).rO=true):kH (L.map SD.slot) j=F6 (aU L j).nv (agR (decide ((aU L j).zv<0))) default:=by
 rw [CT,RQ h,abS h];rfl
def abU {j:Nat} (h:(aU L j).Bq=true):kH (L.map SD.slot) j=F6 (aU L j).nv default default:=by
 rw [CT]
 conv=>lhs;rw [asx h]
 rfl
def KN.into {a:KN} (h:a.ok L true=true): @fm ⟨cL (L.map SD.slot)⟩ (fv A (L.map SD.slot)) (fw (a.val L)) a.pat:=by
 cases a with
 |n j=>exact jR (abU h)
 |m j=>exact jR (abT h)
 |o=>cases h
def KN.qK {a:KN} (h:a.ok L false=true): @ft ⟨cL (L.map SD.slot)⟩ (fv A (L.map SD.slot)) a.pat (fw (a.val L)):=by
 cases a with
 |n j=>exact eA (abU h)
 |m j=>exact eA (abT h)
 |o=>exact @asu ⟨cL (L.map SD.slot)⟩ _
def KI.yC {a:KI} (h:a.ok L=true): ∀m:Mp,@γ ⟨cL (L.map SD.slot)⟩ m a.pat= .int a.kd (a.val L):=by
 cases a with
 |i j=>exact dm (by rw [CT];simp only [KI.val];revert h;simp only [KI.ok];cases aU L j<;>intro h<;>first|rfl|cases h)
 |l k=>exact fun m=>rfl
 |u j=>exact dm (by rw [CT];simp only [KI.val];revert h;simp only [KI.ok];cases aU L j<;>intro h<;>first|rfl|cases h)
 |k d v=>exact fun m=>rfl
 |len j=>
  refine Bf ?_;simp only [KI.ok,dw] at h;rcases h with h|h
  ·rw [abU h];rfl
  ·rw [abT h];rfl
def ah0 {b:aJ} {G:gb} {p:aj} {x:Value} (a:xm p=true) (h: ∀m:Mp,γ m p=x):fm G (bj x) p/\ft G p (bj x):=by
 cases p<;>first|exact ⟨fun w v e=>e.trans (h M7).symm,fun w v e=>(show _=_ from e).trans (h M7)⟩|cases a
def KI.plain (a:KI):xm a.pat=true:=by cases a<;>rfl
def KI.into {a:KI} (h:a.ok L=true): @fm ⟨cL (L.map SD.slot)⟩ (fv A (L.map SD.slot)) (bj (.int a.kd (a.val L))) a.pat:=(@ah0 ⟨cL (L.map SD.slot)⟩ _ _ _ a.plain (KI.yC h)).1
def KI.qK {a:KI} (h:a.ok L=true): @ft ⟨cL (L.map SD.slot)⟩ (fv A (L.map SD.slot)) a.pat (bj (.int a.kd (a.val L))):=(@ah0 ⟨cL (L.map SD.slot)⟩ _ _ _ a.plain (KI.yC h)).2
def KI.abV {a:KI} (h:a.w=true):a.kd= .i64:=by cases a<;>first|rfl|cases h
def KI.Ew {a:KI} (h:(a.ok L&&a.w)=true): @fm ⟨cL (L.map SD.slot)⟩ (fv A (L.map SD.slot)) (bj (.int .i64 (a.val L))) a.pat:=by
 rw [au] at h;have:=KI.into (A:=A) h.1
 rwa [KI.abV h.2] at this
def KI.Ex {a:KI} (h:(a.ok L&&a.w)=true): @ft ⟨cL (L.map SD.slot)⟩ (fv A (L.map SD.slot)) a.pat (bj (.int .i64 (a.val L))):=by
 rw [au] at h;have:=KI.qK (A:=A) h.1
 rwa [KI.abV h.2] at this
def ah1 {b:aJ} {G:gb} {w:World} {a:aj} (h:isLit a=true): ∀v,Mt G w a v↔v=Gm a:=fun v=>by
 cases a<;>first|exact jY|cases h
def WS {g:aJ} {G:gb} {w:World} : ∀(l:List aj),Iv l=true-> ∀b,pJ G w l b↔b=l.map Gm
 | [],_,b=>jY
 |a::l,h,b=>by
  simp only [Iv,au] at h;constructor
  ·rintro ⟨v,f,rfl,d,e⟩
   rw [(ah1 h.1 v).1 d,(WS l h.2 f).1 e];rfl
  ·rintro rfl
   exact ⟨_,_,rfl,(ah1 h.1 _).2 rfl,(WS l h.2 _).2 rfl⟩
def asy {a:aJ} {G:gb} {l:List aj} (h:Iv l=true):fm G (bj (.agg ⟨l.map Gm⟩)) (.agg l):=fun w v e=>
 ⟨l.map Gm,e,(WS l h _).2 rfl⟩
def asz {d:aJ} {G:gb} {l:List aj} (h:Iv l=true):ft G (.agg l) (bj (.agg ⟨l.map Gm⟩)):=fun w v e=>by
 obtain ⟨b,rfl,a⟩:=e;rw [(WS l h b).1 a];rfl
def asA {h:aJ} {G:gb} {k x y z:Int} {a b c:aj} {t:List UInt8} (d:fm G (bj (.int .i64 x)) a) (f:fm G (bj (.int .i64 y)) b) (g:fm G (bj (.int .i64 z)) c):fm G (bj (.agg #[.int .i64 k,.int .i64 x,.int .i64 y,.int .i64 z,.string ⟨⟨t⟩⟩])) (.agg [.int .i64 k,a,b,c,.str t]):=by
 rintro w v e;rw [show v=_ from e];exact ⟨_,rfl,_,_,rfl,rfl,_,_,rfl,d w _ rfl,_,_,rfl,f w _ rfl,_,_,rfl,g w _ rfl,_,_,rfl,rfl,rfl⟩
def asB {u:aJ} {G:gb} {k x y z:Int} {a b c:aj} {t:List UInt8} (i:ft G a (bj (.int .i64 x))) (j:ft G b (bj (.int .i64 y))) (l:ft G c (bj (.int .i64 z))):ft G (.agg [.int .i64 k,a,b,c,.str t]) (bj (.agg #[.int .i64 k,.int .i64 x,.int .i64 y,.int .i64 z,.string ⟨⟨t⟩⟩])):=by
 rintro w v ⟨B,rfl,m,_,rfl,d,o,_,rfl,e,p,_,rfl,f,q,_,rfl,g,s,_,rfl,h,rfl⟩;rw [show m=_ from d,show o=_ from i w _ e,show p=_ from j w _ f,show q=_ from l w _ g,show s=_ from h];rfl
def asC {p:aJ} {G:gb} {m s:Int} {q:Nat} {a b x y:aj} (h:fm G (dN m) (.agg [a,b])) (j:fm G (fw q) x) (l:fm G (bj (.int .i64 s)) y):fm G (Hj m q s) (.agg [a,b,x,y]):=by
 rintro w v ⟨r,d,rfl,k,i⟩;obtain ⟨t,e,o,_,rfl,f,b1,_,rfl,g,rfl⟩:=h w (.agg #[.bool (decide (m<0)),r]) ⟨r,rfl,k⟩;cases e;exact ⟨_,rfl,_,_,rfl,f,_,_,rfl,g,_,_,rfl,j w _ i,_,_,rfl,l w _ rfl,rfl⟩
def asD {t:aJ} {G:gb} {m s:Int} {q:Nat} {a b x y:aj} (h:ft G (.agg [a,b]) (dN m)) (k:ft G x (fw q)) (o:ft G y (bj (.int .i64 s))):ft G (.agg [a,b,x,y]) (Hj m q s):=by
 rintro w v ⟨u,rfl,d,_,rfl,f,b1,_,rfl,g,c1,_,rfl,i,p,_,rfl,j,rfl⟩;obtain ⟨r,e,l⟩:=h w (.agg #[d,b1]) ⟨_,rfl,_,_,rfl,f,_,_,rfl,g,rfl⟩;cases e;have:=o w _ j;subst this;exact ⟨_,c1,rfl,l,k w _ i⟩
def asE {F:aJ} {G:gb} {m e n f s:Int} {a b x c d y z:aj} (h:fm G (iR m e) (.agg [a,b,x])) (h':fm G (iR n f) (.agg [c,d,y])) (B:fm G (bj (.int .i64 s)) z):fm G (WO m e n f s) (.agg [a,b,x,c,d,y,z]):=by
 rintro w v ⟨r,t,rfl,u,C⟩;obtain ⟨D,g,i,_,rfl,j,b1,_,rfl,k,E,_,rfl,p,rfl⟩:=h w (.agg #[.bool (decide (m<0)),r,.int .i64 e]) ⟨r,rfl,u⟩;cases g;obtain ⟨D,g,i,_,rfl,l,b1,_,rfl,o,E,_,rfl,q,rfl⟩:=h' w (.agg #[.bool (decide (n<0)),t,.int .i64 f]) ⟨t,rfl,C⟩;cases g;exact ⟨_,rfl,_,_,rfl,j,_,_,rfl,k,_,_,rfl,p,_,_,rfl,l,_,_,rfl,o,_,_,rfl,q,_,_,rfl,B w _ rfl,rfl⟩
def asF {I:aJ} {G:gb} {m e n f s:Int} {a b x c d y z:aj} (h:ft G (.agg [a,b,x]) (iR m e)) (h':ft G (.agg [c,d,y]) (iR n f)) (D:ft G z (bj (.int .i64 s))):ft G (.agg [a,b,x,c,d,y,z]) (WO m e n f s):=by
 rintro w v ⟨J,rfl,i,_,rfl,k,b1,_,rfl,l,F,_,rfl,q,c1,_,rfl,o,j,_,rfl,p,H,_,rfl,u,M,_,rfl,B,rfl⟩;obtain ⟨r,g,C⟩:=h w (.agg #[i,b1,F]) ⟨_,rfl,_,_,rfl,k,_,_,rfl,l,_,_,rfl,q,rfl⟩;cases g;obtain ⟨t,g,E⟩:=h' w (.agg #[c1,j,H]) ⟨_,rfl,_,_,rfl,o,_,_,rfl,p,_,_,rfl,u,rfl⟩;cases g;have:=D w _ B;subst this;exact ⟨_,_,rfl,C,E⟩
def Gn {k:Kd} (h:k.tU=true):k.pat= .agg k.cells:=by cases k<;>first|rfl|cases h
def WT {p:aJ} {G:gb} {w:World} : ∀(l m:List aj) (f:List Value),pJ G w (l++m) f↔ ∃a b,f=a++b/\pJ G w l a/\pJ G w m b
 | [],m,f=>⟨fun h=>⟨[],f,rfl,rfl,h⟩,fun ⟨a,b,e,d,k⟩=>by
   rw [show a= [] from d] at e;simp_all⟩
 |x::l,m,f=>by
  constructor
  ·rintro ⟨v,o,rfl,d,k⟩
   obtain ⟨a,b,rfl,g,i⟩:=(WT l m o).1 k;exact ⟨v::a,b,rfl,⟨v,a,rfl,d,g⟩,i⟩
  ·rintro ⟨a,b,rfl,⟨v,j,rfl,d,g⟩,i⟩
   exact ⟨v,j++b,rfl,d,(WT l m _).2 ⟨j,b,rfl,g,i⟩⟩
def asG {q:aJ} {G:gb} {d e:World->Value->Prop} {l m:List aj} (h:fm G d (.agg l)) (i:fm G e (.agg m)):fm G (abR d e) (.agg (l++m)):=by
 rintro w v ⟨a,b,rfl,o,p⟩;obtain ⟨x,f,j⟩:=h w _ o;obtain ⟨y,g,k⟩:=i w _ p;cases f;cases g;exact ⟨a++b,rfl,(WT l m _).2 ⟨a,b,rfl,j,k⟩⟩
def asH {o:aJ} {G:gb} {d e:World->Value->Prop} {l m:List aj} (f:ft G (.agg l) d) (g:ft G (.agg m) e):ft G (.agg (l++m)) (abR d e):=by
 rintro w v ⟨k,rfl,h⟩;obtain ⟨a,b,rfl,i,j⟩:=(WT l m k).1 h;exact ⟨a,b,rfl,f w _ ⟨a,rfl,i⟩,g w _ ⟨b,rfl,j⟩⟩
def ah2 {d:SD} (h:d.Bp=true):d.slot.jf=d.ar:=by cases d<;>first|rfl|cases h
def ah3 {j:Nat} (h:(aU L j).Bp=true): @fm ⟨cL (L.map SD.slot)⟩ (fv A (L.map SD.slot)) ((aU L j).ar) (sA j):=agS (by rw [CT];exact ah2 h)
def ah4 {j:Nat} (h:(aU L j).Bp=true): @ft ⟨cL (L.map SD.slot)⟩ (fv A (L.map SD.slot)) (sA j) ((aU L j).ar):=agT (by rw [CT];exact ah2 h)
def ah5 {b:aJ} {G:gb} {w:World} {a:aj} (h:isW a=true): ∀v,Mt G w a v↔v=ahZ a:=fun v=>by
 cases a<;>first|exact jY|cases h
def Kd.into: ∀ {a:Kd},a.ok L true=true-> @fm ⟨cL (L.map SD.slot)⟩ (fv A (L.map SD.slot)) (a.rel L) a.pat:=fun {a} h=>by
 letI:aJ:=⟨cL (L.map SD.slot)⟩
 induction a with
 |z a=>exact KZ.into h
 |n a=>exact KN.into h
 |i a=>exact KI.into h
 |b b=>exact oO
 |d a e=>simp only [Kd.ok,au (a.ok L true)] at h;exact RM (KZ.into h.1) (KI.Ew h.2)
 |r a q=>simp only [Kd.ok,au] at h;exact asn (KZ.into h.1) (KN.into h.2)
 |v a e c f=>
  have g:=(au _ _▸h:(a.ok L true&&(e.ok L&&e.w))=true/\(c.ok L true&&(f.ok L&&f.w))=true);have m:=(au _ _▸g.1:a.ok L true=true/\(e.ok L&&e.w)=true);have o:=(au _ _▸g.2:c.ok L true=true/\(f.ok L&&f.w)=true);exact asr (RM (KZ.into m.1) (KI.Ew m.2)) (RM (KZ.into o.1) (KI.Ew o.2))
 |s a b=>simp only [Kd.ok,au] at h;exact asp (KZ.into h.1) (KZ.into h.2)
 |t a b u B=>simp only [Kd.ok,au] at h;exact QY (u h.1) (B h.2)
 |t3 a b c u B E=>simp only [Kd.ok,au] at h;exact Bc (u h.1) (B h.2.1) (E h.2.2)
 |lit l=>exact asy h
 |nd k a b n t=>
  have g:=(au _ _▸h:(a.ok L&&a.w)=true/\((b.ok L&&b.w)&&(n.ok L&&n.w))=true);have m:=(au _ _▸g.2:(b.ok L&&b.w)=true/\(n.ok L&&n.w)=true);exact asA (KI.Ew g.1) (KI.Ew m.1) (KI.Ew m.2)
 |res a x y=>
  have g:=(au _ _▸h:a.ok L true=true/\(x.ok L true&&(y.ok L&&y.w))=true);have m:=(au _ _▸g.2:x.ok L true=true/\(y.ok L&&y.w)=true);exact asC (KZ.into g.1) (KN.into m.1) (KI.Ew m.2)
 |out a e c f y=>
  have g:=(au _ _▸h:(a.ok L true&&(e.ok L&&e.w))=true/\((c.ok L true&&(f.ok L&&f.w))&&(y.ok L&&y.w))=true);have m:=(au _ _▸g.1:a.ok L true=true/\(e.ok L&&e.w)=true);have o:=(au _ _▸g.2:(c.ok L true&&(f.ok L&&f.w))=true/\(y.ok L&&y.w)=true);have C:=(au _ _▸o.1:c.ok L true=true/\(f.ok L&&f.w)=true);exact asE (RM (KZ.into m.1) (KI.Ew m.2)) (RM (KZ.into C.1) (KI.Ew C.2)) (KI.Ew o.2)
 |cat a y u F=>
  have g:=(au _ _▸h:(a.ok L true&&a.tU)=true/\(y.ok L true&&y.tU)=true);have m:=(au _ _▸g.1:a.ok L true=true/\a.tU=true);have o:=(au _ _▸g.2:y.ok L true=true/\y.tU=true);exact asG (Gn m.2▸u m.1) (Gn o.2▸F o.1)
 |nil=>exact fun _ _ e=>e
 |ra j=>exact ah3 h
 |fc f j=>
  rintro w v ⟨p,rfl,D⟩;exact ⟨[p],rfl,p,[],rfl,ah3 h w p D,rfl⟩
 |lv v=>exact fun w x e=>(ah5 h x).2 e
def Kd.qK: ∀ {a:Kd},a.ok L false=true-> @ft ⟨cL (L.map SD.slot)⟩ (fv A (L.map SD.slot)) a.pat (a.rel L):=fun {a} h=>by
 letI:aJ:=⟨cL (L.map SD.slot)⟩
 induction a with
 |z a=>exact KZ.qK h
 |n a=>exact KN.qK h
 |i a=>exact KI.qK h
 |b b=>exact jH
 |d a e=>simp only [Kd.ok,au (a.ok L false)] at h;exact RN (KZ.qK h.1) (KI.Ex h.2)
 |r a q=>simp only [Kd.ok,au] at h;exact aso (KZ.qK h.1) (KN.qK h.2)
 |v a e c f=>
  have g:=(au _ _▸h:(a.ok L false&&(e.ok L&&e.w))=true/\(c.ok L false&&(f.ok L&&f.w))=true);have m:=(au _ _▸g.1:a.ok L false=true/\(e.ok L&&e.w)=true);have o:=(au _ _▸g.2:c.ok L false=true/\(f.ok L&&f.w)=true);exact ass (RN (KZ.qK m.1) (KI.Ex m.2)) (RN (KZ.qK o.1) (KI.Ex o.2))
 |s a b=>simp only [Kd.ok,au] at h;exact asq (KZ.qK h.1) (KZ.qK h.2)
 |t a b u B=>simp only [Kd.ok,au] at h;exact Ee (u h.1) (B h.2)
 |t3 a b c u B E=>simp only [Kd.ok,au] at h;exact Eg (u h.1) (B h.2.1) (E h.2.2)
 |lit l=>exact asz h
 |nd k a b n t=>
  have g:=(au _ _▸h:(a.ok L&&a.w)=true/\((b.ok L&&b.w)&&(n.ok L&&n.w))=true);have m:=(au _ _▸g.2:(b.ok L&&b.w)=true/\(n.ok L&&n.w)=true);exact asB (KI.Ex g.1) (KI.Ex m.1) (KI.Ex m.2)
 |res a x y=>
  have g:=(au _ _▸h:a.ok L false=true/\(x.ok L false&&(y.ok L&&y.w))=true);have m:=(au _ _▸g.2:x.ok L false=true/\(y.ok L&&y.w)=true);exact asD (KZ.qK g.1) (KN.qK m.1) (KI.Ex m.2)
 |out a e c f y=>
  have g:=(au _ _▸h:(a.ok L false&&(e.ok L&&e.w))=true/\((c.ok L false&&(f.ok L&&f.w))&&(y.ok L&&y.w))=true);have m:=(au _ _▸g.1:a.ok L false=true/\(e.ok L&&e.w)=true);have o:=(au _ _▸g.2:(c.ok L false&&(f.ok L&&f.w))=true/\(y.ok L&&y.w)=true);have C:=(au _ _▸o.1:c.ok L false=true/\(f.ok L&&f.w)=true);exact asF (RN (KZ.qK m.1) (KI.Ex m.2)) (RN (KZ.qK C.1) (KI.Ex C.2)) (KI.Ex o.2)
 |cat a y u F=>
  have g:=(au _ _▸h:(a.ok L false&&a.tU)=true/\(y.ok L false&&y.tU)=true);have m:=(au _ _▸g.1:a.ok L false=true/\a.tU=true);have o:=(au _ _▸g.2:y.ok L false=true/\y.tU=true);exact asH (Gn m.2▸u m.1) (Gn o.2▸F o.1)
 |nil=>exact fun _ _ e=>e
 |ra j=>exact ah4 h
 |fc f j=>
  rintro w v ⟨H,rfl,p,G,rfl,D,e⟩;rw [show G= [] from e];exact ⟨p,rfl,ah4 h w p D⟩
 |lv v=>exact fun w x e=>(ah5 h x).1 e
end
inductive KF where
 |ar (op:BinOp) (a b c:KI)|cm (op:BinOp) (a b:KI) (r:Bool)|ng (a c:KI)|cv (a c:KI)|mx (g:Bool) (a b c:KI)
def KF.fact:KF->Fact
 | .ar d a b c=>⟨.bin d,a.pat,b.pat,c.pat⟩
 | .cm d a b r=>⟨.bin d,a.pat,b.pat,.bool r⟩
 | .ng a c=>⟨.neg,a.pat,a.pat,c.pat⟩
 | .cv a c=>⟨.conv c.kd,a.pat,a.pat,c.pat⟩
 | .mx g a b c=>⟨.mx g,a.pat,b.pat,c.pat⟩
def WU (k:IntKind) (a:BinOp) (x y z:Int):Prop:=match a with
 | .add=>k.wrap (x+y)=z
 | .sub=>k.wrap (x-y)=z
 | .mul=>k.wrap (x*y)=z
 | .quo=>y≠0/\k.wrap (x.tdiv y)=z
 | .rem=>y≠0/\x.tmod y=z
 |_=>False
def cmP (a:BinOp) (x y:Int) (r:Bool):Prop:=match a with
 | .lss=>decide (x<y)=r
 | .gtr=>decide (y<x)=r
 | .leq=>decide (x<=y)=r
 | .geq=>decide (y<=x)=r
 | .eql=>decide (x=y)=r
 | .neq=>decide (x≠y)=r
 |_=>False
def KF.prop (L:List SD):KF->Prop
 | .ar d a b c=>WU a.kd d (a.val L) (b.val L) (c.val L)
 | .cm d a b r=>cmP d (a.val L) (b.val L) r
 | .ng a c=>a.kd.wrap (-a.val L)=c.val L
 | .cv a c=>c.kd.wrap (a.val L)=c.val L
 | .mx g a b c=>cond g (Max.max (a.val L) (b.val L)) (Min.min (a.val L) (b.val L))=c.val L
def Ix (a b:KI):Bool:=nh a.kd b.kd
def KF.ok (L:List SD):KF->Bool
 | .ar _ a b c=>(a.ok L&&b.ok L)&&(c.ok L&&(Ix a b&&Ix a c))
 | .cm _ a b _=>(a.ok L&&b.ok L)&&Ix a b
 | .ng a c=>(a.ok L&&c.ok L)&&Ix a c
 | .cv a c=>a.ok L&&c.ok L
 | .mx _ a b c=>(a.ok L&&b.ok L)&&(c.ok L&&(Ix a b&&Ix a c))
inductive wj (L:List SD):List KF->Prop where
 |nil:wj L []
 |k {f:KF} {l:List KF} (h:f.prop L) (t:wj L l):wj L (f::l)
structure KE where
 f:FuncId
 a:List Kd
 r:Kd
def KE.Ey (e:KE):rJ:=⟨e.f,e.a.map Kd.pat,e.r.pat⟩
inductive uG (L:List SD):List KE->Prop where
 |nil:uG L []
 |k {e:KE} {l:List KE} (h:bJ Tryz.prog bw e.f (e.a.map (Kd.rel L)) (e.r.rel L)) (t:uG L l):uG L (e::l)
def qL (L:List SD) (p:Bool):List Kd->Bool
 | []=>true
 |k::l=>k.ok L p&&qL L p l
def tk (L:List SD):List KE->Bool
 | []=>true
 |e::l=>(qL L false e.a&&(e.r.ok L true))&&tk L l
def okF (L:List SD):List KF->Bool
 | []=>true
 |f::l=>f.ok L&&okF L l
section
variable {L:List SD}
def KF.asI {f:KF} (h:f.ok L=true) (e:f.prop L): @my ⟨cL (L.map SD.slot)⟩ f.fact:=by
 letI:aJ:=⟨cL (L.map SD.slot)⟩
 have o: ∀ {a b:KI},Ix a b=true->b.kd=a.kd:=fun {a b} h=>by
  unfold Ix at h;revert h;cases a.kd<;>cases b.kd<;>intro h<;>first|rfl|cases h
 cases f with
 |ar s a b c=>
  simp only [KF.ok,au] at h;obtain ⟨⟨k,l⟩,p,m,q⟩:=h;have i:=KI.yC k;have d:=KI.yC l;have j:=KI.yC p;rw [o m] at d;rw [o q] at j;cases s<;>first
   |exact Na (KI.plain c) i d j e
   |exact abe (KI.plain c) i d j e
   |exact aqf (KI.plain c) i d j e
   |exact aqh (KI.plain c) i d j e.1 e.2
   |exact aqg (KI.plain c) i d j e.1 e.2
   |exact e.elim
 |cm s a b r=>
  simp only [KF.ok,au] at h;obtain ⟨⟨k,l⟩,m⟩:=h;have i:=KI.yC k;have d:=KI.yC l;rw [o m] at d;cases s<;>first
   |exact Bd i d e
   |exact F5 i d e
   |exact Eh i d e
   |exact Q4 i d e
   |exact tN i d e
   |exact Be i d e
   |exact e.elim
 |ng a c=>
  simp only [KF.ok,au] at h;obtain ⟨⟨k,l⟩,m⟩:=h;have i:=KI.yC k;have d:=KI.yC l;rw [o m] at d;exact VK (KI.plain c) i d e
 |cv a c=>
  simp only [KF.ok,au] at h;exact VL (KI.plain c) (KI.yC h.1) (KI.yC h.2) e
 |mx g a b c=>
  simp only [KF.ok,au] at h;obtain ⟨⟨k,l⟩,p,m,q⟩:=h;have i:=KI.yC k;have d:=KI.yC l;have j:=KI.yC p;rw [o m] at d;rw [o q] at j;cases g
  ·exact agN (KI.plain c) i d j e
  ·exact aqi (KI.plain c) i d j e
def wj.ok {F:List KF} (a:wj L F) (h:okF L F=true): ∀f∈F.map KF.fact,@my ⟨cL (L.map SD.slot)⟩ f:=by
 induction a with
 |nil=>simp_all
 |k b _ d=>
  simp only [okF,au] at h;exact @eS ⟨cL (L.map SD.slot)⟩ _ _ (KF.asI h.1 b) (d h.2)
def ah6 {A:World->Prop} : ∀(l:List Kd),qL L false l=true-> ∀w a,@pJ ⟨cL (L.map SD.slot)⟩ (fv A (L.map SD.slot)) w (l.map Kd.pat) a->vW (l.map (Kd.rel L)) w a
 | [],_=> @cY ⟨cL (L.map SD.slot)⟩ _
 |k::l,h=>by
  simp only [qL,au] at h;exact @bL ⟨cL (L.map SD.slot)⟩ _ _ _ _ _ (Kd.qK h.1) (ah6 l h.2)
def ah7 {A:World->Prop} : ∀(l:List Kd),qL L true l=true-> ∀w a,vW (l.map (Kd.rel L)) w a-> @pJ ⟨cL (L.map SD.slot)⟩ (fv A (L.map SD.slot)) w (l.map Kd.pat) a
 | [],_=> @jB ⟨cL (L.map SD.slot)⟩ _
 |k::l,h=>by
  simp only [qL,au] at h;exact @fD ⟨cL (L.map SD.slot)⟩ _ _ _ _ _ (Kd.into h.1) (ah7 l h.2)
def KI.Iy (a:KI):ou a.pat=true:=by cases a<;>rfl
def ah8: ∀ {l:List aj},Iv l=true->ja l=true
 | [],_=>rfl
 |a::l,h=>by
  simp only [Iv,au] at h;show (ou a&&ja l)=true;rw [ah8 h.2];obtain ⟨b,_⟩:=h;cases a<;>first|rfl|cases b
def Kd.Iy: ∀ {k:Kd} {p:Bool},k.ok L p=true->ou k.pat=true:=fun {k p} h=>by
 induction k with
 |z a=>cases a<;>rfl
 |n a=>cases a<;>rfl
 |i a=>exact a.Iy
 |b b=>rfl
 |d a e=>cases a<;>cases e<;>rfl
 |r a q=>cases a<;>cases q<;>rfl
 |v a e c f=>cases a<;>cases e<;>cases c<;>cases f<;>rfl
 |s a b=>cases a<;>cases b<;>rfl
 |t a b g B=>simp only [Kd.ok,au] at h;simp only [Kd.pat,ou,ja,g h.1,B h.2];rfl
 |t3 a b c g B F=>simp only [Kd.ok,au] at h;simp only [Kd.pat,ou,ja,g h.1,B h.2.1,F h.2.2];rfl
 |lit l=>exact ah8 h
 |nd k a b n t=>cases a<;>cases b<;>cases n<;>rfl
 |res a x y=>cases a<;>cases x<;>cases y<;>rfl
 |out a e c f y=>cases a<;>cases e<;>cases c<;>cases f<;>cases y<;>rfl
 |cat a y g C=>
  have m:=(au _ _▸h:(a.ok L p&&a.tU)=true/\(y.ok L p&&y.tU)=true);have o:=(au _ _▸m.1:a.ok L p=true/\a.tU=true);have u:=(au _ _▸m.2:y.ok L p=true/\y.tU=true);have D:ja a.cells=true:=by have:=g o.1;rw [Gn o.2] at this;exact this
  have E:ja y.cells=true:=by have:=C u.1;rw [Gn u.2] at this;exact this
  show ja (a.cells++y.cells)=true;generalize a.cells=G at*;generalize y.cells=H at*;clear g C h m o u
  induction G with
  |nil=>exact E
  |cons x l J=>
   have I:=(au _ _▸D:ou x=true/\ja l=true);show (ou x&&ja (l++H))=true;simp_all
 |nil=>rfl
 |ra j=>rfl
 |fc f j=>rfl
 |lv v=>simp only [Kd.ok] at h;cases v<;>first|rfl|cases h
def abW {p:Bool} : ∀(l:List Kd),qL L p l=true->ja (l.map Kd.pat)=true
 | [],_=>rfl
 |k::l,h=>by
  simp only [qL,au] at h;show (ou k.pat&&ja (l.map Kd.pat))=true;rw [Kd.Iy h.1,abW l h.2];rfl
def uG.ok {T:List KE} (a:uG L T) (h:tk L T=true): ∀e∈T.map KE.Ey,@tL ⟨cL (L.map SD.slot)⟩ Tryz.prog (fv bw (L.map SD.slot)) e/\ja e.args=true:=by
 induction a with
 |nil=>simp_all
 |@k e l hc _ b=>
  simp only [tk,au] at h;exact @cZ ⟨cL (L.map SD.slot)⟩ _ _ _ _ (db hc (ah6 e.a h.1.1) (Kd.into h.1.2)) (abW e.a h.1.1) (b h.2)
def fP (L:List SD) (I:List FuncId) (a:Nat) (F:List KF) (T:List KE) {f:FuncId} (ks:List Kd) (r:Kd)
 (h:(RL (Env.sy Tryz.prog (fv bw (L.map SD.slot)) (F.map KF.fact)) (T.map KE.Ey) I a f (ks.map Kd.pat) r.pat&&((okF L F&&tk L T)&&(qL L true ks&&r.ok L false)))=true)
 (j:wj L F) (k:uG L T):bJ Tryz.prog bw f (ks.map (Kd.rel L)) (r.rel L):=by
 simp only [au] at h;obtain ⟨e,⟨g,i⟩,b,d⟩:=h;exact ash (L.map SD.slot) mix I a e (j.ok g) (k.ok i) (by rw [abW ks b,Kd.Iy d];rfl) (ah7 ks b) (Kd.qK d)
end
def me {N:Nat} {s t:Int} (b:Bool) (h:Zb N s) (h':Zb N t):Zb N (cond b s t):=by grind
end
section
open Go.Proofs.Tryz Go.RowKit Go.Ev
variable {a b n c d:Int} {i j k l:Nat}
def NL (x: -4611686018427387904<=n/\n<=4611686018427387904:=by omega): ∃z,Bz 63 z/\z=n/\bJ prog bw 31 [bj (.int .i64 n)] (dN z):=by
 by_cases g:n<0
 ·refine ⟨n,by unfold Bz;omega,rfl,?_⟩
  have c0:=decide_eq_true g;obtain ⟨m,u,f,e⟩:=KJ (n:=n.natAbs) (by omega);subst f;have h:=aC (n+1) (by omega);have o:IntKind.i64.wrap (-(n+1))= -(n+1):=aC _ (by omega);have p:IntKind.u64.wrap (-(n+1))= -(n+1):=IntWalk.u64_in _ (by omega);have q:IntKind.u64.wrap (-(n+1)+1)=((n.natAbs:Nat):Int):=by rw [IntWalk.u64_in _ (by omega)];omega
  exact jK [dE (dB .i64 n),dE (dB .i64 (n+1)),dE (dB .i64 (-(n+1))),dE (dB .u64 (-(n+1))),dE (dB .u64 ((n.natAbs:Nat):Int)),nS n.natAbs] mix (F:= [⟨.bin .lss,s0 0,.int .i64 0,.bool true⟩,⟨.bin .add,s0 0,.int .i64 1,s0 1⟩,⟨.neg,s0 1,s0 1,s0 2⟩,⟨.conv .u64,s0 2,s0 2,s0 3⟩,⟨.bin .add,s0 3,.int .u64 1,s0 4⟩]) (T:= [⟨60,[s0 4],sA 5⟩]) (pats:= [s0 0]) (res:=mW true 5) (by kernel_rfl)
   (eS (Bd (dm rfl) (fun _=>rfl) c0) (eS (Na rfl (dm rfl) (fun _=>rfl) (dm rfl) h) (eS (VK rfl (dm rfl) (dm rfl) o) (eS (VL rfl (dm rfl) (dm rfl) p) (eS (Na rfl (dm rfl) (fun _=>rfl) (dm rfl) q) jI))))) (cZ (db e (bL (tc rfl) cY) (jR rfl)) rfl jJ) rfl (fD (iB rfl) jB) (ag0 c0 rfl)
 ·obtain ⟨z,y,t,s⟩:=F9 (n:=n.toNat) (by omega)
  grind
def ah9 (p:Bz i a) (B:0<=n/\n<=1048576:=by omega) (hi:i<=5000000:=by omega): ∃x,Bz i x/\x= -(-a/2^n.toNat)/\bJ prog bw 345 [dN a,bj (.int .i64 n)] (dN x):=by
 obtain ⟨t,m,y,f⟩:=Bg p;obtain ⟨u,o,A,g⟩:=Nh (s:=(n).toNat) m (by omega:(n:Int)=(((n).toNat:Nat):Int));obtain ⟨e,h,C,q⟩:=Bg o;refine ⟨e,h,by simp_all,?_⟩;exact fP [.z a,.z t,.i n,.z u,.z e] [] 0 [] [⟨146,[aL 0],aL 1⟩,⟨85,[aL 1,aA 2],aL 3⟩,⟨146,[aL 3],aL 4⟩] [aL 0,aA 2] (aL 4) (by kernel_rfl) .nil (.k f (.k g (.k q .nil)))
def NM {x:Int} :bJ prog bw 291 [dN x] (cD x x):=by
 exact fP [.z x] [] 0 [] [] [aL 0] (ah 0 0) (by kernel_rfl) .nil .nil
def uH (t:Bz i a) (u:Bz j b) (B:0<=n/\n<=1048576:=by omega) (hi:i<=5000000:=by omega) (A:j<=5000000:=by omega): ∃x y,Bz i x/\Bz j y/\(x=a/2^n.toNat/\y= -(-b/2^n.toNat))/\bJ prog bw 326 [cD a b,bj (.int .i64 n)] (cD x y):=by
 obtain ⟨e,p,m,g⟩:=Nh (s:=(n).toNat) t (by omega:(n:Int)=(((n).toNat:Nat):Int));obtain ⟨f,q,o,h⟩:=ah9 (n:=n) u;refine ⟨e,f,p.mono (by omega),q.mono (by omega),⟨m,o⟩,?_⟩;exact fP [.z a,.i n,.z e,.z b,.z f] [] 0 [] [⟨85,[aL 0,aA 1],aL 2⟩,⟨345,[aL 3,aA 1],aL 4⟩] [ah 0 3,aA 1] (ah 2 4) (by kernel_rfl) .nil (.k g (.k h .nil))
def WV (t:Bz i a) (u:Bz j b) {c:Nat} (B:0<=n/\n<=(c:Int):=by omega) (hc:c<=1048576:=by omega) (hi:i<=5000000:=by omega) (A:j<=5000000:=by omega): ∃x y,Bz (i+c) x/\Bz (j+c) y/\(x=a*2^n.toNat/\y=b*2^n.toNat)/\bJ prog bw 337 [cD a b,bj (.int .i64 n)] (cD x y):=by
 obtain ⟨e,p,m,g⟩:=zW (s:=(n).toNat) (c:=c) t (by omega:(n:Int)=(((n).toNat:Nat):Int));obtain ⟨f,q,o,h⟩:=zW (s:=(n).toNat) (c:=c) u (by omega:(n:Int)=(((n).toNat:Nat):Int));refine ⟨e,f,p.mono (by omega),q.mono (by omega),⟨m,o⟩,?_⟩;exact fP [.z a,.i n,.z e,.z b,.z f] [] 0 [] [⟨128,[aL 0,aA 1],aL 2⟩,⟨128,[aL 3,aA 1],aL 4⟩] [ah 0 3,aA 1] (ah 2 4) (by kernel_rfl) .nil (.k g (.k h .nil))
def Br (s:Bz i a) (t:Bz j b) (hi:i<=5000000:=by omega) (u:j<=5000000:=by omega): ∃x y,Bz j x/\Bz i y/\(x= -b/\y= -a)/\bJ prog bw 328 [cD a b] (cD x y):=by
 obtain ⟨e,p,m,g⟩:=Bg t;obtain ⟨f,q,o,h⟩:=Bg s;refine ⟨e,f,p.mono (by omega),q.mono (by omega),⟨m,o⟩,?_⟩;exact fP [.z b,.z e,.z a,.z f] [] 0 [] [⟨146,[aL 0],aL 1⟩,⟨146,[aL 2],aL 3⟩] [ah 2 0] (ah 1 3) (by kernel_rfl) .nil (.k g (.k h .nil))
def Ez (s:Bz i a) (t:Bz j b) (hc:Bz k c) (u:Bz l d) (hi:i<=3000000:=by omega) (A:j<=3000000:=by omega) (B:k<=3000000:=by omega) (C:l<=3000000:=by omega): ∃x y,Bz (max i k+1) x/\Bz (max j l+1) y/\(x=a+c/\y=b+d)/\bJ prog bw 327 [cD a b,cD c d] (cD x y):=by
 obtain ⟨e,p,m,g⟩:=xD s hc;obtain ⟨f,q,o,h⟩:=xD t u;refine ⟨e,f,p.mono (by omega),q.mono (by omega),⟨m,o⟩,?_⟩;exact fP [.z a,.z c,.z e,.z b,.z d,.z f] [] 0 [] [⟨83,[aL 0,aL 1],aL 2⟩,⟨83,[aL 3,aL 4],aL 5⟩] [ah 0 3,ah 1 4] (ah 2 5) (by kernel_rfl) .nil (.k g (.k h .nil))
def Iz (q:Bz i a) (s:Bz j b) (hc:Bz k c) (t:Bz l d) (hi:i<=3000000:=by omega) (D:j<=3000000:=by omega) (E:k<=3000000:=by omega) (F:l<=3000000:=by omega): ∃x y,Bz (max i l+1) x/\Bz (max j k+1) y/\(x=a-d/\y=b-c)/\bJ prog bw 290 [cD a b,cD c d] (cD x y):=by
 obtain ⟨A,B,m,o,C,g⟩:=Br hc t;obtain ⟨e,f,p,h,G,u⟩:=Ez q s m o;refine ⟨e,f,p.mono (by omega),h.mono (by omega),⟨by omega,by omega⟩,?_⟩;exact fP [.z c,.z d,.z A,.z B,.z a,.z b,.z e,.z f] [] 0 [] [⟨328,[ah 0 1],ah 2 3⟩,⟨327,[ah 4 5,ah 2 3],ah 6 7⟩] [ah 4 5,ah 0 1] (ah 6 7) (by kernel_rfl) .nil (.k g (.k u .nil))
def NP (s:Bz i a) (t:Bz j b) (hc:Bz k c) (hi:i<=3000000:=by omega) (u:j<=3000000:=by omega) (A:k<=3000000:=by omega): ∃x y,Bz (max i k+1) x/\Bz (max j k+1) y/\(x=a-c/\y=b+c)/\bJ prog bw 292 [cD a b,dN c] (cD x y):=by
 obtain ⟨e,p,m,g⟩:=RC s hc;obtain ⟨f,q,o,h⟩:=xD t hc;refine ⟨e,f,p.mono (by omega),q.mono (by omega),⟨m,o⟩,?_⟩;exact fP [.z a,.z c,.z e,.z b,.z f] [] 0 [] [⟨329,[aL 0,aL 1],aL 2⟩,⟨83,[aL 3,aL 1],aL 4⟩] [ah 0 3,aL 1] (ah 2 4) (by kernel_rfl) .nil (.k g (.k h .nil))
def EA (A:Bz i a) (B:Bz j b) (hc:Bz k c) (C:Bz l d) (O:0<=n/\n<=1048576:=by omega) (hi:i<=2000000:=by omega) (J:j<=2000000:=by omega) (M:k<=2000000:=by omega) (N:l<=2000000:=by omega): ∃x y,Bz (i+k) x/\Bz (j+l) y/\(x=a*c/2^n.toNat/\y= -(-(b*d)/2^n.toNat))/\bJ prog bw 348 [cD a b,cD c d,bj (.int .i64 n)] (cD x y):=by
 obtain ⟨H,t,o,h⟩:=KX A hc;obtain ⟨f,u,p,m⟩:=Nh (s:=(n).toNat) t (by omega:(n:Int)=(((n).toNat:Nat):Int));obtain ⟨I,q,F,E⟩:=KX B C;obtain ⟨e,D,g,G⟩:=ah9 (n:=n) q;refine ⟨f,e,u.mono (by omega),D.mono (by omega),⟨by rw [p,o],by rw [g,F]⟩,?_⟩;exact fP [.z a,.z c,.z H,.i n,.z f,.z b,.z d,.z I,.z e] [] 0 [] [⟨310,[aL 0,aL 1],aL 2⟩,⟨85,[aL 2,aA 3],aL 4⟩,⟨310,[aL 5,aL 6],aL 7⟩,⟨345,[aL 7,aA 3],aL 8⟩] [ah 0 5,ah 1 6,aA 3] (ah 4 8) (by kernel_rfl) .nil (.k h (.k m (.k E (.k G .nil))))
def IA (C:Bz i a) (D:Bz j b) (G: -4611686018427387904<=n/\n<=4611686018427387904:=by omega) (hi:i<=5000000:=by omega) (F:j<=5000000:=by omega): ∃x y,Bz (max i j+63) x/\Bz (max i j+63) y/\(0<=n/\x=a*n/\y=b*n\/n<0/\x=b*n/\y=a*n)/\bJ prog bw 289 [cD a b,bj (.int .i64 n)] (cD x y):=by
 obtain ⟨E,m,h,B⟩:=NL (n:=n);by_cases q:n<0
 ·have e:=decide_eq_true q
  obtain ⟨g,s,p,o⟩:=KX D m;obtain ⟨f,t,u,A⟩:=KX C m;refine ⟨g,f,s.mono (by omega),t.mono (by omega),.inr ⟨q,by rw [p,h],by rw [u,h]⟩,?_⟩;exact fP [.i n,.z E,.z b,.z g,.z a,.z f] [] 0 [.cm .lss (.i 0) (.l 0) true] [⟨31,[aA 0],aL 1⟩,⟨310,[aL 2,aL 1],aL 3⟩,⟨310,[aL 4,aL 1],aL 5⟩] [ah 4 2,aA 0] (ah 3 5) (by kernel_rfl) (.k e .nil) (.k B (.k o (.k A .nil)))
 ·have e:=decide_eq_false q
  obtain ⟨g,s,p,o⟩:=KX C m;obtain ⟨f,t,u,A⟩:=KX D m;refine ⟨g,f,s.mono (by omega),t.mono (by omega),.inl ⟨by omega,by rw [p,h],by rw [u,h]⟩,?_⟩;exact fP [.i n,.z E,.z a,.z g,.z b,.z f] [] 0 [.cm .lss (.i 0) (.l 0) false] [⟨31,[aA 0],aL 1⟩,⟨310,[aL 2,aL 1],aL 3⟩,⟨310,[aL 4,aL 1],aL 5⟩] [ah 2 4,aA 0] (ah 3 5) (by kernel_rfl) (.k e .nil) (.k B (.k o (.k A .nil)))
def aia (m:Bz i a) (o:Bz j b) (hi:i<=5000000:=by omega) (p:j<=5000000:=by omega): ∃z,Bz (max j i+1) z/\z=b-a/\bJ prog bw 325 [cD a b] (dN z):=by
 obtain ⟨e,h,g,f⟩:=RC o m;refine ⟨e,h,g,?_⟩;exact fP [.z b,.z a,.z e] [] 0 [] [⟨329,[aL 0,aL 1],aL 2⟩] [ah 1 0] (aL 2) (by kernel_rfl) .nil (.k f .nil)
def aib (n:Nat):eN n<=3↔n<8:=by
 have h:=Et n;constructor
 ·intro e
  exact az h (aG (by decide) e)
 ·intro f
  exact Nf (k:=3) f
def asJ (f:Bz i a) (hi:i<=10000000):bJ prog bw 356 [dN a] (bj (.bool (decide (a.natAbs<8)))):=by
 obtain ⟨b1,o,g,e⟩:=F7 f.abs;by_cases h:a.natAbs<8
 ·have hc:decide ((b1:Int)<=3)=true:=decide_eq_true (by have:=(aib a.natAbs).2 h;omega)
  rw [decide_eq_true h];exact fP [.z a,.i (b1:Nat)] [] 0 [.cm .leq (.i 1) (.l 3) true] [⟨127,[.n (.m 0)],aA 1⟩] [aL 0] (.b true) (by kernel_rfl) (.k hc .nil) (.k e .nil)
 ·have hc:decide ((b1:Int)<=3)=false:=decide_eq_false (by have:=mt (aib a.natAbs).1 h;omega)
  rw [decide_eq_false h];exact fP [.z a,.i (b1:Nat)] [] 0 [.cm .leq (.i 1) (.l 3) false] [⟨127,[.n (.m 0)],aA 1⟩] [aL 0] (.b false) (by kernel_rfl) (.k hc .nil) (.k e .nil)
def RS (e:Bz j b) (f:j<=10000000:=by omega):bJ prog bw 349 [cD a b] (bj (.bool (decide (b.natAbs<8)))):=by
 have c1:=asJ e f;cases h:decide (b.natAbs<8)<;>rw [h] at c1
 ·exact fP [.z b,.z a] [] 0 [] [⟨356,[aL 0],.b false⟩] [ah 1 0] (.b false) (by kernel_rfl) .nil (.k c1 .nil)
 ·exact fP [.z b,.z a] [] 0 [] [⟨356,[aL 0],.b true⟩] [ah 1 0] (.b true) (by kernel_rfl) .nil (.k c1 .nil)
def RT {c:Nat} (u:0<=n/\n<=(c:Int):=by omega) (hc:c<=1048576:=by omega): ∃z,Bz (63+c) z/\z=2^n.toNat/\bJ prog bw 333 [bj (.int .i64 n)] (cD z z):=by
 obtain ⟨p,m,q,f⟩:=F9 (n:=1);obtain ⟨e,o,t,g⟩:=zW (s:=(n).toNat) (c:=c) m (by omega:(n:Int)=(((n).toNat:Nat):Int));have h:=NM (x:=e);refine ⟨e,o.mono (by omega),by simp_all,?_⟩;exact fP [.z p,.i n,.z e] [] 0 [] [⟨31,[gz 1],aL 0⟩,⟨128,[aL 0,aA 1],aL 2⟩,⟨291,[aL 2],ah 2 2⟩] [aA 1] (ah 2 2) (by kernel_rfl) .nil (.k f (.k g (.k h .nil)))
end
end Go.Proofs.YtnmpjdgobafdkaaGreatDoor
