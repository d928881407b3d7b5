/- refineCopies_proved. -/
import Derived.Test.YthleenhngcdgkaaGreatDoorPmat
set_option maxRecDepth 100000
set_option maxHeartbeats 16000000
set_option linter.all false
noncomputable section
namespace Go.Proofs.YthleenhngcdgkaaGreatDoor
section
open Go.RowKit Go.Ev
variable {i b K D:Nat} {q r n a t:Int}
def JD:List Ev.Way:= [.r,.r,.l,.r,.k]
noncomputable def zA:Func:=Tryz.f387
def ac8:ni JD (nW zA)=some (.loop (kH JD zA)):=by kernel_rfl
def JE (q r n:Int) (x:mC):Fr:=⟨[⟨4,313,4,cG x.a x.b⟩,⟨5,313,4,cG q r⟩,⟨8,313,4,ZS⟩,⟨9,313,4,cG x.c x.d⟩],[(2,bj (.int .u32 ((x.i:Nat):Int))),(3,bj (.int .i64 n)),(10,bj (.bool x.m))]⟩
def ac9 (b K:Nat) (x:mC):Prop:= ∃g,x.b.natAbs<2^g/\x.a.natAbs<2^(b+8*min x.i 18)/\(x.i<16->g<=b+8*x.i)/\x.i+2*g<=K/\Bz (K+x.i) x.c/\Bz (K+x.i) x.d
def aj1 (h:i<=100000:=by omega):2<=(i+1)*(i+2)/\(16<=i->306<=(i+1)*(i+2)):=by
 refine ⟨?_,fun h=> ?_⟩
 ·grind
 ·have:=bJ (show 17<=i+1 by omega) (show 18<=i+2 by omega);omega
def aj2 {g v y:Nat} (u:2*b+300<=K) (l:v<2^g) (j:8<=v) (z:i<16->g<=b+8*i) (A:i+2*g<=K) (k:2<=D) (e:16<=i->306<=D) (B:y<=(v*16+1)/D+1):
 ∃d,y<2^d/\(i+2<16->d<=b+8*(i+2))/\i+2+2*d<=K:=by
 obtain ⟨H,s,m,o,p⟩:=ac7 l j;by_cases h:i<16
 ·refine ⟨g+4,?_,by omega,by omega⟩
  have f:=Hf (x:=v*16+1) k;grind
 ·refine ⟨g-1,?_,by omega,by omega⟩
  have f:=Hf (x:=v*16+1) (e (by omega));omega
def aj3 {u x:Nat} (k:u<2^(b+8*min i 18)) (f:2<=D) (d:16<=i->306<=D) (j:4<=b) (l:x=(u*16+1)/D\/x<=(u*16+1)/D):x<2^(b+8*min (i+2) 18):=by
 have g:x<=(u*16+1)/D:=by omega
 by_cases h:i<16
 ·have e:=Hf (x:=u*16+1) f
  rw [show b+8*min (i+2) 18=(b+8*min i 18)+16 by omega,bC];omega
 ·have e:=Hf (x:=u*16+1) (d (by omega))
  refine ax (m:=2^(b+8*min i 18)) ?_ (aF (by decide) (by omega));omega
def aut {kq kr:Nat} (hq:Bz kq q) (hr:Bz kr r) (Yq:kq<=1000000) (Yr:kr<=1000000) (hn:0<=n/\n<=1048576) (B:q.natAbs<=16*2^n.toNat) (C:r.natAbs<=16*2^n.toNat) (pA:4<=b) (hK:2*b+300<=K:=by omega) (hK2:K<=50000:=by omega): ∀x,ac9 b K x->
 (∃y,ac9 b K y/\(fun z:mC=>K-z.i) y<(fun z:mC=>K-z.i) x/\(∀o:mC,(Zb 50000 o.b/\Zb 200000 o.c/\Zb 200000 o.d)->(Zb 50000 o.b/\Zb 200000 o.c/\Zb 200000 o.d))/\qB zA.ntmps (kH JD zA) (JE q r n x) .normal (JE q r n y))\/
 (∃o:mC,(Zb 50000 o.b/\Zb 200000 o.c/\Zb 200000 o.d)/\Out.exit 0≠ .normal/\qB zA.ntmps (kH JD zA) (JE q r n x) (.exit 0) (JE q r n o)):=by
 rintro ⟨a,t,c,d,i,m⟩ ⟨g,A,M,O,X,hc,l⟩;simp only at A M O X hc l;have mn:Bz (b+8*min i 18) a:=M;have N:Bz g t:=A;cases m
 ·have c1:=S1 (a:=a) N
  by_cases F:t.natAbs<8
  ·rw [decide_eq_true F] at c1
   refine .inr ⟨⟨a,t,c,d,i,false⟩,⟨⟨g,by omega,A⟩,⟨_,by omega,hc⟩,⟨_,by omega,l⟩⟩,by simp,?_⟩;exact tJ [.z a,.z t,.z q,.z r,.z c,.z d,.u i,.i n] [] 0 [] [⟨385,[ah 0 1],.b true⟩] ⟨[⟨4,313,4,ah 0 1⟩,⟨5,313,4,ah 2 3⟩,⟨8,313,4,.lit zS⟩,⟨9,313,4,ah 4 5⟩],[(2,.i (.u 6)),(3,aA 7),(10,.b false)]⟩ ⟨[⟨4,313,4,ah 0 1⟩,⟨5,313,4,ah 2 3⟩,⟨8,313,4,.lit zS⟩,⟨9,313,4,ah 4 5⟩],[(2,.i (.u 6)),(3,aA 7),(10,.b false)]⟩ (fun d=>by kernel_rfl) .nil (.k c1 .nil)
  ·rw [decide_eq_false F] at c1
   obtain ⟨x2,y3,U,W,E,P⟩:=Fb (n:=n) mn N hq hr;have I4:(i+1)*(i+2)<=60000*60001:=bJ (by omega) (by omega);have e:=aj1 (i:=i);have w1:IntKind.u32.wrap (((i:Nat):Int)+1)=(((i+1):Nat):Int):=by rw [cW _ (by omega)];omega
   have w2:IntKind.u32.wrap (((i:Nat):Int)+2)=(((i+2):Nat):Int):=by rw [cW _ (by omega)];omega
   have w3:IntKind.u32.wrap ((((i+1):Nat):Int)*(((i+2):Nat):Int))=((((i+1)*(i+2)):Nat):Int):=by rw [cW _ (by omega),eA]
   obtain ⟨f,j,S,kG,I,sX⟩:=S3 (d:=((i+1)*(i+2))) U W;obtain ⟨p,s,xp,si,J,mB⟩:=Fa hc l S kG;have Q:j.natAbs<=(t.natAbs*16+1)/((i+1)*(i+2))+1:=aL I.2.2.1 (dI (ef (by rw [E.2];exact ac6 C)));have R:f.natAbs<=(a.natAbs*16+1)/((i+1)*(i+2)):=by rw [I.1,E.1];exact ef (Ph B)
   obtain ⟨T,G,Y,Z⟩:=aj2 hK A (by omega) O X e.1 e.2 Q;have H:=aj3 M e.1 e.2 pA (.inr R);have k5:Bz (K+i) f:=ax H (aF (by decide) (by omega));have k6:Bz (K+i) j:=ax G (aF (by decide) (by omega));have k7:Bz (K+(i+2)) p:=by rw [J.1];exact (hc.add k5).mono (by omega)
   have k8:Bz (K+(i+2)) s:=by rw [J.2];exact (l.add k6).mono (by omega)
   refine .inl ⟨⟨f,j,p,s,i+2,true⟩,⟨T,G,H,Y,Z,k7,k8⟩,by grind,fun o h=>h,?_⟩;exact tJ [.z a,.z t,.z q,.z r,.i n,.z x2,.z y3,.u i,.u (i+1),.u (i+2),.u ((i+1)*(i+2)),.z f,.z j,.z c,.z d,.z p,.z s] [] 0 [.ar .add (.u 7) (.k .u32 1) (.u 8),.ar .add (.u 7) (.k .u32 2) (.u 9),.ar .mul (.u 8) (.u 9) (.u 10)] [⟨385,[ah 0 1],.b false⟩,⟨384,[ah 0 1,ah 2 3,aA 4],ah 5 6⟩,⟨386,[ah 5 6,.i (.u 10)],ah 11 12⟩,⟨359,[ah 13 14,ah 11 12],ah 15 16⟩] ⟨[⟨4,313,4,ah 0 1⟩,⟨5,313,4,ah 2 3⟩,⟨8,313,4,.lit zS⟩,⟨9,313,4,ah 13 14⟩],[(2,.i (.u 7)),(3,aA 4),(10,.b false)]⟩ ⟨[⟨4,313,4,ah 11 12⟩,⟨5,313,4,ah 2 3⟩,⟨8,313,4,.lit zS⟩,⟨9,313,4,ah 15 16⟩],[(2,.i (.u 9)),(3,aA 4),(10,.b true)]⟩ (fun d=>by kernel_rfl) (.k w1 (.k w2 (.k w3 .nil))) (.k c1 (.k P (.k sX (.k mB .nil))))
 ·have c1:=S1 (a:=a) N
  by_cases F:t.natAbs<8
  ·rw [decide_eq_true F] at c1
   refine .inr ⟨⟨a,t,c,d,i,true⟩,⟨⟨g,by omega,A⟩,⟨_,by omega,hc⟩,⟨_,by omega,l⟩⟩,by simp,?_⟩;exact tJ [.z a,.z t,.z q,.z r,.z c,.z d,.u i,.i n] [] 0 [] [⟨385,[ah 0 1],.b true⟩] ⟨[⟨4,313,4,ah 0 1⟩,⟨5,313,4,ah 2 3⟩,⟨8,313,4,.lit zS⟩,⟨9,313,4,ah 4 5⟩],[(2,.i (.u 6)),(3,aA 7),(10,.b true)]⟩ ⟨[⟨4,313,4,ah 0 1⟩,⟨5,313,4,ah 2 3⟩,⟨8,313,4,.lit zS⟩,⟨9,313,4,ah 4 5⟩],[(2,.i (.u 6)),(3,aA 7),(10,.b true)]⟩ (fun d=>by kernel_rfl) .nil (.k c1 .nil)
  ·rw [decide_eq_false F] at c1
   obtain ⟨x2,y3,U,W,E,P⟩:=Fb (n:=n) mn N hq hr;have I4:(i+1)*(i+2)<=60000*60001:=bJ (by omega) (by omega);have e:=aj1 (i:=i);have w1:IntKind.u32.wrap (((i:Nat):Int)+1)=(((i+1):Nat):Int):=by rw [cW _ (by omega)];omega
   have w2:IntKind.u32.wrap (((i:Nat):Int)+2)=(((i+2):Nat):Int):=by rw [cW _ (by omega)];omega
   have w3:IntKind.u32.wrap ((((i+1):Nat):Int)*(((i+2):Nat):Int))=((((i+1)*(i+2)):Nat):Int):=by rw [cW _ (by omega),eA]
   obtain ⟨f,j,S,kG,I,sX⟩:=S3 (d:=((i+1)*(i+2))) U W;obtain ⟨p,s,xp,si,J,mB⟩:=Jm hc l S kG;have Q:j.natAbs<=(t.natAbs*16+1)/((i+1)*(i+2))+1:=aL I.2.2.1 (dI (ef (by rw [E.2];exact ac6 C)));have R:f.natAbs<=(a.natAbs*16+1)/((i+1)*(i+2)):=by rw [I.1,E.1];exact ef (Ph B)
   obtain ⟨T,G,Y,Z⟩:=aj2 hK A (by omega) O X e.1 e.2 Q;have H:=aj3 M e.1 e.2 pA (.inr R);have k5:Bz (K+i) f:=ax H (aF (by decide) (by omega));have k6:Bz (K+i) j:=ax G (aF (by decide) (by omega));have k7:Bz (K+(i+2)) p:=by rw [J.1];exact (hc.sub k6).mono (by omega)
   have k8:Bz (K+(i+2)) s:=by rw [J.2];exact (l.sub k5).mono (by omega)
   refine .inl ⟨⟨f,j,p,s,i+2,false⟩,⟨T,G,H,Y,Z,k7,k8⟩,by grind,fun o h=>h,?_⟩;exact tJ [.z a,.z t,.z q,.z r,.i n,.z x2,.z y3,.u i,.u (i+1),.u (i+2),.u ((i+1)*(i+2)),.z f,.z j,.z c,.z d,.z p,.z s] [] 0 [.ar .add (.u 7) (.k .u32 1) (.u 8),.ar .add (.u 7) (.k .u32 2) (.u 9),.ar .mul (.u 8) (.u 9) (.u 10)] [⟨385,[ah 0 1],.b false⟩,⟨384,[ah 0 1,ah 2 3,aA 4],ah 5 6⟩,⟨386,[ah 5 6,.i (.u 10)],ah 11 12⟩,⟨319,[ah 13 14,ah 11 12],ah 15 16⟩] ⟨[⟨4,313,4,ah 0 1⟩,⟨5,313,4,ah 2 3⟩,⟨8,313,4,.lit zS⟩,⟨9,313,4,ah 13 14⟩],[(2,.i (.u 7)),(3,aA 4),(10,.b true)]⟩ ⟨[⟨4,313,4,ah 11 12⟩,⟨5,313,4,ah 2 3⟩,⟨8,313,4,.lit zS⟩,⟨9,313,4,ah 15 16⟩],[(2,.i (.u 9)),(3,aA 4),(10,.b false)]⟩ (fun d=>by kernel_rfl) (.k w1 (.k w2 (.k w3 .nil))) (.k c1 (.k P (.k sX (.k mB .nil))))
def auu :Cg zA.ntmps JD (nW zA) (.loop (kH JD zA)) ⟨[],AX [cG a t,cG q r,bj (.int .u32 ((i:Nat):Int)),bj (.int .i64 n)] 0⟩ (JE q r n ⟨a,t,a,t,i,true⟩):=by
 exact L6 [.z a,.z t,.z q,.z r,.u i,.i n] [] 0 [] [] ⟨[],[(0,ah 0 1),(1,ah 2 3),(2,.i (.u 4)),(3,aA 5)]⟩ ⟨[⟨4,313,4,ah 0 1⟩,⟨5,313,4,ah 2 3⟩,⟨8,313,4,.lit zS⟩,⟨9,313,4,ah 0 1⟩],[(2,.i (.u 4)),(3,aA 5),(10,.b true)]⟩ ac8 (fun d=>by kernel_rfl) .nil .nil
def auv (o:mC) (h:Zb 50000 o.b/\Zb 200000 o.c/\Zb 200000 o.d): ∃x y,Zb 300000 x/\Zb 300000 y/\yn zA.ntmps JD (.exit 0) (nW zA) zA (JE q r n o) (cG x y):=by
 obtain ⟨a,t,c,d,i,m⟩:=o;obtain ⟨⟨G,E,s⟩,⟨F,B,hc⟩,⟨kd,C,p⟩⟩:=h;simp only at s hc p;cases m
 ·obtain ⟨e,f,j,l,A,g⟩:=OV hc p s
  exact ⟨e,f,⟨_,by omega,j⟩,⟨_,by omega,l⟩,G' [.z c,.z d,.z t,.z e,.z f,.z a,.z q,.z r,.u i,.i n] [] 0 [] [⟨321,[ah 0 1,aK 2],ah 3 4⟩] ⟨[⟨4,313,4,ah 5 2⟩,⟨5,313,4,ah 6 7⟩,⟨8,313,4,.lit zS⟩,⟨9,313,4,ah 0 1⟩],[(2,.i (.u 8)),(3,aA 9),(10,.b false)]⟩ (ah 3 4) ac8 (fun d=>by kernel_rfl) .nil (.k g .nil)⟩
 ·obtain ⟨e,f,j,l,A,g⟩:=OV hc p s
  exact ⟨e,f,⟨_,by omega,j⟩,⟨_,by omega,l⟩,G' [.z c,.z d,.z t,.z e,.z f,.z a,.z q,.z r,.u i,.i n] [] 0 [] [⟨321,[ah 0 1,aK 2],ah 3 4⟩] ⟨[⟨4,313,4,ah 5 2⟩,⟨5,313,4,ah 6 7⟩,⟨8,313,4,.lit zS⟩,⟨9,313,4,ah 0 1⟩],[(2,.i (.u 8)),(3,aA 9),(10,.b true)]⟩ (ah 3 4) ac8 (fun d=>by kernel_rfl) .nil (.k g .nil)⟩
def aj6 (g:Bz b a) (h:Bz b t) (m:4<=b) (H:b<=20000) (hi:i<=2) (u:0<=n/\n<=1048576) (B:q.natAbs<=16*2^n.toNat) (C:r.natAbs<=16*2^n.toNat) (e:Zb 1000000 q) (f:Zb 1000000 r): ∃x y,Zb 300000 x/\Zb 300000 y/\
 bH Tryz.prog bw 387 [cG a t,cG q r,bj (.int .u32 ((i:Nat):Int)),bj (.int .i64 n)] (cG x y):=by
 obtain ⟨J,k,G⟩:=e;obtain ⟨M,l,j⟩:=f;obtain ⟨K,I⟩:=pU (2*b+300);obtain ⟨o,A,s⟩:=Jt (nt:=zA.ntmps) (c:=kH JD zA) (out:= .exit 0) (JE q r n) (fun z=>K-z.i) (ac9 b K) (JE q r n) (fun _ o=>Zb 50000 o.b/\Zb 200000 o.c/\Zb 200000 o.d) (aut G j k l u B C m) ⟨a,t,a,t,i,true⟩
  ⟨b,h,ax g (aF (by decide) (by omega)),fun _=>by omega,by show i+2*b<=K;omega,g.mono (by omega),h.mono (by omega)⟩
 obtain ⟨x,y,E,F,p⟩:=auv (q:=q) (r:=r) (n:=n) o A;exact ⟨x,y,E,F,S9 Tryz.func387 (by kernel_rfl) (by rw [show Tryz.f387.ntmps=_ from Tryz.ntmps387];simp) auu s p⟩
end
section
open Go.RowKit Go.Ev
variable {n K:Nat} {b:Bool} {s:Int}
structure JF where
 p:Nat
 s:Int
 i:Nat
def JG:List Ev.Way:= [.r,.r,.r,.r,.l,.k]
noncomputable def zC:Func:=Tryz.f317
def aj7:ni JG (nW zC)=some (.loop (kH JG zC)):=by kernel_rfl
def JH (n:Nat) (b:Bool) (x:JF):Fr:=⟨[⟨6,313,4,ZS⟩,⟨10,37,2,dU x.s⟩],[(0,bj (.int .u32 ((n:Nat):Int))),(2,bj (.bool b)),(7,fD x.p),(11,bj (.int .i64 ((x.i:Nat):Int)))]⟩
def ada (K:Nat) (x:JF):Prop:= ∃g,x.p<2^g/\x.i+g<=K/\Bz (K+x.i) x.s
def Ys (K n:Nat) (x o:JF):Prop:=o.i<=K/\Zb (2*K) o.s/\(o.s-x.s).natAbs<=2*x.p/\(x.i=0->(o.s-x.s-(x.p:Int)).natAbs<=2*(x.p/n/n))
def auw {p g:Nat} (j:p<2^g) (d:p≠0) (a:2<=n):p/n/n<2^(g-1)/\1<=g/\4*(p/n/n)<=p:=by
 have i:1<=g:=by
  grind
 have e:2^g=2*2^(g-1):=by
  conv=>lhs;rw [show g=(g-1)+1 by omega,bL,bG]
 have f:=Hf (x:=p) a;have h:=Hf (x:=p/n) a;omega
def auy (tf:2<=n) (hn:n<65536) (hK:K<=100000:=by omega): ∀x,ada K x->
 (∃y,ada K y/\(fun z:JF=>K-z.i) y<(fun z:JF=>K-z.i) x/\(∀o:JF,Ys K n y o->Ys K n x o)/\qB zC.ntmps (kH JG zC) (JH n b x) .normal (JH n b y))\/
 (∃o:JF,Ys K n x o/\Out.exit 0≠ .normal/\qB zC.ntmps (kH JG zC) (JH n b x) (.exit 0) (JH n b o)):=by
 rintro ⟨p,s,i⟩ ⟨g,h,hk,E⟩;simp only at h hk E;have h:Bn g p:=h;by_cases D:p=0
 ·have F:decide (0<(m6 (p):Int))=false:=(I7 (p)).trans (by rw [D];rfl)
  refine .inr ⟨⟨p,s,i⟩,⟨by grind,⟨_,by omega,E⟩,by simp,fun _=>by simp [D]⟩,by simp,?_⟩;exact tJ [.n p,.z s,.u n,.i ((i:Nat):Int)] [] 0 [.cm .gtr (.len 0) (.l 0) false] [] ⟨[⟨6,313,4,.lit zS⟩,⟨10,37,2,aK 1⟩],[(0,.i (.u 2)),(2,.b b),(7,cV 0),(11,aA 3)]⟩ ⟨[⟨6,313,4,.lit zS⟩,⟨10,37,2,aK 1⟩],[(0,.i (.u 2)),(2,.b b),(7,cV 0),(11,aA 3)]⟩ (fun d=>by cases b<;>kernel_rfl) (by cases b<;>exact (.k F .nil)) (by cases b<;>exact .nil)
 ·have F:decide (0<(m6 (p):Int))=true:=(I7 (p)).trans (decide_eq_true D)
  obtain ⟨k1,k2,k3⟩:=auw h D tf;have w2:=aB (2*((i:Nat):Int)) (by omega);have w3:=aB ((2*((i:Nat):Int))+1) (by omega);have w9:IntKind.u32.wrap ((2*((i:Nat):Int))+1)=((2*i+1:Nat):Int):=by rw [cW _ (by omega)];omega
  obtain ⟨m,r5,Z,X,e8,h9,xf⟩:=GO (d:=(2*i+1)) h;have w8:((i:Nat):Int).tmod 2=((i % 2:Nat):Int):=by rfl
  by_cases kG:(((i % 2):Nat):Int)=1
  ·have e:=decide_eq_true kG
   obtain ⟨B,T,C,G⟩:=nR (b:=(b&&true)) Z;obtain ⟨A,si,qA,P⟩:=yf E T;obtain ⟨j,q,H,f,Cd,ym,J⟩:=GO (d:=n) h;obtain ⟨a,t,A2,I,Mw,N,M⟩:=GO (d:=n) H;have U:=aB (((i:Nat):Int)+1) (by omega);have W:IntKind.i64.wrap (((i:Nat):Int)+1)=(((i+1):Nat):Int):=by omega
   have e3:a=p/n/n:=by rw [I,f]
   have e4:m<=p:=by rw [X];exact bW _ _
   have e5:B.natAbs=m:=by rw [C,wX]
   have O:Bz (K+(i+1)) A:=by grind
   refine .inl ⟨⟨a,A,i+1⟩,⟨g-1,by simp_all,by grind,O⟩,by grind,?_,?_⟩
   ·rintro o ⟨Q,R,S,-⟩
    simp only at S;refine ⟨Q,R,?_,fun Y=> ?_⟩
    all_goals grind
   ·exact tJ [.n p,.i ((i:Nat):Int),.i (2*((i:Nat):Int)),.i ((2*((i:Nat):Int))+1),.u (2*i+1),.n m,.u r5,.i (((i % 2):Nat):Int),.z B,.z s,.z A,.u n,.n j,.u q,.n a,.u t,.i (((i:Nat):Int)+1),.i (((i+1):Nat):Int)] [] 0 [.cm .gtr (.len 0) (.l 0) true,.ar .mul (.l 2) (.i 1) (.i 2),.ar .add (.i 2) (.l 1) (.i 3),.cv (.i 3) (.u 4),.ar .rem (.i 1) (.l 2) (.i 7),.cm .eql (.i 7) (.l 1) true,.ar .add (.i 1) (.l 1) (.i 17)] [⟨120,[cV 0,.i (.u 4)],.t3 (cV 5) (.i (.u 6)) (.b true)⟩,⟨141,[.b (b&&true),cV 5],aK 8⟩,⟨89,[aK 9,aK 8],aK 10⟩,⟨120,[cV 0,.i (.u 11)],.t3 (cV 12) (.i (.u 13)) (.b true)⟩,⟨120,[cV 12,.i (.u 11)],.t3 (cV 14) (.i (.u 15)) (.b true)⟩] ⟨[⟨6,313,4,.lit zS⟩,⟨10,37,2,aK 9⟩],[(0,.i (.u 11)),(2,.b b),(7,cV 0),(11,aA 1)]⟩ ⟨[⟨6,313,4,.lit zS⟩,⟨10,37,2,aK 10⟩],[(0,.i (.u 11)),(2,.b b),(7,cV 14),(11,aA 17)]⟩ (fun d=>by cases b<;>kernel_rfl) (by cases b<;>exact (.k F (.k w2 (.k w3 (.k w9 (.k ⟨(by decide:(2:Int)≠0),w8⟩ (.k e (.k W .nil)))))))) (by cases b<;>exact (.k xf (.k G (.k P (.k J (.k M .nil))))))
  ·have e:=decide_eq_false kG
   obtain ⟨B,T,C,G⟩:=nR (b:=(b&&false)) Z;obtain ⟨A,si,qA,P⟩:=yf E T;obtain ⟨j,q,H,f,Cd,ym,J⟩:=GO (d:=n) h;obtain ⟨a,t,A2,I,Mw,N,M⟩:=GO (d:=n) H;have U:=aB (((i:Nat):Int)+1) (by omega);have W:IntKind.i64.wrap (((i:Nat):Int)+1)=(((i+1):Nat):Int):=by omega
   have e3:a=p/n/n:=by rw [I,f]
   have e4:m<=p:=by rw [X];exact bW _ _
   have e5:B.natAbs=m:=by rw [C,wX]
   have O:Bz (K+(i+1)) A:=by grind
   refine .inl ⟨⟨a,A,i+1⟩,⟨g-1,by simp_all,by grind,O⟩,by grind,?_,?_⟩
   ·rintro o ⟨Q,R,S,-⟩
    simp only at S;refine ⟨Q,R,?_,fun Y=> ?_⟩
    ·grind
    ·change i=0 at Y;show (o.s-s-(p:Int)).natAbs<=2*(p/n/n);exact by have e6:B=(p:Int):=(by rw [C,Bool.and_false];show ((m:Nat):Int)=_;simp_all);omega
   ·exact tJ [.n p,.i ((i:Nat):Int),.i (2*((i:Nat):Int)),.i ((2*((i:Nat):Int))+1),.u (2*i+1),.n m,.u r5,.i (((i % 2):Nat):Int),.z B,.z s,.z A,.u n,.n j,.u q,.n a,.u t,.i (((i:Nat):Int)+1),.i (((i+1):Nat):Int)] [] 0 [.cm .gtr (.len 0) (.l 0) true,.ar .mul (.l 2) (.i 1) (.i 2),.ar .add (.i 2) (.l 1) (.i 3),.cv (.i 3) (.u 4),.ar .rem (.i 1) (.l 2) (.i 7),.cm .eql (.i 7) (.l 1) false,.ar .add (.i 1) (.l 1) (.i 17)] [⟨120,[cV 0,.i (.u 4)],.t3 (cV 5) (.i (.u 6)) (.b true)⟩,⟨141,[.b (b&&false),cV 5],aK 8⟩,⟨89,[aK 9,aK 8],aK 10⟩,⟨120,[cV 0,.i (.u 11)],.t3 (cV 12) (.i (.u 13)) (.b true)⟩,⟨120,[cV 12,.i (.u 11)],.t3 (cV 14) (.i (.u 15)) (.b true)⟩] ⟨[⟨6,313,4,.lit zS⟩,⟨10,37,2,aK 9⟩],[(0,.i (.u 11)),(2,.b b),(7,cV 0),(11,aA 1)]⟩ ⟨[⟨6,313,4,.lit zS⟩,⟨10,37,2,aK 10⟩],[(0,.i (.u 11)),(2,.b b),(7,cV 14),(11,aA 17)]⟩ (fun d=>by cases b<;>kernel_rfl) (by cases b<;>exact (.k F (.k w2 (.k w3 (.k w9 (.k ⟨(by decide:(2:Int)≠0),w8⟩ (.k e (.k W .nil)))))))) (by cases b<;>exact (.k xf (.k G (.k P (.k J (.k M .nil))))))
def auz {c:Nat} (F:2<=n) (A:n<65536) (B:0<=s/\s<=(c:Int):=by omega) (hc:c<=1000000:=by omega):Cg zC.ntmps JG (nW zC) (.loop (kH JG zC)) ⟨[],AX [bj (.int .u32 ((n:Nat):Int)),bj (.int .i64 s),bj (.bool b)] 0⟩ (JH n b ⟨2^s.toNat/n,0,0⟩):=by
 obtain ⟨q,m,x,g⟩:=LC (n:=1);obtain ⟨t,p,y,h⟩:=Sc (s:=(s).toNat) (c:=c) m (by omega:(s:Int)=(((s).toNat:Nat):Int));obtain ⟨e,a,C,D,l,E,f⟩:=GO (d:=n) p;have j:e=2^s.toNat/n:=by simp_all
 rw [<-j];exact L6 [.n q,.i s,.n t,.u n,.n e,.u a] [] 0 [] [⟨68,[.i (.k .u64 1)],cV 0⟩,⟨153,[cV 0,aA 1],cV 2⟩,⟨120,[cV 2,.i (.u 3)],.t3 (cV 4) (.i (.u 5)) (.b true)⟩] ⟨[],[(0,.i (.u 3)),(1,aA 1),(2,.b b)]⟩ ⟨[⟨6,313,4,.lit zS⟩,⟨10,37,2,.z (.o)⟩],[(0,.i (.u 3)),(2,.b b),(7,cV 4),(11,gN 0)]⟩ aj7 (fun d=>by cases b<;>kernel_rfl) (by cases b<;>exact .nil) (by cases b<;>exact (.k g (.k h (.k f .nil))))
def auA (F:K<=100000) (o:JF) (j:o.i<=K) (m:Zb (2*K) o.s): ∃x y,Zb 300000 x/\Zb 300000 y/\x=o.s-3*((o.i:Int)+2)/\y=o.s+3*((o.i:Int)+2)/\yn zC.ntmps JG (.exit 0) (nW zC) zC (JH n b o) (cG x y):=by
 obtain ⟨p,s,i⟩:=o;obtain ⟨k,G,a⟩:=m;simp only at j a⊢;have c1:=OU (x:=s);have B:=aB (((i:Nat):Int)+2) (by omega);have C:=aB (3*(((i:Nat):Int)+2)) (by omega);obtain ⟨D,q,E,g⟩:=OT (n:=(3*(((i:Nat):Int)+2)));obtain ⟨e,f,h,t,H,A⟩:=OV a a q;exact ⟨e,f,⟨_,by omega,h⟩,⟨_,by omega,t⟩,by omega,by omega,G' [.z s,.i ((i:Nat):Int),.i (((i:Nat):Int)+2),.i (3*(((i:Nat):Int)+2)),.z D,.z e,.z f,.u n,.n p] [] 0 [.ar .add (.i 1) (.l 2) (.i 2),.ar .mul (.l 3) (.i 2) (.i 3)] [⟨320,[aK 0],ah 0 0⟩,⟨37,[aA 3],aK 4⟩,⟨321,[ah 0 0,aK 4],ah 5 6⟩] ⟨[⟨6,313,4,.lit zS⟩,⟨10,37,2,aK 0⟩],[(0,.i (.u 7)),(2,.b b),(7,cV 8),(11,aA 1)]⟩ (ah 5 6) aj7 (fun d=>by cases b<;>kernel_rfl) (by cases b<;>exact (.k B (.k C .nil))) (by cases b<;>exact (.k c1 (.k g (.k A .nil))))⟩
def Tz (d:2<=n:=by decide) (a:n<65536:=by decide) (u:0<=s/\s<=100000:=by omega): ∃x y,Zb 300000 x/\Zb 300000 y/\
 ((x-((2^s.toNat/n:Nat):Int)).natAbs<=2*(2^s.toNat/n/n/n)+3*(s.toNat+2)/\(y-((2^s.toNat/n:Nat):Int)).natAbs<=2*(2^s.toNat/n/n/n)+3*(s.toNat+2)/\x<=y/\y-x<=6*(s+2))/\
 bH Tryz.prog bw 317 [bj (.int .u32 ((n:Nat):Int)),bj (.int .i64 s),bj (.bool b)] (cG x y):=by
 obtain ⟨c,hc⟩: ∃c:Nat,c=s.toNat:=⟨_,rfl⟩;obtain ⟨o,⟨e,f,t,g⟩,k⟩:=Jt (nt:=zC.ntmps) (c:=kH JG zC) (out:= .exit 0) (JH n b) (fun z=>c-z.i) (ada c) (JH n b) (Ys c n) (auy d a) ⟨2^s.toNat/n,0,0⟩
  ⟨c,by show 2^s.toNat/n<2^c;rw [<-hc];exact Nat.div_lt_self (aM (by decide)) (by omega),by show 0+c<=c;omega,aM (by decide)⟩
 obtain ⟨x,y,l,m,p,q,j⟩:=auA (n:=n) (b:=b) (by omega) o e f;have h:=g rfl;simp only at h;refine ⟨x,y,l,m,⟨by omega,by omega,by omega,by omega⟩,S9 Tryz.func317 (by kernel_rfl) (by rw [show Tryz.f317.ntmps=_ from Tryz.ntmps317];simp) (auz d a (c:=c)) k j⟩
end
section
open Go.Proofs.Tryz Go.RowKit Go.Ev
variable {K i n g:Nat} {u v s a b q r:Int}
structure JI where
 p:Nat
 s:Nat
 i:Nat
def eP:List Ev.Way:= [.r,.r,.r,.r,.l,.k]
noncomputable def eF:Func:=f269
def aj8:ni eP (nW eF)=some (.loop (kH eP eF)):=by kernel_rfl
def eI (x:JI):Fr:=⟨[⟨2,313,4,ZS⟩],[(3,fD x.p),(4,fD x.s),(5,bj (.int .u32 ((x.i:Nat):Int)))]⟩
def eOk (K:Nat) (x:JI):Prop:=1<=x.i/\ ∃g,x.p<2^g/\max x.i 2+g<=K/\Bn (K+x.i) x.s
def eG (K:Nat) (o:JI):Prop:=o.i<=K/\Nb (2*K) o.s
def auB {p:Nat} (j:p<2^g) (d:p≠0) (hi:2<=i):p/i<2^(g-1)/\1<=g:=by
 have h:1<=g:=by
  grind
 have e:2^g=2*2^(g-1):=by
  conv=>lhs;rw [show g=(g-1)+1 by omega,bL,bG]
 have f:=Hf (x:=p) hi;omega
def auC (T:K<=100000:=by omega): ∀x,eOk K x->
 (∃y,eOk K y/\(fun z:JI=>K-z.i) y<(fun z:JI=>K-z.i) x/\(∀o:JI,eG K o->eG K o)/\qB eF.ntmps (kH eP eF) (eI x) .normal (eI y))\/
 (∃o:JI,eG K o/\Out.exit 0≠ .normal/\qB eF.ntmps (kH eP eF) (eI x) (.exit 0) (eI o)):=by
 rintro ⟨p,s,i⟩ ⟨F,g,e,G,m⟩;simp only at F e G m;have e:Bn g p:=e;by_cases j:p=0
 ·have B:decide (0<(m6 (p):Int))=false:=(I7 (p)).trans (by rw [j];rfl)
  refine .inr ⟨⟨p,s,i⟩,⟨by grind,⟨_,by omega,m⟩⟩,by simp,?_⟩;exact tJ [.n p,.n s,.u i] [] 0 [.cm .gtr (.len 0) (.l 0) false] [] ⟨[⟨2,313,4,.lit zS⟩],[(3,cV 0),(4,cV 1),(5,.i (.u 2))]⟩ ⟨[⟨2,313,4,.lit zS⟩],[(3,cV 0),(4,cV 1),(5,.i (.u 2))]⟩ (fun d=>by kernel_rfl) (.k B .nil) .nil
 ·have B:decide (0<(m6 (p):Int))=true:=(I7 (p)).trans (decide_eq_true j)
  obtain ⟨A,O,E,Q,R,S,C⟩:=GO (d:=i) e;obtain ⟨t,D,X,N⟩:=Sd m E;have P:IntKind.u32.wrap (((i:Nat):Int)+1)=(((i+1):Nat):Int):=by rw [cW _ (by omega)];omega
  have H:Bn (K+(i+1)) t:=D.mono (by omega);have I: ∃f,A<2^f/\max (i+1) 2+f<=K:=by
   by_cases Y:i=1
   ·grind
   ·obtain ⟨U,W⟩:=auB e j (show 2<=i by omega)
    grind
  obtain ⟨f,J,M⟩:=I;refine .inl ⟨⟨A,t,i+1⟩,⟨by simp_all,f,J,M,H⟩,by grind,fun _ h=>h,?_⟩;exact tJ [.n p,.u i,.n A,.u O,.n s,.n t,.u (i+1)] [] 0 [.cm .gtr (.len 0) (.l 0) true,.ar .add (.u 1) (.k .u32 1) (.u 6)] [⟨120,[cV 0,.i (.u 1)],.t3 (cV 2) (.i (.u 3)) (.b true)⟩,⟨143,[cV 4,cV 2],cV 5⟩] ⟨[⟨2,313,4,.lit zS⟩],[(3,cV 0),(4,cV 4),(5,.i (.u 1))]⟩ ⟨[⟨2,313,4,.lit zS⟩],[(3,cV 2),(4,cV 5),(5,.i (.u 6))]⟩ (fun d=>by kernel_rfl) (.k B (.k P .nil)) (.k C (.k N .nil))
def auD {c:Nat} (x:0<=s/\s<=(c:Int):=by omega) (hc:c<=1000000:=by omega):Cg eF.ntmps eP (nW eF) (.loop (kH eP eF)) ⟨[],AX [bj (.int .i64 s)] 0⟩ (eI ⟨2^s.toNat,2^s.toNat,1⟩):=by
 obtain ⟨m,l,o,f⟩:=LC (n:=1);obtain ⟨e,t,p,h⟩:=Sc (s:=(s).toNat) (c:=c) l (by omega:(s:Int)=(((s).toNat:Nat):Int));have j:e=2^s.toNat:=by simp_all
 rw [<-j];exact L6 [.n m,.i s,.n e] [] 0 [] [⟨68,[.i (.k .u64 1)],cV 0⟩,⟨153,[cV 0,aA 1],cV 2⟩] ⟨[],[(0,aA 1)]⟩ ⟨[⟨2,313,4,.lit zS⟩],[(3,cV 2),(4,cV 2),(5,.i (.k .u32 1))]⟩ aj8 (fun d=>by kernel_rfl) .nil (.k f (.k h .nil))
def auE (R:K<=100000) (o:JI) (h:eG K o): ∃x y,Zb 300000 x/\Zb 300000 y/\yn eF.ntmps eP (.exit 0) (nW eF) eF (eI o) (cG x y):=by
 obtain ⟨p,s,i⟩:=o;obtain ⟨C,k,S,m⟩:=h;simp only at C m;obtain ⟨t,j,P,A⟩:=nR (b:=false) m;have B:=OU (x:=t);have H:IntKind.u32.wrap (((i:Nat):Int)+2)=(((i+2):Nat):Int):=by rw [cW _ (by omega)];omega
 have I:IntKind.i64.wrap (((i+2):Nat):Int)=(((i+2):Nat):Int):=aB _ (by omega);have J:=aB (3*((i+2:Nat):Int)) (by omega);obtain ⟨N,D,Q,M⟩:=OT (n:=(3*((i+2:Nat):Int)));obtain ⟨e,f,F,E,O,G⟩:=OV j j D;exact ⟨e,f,⟨_,by omega,F⟩,⟨_,by omega,E⟩,G' [.n s,.z t,.u i,.u (i+2),.i ((i+2:Nat):Int),.i (3*((i+2:Nat):Int)),.z N,.z e,.z f,.n p] [] 0 [.ar .add (.u 2) (.k .u32 2) (.u 3),.cv (.u 3) (.i 4),.ar .mul (.l 3) (.i 4) (.i 5)] [⟨141,[.b false,cV 0],aK 1⟩,⟨320,[aK 1],ah 1 1⟩,⟨37,[aA 5],aK 6⟩,⟨321,[ah 1 1,aK 6],ah 7 8⟩] ⟨[⟨2,313,4,.lit zS⟩],[(3,cV 9),(4,cV 0),(5,.i (.u 2))]⟩ (ah 7 8) aj8 (fun d=>by kernel_rfl) (.k H (.k I (.k J .nil))) (.k A (.k B (.k M (.k G .nil))))⟩
def f_e (l:0<=s/\s<=90000): ∃x y,Zb 300000 x/\Zb 300000 y/\bH prog bw 269 [bj (.int .i64 s)] (cG x y):=by
 obtain ⟨c,hc⟩: ∃c:Nat,c=s.toNat+3:=⟨_,rfl⟩;have d:2^s.toNat<2^(s.toNat+1):=gZ (by decide) (by omega);obtain ⟨o,h,f⟩:=Jt (nt:=eF.ntmps) (c:=kH eP eF) (out:= .exit 0) eI (fun z=>c-z.i) (eOk c) eI (fun _=>eG c) (auC) ⟨2^s.toNat,2^s.toNat,1⟩
  ⟨ak _,s.toNat+1,d,by show max 1 2+(s.toNat+1)<=c;omega,aus d⟩
 obtain ⟨x,y,j,k,e⟩:=auE (by omega) o h;exact ⟨x,y,j,k,S9 func269 (by kernel_rfl) (by rw [show f269.ntmps=_ from ntmps269];simp) (auD (c:=c)) f e⟩
def auF (e:4*b.natAbs<=2^n):(a*b).natAbs/2^n<=a.natAbs/4:=by
 have d:0<2^n:=aM (n:=n) (show 0<2 by decide);rw [dK,cK (by decide)];have f:=dM (a.natAbs*b.natAbs) (2^n);have h:a.natAbs*(4*b.natAbs)<=a.natAbs*2^n:=aR _ e;refine bU (c:=2^n) ?_ d;grind
def ade (d:4*b.natAbs<=2^n):(-(-(a*b)/2^n)).natAbs<=a.natAbs/4+1:=by
 have:=Pg (a*b) n;have:=auF (a:=a) d;omega
def adg {v y:Nat} (f:v<2^g) (e:8<=v) (m:i+2*g<=K) (o:y<=v/4+1): ∃d,y<2^d/\i+2+2*d<=K/\d<=g:=by
 obtain ⟨H,l,h,j,k⟩:=ac7 f e;grind
def JL:List Ev.Way:= [.r,.r,.r,.l,.r,.k]
noncomputable def zE:Func:=f367
def aj9:ni JL (nW zE)=some (.loop (kH JL zE)):=by kernel_rfl
def Pl (b K:Nat) (x:mC):Prop:= ∃g,x.b.natAbs<2^g/\x.a.natAbs<=2^b+x.i/\x.i+2*g<=K/\Bz (K+x.i) x.c/\Bz (K+x.i) x.d
def Fl (o:mC):Prop:=Zb 100000 o.b/\Zb 200000 o.c/\Zb 200000 o.d
def JM (u v q r n:Int) (x:mC):Fr:=⟨[⟨2,313,4,cG u v⟩,⟨4,313,4,ZS⟩,⟨5,313,4,cG q r⟩,⟨6,313,4,cG x.a x.b⟩,⟨7,313,4,cG x.c x.d⟩],[(1,bj (.int .i64 n)),(8,bj (.int .u32 ((x.i:Nat):Int)))]⟩
def TB {x b:Nat} (h:x<=2^b+i) (d:b+20<=K) (f:i<=100000:=by omega):x<2^K:=by
 have e:2^(b+20)<=2^K:=aF (by decide) d;grind
def auG {b J M:Nat} {n:Int} (hq:Bz J q) (hr:Bz M r) (Yq:J<=1000000) (Yr:M<=1000000) (hn:0<=n/\n<=1048576) (uB:q.natAbs<=1*2^n.toNat) (R:4*r.natAbs<=2^n.toNat) (D:b+20<=K:=by omega) (Y:K<=90000:=by omega): ∀x,(Pl b K x/\3<=x.i)->
 (∃y,(Pl b K y/\3<=y.i)/\(fun z:mC=>K-z.i) y<(fun z:mC=>K-z.i) x/\(∀o:mC,Fl o->Fl o)/\qB zE.ntmps (kH JL zE) (JM u v q r n x) .normal (JM u v q r n y))\/
 (∃o:mC,Fl o/\Out.exit 0≠ .normal/\qB zE.ntmps (kH JL zE) (JM u v q r n x) (.exit 0) (JM u v q r n o)):=by
 rintro ⟨a,t,c,d,i,m⟩ ⟨⟨g,l,H,I,hc,j⟩,Z⟩;simp only at l H I hc j Z;have mn:Bz K a:=TB H D;have N:Bz g t:=l;have c1:=S1 (a:=a) N;by_cases G:t.natAbs<8
 ·rw [decide_eq_true G] at c1
  refine .inr ⟨⟨a,t,c,d,i,m⟩,⟨⟨g,by omega,l⟩,⟨_,by omega,hc⟩,⟨_,by omega,j⟩⟩,by simp,?_⟩;exact tJ [.z a,.z t,.z u,.z v,.z q,.z r,.z c,.z d,.i n,.u i] [] 0 [] [⟨385,[ah 0 1],.b true⟩] ⟨[⟨2,313,4,ah 2 3⟩,⟨4,313,4,.lit zS⟩,⟨5,313,4,ah 4 5⟩,⟨6,313,4,ah 0 1⟩,⟨7,313,4,ah 6 7⟩],[(1,aA 8),(8,.i (.u 9))]⟩ ⟨[⟨2,313,4,ah 2 3⟩,⟨4,313,4,.lit zS⟩,⟨5,313,4,ah 4 5⟩,⟨6,313,4,ah 0 1⟩,⟨7,313,4,ah 6 7⟩],[(1,aA 8),(8,.i (.u 9))]⟩ (fun d=>by kernel_rfl) .nil (.k c1 .nil)
 ·rw [decide_eq_false G] at c1
  obtain ⟨p,f,F,X,E,S⟩:=Fb (n:=n) mn N hq hr;obtain ⟨Q,C,U,kG,O,sX⟩:=S3 (d:=i) F X;obtain ⟨A,B,xp,si,P,mB⟩:=Fa hc j U kG;have w2:IntKind.u32.wrap (((i:Nat):Int)+2)=(((i+2):Nat):Int):=by rw [cW _ (by omega)];omega
  have T:f.natAbs<=t.natAbs/4+1:=by rw [E.2];exact ade R
  have e2:p.natAbs<=a.natAbs*1+1:=by rw [E.1];exact Ph uB
  obtain ⟨e,k1,k2,k3⟩:=adg l (by omega) I T;have k4:p.natAbs<2^K:=TB (i:=i+1) (by omega) D;have k5:Bz (K+i) Q:=by rw [O.1];exact bg (bW _ _) (ax k4 (aF (by decide) (by omega)))
  have k6:Bz (K+i) C:=by
   have h1:=O.2.2.1;have h2:f.natAbs/i<=f.natAbs:=bW _ _;have W:2^(e+1)<=2^(K+i):=aF (by decide) (by omega);have F:2^(e+1)=2*2^e:=by omega
   exact ax (show C.natAbs<2^(e+1) by omega) W
  have k7:Bz (K+(i+2)) A:=by rw [P.1];exact (hc.add k5).mono (by omega)
  have k8:Bz (K+(i+2)) B:=by rw [P.2];exact (j.add k6).mono (by omega)
  refine .inl ⟨⟨p,f,A,B,i+2,m⟩,⟨⟨e,k1,by grind,k2,k7,k8⟩,by grind⟩,by grind,fun o h=>h,?_⟩;exact tJ [.z a,.z t,.z q,.z r,.i n,.z p,.z f,.u i,.z Q,.z C,.z c,.z d,.z A,.z B,.u (i+2),.z u,.z v] [] 0 [.ar .add (.u 7) (.k .u32 2) (.u 14)] [⟨385,[ah 0 1],.b false⟩,⟨384,[ah 0 1,ah 2 3,aA 4],ah 5 6⟩,⟨386,[ah 5 6,.i (.u 7)],ah 8 9⟩,⟨359,[ah 10 11,ah 8 9],ah 12 13⟩] ⟨[⟨2,313,4,ah 15 16⟩,⟨4,313,4,.lit zS⟩,⟨5,313,4,ah 2 3⟩,⟨6,313,4,ah 0 1⟩,⟨7,313,4,ah 10 11⟩],[(1,aA 4),(8,.i (.u 7))]⟩ ⟨[⟨2,313,4,ah 15 16⟩,⟨4,313,4,.lit zS⟩,⟨5,313,4,ah 2 3⟩,⟨6,313,4,ah 5 6⟩,⟨7,313,4,ah 12 13⟩],[(1,aA 4),(8,.i (.u 14))]⟩ (fun d=>by kernel_rfl) (.k w2 .nil) (.k c1 (.k S (.k sX (.k mB .nil))))
def auH {j:Nat} {n:Int} (f:Bz i u) (h:Bz j v) (hi:i<=400000:=by omega) (x:j<=400000:=by omega) (y:0<=n/\n<=1048576:=by omega): ∃q r,q=u*u/2^n.toNat/\r= -(-(v*v)/2^n.toNat)/\Bz (i+i) q/\Bz (j+j) r/\Cg zE.ntmps JL (nW zE) (.loop (kH JL zE)) ⟨[],AX [cG u v,bj (.int .i64 n)] 0⟩ (JM u v q r n ⟨u,v,u,v,3,true⟩):=by
 obtain ⟨l,m,p,t,e,o⟩:=Fb (n:=n) f h f h;exact ⟨l,m,e.1,e.2,p,t,L6 [.z u,.z v,.i n,.z l,.z m] [] 0 [] [⟨384,[ah 0 1,ah 0 1,aA 2],ah 3 4⟩] ⟨[],[(0,ah 0 1),(1,aA 2)]⟩ ⟨[⟨2,313,4,ah 0 1⟩,⟨4,313,4,.lit zS⟩,⟨5,313,4,ah 3 4⟩,⟨6,313,4,ah 0 1⟩,⟨7,313,4,ah 0 1⟩],[(1,aA 2),(8,.i (.k .u32 3))]⟩ aj9 (fun d=>by kernel_rfl) .nil (.k o .nil)⟩
def auI {n:Int} (o:mC) (h:Fl o): ∃x y,Zb 300000 x/\Zb 300000 y/\yn zE.ntmps JL (.exit 0) (nW zE) zE (JM u v q r n o) (cG x y):=by
 obtain ⟨a,t,c,d,i,m⟩:=o;obtain ⟨⟨F,C,f⟩,⟨E,A,hc⟩,⟨kd,B,e⟩⟩:=h;simp only at f hc e;obtain ⟨j,p,D,l⟩:=yf e f;exact ⟨c,j,⟨_,by omega,hc⟩,⟨_,by omega,p⟩,G' [.z d,.z t,.z j,.z u,.z v,.z q,.z r,.z a,.z c,.i n,.u i] [] 0 [] [⟨89,[aK 0,aK 1],aK 2⟩] ⟨[⟨2,313,4,ah 3 4⟩,⟨4,313,4,.lit zS⟩,⟨5,313,4,ah 5 6⟩,⟨6,313,4,ah 7 1⟩,⟨7,313,4,ah 8 0⟩],[(1,aA 9),(8,.i (.u 10))]⟩ (ah 8 2) aj9 (fun d=>by kernel_rfl) .nil (.k l .nil)⟩
def aka (h:5*v.natAbs<=2*2^n:=by omega) (e:5<=n:=by omega):4*(-(-(v*v)/2^n)).natAbs<=2^n:=by
 have j:=Pg (v*v) n;have d:0<2^n:=aM (n:=n) (show 0<2 by decide);have f:2^5<=2^n:=aF (by decide) e;have k:(v*v).natAbs/2^n<=4*2^n/25:=by
  rw [dK,cK (by decide)];have l:=dM (v.natAbs*v.natAbs) (2^n);have m:5*v.natAbs*(5*v.natAbs)<=2*2^n*(2*2^n):=bJ h h;refine bU (c:=2^n) ?_ d;grind
 omega
def akb (h:u.natAbs<=2^n-1:=by omega) (j:5<=n:=by omega):(u*u/2^n).natAbs<=1*2^n:=by
 have f:0<2^n:=aM (n:=n) (show 0<2 by decide);have d:=Ty (u*u) n;have e:(u*u).natAbs/2^n<=2^n-1:=by
  rw [dK];refine aL (ef (bJ h (show u.natAbs<=2^n by omega))) ?_;simp_all
 omega
def auJ {n:Int} (I:5<=n/\n<=30000) (h:u.natAbs<=2^n.toNat-1) (j:5*v.natAbs<=2*2^n.toNat): ∃x y,Zb 300000 x/\Zb 300000 y/\bH prog bw 367 [cG u v,bj (.int .i64 n)] (cG x y):=by
 obtain ⟨b,e⟩: ∃b:Nat,b=n.toNat:=⟨_,rfl⟩;obtain ⟨K,G⟩:=pU (2*b+30);have H:0<2^b:=aM (by decide);rw [<-e] at h j;have f:Bz b u:=by unfold Bz;omega
 have d:Bz b v:=by unfold Bz;omega
 obtain ⟨q,r,eq,l,B,C,m⟩:=auH (n:=n) f d;have k:4*r.natAbs<=2^n.toNat:=by rw [l];exact aka (by rw [<-e];exact j)
 have F:q.natAbs<=1*2^n.toNat:=by rw [eq];exact akb (by rw [<-e];exact h)
 obtain ⟨o,A,t⟩:=Jt (nt:=zE.ntmps) (c:=kH JL zE) (out:= .exit 0) (JM u v q r n) (fun z=>K-z.i) (fun x=>Pl b K x/\3<=x.i) (JM u v q r n) (fun _=>Fl) (auG (b:=b) B C (by omega) (by omega) (by omega) F k) ⟨u,v,u,v,3,true⟩
  ⟨⟨b,d,by show u.natAbs<=2^b+3;omega,by show 3+2*b<=K;omega,f.mono (by omega),d.mono (by omega)⟩,ak _⟩
 obtain ⟨x,y,D,E,p⟩:=auI (u:=u) (v:=v) (q:=q) (r:=r) (n:=n) o A;exact ⟨x,y,D,E,S9 func367 (by kernel_rfl) (by rw [show f367.ntmps=_ from ntmps367];simp) m t p⟩
end
section
open Go.Proofs.Tryz Go.RowKit Go.Ev
variable {s a b p n u v q r:Int} {i j g:Nat}
def akc {a P w:Nat} (e:2*P<=w) (d:0<P):a*P/w<=a/2:=by
 rw [cK (by decide)];have f:=dM (a*P) w;refine bU (c:=P) ?_ d;have h:a*P/w*(2*P)<=a*P/w*w:=aR _ e;grind
def akd (a:Int):0<=a*a:=by
 rcases kW 0 a with h|h
 ·exact iU h h
 ·exact Int.mul_nonneg_of_nonpos_of_nonpos h h
def auK {z:Int} {n:Nat} (h:0<=z):0<= -(-z/2^n):=by
 have d:(0:Int)<2^n:=eE (by decide);have: -z/2^n<=0:=by
  refine jI (gQ d ?_);omega
 omega
def JP (k:Bz i a) (l:Bz j b) (h:Bz (63+g) p) (ep:p=2^n.toNat) (hn:0<=n/\n<=(g:Int):=by omega) (hg:g<=100000:=by omega) (hi:i<=100000:=by omega) (hj:j<=100000:=by omega): ∃m o u1 u2 t x y z d J,
 bH prog bw 384 [cG a b,cG a b,bj (.int .i64 n)] (cG m o)/\bH prog bw 359 [cG p p,cG m o] (cG u1 u2)/\bH prog bw 388 [cG u1 u2,bj (.int .i64 n)] (cG t x)/\bH prog bw 359 [cG p p,cG t x] (cG y z)/\bH prog bw 368 [cG a b,cG y z,bj (.int .i64 n)] (cG d J)/\d.natAbs<=a.natAbs/2+1/\J.natAbs<=b.natAbs/2+1:=by
 obtain ⟨d,A,Z,h4,F,X⟩:=Fb (n:=n) k l k l;obtain ⟨M,O,h9,Y,H,qe⟩:=Fa h h Z h4;obtain ⟨D,E,P,xp,I,N,mB⟩:=atE (g:=g) (n:=n) h9 Y;obtain ⟨e,f,Q,R,B,T⟩:=Fa h h P xp;have G:0<2^n.toNat:=aM (n:=n.toNat) (show 0<2 by decide);have pN:p.natAbs=2^n.toNat:=by simp_all
 have pp:p=((2^n.toNat:Nat):Int):=by simp_all
 have m:0<=d:=by rw [F.1];exact jD (akd a) (cR (eE (by decide)))
 have o:0<=A:=by rw [F.2];exact auK (akd b)
 have u1:M=p+d:=H.1;have u2:O=p+A:=H.2;have t:=I.2 (2^n.toNat) (aN _ (by omega));have x:=N.2 (2^n.toNat) (aN _ (by omega));have v3:=I.1;have v4:=N.1;have y:e=p+D:=B.1;have z:f=p+E:=B.2;obtain ⟨U,W,zq,A2,C,S⟩:=acE (g:=g) (n:=n) k l Q R;exact ⟨d,A,M,O,D,E,e,f,U,W,X,qe,mB,T,S,aL C.1 (dI (akc (by omega) G)),aL C.2 (dI (akc (by omega) G))⟩
def JS:List Ev.Way:= [.r,.r,.r,.r,.r,.r,.r,.l,.r,.k]
noncomputable def zF:Func:=f374
def ake:ni JS (nW zF)=some (.loop (kH JS zF)):=by kernel_rfl
def JT (u v p q r s n:Int) (x:mC):Fr:=⟨[⟨2,313,4,cG u v⟩,⟨4,313,4,ZS⟩,⟨6,313,4,cG p p⟩,⟨7,313,4,cG q r⟩,⟨8,313,4,cG x.a x.b⟩,⟨9,313,4,cG x.c x.d⟩],[(1,bj (.int .i64 s)),(5,bj (.int .i64 n)),(10,bj (.int .u32 ((x.i:Nat):Int)))]⟩
def auL {b K kq kr:Nat} (hq:Bz kq q) (hr:Bz kr r) (Yq:kq<=1000000) (Yr:kr<=1000000) (hn:0<=n/\n<=1048576) (uB:q.natAbs<=1*2^n.toNat) (JN:4*r.natAbs<=2^n.toNat) (N:b+20<=K:=by omega) (hK2:K<=90000:=by omega): ∀x,(Pl b K x/\3<=x.i)->
 (∃y,(Pl b K y/\3<=y.i)/\(fun z:mC=>K-z.i) y<(fun z:mC=>K-z.i) x/\(∀o:mC,Fl o->Fl o)/\qB zF.ntmps (kH JS zF) (JT u v p q r s n x) .normal (JT u v p q r s n y))\/
 (∃o:mC,Fl o/\Out.exit 2≠ .normal/\qB zF.ntmps (kH JS zF) (JT u v p q r s n x) (.exit 2) (JT u v p q r s n o)):=by
 rintro ⟨a,t,c,d,i,m⟩ ⟨⟨g,F,ha,R,hc,C⟩,hi⟩;simp only at F ha R hc C hi;have mn:Bz K a:=TB ha N;have lN:Bz g t:=F;have c1:=S1 (a:=a) lN;by_cases h8:t.natAbs<8
 ·rw [decide_eq_true h8] at c1
  refine .inr ⟨⟨a,t,c,d,i,m⟩,⟨⟨g,by omega,F⟩,⟨_,by omega,hc⟩,⟨_,by omega,C⟩⟩,by simp,?_⟩;exact tJ [.z a,.z t,.z u,.z v,.z p,.z q,.z r,.z c,.z d,.i s,.i n,.u i] [] 0 [] [⟨385,[ah 0 1],.b true⟩] ⟨[⟨2,313,4,ah 2 3⟩,⟨4,313,4,.lit zS⟩,⟨6,313,4,ah 4 4⟩,⟨7,313,4,ah 5 6⟩,⟨8,313,4,ah 0 1⟩,⟨9,313,4,ah 7 8⟩],[(1,aA 9),(5,aA 10),(10,.i (.u 11))]⟩ ⟨[⟨2,313,4,ah 2 3⟩,⟨4,313,4,.lit zS⟩,⟨6,313,4,ah 4 4⟩,⟨7,313,4,ah 5 6⟩,⟨8,313,4,ah 0 1⟩,⟨9,313,4,ah 7 8⟩],[(1,aA 9),(5,aA 10),(10,.i (.u 11))]⟩ (fun d=>by kernel_rfl) .nil (.k c1 .nil)
 ·rw [decide_eq_false h8] at c1
  obtain ⟨l,f,Q,h5,G,c7⟩:=Fb (n:=n) mn lN hq hr;obtain ⟨I,D,ff,kG,H,sX⟩:=S3 (d:=i) Q h5;have w8:((i:Nat):Int).tmod 4=((i % 4:Nat):Int):=by rfl
  by_cases oC:(((i % 4):Nat):Int)=3
  ·have J:=decide_eq_true oC
   obtain ⟨A,B,si,xv,E,M⟩:=Jm hc C ff kG;have w2:IntKind.u32.wrap (((i:Nat):Int)+2)=(((i+2):Nat):Int):=by rw [cW _ (by omega)];omega
   have O:f.natAbs<=t.natAbs/4+1:=by rw [G.2];exact ade JN
   have e2:l.natAbs<=a.natAbs*1+1:=by rw [G.1];exact Ph uB
   obtain ⟨e,S,T,k3⟩:=adg F (by omega) R O;have U:l.natAbs<2^K:=TB (i:=i+1) (by omega) N;have W:Bz (K+i) I:=by rw [H.1];exact bg (bW _ _) (ax U (aF (by decide) (by omega)))
   have X:Bz (K+i) D:=by
    have h1:=H.2.2.1;have h2:f.natAbs/i<=f.natAbs:=bW _ _;have P:2^(e+1)<=2^(K+i):=aF (by decide) (by omega);have Q:2^(e+1)=2*2^e:=by omega
    exact ax (show D.natAbs<2^(e+1) by omega) P
   have Y:Bz (K+(i+2)) A:=by rw [E.1];exact (hc.sub X).mono (by omega)
   have Z:Bz (K+(i+2)) B:=by rw [E.2];exact (C.sub W).mono (by omega)
   refine .inl ⟨⟨l,f,A,B,i+2,m⟩,⟨⟨e,S,by grind,T,Y,Z⟩,by grind⟩,by grind,fun o h=>h,?_⟩;exact tJ [.z a,.z t,.z q,.z r,.i n,.z l,.z f,.u i,.z I,.z D,.u (i % 4),.z c,.z d,.z A,.z B,.u (i+2),.z u,.z v,.z p,.i s] [] 0 [.ar .rem (.u 7) (.k .u32 4) (.u 10),.cm .eql (.u 10) (.k .u32 3) true,.ar .add (.u 7) (.k .u32 2) (.u 15)] [⟨385,[ah 0 1],.b false⟩,⟨384,[ah 0 1,ah 2 3,aA 4],ah 5 6⟩,⟨386,[ah 5 6,.i (.u 7)],ah 8 9⟩,⟨319,[ah 11 12,ah 8 9],ah 13 14⟩] ⟨[⟨2,313,4,ah 16 17⟩,⟨4,313,4,.lit zS⟩,⟨6,313,4,ah 18 18⟩,⟨7,313,4,ah 2 3⟩,⟨8,313,4,ah 0 1⟩,⟨9,313,4,ah 11 12⟩],[(1,aA 19),(5,aA 4),(10,.i (.u 7))]⟩ ⟨[⟨2,313,4,ah 16 17⟩,⟨4,313,4,.lit zS⟩,⟨6,313,4,ah 18 18⟩,⟨7,313,4,ah 2 3⟩,⟨8,313,4,ah 5 6⟩,⟨9,313,4,ah 13 14⟩],[(1,aA 19),(5,aA 4),(10,.i (.u 15))]⟩ (fun d=>by kernel_rfl) (.k ⟨(by decide:(4:Int)≠0),w8⟩ (.k J (.k w2 .nil))) (.k c1 (.k c7 (.k sX (.k M .nil))))
  ·have J:=decide_eq_false oC
   obtain ⟨A,B,si,xv,E,M⟩:=Fa hc C ff kG;have w2:IntKind.u32.wrap (((i:Nat):Int)+2)=(((i+2):Nat):Int):=by rw [cW _ (by omega)];omega
   have O:f.natAbs<=t.natAbs/4+1:=by rw [G.2];exact ade JN
   have e2:l.natAbs<=a.natAbs*1+1:=by rw [G.1];exact Ph uB
   obtain ⟨e,S,T,k3⟩:=adg F (by omega) R O;have U:l.natAbs<2^K:=TB (i:=i+1) (by omega) N;have W:Bz (K+i) I:=by rw [H.1];exact bg (bW _ _) (ax U (aF (by decide) (by omega)))
   have X:Bz (K+i) D:=by
    have h1:=H.2.2.1;have h2:f.natAbs/i<=f.natAbs:=bW _ _;have P:2^(e+1)<=2^(K+i):=aF (by decide) (by omega);have Q:2^(e+1)=2*2^e:=by omega
    exact ax (show D.natAbs<2^(e+1) by omega) P
   have Y:Bz (K+(i+2)) A:=by rw [E.1];exact (hc.add W).mono (by omega)
   have Z:Bz (K+(i+2)) B:=by rw [E.2];exact (C.add X).mono (by omega)
   refine .inl ⟨⟨l,f,A,B,i+2,m⟩,⟨⟨e,S,by grind,T,Y,Z⟩,by grind⟩,by grind,fun o h=>h,?_⟩;exact tJ [.z a,.z t,.z q,.z r,.i n,.z l,.z f,.u i,.z I,.z D,.u (i % 4),.z c,.z d,.z A,.z B,.u (i+2),.z u,.z v,.z p,.i s] [] 0 [.ar .rem (.u 7) (.k .u32 4) (.u 10),.cm .eql (.u 10) (.k .u32 3) false,.ar .add (.u 7) (.k .u32 2) (.u 15)] [⟨385,[ah 0 1],.b false⟩,⟨384,[ah 0 1,ah 2 3,aA 4],ah 5 6⟩,⟨386,[ah 5 6,.i (.u 7)],ah 8 9⟩,⟨359,[ah 11 12,ah 8 9],ah 13 14⟩] ⟨[⟨2,313,4,ah 16 17⟩,⟨4,313,4,.lit zS⟩,⟨6,313,4,ah 18 18⟩,⟨7,313,4,ah 2 3⟩,⟨8,313,4,ah 0 1⟩,⟨9,313,4,ah 11 12⟩],[(1,aA 19),(5,aA 4),(10,.i (.u 7))]⟩ ⟨[⟨2,313,4,ah 16 17⟩,⟨4,313,4,.lit zS⟩,⟨6,313,4,ah 18 18⟩,⟨7,313,4,ah 2 3⟩,⟨8,313,4,ah 5 6⟩,⟨9,313,4,ah 13 14⟩],[(1,aA 19),(5,aA 4),(10,.i (.u 15))]⟩ (fun d=>by kernel_rfl) (.k ⟨(by decide:(4:Int)≠0),w8⟩ (.k J (.k w2 .nil))) (.k c1 (.k c7 (.k sX (.k M .nil))))
def auM (ha:Bz i a) (hb:Bz j b) (hi:i<=100000) (hj:j<=100000) (hs:0<=s/\s<=30000) (hgs:g=(s+8+16).toNat) (hA:a.natAbs<=2*2^s.toNat) (hB0:b.natAbs<=2*2^s.toNat): ∃u v p q r,u.natAbs<=2^(s+8+16).toNat/64+10/\v.natAbs<=2^(s+8+16).toNat/64+10/\q=u*u/2^(s+8+16).toNat/\r= -(-(v*v)/2^(s+8+16).toNat)/\Bz (g+2+(g+2)) q/\Bz (g+2+(g+2)) r/\Bz (g+2) u/\Bz (g+2) v/\Bz (63+g) p/\
 Cg zF.ntmps JS (nW zF) (.loop (kH JS zF)) ⟨[],AX [cG a b,bj (.int .i64 s)] 0⟩ (JT u v p q r s (s+8+16) ⟨u,v,u,v,3,true⟩):=by
 have w1:=aB (s+8) (by omega);have w2:=aB ((s+8)+16) (by omega);have w3:=aB (((s+8)+16)-s) (by omega);obtain ⟨x4,y5,h6,h7,e8,c9⟩:=XQ (n:=(((s+8)+16)-s)) (c:=24) ha hb;obtain ⟨B9,h,o,sX⟩:=S2 (n:=((s+8)+16)) (c:=g);have Cl:(s+8+16-s).toNat=24:=by omega
 obtain ⟨P,hP⟩:=pU (2^(s+8+16).toNat);have JU:P=16777216*2^s.toNat:=by rw [hP,show (s+8+16).toNat=s.toNat+24 by omega,bC,bG]
 have l0:x4.natAbs<=2*P+2:=by grind
 have r0:y5.natAbs<=2*P+2:=by grind
 have e: ∀z:Int,z.natAbs<=2*P+2->Bz (g+2) z:=fun z hz=>by
  have h1:2^(g+2)=4*P:=by grind
  have h0:0<2^s.toNat:=aM (n:=s.toNat) (show 0<2 by decide);unfold Bz;omega
 clear JU hA hB0;obtain ⟨pr0,qr0,ur0,vr0,wr0,xr0,yr0,zr0,t,E,auN,auO,auP,auQ,auR,m,f⟩:=JP (g:=g) (n:=s+8+16) (e x4 (by omega)) (e y5 (by omega)) h o;have l1:t.natAbs<=2*P/2+2:=by omega
 have r1:E.natAbs<=2*P/2+2:=by omega
 clear l0 r0 m f;obtain ⟨pr1,qr1,ur1,vr1,wr1,xr1,yr1,zr1,x,F,auS,auT,auU,auV,auW,m,f⟩:=JP (g:=g) (n:=s+8+16) (e t (by omega)) (e E (by omega)) h o;have l2:x.natAbs<=2*P/4+2:=by omega
 have r2:F.natAbs<=2*P/4+2:=by omega
 clear l1 r1 m f;obtain ⟨pr2,qr2,ur2,vr2,DN,xr2,yr2,zr2,y,G,auX,auY,auZ,R,S,m,f⟩:=JP (g:=g) (n:=s+8+16) (e x (by omega)) (e F (by omega)) h o;have l3:y.natAbs<=2*P/8+2:=by omega
 have r3:G.natAbs<=2*P/8+2:=by omega
 clear l2 r2 m f;obtain ⟨pr3,qr3,ur3,vr3,wr3,xr3,yr3,zr3,A,H,T,U,W,X,Y,m,f⟩:=JP (g:=g) (n:=s+8+16) (e y (by omega)) (e G (by omega)) h o;have l4:A.natAbs<=2*P/16+2:=by omega
 have r4:H.natAbs<=2*P/16+2:=by omega
 clear l3 r3 m f;obtain ⟨pr4,qr4,ur4,vr4,wr4,xr4,yr4,zr4,B,I,Z,au8,au9,ava,avb,m,f⟩:=JP (g:=g) (n:=s+8+16) (e A (by omega)) (e H (by omega)) h o;have l5:B.natAbs<=2*P/32+2:=by omega
 have r5:I.natAbs<=2*P/32+2:=by omega
 clear l4 r4 m f;obtain ⟨pr5,qr5,ur5,vr5,wr5,xr5,yr5,zr5,C,J,avc,avd,ave,avf,avg,m,f⟩:=JP (g:=g) (n:=s+8+16) (e B (by omega)) (e I (by omega)) h o;have l6:C.natAbs<=2*P/64+2:=by omega
 have r6:J.natAbs<=2*P/64+2:=by omega
 clear l5 r5 m f;obtain ⟨pr6,qr6,ur6,vr6,wr6,xr6,yr6,zr6,D,M,avh,avi,avj,avk,avl,m,f⟩:=JP (g:=g) (n:=s+8+16) (e C (by omega)) (e J (by omega)) h o;have l7:D.natAbs<=2*P/128+2:=by omega
 have r7:M.natAbs<=2*P/128+2:=by omega
 clear l6 r6 m f;obtain ⟨pr7,qr7,ur7,vr7,wr7,xr7,yr7,zr7,N,O,avm,avn,avo,avp,avq,m,f⟩:=JP (g:=g) (n:=s+8+16) (e D (by omega)) (e M (by omega)) h o;have l8:N.natAbs<=2*P/256+2:=by omega
 have r8:O.natAbs<=2*P/256+2:=by omega
 clear l7 r7 m f;have rF:=e N (by omega);have Q:=e O (by omega);obtain ⟨um,uo,xp,si,qA,mB⟩:=Fb (n:=((s+8)+16)) rF Q rF Q;refine ⟨N,O,B9,um,uo,by omega,by omega,qA.1,qA.2,xp,si,rF,Q,h,?_⟩;exact L6 (.i s:: .i (s+8):: .i ((s+8)+16):: .i (((s+8)+16)-s):: .z a:: .z b:: .z x4:: .z y5:: .z B9:: .z pr0:: .z qr0:: .z ur0:: .z vr0:: .z wr0:: .z xr0:: .z yr0:: .z zr0:: .z t:: .z E:: .z pr1:: .z qr1:: .z ur1:: .z vr1:: .z wr1:: .z xr1:: .z yr1:: .z zr1:: .z x:: .z F:: .z pr2:: .z qr2:: .z ur2:: .z vr2:: .z DN:: .z xr2:: .z yr2:: .z zr2:: .z y:: .z G:: .z pr3:: .z qr3:: .z ur3:: .z vr3:: .z wr3:: .z xr3:: .z yr3:: .z zr3:: .z A:: .z H:: .z pr4:: .z qr4:: .z ur4:: .z vr4:: .z wr4:: .z xr4:: .z yr4:: .z zr4:: .z B:: .z I:: .z pr5:: .z qr5:: .z ur5:: .z vr5:: .z wr5:: .z xr5:: .z yr5:: .z zr5:: .z C:: .z J:: .z pr6:: .z qr6:: .z ur6:: .z vr6:: .z wr6:: .z xr6:: .z yr6:: .z zr6:: .z D:: .z M:: .z pr7:: .z qr7:: .z ur7:: .z vr7:: .z wr7:: .z xr7:: .z yr7:: .z zr7:: .z N:: .z O:: .z um:: .z uo:: []) [] 0 [.ar .add (.i 0) (.l 8) (.i 1),.ar .add (.i 1) (.l 16) (.i 2),.ar .sub (.i 2) (.i 0) (.i 3)] [⟨369,[ah 4 5,aA 3],ah 6 7⟩,⟨365,[aA 2],ah 8 8⟩,⟨384,[ah 6 7,ah 6 7,aA 2],ah 9 10⟩,⟨359,[ah 8 8,ah 9 10],ah 11 12⟩,⟨388,[ah 11 12,aA 2],ah 13 14⟩,⟨359,[ah 8 8,ah 13 14],ah 15 16⟩,⟨368,[ah 6 7,ah 15 16,aA 2],ah 17 18⟩,⟨384,[ah 17 18,ah 17 18,aA 2],ah 19 20⟩,⟨359,[ah 8 8,ah 19 20],ah 21 22⟩,⟨388,[ah 21 22,aA 2],ah 23 24⟩,⟨359,[ah 8 8,ah 23 24],ah 25 26⟩,⟨368,[ah 17 18,ah 25 26,aA 2],ah 27 28⟩,⟨384,[ah 27 28,ah 27 28,aA 2],ah 29 30⟩,⟨359,[ah 8 8,ah 29 30],ah 31 32⟩,⟨388,[ah 31 32,aA 2],ah 33 34⟩,⟨359,[ah 8 8,ah 33 34],ah 35 36⟩,⟨368,[ah 27 28,ah 35 36,aA 2],ah 37 38⟩,⟨384,[ah 37 38,ah 37 38,aA 2],ah 39 40⟩,⟨359,[ah 8 8,ah 39 40],ah 41 42⟩,⟨388,[ah 41 42,aA 2],ah 43 44⟩,⟨359,[ah 8 8,ah 43 44],ah 45 46⟩,⟨368,[ah 37 38,ah 45 46,aA 2],ah 47 48⟩,⟨384,[ah 47 48,ah 47 48,aA 2],ah 49 50⟩,⟨359,[ah 8 8,ah 49 50],ah 51 52⟩,⟨388,[ah 51 52,aA 2],ah 53 54⟩,⟨359,[ah 8 8,ah 53 54],ah 55 56⟩,⟨368,[ah 47 48,ah 55 56,aA 2],ah 57 58⟩,⟨384,[ah 57 58,ah 57 58,aA 2],ah 59 60⟩,⟨359,[ah 8 8,ah 59 60],ah 61 62⟩,⟨388,[ah 61 62,aA 2],ah 63 64⟩,⟨359,[ah 8 8,ah 63 64],ah 65 66⟩,⟨368,[ah 57 58,ah 65 66,aA 2],ah 67 68⟩,⟨384,[ah 67 68,ah 67 68,aA 2],ah 69 70⟩,⟨359,[ah 8 8,ah 69 70],ah 71 72⟩,⟨388,[ah 71 72,aA 2],ah 73 74⟩,⟨359,[ah 8 8,ah 73 74],ah 75 76⟩,⟨368,[ah 67 68,ah 75 76,aA 2],ah 77 78⟩,⟨384,[ah 77 78,ah 77 78,aA 2],ah 79 80⟩,⟨359,[ah 8 8,ah 79 80],ah 81 82⟩,⟨388,[ah 81 82,aA 2],ah 83 84⟩,⟨359,[ah 8 8,ah 83 84],ah 85 86⟩,⟨368,[ah 77 78,ah 85 86,aA 2],ah 87 88⟩,⟨384,[ah 87 88,ah 87 88,aA 2],ah 89 90⟩] ⟨[],[(0,ah 4 5),(1,aA 0)]⟩ ⟨[⟨2,313,4,ah 87 88⟩,⟨4,313,4,.lit zS⟩,⟨6,313,4,ah 8 8⟩,⟨7,313,4,ah 89 90⟩,⟨8,313,4,ah 87 88⟩,⟨9,313,4,ah 87 88⟩],[(1,aA 0),(5,aA 2),(10,.i (.k .u32 3))]⟩ ake (fun d=>by kernel_rfl) (.k w1 (.k w2 (.k w3 .nil))) (.k c9 (.k sX (.k auN (.k auO (.k auP (.k auQ (.k auR (.k auS (.k auT (.k auU (.k auV (.k auW (.k auX (.k auY (.k auZ (.k R (.k S (.k T (.k U (.k W (.k X (.k Y (.k Z (.k au8 (.k au9 (.k ava (.k avb (.k avc (.k avd (.k ave (.k avf (.k avg (.k avh (.k avi (.k avj (.k avk (.k avl (.k avm (.k avn (.k avo (.k avp (.k avq (.k mB .nil)))))))))))))))))))))))))))))))))))))))))))
def avr (X:0<=s/\s<=n) (W:n<=100000) (o:mC) (h:Fl o): ∃x y,Zb 300000 x/\Zb 300000 y/\yn zF.ntmps JS (.exit 2) (nW zF) zF (JT u v p q r s n o) (cG x y):=by
 obtain ⟨a,t,c,d,i,m⟩:=o;obtain ⟨⟨Z,T,f⟩,⟨Y,H,hc⟩,⟨kd,I,e⟩⟩:=h;simp only at f hc e;obtain ⟨O,R,E,F,U,C⟩:=OV hc e f;obtain ⟨P,S,G,D,pJ,M⟩:=XQ (n:=8) (c:=8) E F;have B:=aB (n-s) (by omega);obtain ⟨l,A,Q,N,qA,J⟩:=uX (n:=(n-s)) G D;exact ⟨l,A,⟨_,by omega,Q⟩,⟨_,by omega,N⟩,G' [.z c,.z d,.z t,.z O,.z R,.z P,.z S,.i n,.i s,.i (n-s),.z l,.z A,.z u,.z v,.z p,.z q,.z r,.z a,.u i] [] 0 [.ar .sub (.i 7) (.i 8) (.i 9)] [⟨321,[ah 0 1,aK 2],ah 3 4⟩,⟨369,[ah 3 4,gN 8],ah 5 6⟩,⟨358,[ah 5 6,aA 9],ah 10 11⟩] ⟨[⟨2,313,4,ah 12 13⟩,⟨4,313,4,.lit zS⟩,⟨6,313,4,ah 14 14⟩,⟨7,313,4,ah 15 16⟩,⟨8,313,4,ah 17 2⟩,⟨9,313,4,ah 0 1⟩],[(1,aA 8),(5,aA 7),(10,.i (.u 18))]⟩ (ah 10 11) ake (fun d=>by kernel_rfl) (.k B .nil) (.k C (.k M (.k J .nil)))⟩
def adh (I:0<=s/\s<=30000) (m:a.natAbs<=2*2^s.toNat) (t:b.natAbs<=2*2^s.toNat): ∃x y,Zb 300000 x/\Zb 300000 y/\bH prog bw 374 [cG a b,bj (.int .i64 s)] (cG x y):=by
 have e: ∀z:Int,z.natAbs<=2*2^s.toNat->Bz (s.toNat+2) z:=fun z e=>by
  have R:2^(s.toNat+2)=4*2^s.toNat:=by rw [bC,bG]
  have Q:0<2^s.toNat:=aM (n:=s.toNat) (show 0<2 by decide);unfold Bz;omega
 obtain ⟨g,A⟩: ∃g:Nat,g=(s+8+16).toNat:=⟨_,rfl⟩;obtain ⟨u,v,p,q,r,J,M,eq,k,G,H,h,f,U,l⟩:=auM (e a m) (e b t) (by omega) (by omega) I A m t;obtain ⟨n,E⟩: ∃n:Int,n=s+8+16:=⟨_,rfl⟩;rw [<-E] at J M eq k l A;obtain ⟨K,S⟩:=pU (2*(g+2)+30);have T:2^24<=2^n.toNat:=aF (by decide) (by omega);have B:4*r.natAbs<=2^n.toNat:=by rw [k];exact aka
 have P:q.natAbs<=1*2^n.toNat:=by rw [eq];exact akb
 have d:u.natAbs<=2^(g+2)+3:=aL (aQ h) (Nat.le_add_right _ _);obtain ⟨o,F,D⟩:=Jt (nt:=zF.ntmps) (c:=kH JS zF) (out:= .exit 2) (JT u v p q r s n) (fun z=>K-z.i) (fun x=>Pl (g+2) K x/\3<=x.i) (JT u v p q r s n) (fun _=>Fl) (auL (b:=g+2) G H (by omega) (by omega) (by omega) P B) ⟨u,v,u,v,3,true⟩
  ⟨⟨g+2,f,d,by show 3+2*(g+2)<=K;omega,h.mono (by omega),f.mono (by omega)⟩,ak _⟩
 obtain ⟨x,y,N,O,C⟩:=avr (u:=u) (v:=v) (p:=p) (q:=q) (r:=r) (s:=s) (n:=n) (by omega) (by omega) o F;exact ⟨x,y,N,O,S9 func374 (by kernel_rfl) (by rw [show f374.ntmps=_ from ntmps374];simp) l D C⟩
end
section
open Go.Proofs.Tryz Go.RowKit Go.Ev
section
variable {w:World}
def avt {v:Value} {l:List Nat} (h:jj w v l) (q:cS l=l.length) (A:l.length<=2):Calls prog 396 #[v] w (Quiet (.tuple #[.int .u64 (val l:Nat),.bool true]) w):=by
 have g:=ae (yF h);rw [q] at g;have j:=ae h.2;obtain ⟨a,c,x,rfl,p,hc,B,b⟩:=h.form;have i:=ae b;have k:=ae p;unfold maxLen at B;clear h b p q
 match l,g,j,i,k,A with
 | [],g,j,i,k,_=>
  go_enter func396,ntmps396;go_wp2_with fail;refine g.out.mono ?_;rintro e y ⟨rfl,rfl⟩;go_wp2_with fail;go_ret2;exact ⟨rfl,aG _ _⟩
 | [d],g,j,i,k,_=>
  obtain rfl:=k.out (by simp);have m:=i.out 0 (by simp);rw [aab] at m;have bd:d<4294967296:=nf j.out 0;have o:([d]:List Nat).getD 0 0=d:=rfl;rw [o] at m;clear o;go_enter func396,ntmps396;go_wp2_with fail;refine g.out.mono ?_;rintro e y ⟨rfl,rfl⟩;go_wp2_with fail;go_ret2;exact ⟨rfl,aG _ _⟩
 | [d,f],g,j,i,k,_=>
  obtain rfl:=k.out (by simp);have m:=i.out 0 (by simp);have s:=i.out 1 (by simp);rw [aab] at m;have bd:d<4294967296:=nf j.out 0;have E:f<4294967296:=nf j.out 1;have o:([d,f]:List Nat).getD 0 0=d:=rfl;have u:([d,f]:List Nat).getD 1 0=f:=rfl;rw [o] at m;rw [u] at s;simp [Addr.add] at s;clear o u;obtain ⟨t,C⟩:=pS (f*4294967296+d);have D:bits .or .u64 ((f:Int)*4294967296) (d:Int)=(t:Int):=by
   have:=bits_join .u64 64 (by decide) wraps_u64 32 ((f:Int)*4294967296) (d:Int) (by omega) (by omega) (by omega) (by omega) (by omega) (by omega);rw [this];omega
  have z:=ae (show val [d,f]=t by simp only [val];omega);clear C;go_enter func396,ntmps396;go_wp2_with fail;refine g.out.mono ?_;rintro e y ⟨rfl,rfl⟩;go_wp2_with fail;go_region;go_wp2_with fail;go_ret2;exact ⟨by rw [z.out];rfl,(aG w.heap.size w).drew⟩
end
def avu {k n:Nat} (a:Bn k n) (f:k<=62):bH prog bw 396 [fD n] (pF (bj (.int .u64 (n:Int))) (bj (.bool true))):=
 EY fun w x h _=>by
  obtain ⟨l,b,d,e,m⟩:=abY h (a.sm (by omega));have q:n<18446744073709551616:=ax a (aL (aF (by decide) f) (by decide));have g:l.length<=2:=by
   refine dH fun i=> ?_
   have o:=KU (l:=l);have p:4294967296^2<=4294967296^(cS l-1):=aF (by decide) (by omega);omega
  have:=avt b d g;rw [e] at this;exact this.mono fun j s h=>⟨_,h.1,fun t _=>⟨_,_,rfl,rfl,rfl⟩,h.2⟩
def avv {k:Nat} {z:Int} (f:Bz k z) (e:k<=62:=by decide):bH prog bw 392 [dU z] (pF (bj (.int .i64 z)) (bj (.bool true))):=by
 have b:=avu f.abs e;have h:z.natAbs<4611686018427387904:=ax f (aL (aF (by decide) e) (by decide));by_cases d:z<0
 ·have c0:=decide_eq_true d
  have c1:decide (((z.natAbs:Nat):Int)<=9223372036854775808)=true:=decide_eq_true (by omega);have g:IntKind.u64.wrap (-((z.natAbs:Nat):Int))=18446744073709551616+z:=by
   show (-((z.natAbs:Nat):Int)) % 18446744073709551616=_;omega
  have a:IntKind.i64.wrap (18446744073709551616+z)=z:=by rw [IntKind.wrap_i64];omega
  exact jV [iS z,dF (dC .u64 ((z.natAbs:Nat):Int)),dF (dC .u64 (18446744073709551616+z)),dF (dC .i64 z)] mix (F:= [⟨.bin .leq,s0 1,.int .u64 9223372036854775808,.bool true⟩,⟨.neg,s0 1,s0 1,s0 2⟩,⟨.conv .i64,s0 2,s0 2,s0 3⟩]) (T:= [⟨396,[sA 0],.fm [s0 1,.bool true]⟩]) (pats:= [nC true 0]) (res:= .fm [s0 3,.bool true]) (by kernel_rfl)
   (eZ (EX (dp rfl) (fun _=>rfl) c1) (eZ (WI rfl (dp rfl) (dp rfl) g) (eZ (WJ rfl (dp rfl) (dp rfl) a) jT))) (dh (di b (bN (eC rfl) db) (R8 (iQ rfl) pk)) rfl jU) rfl (fF (oB c0 rfl) jN) (EU (tA rfl) jS)
 ·have c0:=decide_eq_false d
  have c1:decide (((z.natAbs:Nat):Int)<9223372036854775808)=true:=decide_eq_true (by omega);have a:IntKind.i64.wrap ((z.natAbs:Nat):Int)=z:=by rw [IntKind.wrap_i64];omega
  exact jV [iS z,dF (dC .u64 ((z.natAbs:Nat):Int)),dF (dC .i64 z)] mix (F:= [⟨.bin .lss,s0 1,.int .u64 9223372036854775808,.bool true⟩,⟨.conv .i64,s0 1,s0 1,s0 2⟩]) (T:= [⟨396,[sA 0],.fm [s0 1,.bool true]⟩]) (pats:= [nC false 0]) (res:= .fm [s0 2,.bool true]) (by kernel_rfl)
   (eZ (BT (dp rfl) (fun _=>rfl) c1) (eZ (WJ rfl (dp rfl) (dp rfl) a) jT)) (dh (di b (bN (eC rfl) db) (R8 (iQ rfl) pk)) rfl jU) rfl (fF (oB c0 rfl) jN) (EU (tA rfl) jS)
end
section
open Go.RowKit Go.Ev
variable {s x y a:Int} {Q:Nat}
def Yv {s:Nat} (h:16<=s:=by omega):3000*(s+2)<=2^s:=by
 obtain ⟨k,rfl⟩: ∃k,s=16+k:=⟨s-16,by omega⟩;clear h
 induction k with
 |zero=>decide
 |succ k b=>grind
def avw {s:Nat} (h:32<=s:=by omega):1000000*(s+2)<=2^s:=by
 obtain ⟨k,rfl⟩: ∃k,s=32+k:=⟨s-32,by omega⟩;clear h
 induction k with
 |zero=>decide
 |succ k b=>grind
def Yw (hs:16<=s/\s<=90000:=by omega): ∃x y,Zb 300100 x/\Zb 300100 y/\(2*((2^s.toNat:Nat):Int)<=x/\x<=y/\y<=4*((2^s.toNat:Nat):Int)/\y-x<=120*(s+2))/\bH Tryz.prog bw 268 [bj (.int .i64 s)] (cG x y):=by
 obtain ⟨U,X,⟨k5,h7,J⟩,⟨k6,h8,M⟩,I,W⟩:=Tz (n:=5) (s:=s) (b:=true);obtain ⟨C,D,S,R,p,T⟩:=Jn (n:=16) J M;obtain ⟨m,t,⟨N,Z,f⟩,⟨O,Y,l⟩,A,q⟩:=Tz (n:=239) (s:=s) (b:=true);obtain ⟨G,H,j,o,B,u⟩:=Jn (n:=4) f l;obtain ⟨h,g,E,F,e,d⟩:=Jm S R j o;have hb:=Yv (s:=s.toNat);generalize 2^s.toNat=P at*;have f1:=I;have f2:=p;have f3:=A;have f4:=B;have f5:=e;refine ⟨h,g,⟨_,by omega,E⟩,⟨_,by omega,F⟩,⟨by omega,by omega,by omega,by omega⟩,?_⟩;exact fR [.i s,.z U,.z X,.z C,.z D,.z m,.z t,.z G,.z H,.z h,.z g] [] 0 [] [⟨317,[.i (.k .u32 5),aA 0,.b true],ah 1 2⟩,⟨318,[ah 1 2,gN 16],ah 3 4⟩,⟨317,[.i (.k .u32 239),aA 0,.b true],ah 5 6⟩,⟨318,[ah 5 6,gN 4],ah 7 8⟩,⟨319,[ah 3 4,ah 7 8],ah 9 10⟩] [aA 0] (ah 9 10) (by kernel_rfl) .nil (.k W (.k T (.k q (.k u (.k d .nil)))))
def adi (hs:32<=s/\s<=90000:=by omega): ∃x y,Zb 300100 x/\Zb 300100 y/\(690*((2^s.toNat:Nat):Int)<=1000*x/\x<=y/\1000*y<=695*((2^s.toNat:Nat):Int)/\y-x<=168*(s+2))/\bH Tryz.prog bw 370 [bj (.int .i64 s)] (cG x y):=by
 obtain ⟨h,m,⟨k5,h7,h3⟩,⟨k6,h8,h4⟩,e9,xf⟩:=Tz (n:=26) (s:=s) (b:=false);obtain ⟨N,O,qz,oC,X,sW⟩:=Jn (n:=18) h3 h4;obtain ⟨d,e,⟨k21,Jq,F⟩,⟨k22,Cl,U⟩,L0,Y⟩:=Tz (n:=4801) (s:=s) (b:=false);obtain ⟨R,S,T,W,Mw,Z⟩:=Jn (n:=2) F U;obtain ⟨Yz,YA,OY,Pr,B,q⟩:=Jm qz oC T W;obtain ⟨f,g,⟨k43,h45,G⟩,⟨k44,h46,H⟩,C,t⟩:=Tz (n:=8749) (s:=s) (b:=false);obtain ⟨j,o,I,TF,D,u⟩:=Jn (n:=8) G H;obtain ⟨l,p,J,M,E,A⟩:=Fa OY Pr I TF;have hb:=avw (s:=s.toNat);generalize 2^s.toNat=P at*;have e9a:(38340:Int)*(P:Nat)<=1000000*h/\1000000*m<=38580*((P:Nat):Int)/\h<=m/\m-h<=6*(s+2):=by grind
 have aGs:(200:Int)*(P:Nat)<=1000000*d/\1000000*e<=215*((P:Nat):Int)/\d<=e/\e-d<=6*(s+2):=by grind
 have aGt:(110:Int)*(P:Nat)<=1000000*f/\1000000*g<=118*((P:Nat):Int)/\f<=g/\g-f<=6*(s+2):=by omega
 have aGu:N=h*18/\O=m*18:=by simp_all
 have aGv:R=d*2/\S=e*2:=by simp_all
 have aGw:j=f*8/\o=g*8:=by simp_all
 clear e9 L0 C X Mw D;have f5:=B;have f8:=E;refine ⟨l,p,⟨_,by omega,J⟩,⟨_,by omega,M⟩,⟨by omega,by omega,by omega,by omega⟩,?_⟩;exact fR [.i s,.z h,.z m,.z N,.z O,.z d,.z e,.z R,.z S,.z Yz,.z YA,.z f,.z g,.z j,.z o,.z l,.z p] [] 0 [] [⟨317,[.i (.k .u32 26),aA 0,.b false],ah 1 2⟩,⟨318,[ah 1 2,gN 18],ah 3 4⟩,⟨317,[.i (.k .u32 4801),aA 0,.b false],ah 5 6⟩,⟨318,[ah 5 6,gN 2],ah 7 8⟩,⟨319,[ah 3 4,ah 7 8],ah 9 10⟩,⟨317,[.i (.k .u32 8749),aA 0,.b false],ah 11 12⟩,⟨318,[ah 11 12,gN 8],ah 13 14⟩,⟨359,[ah 9 10,ah 13 14],ah 15 16⟩] [aA 0] (ah 15 16) (by kernel_rfl) .nil (.k xf (.k sW (.k Y (.k Z (.k q (.k t (.k u (.k A .nil))))))))
def avx (j:0<y:=by omega):OL x y*y<=x/\x<OL x y*y+y:=by
 have i:((y.natAbs:Nat):Int)=y:=by omega
 have g:=du x.natAbs y.natAbs;have h:=cZ x.natAbs (show y.natAbs>0 by omega);have f:((x.natAbs/y.natAbs:Nat):Int)*y+((x.natAbs % y.natAbs:Nat):Int)=((x.natAbs:Nat):Int):=by
  grind
 have e:decide (y<0)=false:=decide_eq_false (by omega);unfold OL GX;rw [e];generalize x.natAbs/y.natAbs=k at*;generalize x.natAbs % y.natAbs=m at*;by_cases b:x<0
 ·rw [decide_eq_true b]
  show jB true (if true=true/\m≠0 then k+1 else k)*y<=x/\x<jB true (if true=true/\m≠0 then k+1 else k)*y+y;by_cases d:m=0
  ·rw [if_neg (by simp [d])]
   show-(k:Int)*y<=x/\x< -(k:Int)*y+y;grind
  ·rw [if_pos ⟨rfl,d⟩]
   show-((k+1:Nat):Int)*y<=x/\x< -((k+1:Nat):Int)*y+y;grind
 ·rw [decide_eq_false b]
  show jB false (if false=true/\m≠0 then k+1 else k)*y<=x/\x<jB false (if false=true/\m≠0 then k+1 else k)*y+y;rw [if_neg (by simp)];show (k:Int)*y<=x/\x<(k:Int)*y+y;omega
def avy (e:0<y) (h:x.natAbs<=Q*y.natAbs):(OL x y).natAbs<=Q+1:=by
 unfold OL;rw [wX];have b:=(acD (decide (x<0) !=decide (y<0)) x.natAbs y.natAbs).1;have d:x.natAbs/y.natAbs<=Q:=nH (by grind);omega
def akf {i j k l:Nat} {b c d:Int} (J:Bz i a) (M:Bz j b) (hc:Bz k c) (N:Bz l d) (hi:i<=1000000:=by omega) (hj:j<=1000000:=by omega) (hk:k<=1000000:=by omega) (hl:l<=1000000:=by omega) (h0:0<c+d:=by omega) (H:(2*(a+b)+(c+d)).natAbs<=Q*(2*(c+d)).natAbs:=by omega) (I:Q<=1000000000000000000:=by omega): ∃n:Int,n.natAbs<=Q+1/\(n*(2*(c+d))<=2*(a+b)+(c+d)/\2*(a+b)+(c+d)<n*(2*(c+d))+2*(c+d))/\bH Tryz.prog bw 382 [cG a b,cG c d] (bj (.int .i64 n)):=by
 obtain ⟨W,G,e3,B⟩:=yf J M;obtain ⟨X,m,e7,C⟩:=yf hc N;obtain ⟨Y,F,pJ,S⟩:=AM (s:=1) (c:=1) G (by omega:(1:Int)=((1:Nat):Int));obtain ⟨h,R,Dx,T⟩:=yf F m;obtain ⟨p,U,Fm,q⟩:=AM (s:=1) (c:=1) m (by omega:(1:Int)=((1:Nat):Int));have D:h=2*(a+b)+(c+d):=by omega
 have E:p=2*(c+d):=by omega
 obtain ⟨e,g,Jq,Z,A,LX,u⟩:=OA R U;have eq:e=OL (2*(a+b)+(c+d)) (2*(c+d)):=by rw [A,D,E];rfl
 have o:=avy (x:=2*(a+b)+(c+d)) (y:=2*(c+d)) (by omega) H;have O:=avx (x:=2*(a+b)+(c+d)) (y:=2*(c+d));rw [<-eq] at o O;have P:Bz 60 e:=by unfold Bz;omega
 have f:=avv P;refine ⟨e,o,⟨by omega,by omega⟩,?_⟩;exact fR [.z a,.z b,.z W,.z c,.z d,.z X,.z Y,.z h,.z p,.z e,.z g,.i e] [] 0 [] [⟨89,[aK 0,aK 1],aK 2⟩,⟨89,[aK 3,aK 4],aK 5⟩,⟨136,[aK 2,gN 1],aK 6⟩,⟨89,[aK 6,aK 5],aK 7⟩,⟨136,[aK 5,gN 1],aK 8⟩,⟨154,[aK 7,aK 8],.t3 (aK 9) (aK 10) (.b true)⟩,⟨392,[aK 9],.t (aA 11) (.b true)⟩] [ah 0 1,ah 3 4] (aA 11) (by kernel_rfl) .nil (.k B (.k C (.k S (.k T (.k q (.k u (.k f .nil)))))))
def akg (hs:4<=s/\s<=19000) (m:a.natAbs<=2*2^s.toNat): ∃x y u v,Zb 300000 x/\Zb 300000 y/\Zb 300000 u/\Zb 300000 v/\bH Tryz.prog bw 373 [dU a,bj (.int .i64 s)] (pF (cG x y) (cG u v)):=by
 obtain ⟨b,hb⟩: ∃b:Nat,b=s.toNat+2:=⟨_,rfl⟩;have d:Bz b a:=by
  have e:2^b=4*2^s.toNat:=by grind
  have Y:0<2^s.toNat:=aM (n:=s.toNat) (show 0<2 by decide);unfold Bz;omega
 have c1:=OU (x:=a);obtain ⟨q,D,j,l,h,M⟩:=Fb (n:=s) d d d d;have Z:0<2^s.toNat:=aM (n:=s.toNat) (show 0<2 by decide);have o:q.natAbs<=16*2^s.toNat:=by rw [h.1];have:=Ph (a:=a) (C:=2) m;omega
 have p:D.natAbs<=16*2^s.toNat:=by rw [h.2];have:=ac6 (a:=a) (C:=2) m;omega
 obtain ⟨A,E,⟨X,W,R⟩,⟨N,qz,F⟩,S⟩:=aj6 (b:=b) (i:=1) (n:=s) d d (by omega) (by omega) (by decide) (by omega) o p ⟨_,by omega,j⟩ ⟨_,by omega,l⟩;obtain ⟨B,xv,I,G⟩:=S2 (n:=s) (c:=s.toNat);have e:Bz b B:=by rw [I];unfold Bz;grind
 obtain ⟨f,g,⟨O,ym,H⟩,⟨P,U,T⟩,J⟩:=aj6 (b:=b) (i:=0) (n:=s) e e (by omega) (by omega) (by decide) (by omega) o p ⟨_,by omega,j⟩ ⟨_,by omega,l⟩;refine ⟨A,E,f,g,⟨_,by omega,R⟩,⟨_,by omega,F⟩,⟨_,by omega,H⟩,⟨_,by omega,T⟩,?_⟩;exact fR [.z a,.i s,.z q,.z D,.z A,.z E,.z B,.z f,.z g] [] 0 [] [⟨320,[aK 0],ah 0 0⟩,⟨384,[ah 0 0,ah 0 0,aA 1],ah 2 3⟩,⟨387,[ah 0 0,ah 2 3,.i (.k .u32 1),aA 1],ah 4 5⟩,⟨365,[aA 1],ah 6 6⟩,⟨387,[ah 6 6,ah 2 3,.i (.k .u32 0),aA 1],ah 7 8⟩] [aK 0,aA 1] (.t (ah 4 5) (ah 7 8)) (by kernel_rfl) .nil (.k c1 (.k M (.k S (.k G (.k J .nil)))))
end
end Go.Proofs.YthleenhngcdgkaaGreatDoor
