/- refineFuel_proved. -/
import Derived.Test.YtnmpjdgobafdkaaGreatDoorPmap
import Derived.Deep.DeepCutAuto
import Derived.Deep.CutBlock
import Derived.Deep.RegionHeld3
import Derived.Test.YtnmpjdgobafdkaaGreatDoorPmao
set_option maxRecDepth 100000
set_option maxHeartbeats 16000000
set_option linter.all false
noncomputable section
namespace Go.Proofs.YtnmpjdgobafdkaaGreatDoor
section
open Go.Proofs.Tryz Go.RowKit
def aqX {P lo x t M:Nat} (e:lo<P) (a:2147483648<=x*t) (b:(x+1)*t<=4294967296) (k:M=(lo+P*x)*t):P*2147483648<=M/\M<P*4294967296:=by
 have f:M=lo*t+P*(x*t):=by grind
 have g:P*2147483648<=P*(x*t):=aR _ a;have h:P*((x+1)*t)<=P*4294967296:=aR _ b;have i:P*((x+1)*t)=P*(x*t)+P*t:=by grind
 have d:0<t:=by
  grind
 have j:lo*t<P*t:=fO e d;omega
def aqY {P lo y M:Nat} (d:lo<P) (h:P*2147483648<=M) (b:M=lo+P*y):2147483648<=y:=by
 rcases bV y 2147483648 with a|a
 ·exfalso
  have:P*(y+1)<=P*2147483648:=aR _ a;grind
 omega
def aqZ {x b s:Nat} (e:2^b<=x) (f:x<2^(b+1)) (g:s+b=31):2147483648<=x*2^s/\(x+1)*2^s<=4294967296:=by
 have a:2^b*2^s=2147483648:=by rw [<-bC,iC b s,g]
 have d:2^(b+1)*2^s=4294967296:=by grind
 exact ⟨a▸aN _ e,d▸aN _ f⟩
def aq0 {m vs:List Nat} {n x s b:Nat} (u:j5 m) (t:m.length=n+1) (z:el m n=x) (i:2^b<=x) (k:x<2^(b+1)) (y:s+b=31) (f:j5 vs) (D:cP vs=vs.length) (g:val vs=val m*2^s):
 vs.length=n+1/\2147483648<=el vs n/\4294967296^n<=val vs:=by
 obtain ⟨A,B⟩:=aqZ i k y;have e:=aqX (M:=val vs) (qy (fun j=>vj u j) n) A B (by rw [g,ld m,t,<-z];rfl);have E:val vs<4294967296^vs.length:=by rw [ld vs];exact qy (fun j=>vj f j) _
 have q:4294967296^n<=val vs:=aK (gC _ (by decide)) e.1;have C:n<vs.length:=by
  rcases bV n vs.length with h|h
  ·exact h
  ·exfalso
   have:4294967296^vs.length<=4294967296^n:=aG (by decide) h;omega
 have G:vs.length<=n+1:=by
  have o:=J0 (l:=vs);have p:4294967296^(cP vs-1)<4294967296^(n+1):=bh o (by omega);have F:=(dC (a:=4294967296) (by decide)).1 p;omega
 have d:vs.length=n+1:=by omega
 refine ⟨d,aqY (qy (fun j=>vj f j) n) e.1 ?_,q⟩;rw [ld vs,d];rfl
def aq1 {l us:List Nat} {s:Nat} (h:j5 l) (i:s<=31) (o:cP us=us.length) (k:val us=val l*2^s):us.length<=l.length+1:=by
 rcases bV 0 us.length with b|b
 ·have d:=J0 (l:=us)
  have e:val l<4294967296^l.length:=by rw [ld l];exact qy (fun j=>vj h j) _
  have f:2^s<=4294967296:=aK (aG (by decide) i) (by decide);have g:val us<4294967296^(l.length+1):=by
   rw [k,bI];exact bh (aR _ f) (fO e (by decide))
  have m:=(dC (a:=4294967296) (by decide)).1 (bh d g);omega
 omega
def aq2 {us vs:List Nat} {n:Nat} (d:j5 us) (e:4294967296^n<=val vs) (h:val vs<=val us):n<us.length:=by
 have b:val us<4294967296^us.length:=by rw [ld us];exact qy (fun j=>vj d j) _
 exact (dC (a:=4294967296) (by decide)).1 (bh (aK e h) b)
def ahk {w w':World} {base b n c:Nat} {l:List Nat} (h:fW w base (.slice (some ⟨b,0,none⟩) n c) l) (f:w'.heap[b]? =w.heap[b]?):fW w' base (.slice (some ⟨b,0,none⟩) n c) l:=by
 refine ⟨⟨h.1.1,?_⟩,h.2⟩;rcases h.1.2 with ⟨e,_⟩|⟨g,cap,cur,e,a,d,r⟩
 ·cases e
 ·cases e
  exact .inr ⟨_,_,cur,rfl,a,f.trans d,r⟩
def aq3 {w:World} {g b j:Nat} {v:Value} (h:b≠g):(w.setCell ⟨g,j,none⟩ v).heap[b]? =w.heap[b]? :=by
 simp only [World.setCell,gQ];grind
def abv {w:World} {base b n c:Nat} {l:List Nat} (h:fW w base (.slice (some ⟨b,0,none⟩) n c) l):n<=c/\c<=maxLen/\base<=b/\b<w.heap.size/\l.length=n:=by
 rcases h.1.2 with ⟨e,_⟩|⟨g,cap,cur,e,a,d,r⟩
 all_goals grind
def aq4 {w:World} {base base':Nat} {v:Value} {l:List Nat} (h:fW w base v l) (d:base'<=base):fW w base' v l:=by
 refine ⟨⟨h.1.1,?_⟩,h.2⟩;rcases h.1.2 with a|⟨g,cap,cur,e,b,r⟩
 ·exact .inl a
 ·exact .inr ⟨g,cap,cur,e,aK d b,r⟩
def tP {w0 a b:World} (h:Below w0.heap.size w0 a) (h':Below a.heap.size a b):Below w0.heap.size w0 b:=h.trans (h'.mono h.size)
def aq5 {w:World} {base s:Nat} {x:Value} {m:List Nat} (h:mP w base x (val m)) (f:j5 m) (g:m.length<=50000000) (i:s<=31) (w':World) (e:Below w.heap.size w w'):Calls prog 133 #[x,.int .i64 (s:Int)] w' (rj (val m/2^s) w'):=by
 obtain ⟨l,b,d,a⟩:=h;have:=aeg (b.sl.below e) (aK (Nn d a f) (by omega)) s (by omega);rw [a] at this;exact this
structure Ip (w4 wr:World) (g gq p lu M:Nat) (L Q:List Nat):Prop where
 u:fW wr w4.heap.size (.slice (some ⟨g,0,none⟩) (p+1) lu) L
 q:fW wr w4.heap.size (.slice (some ⟨gq,0,none⟩) M M) Q
 below:Below w4.heap.size w4 wr
def Ip.digit {b wr w':World} {g a p e M:Nat} {L Q f:List Nat} (h:Ip b wr g a p e M L Q) (d:a≠g) (j:b.heap.size<=g) (k:fW w' b.heap.size (.slice (some ⟨g,0,none⟩) (p+1) e) f) (i:rK g wr w'):Ip b w' g a p e M f Q:=
 ⟨k,ahk h.q (i.block a d),h.below.trans (i.below j)⟩
def Ip.put {f wr:World} {g a p i M:Nat} {L Q:List Nat} (h:Ip f wr g a p i M L Q) (b:a≠g) (l:f.heap.size<=a) {k d:Nat} (j:d<4294967296):Ip f (wr.setCell ⟨a,k,none⟩ (.int .u32 (d:Int))) g a p i M L (Q.set k d):=
 ⟨ahk h.u (aq3 (fun e=>b e.symm)),h.q.set j,h.below.setCell l _⟩
section
variable {w:World}
def aq6 {x b s:Nat} (h:x<4294967296) (g:Lib.bitLen x=b+1) (i:s+b=31):Calls prog 231 #[.int .u32 (x:Int)] w (vF (.int .i64 (s:Int)) w):=by
 have a:=ae (aep (x:Int) w (by omega) (by omega));have f:(x:Int).toNat=x:=by omega
 have d:(32:Int)-((b:Int)+1)=(s:Int):=by omega
 go_enter func231,ntmps231;go_wp2_with fail;refine a.out.mono ?_;rintro e j ⟨rfl,rfl⟩;rw [f,g,show (((b+1:Nat)):Int)=(b:Int)+1 by omega];go_wp2_with fail;go_ret;exact ze rfl
def aq7 {v u:Value} {l m:List Nat} (h:g7 w v l) (h':g7 w u m) (hn:l.length<=50000000) (hm:m.length<=50000000) (h1:4294967296<=val m):
 Calls prog 184 #[v,u] w (V3 (val l) (val m) w):=by
 have HT:=ae (wU h (by omega));have HM:=ae h';obtain ⟨o,KS⟩:=pQ (val l);obtain ⟨d,hd⟩:=pQ (val m);rw [KS] at HT⊢;rw [hd] at h1⊢;have HD:=ae hd;have Rk:=ae (af hn hm);have V4:=ae (af h.2 h'.2);have HAV:=ae KS;clear hd h' h hn hm KS;go_enter func184,ntmps184;go_wp2_with fail;refine HT.out.mono ?_;rintro e w1 ⟨v1,rfl,ny,bW⟩;have lJ:=ae ny;have dh:=ae bW;have tI:=ae (wU (HM.out.below bW) (by have:=Rk.out;omega));clear ny bW HT;go_wp2_with fail;refine tI.out.mono ?_;rintro e w2 ⟨v2,rfl,lr,fM⟩;rw [HD.out] at lr;obtain ⟨z,pf,sU,jF⟩:=lr;obtain ⟨n,H⟩: ∃n,z.length=n/\2<=n:=by
  rcases z with _|⟨x,_|⟨y,t⟩⟩
  ·exfalso;rw [<-jF] at h1;simp [val] at h1
  ·exfalso
   have:=pf.2 x (by simp);rw [<-jF] at h1;simp [val] at h1;omega
  ·exact ⟨_,rfl,by simp⟩
 have aq8:z.length<=50000000:=aK (Nn sU (jF.trans HD.out.symm) V4.out.2) Rk.out.2;obtain ⟨H,aq9⟩:=H;rw [H] at aq8;obtain ⟨f,P⟩: ∃f,n=f+1:=⟨n-1,by omega⟩;obtain ⟨a2,c2,x2,rfl,ux,xA,lV,Rl⟩:=pf.sl.form;obtain rfl:=ux (by omega);have q0:=Rl f (by omega);obtain ⟨x,hx⟩:=pQ (z.getD f 0);rw [hx] at q0;have nP:0<x:=by have:=Pu z (by omega);rw [sU,H,show n-1=f by omega] at this;rw [<-hx];exact gF this
 have JP:x<4294967296:=by rw [<-hx];exact mH pf.2 _
 obtain ⟨b,oh,vK,lg⟩:=aew nP JP;have aE3:b<=31:=by
  rcases bV b 32 with h|h
  ·omega
  ·exfalso
   have:2^32<=2^b:=aG (by decide) h;omega
 obtain ⟨s,hs⟩: ∃s,s+b=31:=⟨31-b,by omega⟩;have Gc:=ae pf;have iX:=ae (dh.out.trans (fM.mono dh.out.size));have HF:=ae ((lJ.out.below fM));obtain ⟨l1,se,oC,mQ⟩:=HF.out;obtain ⟨a1,c1,x1,rfl,_⟩:=se.sl.form;have R:g7 w2 (.slice (some x2) n c2) z:=by have:=pf.sl;rw [H] at this;exact this
 have ara:=ae R;have Rm:=ae (Uh se.sl R);have MF:=ae se.sl;have HN1:=ae oC;have KT:=ae mQ;have Bj:l1.length<=50000000:=aK (Nn oC (mQ.trans HAV.out.symm) V4.out.1) Rk.out.1;have B:=ae (show el z f=x/\2^b<=x/\x<2^(b+1)/\s+b=31/\z.length=f+1/\val z=d/\cP z=z.length from ⟨hx,vK,lg,hs,H.trans P,jF,sU⟩);rw [H] at xA⊢;have HLZ:=ae (fun A:World=>aq6 (w:=A) JP oh hs);clear oC mQ sU jF hx vK lg oh nP JP H R;clear pf fM se Rl lV ux lJ tI HM;have e2:((n:Int)==0)=false:=by rw [cW];intro e;rw [beq_iff_eq] at e;omega
 have e3:(n:Int)-1=(f:Int):=by omega
 have e4:((n:Int)==1)=false:=by rw [cW];intro e;rw [beq_iff_eq] at e;omega
 have aE4:(f:Int)<(n:Int):=by omega
 have aE5:(0:Int)<=(f:Int):=by omega
 have N:=ae (af P aq9);clear P;go_wp2_with fail;refine Rm.out.mono ?_;rintro e w3 ⟨rfl,lg⟩;rw [KT.out,B.out.2.2.2.2.2.1];have q3:=(lg.cell (ak w2 _ q0)).trans q0;have sG:=ae lg;have Il:=ae (iX.out.trans (lg.mono iX.out.size));clear lg q0 Rm;by_cases bB:o<d
 ·have HQ:=ae (show o/d=0/\o % d=o from ⟨eW bB,dY bB⟩)
  rw [Mv bB];clear bB;go_wp2_with fail;refine bodyPost_ret (v:= .tuple #[.slice none 0 0,.slice a1 l1.length c1,.bool true]) (by simp [results,results184,go_sem]) rfl ?_;exact ⟨_,_,rfl,by rw [HQ.out.1];exact JW _ _,by rw [HQ.out.2];exact HF.out.below sG.out,Il.out⟩
 ·obtain ⟨ci,Im,ahe⟩: ∃ci,tG o d=ci/\0<=ci:=⟨_,rfl,by unfold tG;rw [if_neg bB];split<;>omega⟩
  rw [Im];have ahf: ¬ci<0:=by omega
  have HGE:=ae (show d<=o by omega);clear Im bB;go_wp2_with fail;refine (HLZ.out _).mono ?_;rintro e A ⟨rfl,rfl⟩;have V7:=ae (Zg (ara.out.below sG.out) (by rw [B.out.2.2.2.2.1];have:=N.out;omega) s (by omega));go_wp2_with fail;refine V7.out.mono ?_;rintro e I ⟨v4,rfl,ml,nf⟩;rw [B.out.2.2.2.2.2.1] at ml;obtain ⟨vs,yk,QS,Ro⟩:=ml;obtain ⟨Ga,hvt,hvp⟩:=aq0 Gc.out.2 B.out.2.2.2.2.1 B.out.1 B.out.2.1 B.out.2.2.1 B.out.2.2.2.1 yk.2 QS (by rw [Ro,B.out.2.2.2.2.2.1]);have qk:=ae (Il.out.trans (nf.mono Il.out.size));have V8:=ae (Zg ((MF.out.below sG.out).below nf) (by omega) s (by omega));rw [KT.out] at V8;obtain ⟨a4,c4,x4,rfl,ha4,CH,hm4,yx⟩:=yk.sl.form;have Rp:vs.length=n:=by have:=N.out;omega
  obtain rfl:=ha4 (by omega);have ahl:g7 I (.slice (some x4) n c4) vs:=by have:=yk.sl;rw [Rp] at this;exact this
  rw [Rp] at CH;rw [Rp];have hx4:x4.block<I.heap.size:=ak I _ (by have:=yx 0 (by omega);rw [show x4.add 0=x4 from if_pos rfl] at this;exact this);have Rq:=ae (af ahl (af hx4 (af yk.2 Rp)));have i:=ae (af hvt (af hvp Ro));clear yk QS Ro nf Ga hvt hvp V7 yx hm4 ha4 Rp ahl hx4;go_wp2_with fail;refine V8.out.mono ?_;rintro e w5 ⟨v5,rfl,KU,rz⟩;obtain ⟨us,Y,hnu,V9⟩:=KU;have Nj:=aq1 (s:=s) MF.out.2 (by omega) hnu (by rw [V9,KT.out]);have arb:=aq2 (us:=us) (n:=f) Y.2 i.out.2.1 (by rw [i.out.2.2,V9];exact aN _ HGE.out);obtain ⟨p,hp⟩:=pQ us.length;rw [hp] at Nj arb;have HOU:=ae Y;have HU:=ae (af hp V9);have CG:=ae rz;have V1:p<=50000001:=by omega
  clear Y hnu V9 hp rz Nj;obtain ⟨M,hM⟩: ∃M,n+M=p+1:=⟨p+1-n,by have:=N.out;omega⟩;have eM1:(p:Int)+1-(n:Int)=(M:Int):=by omega
  have eM2:((p+1:Nat):Int)-(n:Int)=(M:Int):=by omega
  have hMb:M<=50000001:=by omega
  obtain ⟨i0,fq,ff,fH,eV⟩:=info_parts B9;go_wp2_with (first
   |(at_builtin;refine aqQ rfl _ _ rfl I.heap.size (by have:=CG.out.size;simp;omega) _ us p HU.out.1 rfl (aqR HOU.out _) w5.heap.size 0 rfl (heap_alloc_new w5 _) (by decide) (by omega) ?_;intro g G D uy ahm;have O:=ae uy;have yy:=ae (ahm I (CG.out.alloc CG.out.size _));clear uy ahm)
   |(refine wpList_make_full D rfl (.tmp 67) (.tmp 67) 35 rfl D.heap.size 172 i0 _ 1 underlying35 fq ff fH _ _ _ _ M rfl rfl (by first|rfl|omega) (by first|rfl|omega) (by rw [eV];omega) (by unfold maxLen;omega) (aq _) ?_;intro w7 X hg))
  have Ek:Below D.heap.size D w7:=(aH _ _).grown hg (aq _) (by intro k hk;cases hk);rw [Fa] at X;have hO:fW w7 D.heap.size (.slice (some ⟨D.heap.size,0,none⟩) M M) (List.replicate M 0):=⟨by rw [aZ];exact X,Fb _⟩;have xz:=abv O.out;have hW:Ip I w7 g D.heap.size p G M (us++ [0]) (List.replicate M 0):=⟨ag8 O.out Ek,aq4 hO yy.out.size,yy.out.trans (Ek.mono yy.out.size)⟩;have T:D.heap.size≠g:=by have:=xz.2.2.2.1;omega
  have Aa:Ab (o*2^s) (d*2^s) n (p+1) (p+1-n) (us++ [0]) (List.replicate (p+1-n) 0):=Ab.start (by rw [aX,HU.out.1];rfl) O.out.2 (by rw [ahj];exact HU.out.2) (by omega) (by omega) (by rw [show n-1=f by omega,<-i.out.2.2];exact i.out.2.1) (by rw [<-HU.out.2,ld us,HU.out.1];exact qy (fun j=>vj HOU.out.2 j) _);rw [show p+1-n=M by omega] at Aa;obtain ⟨gq,ph⟩:=pQ D.heap.size;have ahn:I.heap.size<=gq:=by rw [<-ph];exact yy.out.size
  rw [ph] at hW T⊢;have HW0:=ae hW;have Zy:=ae Aa;have HG:=ae (af T (af xz.2.2.1 ahn));have aE6:(p:Int)+1<=(G:Int):=by have:=xz.1;omega
  have aE7:(G:Int)<=9223372036854775807:=by have:=xz.2.1;unfold maxLen at this;omega
  clear X hg Ek hO xz hW T Aa ph ahn fq ff fH eV
  go_loopg [15] M (fun gh iv wr=> ∃(k:Nat) (L Q:List Nat),gh=k/\k<=M/\((k=0/\iv= .int .i64 (-1))\/(0<k/\iv= .int .i64 ((k-1:Nat):Int)))/\Ab (o*2^s) (d*2^s) n (p+1) k L Q/\Ip I wr g gq p G M L Q)
  case atStart=>exact ⟨M,_,_,rfl,aq _,.inr ⟨by omega,by go_num⟩,Zy.out,HW0.out⟩
  case round=>
   obtain ⟨kk,L,Q,hgk,hkM,Px,E,C⟩:=hrel;have HGK:=ae hgk;clear hgk;have arc:=ae E;have rM:=ae C;rcases Px with ⟨rfl,rfl⟩|⟨jx,rfl⟩
   ·have Cc:=E.done (by omega)
    have W:=aqW o d s;have G9:=ae (show val Q=o/d/\val (L.take n)/2^s=o % d from ⟨by rw [<-Cc.1,W.1],by rw [<-Cc.2,W.2];exact oW _ (aO (by decide))⟩);have MC:=C.u.take (k:=n) (by rw [E.len];omega);have uZ:=ae (show j5 (L.take n)/\(L.take n).length<=50000000 from ⟨MC.2,by rw [bM];omega⟩);have HQT:=ae (fun (A:World) (a:Below wr.heap.size wr A)=>wU (w:=A) (v:= .slice (some ⟨gq,0,none⟩) M M) (C.q.sl.below a) (by rw [(abv C.q).2.2.2.2];omega));have HUT:=ae (fun (A:World) (a:Below wr.heap.size wr A)=>wU (w:=A) (v:= .slice (some ⟨g,0,none⟩) n G) (MC.sl.below a) (by have:=uZ.out.2;omega));have S:=ae (tP qk.out C.below);have J:=ae (aH wr.heap.size wr).drew;have aE8:(n:Int)<=(G:Int):=by omega
    have aE9:(0:Int)<=(n:Int):=by omega
    have aFa:n<=G:=by omega
    clear E C Cc W MC;go_wp2_with fail
    go_region_held3 (fun _=>True) (exact trivial)
     (first
      |(go_at_call 133;refine (HSR.out _ (aH _ _)).mono ?_;rintro e' wz ⟨xr,rfl,kb,a⟩;have HR:=ae (af (Ii.out.below a) (af (kb.base (base':=w.heap.size) (aK S.out.size hbu.size)) (tP hbu a)));clear kb a)
      |(go_at_call 107;refine (HUT.out _ xY).mono ?_;rintro e' wu ⟨xu,rfl,Rt,a⟩;have Ii:=ae (Ii.out.below a);have HSR:=ae (aq5 (s:=s) Rt uZ.out.1 uZ.out.2 (by omega));have hbu:=tP xY a;clear Rt a)
      |(go_at_call 107;refine (HQT.out _ J.out).mono ?_;rintro e' wq ⟨xq,rfl,hfq,a⟩;have Ii:=ae (hfq.base (base':=w.heap.size) (aK S.out.size J.out.size));have xY:=tP (w0:=wr) J.out a;clear hfq a))
    all_goals
     go_wp2_with fail;refine bodyPost_ret (v:= .tuple #[xq,xr,.bool true]) (by simp [results,results184,go_sem]) rfl ?_;exact ⟨_,_,rfl,G9.out.1▸HR.out.1,G9.out.2▸HR.out.2.1,tP S.out HR.out.2.2⟩
   ·obtain ⟨k,rfl⟩: ∃k,kk=k+1:=⟨kk-1,by omega⟩
    rw [dX];have aFb:(0:Int)<=(k:Int):=by omega
    have Zl:(k:Int)<=50000001:=by omega
    have ir:k+n<p+1:=by omega
    have aFc:(k:Int)+(n:Int)+1<=(p:Int)+1:=by omega
    have aFd:(k:Int)<(M:Int):=by omega
    have HDG:=ae (aqI (cu:=G-k) (n:=n) (k:=k) C.u E.len ir (by omega) (by omega) (Rq.out.1.below C.below) Rq.out.2.2.2 (by rintro x c e;cases e;have:=Rq.out.2.1;have:=HG.out.2.1;omega) (by rw [show n-1=f by omega];exact i.out.1) (by have:=E.abu;rw [<-i.out.2.2] at this;exact this));have PM:bK (fun j=>el L (k+j)) (n+1)/val vs<4294967296:=by
     have:=E.abu;rw [<-i.out.2.2,bE] at this;exact nQ this
    obtain ⟨dq,U⟩:=pQ (bK (fun j=>el L (k+j)) (n+1)/val vs);rw [U] at HDG PM;have HDQ:=ae U;clear E C U jx;go_wp2_with fail;rw [show k+n+1-k=n+1 by omega];refine HDG.out.mono ?_;rintro e A ⟨L',rfl,hl,X,Cl,F,aho⟩;have V':=rM.out.digit HG.out.1 HG.out.2.1 X aho;have Z:=abv V'.q;have vH:=V'.q.1;rw [Z.2.2.2.2] at vH;have kb:=vH.frozenAt k;obtain ⟨cq,hcq⟩: ∃cu,A.cell? ⟨gq,k,none⟩=some cu:=⟨_,qZ vH (re (by rw [Z.2.2.2.2];omega))⟩;have mC:=ae V';have lq:=ae (Ab.next arc.out ir (by have:=i.out.2;rw [<-this.2];exact az (aO (by decide)) this.1) (by rw [<-i.out.2.2,ld,Rq.out.2.2.2];exact aQ (qy (fun j=>vj Rq.out.2.2.1 j) _)) hl X.2 Cl (by rw [<-i.out.2.2];exact F));clear hl X Cl F aho V' Z vH;go_wp2_with fail
    go_roundg k
    case measure=>have:=HGK.out;omega
    case rel=>
     refine ⟨k,L',Q.set k dq,rfl,by omega,?_,?_,mC.out.put HG.out.1 HG.out.2.2 PM⟩
     ·rcases cC k with e|e
      ·subst e;exact .inl ⟨rfl,by go_num⟩
      ·exact .inr ⟨e,by go_num⟩
     ·have:=lq.out
      rw [<-i.out.2.2] at this⊢;rw [show bK (l9 L k) (n+1)/val vs=dq from HDQ.out] at this;exact this
end
end
section
open Go.RowKit
def ard {l:List Nat} (h:l.length=0):val l=0:=by rw [cJ h];rfl
section
variable {w:World}
def arf {v u:Value} {l m:List Nat} (h:g7 w v l) (h':g7 w u m) (e:l.length<=50000000) (d:m.length<=50000000) (b:0<val m):
 Calls Tryz.prog 184 #[v,u] w (V3 (val l) (val m) w):=by
 rcases bV (val m) 4294967296 with a|a
 ·exact aqO h h' (by omega) (by omega) b a
 ·exact aq7 h h' e d a
def Ru {u v:Value} {a b:Nat} (h:dL w u a) (h':dL w v b) (g:Sm a) (d:Sm b) (e:0<b):Calls Tryz.prog 184 #[u,v] w (V3 a b w):=by
 obtain ⟨l,f,j,rfl,k⟩:=h.lim g;obtain ⟨m,i,o,rfl,p⟩:=h'.lim d;exact arf f i (by omega) (by omega) e
def arh {u v:Value} {a b:Nat} (h:dL w u a) (h':dL w v b) (Q:Sm a) (N:Sm b):Calls Tryz.prog 213 #[u,v] w (rj (Nat.gcd a b) w):=by
 obtain ⟨l,h1,h2,rfl,h4⟩:=h.lim Q;obtain ⟨m,k1,k2,rfl,k4⟩:=h'.lim N;have W:=ae (wU h1 (by omega));have T:=ae k1;have U:=ae (af Q N);clear h h' h1 h2 k1 k2 Q N;go_enter Tryz.func213,Tryz.ntmps213;go_wp2_with fail;refine W.out.mono ?_;rintro e w1 ⟨v1,rfl,ny,i⟩;have lJ:=ae ny;have M:=ae i;have tI:=ae (wU (T.out.below i) (by omega));clear ny i W;go_wp2_with fail;refine tI.out.mono ?_;rintro e w2 ⟨v2,rfl,lr,j⟩;have kf:=ae lr;have je:=ae (lJ.out.below j);have iX:=ae (M.out.trans (j.mono M.out.size));have Fg:=ae M.out.size;clear lr j tI lJ T;go_wp2_with fail
 go_loopg [0,1] (val m) (fun gh p q wr=> ∃x y:Nat,gh=y/\Sm x/\Sm y/\(∃b1,w.heap.size<=b1/\mP wr b1 p x)/\(∃J,w.heap.size<=J/\mP wr J q y)/\Nat.gcd x y=Nat.gcd (val l) (val m)/\Below w.heap.size w wr)
 case atStart=>exact ⟨_,_,rfl,U.out.1,U.out.2,⟨_,aq _,je.out⟩,⟨_,Fg.out,kf.out⟩,rfl,iX.out⟩
 case round=>
  obtain ⟨x,y,s,t,z,⟨b1,i,hx⟩,⟨J,j,Z⟩,hg,hb⟩:=hrel;have G:=ae s;have X:=ae hx;have H:=ae Z;have S:=ae hg;have A:=ae hb;have D:=ae i;have E:=ae j;have C:=ae (af t z);obtain ⟨ly,g,f,B⟩:=Z;obtain ⟨ay,cy,xy,rfl,P,_⟩:=g.sl.form;obtain ⟨n,k⟩:=pQ ly.length;rw [k] at H⊢;clear hx hg hb i j s t z P;by_cases O:n=0
  ·have o:y=0:=by rw [<-B];exact ard (k.trans O)
   subst O;have d:=ae o;clear f B g k o;go_wp2_with fail;go_ret;exact ⟨_,rfl,by rw [<-S.out,d.out,Nat.gcd_zero_right];exact X.out.base D.out,A.out⟩
  ·have o:0<y:=by
    rcases cC y with e|e
    ·exfalso
     have:=Zo f (B.trans e);rw [this] at k;exact O k.symm
    ·exact e
   have hnb:((n:Int)==0)=false:=by rw [cW];intro e;rw [beq_iff_eq] at e;omega
   have Y:=ae (Ru X.out.r H.out.r C.out.1 C.out.2 o);have d:=ae o;clear f B g k o;go_wp2_with fail;refine Y.out.mono ?_;rintro e w4 ⟨q,r,rfl,hq,hr,R⟩;have bB:x % y<y:=dj _ d.out;have HR:=ae hr;have I:=ae (H.out.below R);have qk:=ae (A.out.trans (R.mono A.out.size));have F:=ae (show Nat.gcd y (x % y)=Nat.gcd (val l) (val m) by rw [<-S.out,Nat.gcd_comm x y,Nat.gcd_rec y x,Nat.gcd_comm]);have zi:=ae A.out.size;have uZ:=ae bB;clear hq hr R Y bB;go_wp2_with fail
   go_roundg (x % y)
   case measure=>have:=G.out;have:=uZ.out;omega
   case rel=>exact ⟨y,x % y,rfl,C.out.2,Fh C.out.2 (aQ uZ.out),⟨_,E.out,I.out⟩,⟨_,zi.out,HR.out⟩,F.out,qk.out⟩
end
end
section
open Go.RowKit
def ari (a b:Nat) (w:World) (e:Ending) (w':World):Prop:= ∃q r,e= .returned (.tuple #[q,r,.bool true])/\mP w' w.heap.size q (a/Nat.gcd a b)/\mP w' w.heap.size r (b/Nat.gcd a b)/\Below w.heap.size w w'
section
variable {w:World}
def arj {u v:Value} {a b:Nat} (h:dL w u a) (h':dL w v b) (p:Sm a) (f:Sm b) (o:0<b):Calls Tryz.prog 167 #[u,v] w (ari a b w):=by
 have z:0<Nat.gcd a b:=iK _ o;have F:Sm (Nat.gcd a b):=Fh f (Nat.gcd_le_right _ o);have G:=ae (Us h' f);have i:eN b≠0:=by unfold eN;rw [if_neg (by omega)];omega
 have A:=ae (arh h h' p f);have B:=ae (af h h');have d:=ae (af p (af f (af F z)));obtain ⟨k,I⟩:=pQ (eN b);rw [I] at G i;have S:((k:Int)==0)=false:=by rw [cW];intro e;rw [beq_iff_eq] at e;omega
 clear h h' p f F z o I i;go_enter Tryz.func167,Tryz.ntmps167;go_wp2_with fail;refine G.out.mono ?_;rintro e U ⟨rfl,rfl⟩;go_wp2_with fail;refine A.out.mono ?_;rintro e W ⟨g,rfl,x,l⟩;have H:=ae l;have P:=ae x;have D:=ae (Ru (B.out.1.below l) x.r d.out.1 d.out.2.2.1 d.out.2.2.2);clear l x A;go_wp2_with fail;refine D.out.mono ?_;rintro e X ⟨q,r,rfl,J,O,m⟩;have C:=ae (J.base H.out.size);have s:=ae (tP H.out m);have E:=ae (Ru (B.out.2.below s.out) (P.out.below m).r d.out.2.1 d.out.2.2.1 d.out.2.2.2);clear J O m D;go_wp2_with fail;refine E.out.mono ?_;rintro e Y ⟨Q,T,rfl,y,M,t⟩;have N:=ae (y.base s.out.size);have j:=ae (C.out.below t);have R:=ae (tP s.out t);clear y M t E C;go_wp2_with fail;refine bodyPost_ret (v:= .tuple #[q,Q,.bool true]) (by simp [results,Tryz.results167,go_sem]) rfl ?_;exact ⟨_,_,rfl,j.out,N.out,R.out⟩
end
end
section
open Go.RowKit
section
variable {w:World}
def ahp {u:Value} {a:Nat} (h:dL w u a) (f:Sm a):Calls Tryz.prog 321 #[u] w (rj (a*a) w):=by
 have g:=ae (Rb h h f f);go_enter Tryz.func321,Tryz.ntmps321;go_wp2_with fail;refine g.out.mono ?_;rintro e i ⟨y,rfl,b,d⟩;have R:=ae (af b d);clear b d;go_wp2_with fail;go_ret;exact ⟨_,rfl,R.out.1,R.out.2⟩
def ark: ∀m:Fin 65,bits .and .i64 ((m.val:Nat):Int) 1=((m.val % 2:Nat):Int):=by decide+kernel
def arl {k i:Nat} (b:k<=64):bits .and .i64 ((k:Int)/2^i) 1=((k/2^i % 2:Nat):Int):=by
 have a:(k:Int)/2^i=((k/2^i:Nat):Int):=by simp_all
 rw [a];exact ark ⟨k/2^i,by have:=bT k (2^i);omega⟩
def arn (a k i:Nat):a^(k/2^i)=a^(k/2^(i+1))*a^(k/2^(i+1))*(if k/2^i % 2=1 then a else 1):=by
 obtain ⟨m,b⟩:=pQ (k/2^i);have d:k/2^(i+1)=m/2:=by rw [bI,<-jg,b]
 rw [d,b,<-bC];split
 ·rename_i h;rw [<-bI];grind
 grind
def ahq {a k m:Nat} (b:Sm (a^k)) (h:m<=k) (d:Sm 1):Sm (a^m):=by
 rcases cC a with e|e
 ·subst e
  rcases cC m with e|e
  all_goals grind
 ·exact Fh b (aG e h)
def ahr {u:Value} {a k:Nat} (h:dL w u a) (hk:k<=64) (hs:Sm (a^k)) (nZ:Sm a):Calls Tryz.prog 277 #[u,.int .i64 (k:Int)] w (rj (a^k) w):=by
 have Z:=ae h;have M:=ae (af hs nZ);have Rn:=ae (fun w':World=>Ms (w:=w') 1 (by decide));have Gd:(k:Int)<=64:=by omega
 have jx:(0:Int)<=(k:Int):=by omega
 have aFe:min (k:Int) 64=(k:Int):=by omega
 clear h hs nZ;go_enter Tryz.func277,Tryz.ntmps277;go_wp2_with fail;refine (Rn.out _).mono ?_;rintro e w1 ⟨v1,rfl,ny,g⟩;have lJ:=ae (af ny g);clear ny g;go_wp2_with fail
 go_loopg [5,6] 7 (fun gh ov iv wr=> ∃(j b1:Nat),gh=j/\j<=7/\iv= .int .i64 ((j:Int)-1)/\w.heap.size<=b1/\mP wr b1 ov (a^(k/2^j))/\Below w.heap.size w wr)
 case atStart=>exact ⟨7,_,rfl,aq _,rfl,aq _,by rw [show k/2^7=0 from eW (by omega)];exact lJ.out.1,lJ.out.2⟩
 case round=>
  obtain ⟨j,b1,D,Q,rfl,g,hf,o⟩:=hrel;have G:=ae D;have I:=ae hf;have p:=ae (af g o);by_cases Mz:j=0
  ·subst Mz
   have e1:((0:Nat):Int)-1= -1:=by omega
   clear D Q g hf o;rw [e1];go_wp2_with fail;go_ret;exact ⟨_,rfl,by have:=I.out;rw [lR,Nat.div_one] at this;exact this.base p.out.1,p.out.2⟩
  ·obtain ⟨i,rfl⟩: ∃i,j=i+1:=⟨j-1,by omega⟩
   have ei:((i+1:Nat):Int)-1=(i:Int):=by omega
   rw [ei];have hi6:(i:Int)<=6:=by omega
   have fq:(0:Int)<=(i:Int):=by omega
   obtain ⟨lo,PL,Gf,T⟩:=hf;obtain ⟨ao,co,Y,rfl,C,P,Rx,B⟩:=PL.sl.form;obtain ⟨n,X⟩:=pQ lo.length;rw [X] at I⊢;clear D Q g o ei;have aa4:=arl (k:=k) (i:=i) hk;have U:=arn a k i;obtain ⟨z,R⟩:=pQ (a^(k/2^(i+1)));obtain ⟨m,W⟩:=pQ (k/2^i % 2);have aro:m<2:=by rw [<-W];exact dj _ (by decide)
   have yz:Sm z:=by rw [<-R];exact ahq (k:=k) M.out.1 (bT _ _) (AM (k:=1) (by decide) (by decide))
   have G8:Sm (z*z):=by
    rw [<-R,<-bC];refine ahq (k:=k) M.out.1 ?_ (AM (k:=1) (by decide) (by decide));have:k/2^(i+1)=k/2^i/2:=by rw [bI,<-jg]
    have:=bT k (2^i);omega
   rw [R,W] at U;rw [R] at I T;rw [W] at aa4;have F:=ae (show (m=1->a^(k/2^i)=z*z*a)/\(¬m=1->a^(k/2^i)=z*z) from ⟨fun e=>by rw [U,if_pos e],fun e=>by rw [U,if_neg e,fk]⟩);have Ry:=ae (af yz (af G8 aro));have A:=ae (show¬m=1->((m:Int)==1)=false from fun h=>by rw [cW];intro e;rw [beq_iff_eq] at e;omega);have y:=ae (show m=1->((m:Int)==1)=true from fun h=>by subst h;rfl);have N:=ae (ahp I.out.r yz);clear U R W yz G8;by_cases oC:n=1
   ·subst oC
    obtain ⟨xx,rfl⟩: ∃x,lo= [x]:=mI.1 X;obtain rfl:=C (by simp);have q0:wr.cell? Y=some (.int .u32 (xx:Int)):=by have:=B 0 (by simp);rw [show Y.add 0=Y from if_pos rfl] at this;exact this
    have hvx:xx=z:=by rw [<-T];simp [val]
    clear PL Gf T C P Rx B X;obtain rfl:z=xx:=hvx.symm;by_cases dW:z=1
    ·have b:=ae (show mP wr w.heap.size (.slice (some Y) 1 co) (z*z)/\Below w.heap.size w wr from ⟨by have:=I.out.base p.out.1;rw [show z*z=z by rw [dW]];exact this,p.out.2⟩)
     have s7:((z:Int)==1)=true:=by rw [dW];rfl
     clear dW;by_cases d:m=1
     ·have l:=ae (F.out.1 d)
      have g:=y.out d;have J:=ae (fun (f:World) (E:Value) (h:dL f E (z*z)) (o:Below w.heap.size w f)=>Rb (w:=f) h (Z.out.below o) Ry.out.2.1 M.out.2);go_wp2_with fail;refine (J.out _ _ b.out.1.r b.out.2).mono ?_;rintro e w3 ⟨v3,rfl,t,s⟩;have q:=ae (af t (tP b.out.2 s));have H:=ae b.out.2.size;clear t s;go_wp2_with fail
      go_roundg i
      case measure=>have:=G.out;omega
      case rel=>exact ⟨i,_,rfl,by omega,by go_num,H.out,by rw [l.out];exact q.out.1,q.out.2⟩
     ·have l:=ae (F.out.2 d)
      have g:=A.out d;go_wp2_with fail
      go_roundg i
      case measure=>have:=G.out;omega
      case rel=>exact ⟨i,_,rfl,by omega,by go_num,aq _,by rw [l.out];exact b.out.1,b.out.2⟩
    ·have s7:((z:Int)==1)=false:=by rw [cW];intro e;rw [beq_iff_eq] at e;omega
     go_wp2_with fail;refine N.out.mono ?_;rintro e f ⟨E,rfl,S,O⟩;have b:=ae (af (S.base p.out.2.size) (tP p.out.2 O));clear S O;by_cases d:m=1
     ·have l:=ae (F.out.1 d)
      have g:=y.out d;have J:=ae (fun (f:World) (E:Value) (h:dL f E (z*z)) (o:Below w.heap.size w f)=>Rb (w:=f) h (Z.out.below o) Ry.out.2.1 M.out.2);go_wp2_with fail;refine (J.out _ _ b.out.1.r b.out.2).mono ?_;rintro e w3 ⟨v3,rfl,t,s⟩;have q:=ae (af t (tP b.out.2 s));have H:=ae b.out.2.size;clear t s;go_wp2_with fail
      go_roundg i
      case measure=>have:=G.out;omega
      case rel=>exact ⟨i,_,rfl,by omega,by go_num,H.out,by rw [l.out];exact q.out.1,q.out.2⟩
     ·have l:=ae (F.out.2 d)
      have g:=A.out d;go_wp2_with fail
      go_roundg i
      case measure=>have:=G.out;omega
      case rel=>exact ⟨i,_,rfl,by omega,by go_num,aq _,by rw [l.out];exact b.out.1,b.out.2⟩
   ·have hne:((n:Int)==1)=false:=by rw [cW];intro e;rw [beq_iff_eq] at e;omega
    clear PL Gf T C P Rx B X;go_wp2_with fail;refine N.out.mono ?_;rintro e f ⟨E,rfl,S,O⟩;have b:=ae (af (S.base p.out.2.size) (tP p.out.2 O));clear S O;by_cases d:m=1
    ·have l:=ae (F.out.1 d)
     have g:=y.out d;have J:=ae (fun (f:World) (E:Value) (h:dL f E (z*z)) (o:Below w.heap.size w f)=>Rb (w:=f) h (Z.out.below o) Ry.out.2.1 M.out.2);go_wp2_with fail;refine (J.out _ _ b.out.1.r b.out.2).mono ?_;rintro e w3 ⟨v3,rfl,t,s⟩;have q:=ae (af t (tP b.out.2 s));have H:=ae b.out.2.size;clear t s;go_wp2_with fail
     go_roundg i
     case measure=>have:=G.out;omega
     case rel=>exact ⟨i,_,rfl,by omega,by go_num,H.out,by rw [l.out];exact q.out.1,q.out.2⟩
    ·have l:=ae (F.out.2 d)
     have g:=A.out d;go_wp2_with fail
     go_roundg i
     case measure=>have:=G.out;omega
     case rel=>exact ⟨i,_,rfl,by omega,by go_num,aq _,by rw [l.out];exact b.out.1,b.out.2⟩
end
end
section
open Go.RowKit
def Rz (w wr:World) (g M m c0:Nat) (l:List Nat) (i c:Nat) (o:List Nat):Prop:=
 c<4294967296/\o.length=M/\fW wr g (.slice (some ⟨g,0,none⟩) M M) o/\bK (el o) i+4294967296^i*c=c0+m*bK (el l) i/\Below w.heap.size w wr
def Rz.next {w wr w':World} {g M m c0:Nat} {l:List Nat} {i c x t d a:Nat} {o:List Nat} (h:Rz w wr g M m c0 l i c o) (z:el l i=x) (hi:i<M) (f:a<4294967296) (y:t=c+x*m) (u:t=d+4294967296*a)
 (e:fW w' g (.slice (some ⟨g,0,none⟩) M M) (o.set i d)) (b:Below w.heap.size w w'):Rz w w' g M m c0 l (i+1) a (o.set i d):=by
 obtain ⟨j,k,p,q,s⟩:=h;refine ⟨f,by simp_all,e,?_,b⟩;rw [wX,bI];show _=c0+m*(bK (el l) i+4294967296^i*el l i);grind
section
variable {w:World}
def arp {v:Value} {l:List Nat} (h:g7 w v l) (hn:l.length<=100000000) (m c0:Nat) (rq:m<4294967296) (I:c0<4294967296):Calls Tryz.prog 163 #[v,.int .u32 (m:Int),.int .u32 (c0:Int)] w (rj (val l*m+c0) w):=by
 have HL:=ae h.2;obtain ⟨a,c,x,rfl,ha,hc,hm,b⟩:=h.form;have Q:=ae (fun F (hb:Below w.heap.size w F) i (s:i<l.length)=>(hb.cell (ak w _ (b i s))).trans (b i s));have P:=ae ha;unfold maxLen at hm;clear h b ha;obtain ⟨n,E⟩:=pQ l.length;have HN:=ae E;rw [E] at hn hc hm P Q;rw [E];obtain ⟨i0,fq,Z,Y,X⟩:=info_parts B9;obtain ⟨M,hM⟩:=pQ (n+1);have eM:(n:Int)+1=(M:Int):=by omega
 have hMb:M<=100000001:=by omega
 have Wg:=ae hM;clear E hM;go_enter Tryz.func163,Tryz.ntmps163;go_wp2_with (refine wpList_make_full w rfl (.tmp 13) (.tmp 13) 35 rfl w.heap.size 172 i0 _ 1 Tryz.underlying35 fq Z Y _ _ _ _ M rfl rfl (by first|rfl|omega) (by first|rfl|omega) (by rw [X];omega) (by unfold maxLen;omega) (aq _) ?_;intro O J hg);have U:Below w.heap.size w O:=(aH _ _).grown hg (aq _) (by intro k hk;cases hk);rw [Fa] at J;have hO:fW O w.heap.size (.slice (some ⟨w.heap.size,0,none⟩) M M) (List.replicate M 0):=⟨by rw [aZ];exact J,Fb _⟩;obtain ⟨g,G⟩:=pQ w.heap.size;have zq:=ae (show Rz w O g M m c0 l 0 c0 (List.replicate M 0) from ⟨I,aZ,G▸hO,by simp [bK],U⟩);have T:=ae G;rw [G];clear J hg U hO fq Z Y X G;go_wp2_with fail
 go_loopg [8,19] n (fun gh cv iv wr=> ∃(i j:Nat) (o:List Nat),gh+i=n/\iv= .int .i64 i/\cv= .int .u64 j/\Rz w wr g M m c0 l i j o)
 case atStart=>exact ⟨0,c0,_,rfl,rfl,rfl,zq.out⟩
 case round=>
  obtain ⟨i,j,o,s,rfl,rfl,f⟩:=hrel;have S:=ae s;have N:=ae f;have A:=f.2.2.1.1;rw [f.2.1] at A;have bc:j<4294967296:=f.1;have ag5:(i:Int)<=100000000:=by omega
  have aFf:(0:Int)<=i:=by omega
  have hiM:(i:Int)<(M:Int):=by omega
  have kb:=A.frozenAt i;obtain ⟨W,Fc⟩: ∃W,wr.cell? ⟨g,i,none⟩=some W:=⟨_,qZ A (re (by rw [f.2.1];omega))⟩;by_cases bB:i<n
  ·obtain rfl:=P.out (by omega)
   have q1:=Q.out _ f.2.2.2.2 i bB;obtain ⟨u,B⟩:=pQ (l.getD i 0);rw [B] at q1;have bx:u<4294967296:=by rw [<-B];exact mH HL.out i
   have qz:=ae (show el l i=u from B);have zf:(i:Int)<n:=by omega
   obtain ⟨z,C⟩:=pQ (u*m);have PE:z<=18446744065119617025:=by rw [<-C];exact (show u*m<=4294967295*4294967295 from bH (by omega) (by omega))
   obtain ⟨t,ht⟩:=pQ (j+z);have ez:IntKind.u64.wrap ((u:Int)*(m:Int))=(z:Int):=by rw [VN,C];exact wraps_u64 _ (by omega) (by omega)
   have et:(j:Int)+(z:Int)=(t:Int):=by omega
   obtain ⟨d,hd⟩:=pQ (t % 4294967296);obtain ⟨c1,G4⟩:=pQ (t/4294967296);have ed:(t:Int) % 4294967296=(d:Int):=by omega
   have ec:(t:Int)/4294967296=(c1:Int):=by omega
   have aqK:(z:Int)<=18446744065119617025:=by omega
   have aqL:(t:Int)<=18446744073709551615:=by omega
   have q:=ae (show c1<4294967296/\t=j+u*m/\t=d+4294967296*c1/\d<4294967296 by refine ⟨?_,?_,?_,?_⟩;omega;rw [C];exact ht.symm;omega;omega);clear B s f A C PE ht hd G4;go_wp2_with fail
   go_roundg (n-(i+1))
   case measure=>have:=S.out;omega
   case rel=>
    have D:fW (wr.setCell ⟨g,i,none⟩ (.int .u32 (d:Int))) g (.slice (some ⟨g,0,none⟩) M M) (o.set i d):=N.out.2.2.1.set q.out.2.2.2;exact ⟨i+1,c1,_,by have:=S.out;omega,by go_num,rfl,N.out.next qz.out (by omega) q.out.1 q.out.2.1 q.out.2.2.1 D (N.out.2.2.2.2.setCell (by rw [T.out];exact aq _) _)⟩
  ·obtain rfl:i=n:=by omega
   have ecr:(j:Int) % 4294967296=(j:Int):=by omega
   have D:fW (wr.setCell ⟨g,i,none⟩ (.int .u32 (j:Int))) g (.slice (some ⟨g,0,none⟩) M M) (o.set i j):=f.2.2.1.set bc;have p:val (o.set i j)=val l*m+c0:=by
    rw [ld,bA,f.2.1,<-Wg.out,wX (by rw [f.2.1];omega),f.2.2.2.1,ld l,HN.out,bE m];omega
   have q:=ae (wU D.sl (by rw [bA,f.2.1];omega));have HV:=ae p;have H:=ae (show Below w.heap.size w (wr.setCell ⟨g,i,none⟩ (.int .u32 (j:Int))) from f.2.2.2.2.setCell (by rw [T.out];exact aq _) _);clear s f A D p;go_wp2_with fail;refine q.out.mono ?_;rintro e F ⟨y,rfl,h5,h6⟩;have R:=ae (show mP F w.heap.size y (val l*m+c0)/\Below w.heap.size w F from ⟨HV.out▸h5.base H.out.size,H.out.trans (h6.mono H.out.size)⟩);clear h5 h6;go_wp2_with fail;go_ret;exact ⟨_,rfl,R.out.1,R.out.2⟩
def ahs {u:Value} {a:Nat} (h:dL w u a) (e:Sm a) (m c0:Nat) (f:m<4294967296:=by omega) (b:c0<4294967296:=by decide):Calls Tryz.prog 163 #[u,.int .u32 (m:Int),.int .u32 (c0:Int)] w (rj (a*m+c0) w):=by
 obtain ⟨l,d,g,rfl,i⟩:=h.lim e;exact arp d (by omega) m c0 f b
end
end
section
open Go.RowKit
def yA (a k x:Nat):Nat:=(x*(k-1)+0+a/x^(k-1))/k
def yB (a k:Nat):Nat->Nat->Nat
 |0,x=>x
 |f+1,x=>if x<=yA a k x then x else yB a k f (yA a k x)
def aht (a k:Nat): ∀f x,yB a k f x<=x
 |0,_=>aq _
 |f+1,x=>by
  unfold yB;split
  ·omega
  ·rename_i h;exact aK (aht a k f _) (by omega)
def abA {a k x:Nat} (g:0<a) (f:0<k) (h:0<x):0<yA a k x:=by
 unfold yA;rw [Nat.div_pos_iff];refine ⟨f,?_⟩;rcases bV 1 k with e|e
 ·rcases bV 1 x with b|b
  ·have:2*(k-1)<=x*(k-1):=aN _ b
   grind
  ·have d:x=1:=by omega
   subst d;grind
 ·have:k=1:=by omega
  subst this;grind
def td (a k:Nat):Nat:=2^((eN a+(k-1))/k)
def tf (a k:Nat):Nat:=yB a k (td a k) (td a k)
def arq {x E km a T:Nat} (b:x<=2^E) (e:km<=64) (s:E<=1000063) (k:E*km<=1000063) (l:a<2^T) (t:T<=1000000):Sm x/\Sm (x^km)/\Sm (x*km+0)/\ ∀q,q<=a->Sm q/\Sm (x*km+0+q):=by
 have d: ∀n:Nat,2^n<2^(n+1):=fun n=>g5 (by decide) (by omega)
 have f:Sm x:=AM (bh b (d E));have g:x^km<=2^(E*km):=by rw [fJ];exact gB b km
 have h:x*km<=2^(E+6):=by rw [bC];exact bH b e
 have i:x*km+0<2^(E+6+1):=bh h (d _);refine ⟨f,AM (bh g (d _)),AM i,fun q m=>⟨AM (bh m l),?_⟩⟩;have o:2^(E+6+1)<=2^(E+6+1+T):=aG (by decide) (by omega);have p:2^T<=2^(E+6+1+T):=aG (by decide) (by omega);have j:x*km+0+q<2^(E+6+1+T+1):=by
  omega
 exact AM j
section
variable {w:World}
def ars {u:Value} {a k T:Nat} (h:dL w u a) (ha:0<a) (S:a<2^T) (hT:T<=1000000) (jx:0<k) (hk:k<=64):Calls Tryz.prog 344 #[u,.int .i64 (k:Int)] w (rj (tf a k) w):=by
 have A:=ae (AM S (by omega:T<=32000000));have HA:=ae h;have Rv:=ae (fun (w':World) (R:Below w.heap.size w w')=>Us (h.below R) A.out);have Rn:=ae (fun w':World=>Ms (w:=w') 1 (by decide));have hkI:(k:Int)<=64:=by omega
 have Gd:(1:Int)<=(k:Int):=by omega
 have s:=ae (af ha (af S (af jx (af hk hT))));obtain ⟨bl,W⟩:=pQ (eN a);rw [W] at Rv;have Re:=ae W;have art:bl<=1000000:=by
  obtain ⟨b,e1,e2,_⟩:=aeu (n:=a);have:=(dC (a:=2) (by decide)).1 (bh e2 S);omega
 have aFg:(bl:Int)<=1000000:=by omega
 obtain ⟨E,Q⟩:=pQ ((bl+(k-1))/k);obtain ⟨km,Nr⟩:=pQ (k-1);have ekm:(k:Int)-1=(km:Int):=by omega
 have aFh:(km:Int)<=63:=by omega
 have aFi:(0:Int)<=(km:Int):=by omega
 have t:=ae Nr;have hEI:((bl:Int)+(k:Int)-1).tdiv (k:Int)=(E:Int):=by
  rw [show (bl:Int)+(k:Int)-1=((bl+(k-1):Nat):Int) by omega,<-Q];rfl
 have hEk:E*k<=bl+(k-1):=by rw [<-Q];exact dT _ _
 have hEb:E<=1000063:=by
  have:E*1<=E*k:=aR _ jx;omega
 have aFj:(E:Int)<=1000063:=by omega
 have Y:=ae (show td a k=2^E/\E*(k-1)<=1000063 from ⟨by unfold td;rw [W,Q],by have:E*(k-1)<=E*k:=aR _ (nr _ _);omega⟩);clear h ha S jx hk W Q hEk Nr hT;go_enter Tryz.func344,Tryz.ntmps344;go_wp2_with fail;refine (Rn.out _).mono ?_;rintro e w1 ⟨v1,rfl,ny,I⟩;have U:=ae (af ny I);clear ny I;go_wp2_with fail;refine (Rv.out _ U.out.2).mono ?_;rintro e w2 ⟨rfl,rfl⟩;go_wp2_with fail;have V7:=ae (Zv (n:=E) U.out.1.r (AM (k:=1) (by decide) (by decide)));refine V7.out.mono ?_;rintro e w3 ⟨v3,rfl,m9,lg⟩;rw [j3,<-Y.out.1] at m9;have je:=ae (af (m9.base U.out.2.size) (tP U.out.2 lg));clear m9 lg;go_wp2_with fail
 go_loopg [5] (td a k) (fun gh ov wr=> ∃x f b1:Nat,gh=x/\0<x/\x<=td a k/\x<=f/\yB a k f x=tf a k/\w.heap.size<=b1/\mP wr b1 ov x/\Below w.heap.size w wr)
 case atStart=>exact ⟨_,td a k,_,rfl,aO (by decide),aq _,aq _,rfl,aq _,je.out.1,je.out.2⟩
 case round=>
  obtain ⟨x,f,b1,KV,nP,Iq,El,hR,I,hf,R⟩:=hrel;have Z:=ae KV;have C:=ae (af nP (af Iq (af El (af hR I))));have HF:=ae hf;have HB:=ae R;have l:=ae (arq (x:=x) (E:=E) (km:=km) (by rw [<-Y.out.1];exact Iq) (by omega) (by omega) (by have:=Y.out.2;rw [t.out] at this;exact this) s.out.2.1 s.out.2.2.2.2);have tg:=ae (ahr (k:=km) hf.r (by omega) l.out.2.1 l.out.1);clear KV nP Iq El hR I hf R;go_wp2_with fail;refine tg.out.mono ?_;rintro e w4 ⟨v4,rfl,ml,nf⟩;have qk:=ae (tP HB.out nf);have D:=ae (HF.out.below nf);have Hb:=ae (Ru (HA.out.below qk.out) ml.r A.out l.out.2.1 (aO C.out.1));clear ml nf tg;go_wp2_with fail;refine Hb.out.mono ?_;rintro e w5 ⟨q,r,rfl,hq,hr,rz⟩;have CG:=ae (tP qk.out rz);have g:=ae (D.out.below rz);have HQ5:=ae hq;have z:=ae (l.out.2.2.2 (a/x^km) (bT _ _));have B:=ae (ahs (w:=w5) g.out.r l.out.1 km 0);clear hq hr rz Hb D;go_wp2_with fail;refine B.out.mono ?_;rintro e w6 ⟨v6,rfl,Ir,J⟩;have yy:=ae (tP CG.out J);have F:=ae (g.out.below J);have m:=ae (Ut Ir.r (HQ5.out.below J).r l.out.2.2.1 z.out.1);clear Ir J B g;go_wp2_with fail;refine m.out.mono ?_;rintro e w7 ⟨v7,rfl,RA,X⟩;have o:=ae (tP yy.out X);have G:=ae (F.out.below X);obtain ⟨l7,g1,g2,g3,g4⟩:=RA.r.lim z.out.2;have J2:=ae (Zx g1 (by omega) k s.out.2.2.1 (by omega));rw [g3] at J2;clear RA X m F g1 g2 g3 g4;go_wp2_with fail;refine J2.out.mono ?_;rintro e w8 ⟨v8,rfl,N,pj⟩;have CM:=ae (tP o.out pj);have i:=ae (G.out.below pj);obtain ⟨y,hy⟩:=pQ ((x*km+0+a/x^km)/k);rw [hy] at N;have HY:=ae (show yA a k x=y by unfold yA;rw [t.out];exact hy);have p:=ae (N.base o.out.size);have Up:=ae (Zt N.r i.out.r);clear N pj J2 G hy;go_wp2_with fail;refine Up.out.mono ?_;rintro e w9 ⟨rfl,M⟩;have DM:=ae (tP CM.out M);have HX9:=ae (i.out.below M);have RB:=ae (p.out.below M);clear M i p Up;by_cases H:y<x
  ·rw [Mv H]
   obtain ⟨d,rfl⟩: ∃d,f=d+1:=⟨f-1,by have:=C.out;omega⟩;have j:=ae (show 0<y/\y<=td a k/\y<=d/\yB a k d y=tf a k by
    have P:=C.out;refine ⟨by rw [<-HY.out];exact abA s.out.1 s.out.2.2.1 P.1,by omega,by omega,?_⟩;rw [<-P.2.2.2.1];show _=if x<=yA a k x then x else yB a k d (yA a k x)
    rw [HY.out,if_neg (by omega)])
   have uZ:=ae H;clear H;go_wp2_with fail
   go_roundg y
   case measure=>have:=uZ.out;have:=Z.out;omega
   case rel=>exact ⟨y,d,_,rfl,j.out.1,j.out.2.1,j.out.2.2.1,j.out.2.2.2,aq _,RB.out,DM.out⟩
  ·obtain ⟨O,Im,ahe⟩: ∃O,tG y x=O/\0<=O:=⟨_,rfl,by unfold tG;rw [if_neg H];split<;>omega⟩
   rw [Im];have ahf: ¬O<0:=by omega
   have j:=ae (show x=tf a k by
    have P:=C.out;obtain ⟨d,rfl⟩: ∃d,f=d+1:=⟨f-1,by omega⟩;rw [<-P.2.2.2.1];show _=if x<=yA a k x then x else yB a k d (yA a k x)
    rw [HY.out,if_pos (by omega)])
   clear Im H;go_wp2_with fail;go_ret;exact ⟨_,rfl,j.out▸HX9.out.base C.out.2.2.2.2,DM.out⟩
end
end
section
open Go.RowKit Go.Ev
section
variable {n m i j k:Nat}
def Bn.KW {x y:Nat} (a:Bn i x) (b:Bn j y):Bn (i+j) (x*y):=by
 unfold Bn at*;rw [bC];rcases cC y with e|e
 ·subst e;rw [jy];exact ji (aO (by decide)) (aO (by decide))
 ·exact az (fO a e) (aR _ (aQ b))
def ahu (a:Bn i n) (b:Bn j m) (hi:i<=20000000:=by omega) (e:j<=20000000:=by omega): ∃z,Bn (i+j) z/\z=n*m/\bJ Tryz.prog bw 322 [fw n,fw m] (fw z):=
 ⟨_,Bn.KW a b,rfl,vh fun f g l h d _=>(Rb h d (a.sm hi) (b.sm e)).mono fun _ _ h=>CD h⟩
def aru (a:Bn i n) (hi:i<=20000000:=by omega): ∃z,Bn (i+i) z/\z=n*n/\bJ Tryz.prog bw 321 [fw n] (fw z):=
 ⟨_,Bn.KW a a,rfl,Ei fun b d h _=>(ahp h (a.sm hi)).mono fun _ _ h=>CD h⟩
def arv {c:Nat} (d:Bn k n) (g:k<=20000000) (b:m<4294967296:=by omega) (hc:c<4294967296:=by omega): ∃z,Bn (k+33) z/\z=n*m+c/\bJ Tryz.prog bw 163 [fw n,bj (.int .u32 (m:Int)),bj (.int .u32 (c:Int))] (fw z):=
 ⟨_,by
  have f:=Bn.KW d (show Bn 32 m from b);have l:=Bn.add f (show Bn 32 c from hc);simp_all,rfl,aqs fun w x y z h e a _=>by
  obtain rfl:y=_:=e;obtain rfl:z=_:=a;exact (ahs h (d.sm g) m c b hc).mono fun _ _ h=>CD h⟩
def ahv (a:Bn i n) (d:Bn j m) (hi:i<=20000000) (s:j<=20000000) (b:0<m): ∃q r,Bn i q/\Bn j r/\Bn i r/\q=n/m/\r=n % m/\bJ Tryz.prog bw 184 [fw n,fw m] (Ef (fw q) (fw r) (bj (.bool true))):=
 ⟨_,_,bh (bT _ _) a,oV (dj _ b) d,bh (Nat.mod_le _ _) a,rfl,rfl,vh fun w x y h g _=>by
  refine (Ru h g (a.sm hi) (d.sm s) b).mono ?_;rintro t u ⟨q,r,rfl,l,o,p⟩;exact ⟨_,rfl,fun f e=>⟨_,_,_,rfl,Ie l f e,Ie o f e,rfl⟩,p⟩⟩
def arw (a:Bn i n) (b:Bn j m) (hi:i<=20000000) (s:j<=20000000) (g:0<m): ∃q r,Bn i q/\Bn j r/\q=n/Nat.gcd n m/\r=m/Nat.gcd n m/\bJ Tryz.prog bw 167 [fw n,fw m] (Ef (fw q) (fw r) (bj (.bool true))):=
 ⟨_,_,bh (bT _ _) a,bh (bT _ _) b,rfl,rfl,vh fun w x y h f _=>by
  refine (arj h f (a.sm hi) (b.sm s) g).mono ?_;rintro t u ⟨q,r,rfl,l,o,p⟩;exact ⟨_,rfl,fun e d=>⟨_,_,_,rfl,Ie l e d,Ie o e d,rfl⟩,p⟩⟩
def abB (a:Bn i n): ∀k,Bn (i*k+1) (n^k)
 |0=>by
   unfold Bn;simp_all
 |k+1=>by
  have:=Bn.KW (abB a k) a;grind
def arx (a:Bn i n) (b:k<=64) (hi:i<=300000): ∃z,Bn (i*k+1) z/\z=n^k/\bJ Tryz.prog bw 277 [fw n,bj (.int .i64 (k:Int))] (fw z):=
 ⟨_,abB a k,rfl,vh fun w x y h d _=>by
  obtain rfl:y=_:=d;have e:i*k<=300000*64:=bH hi b;exact (ahr h b ((abB a k).sm (by omega)) (a.sm (by omega))).mono fun _ _ h=>CD h⟩
def ary {T:Nat} (h:0<n) (d:Bn T n) (a:0<k):Bn (T+1) (tf n k):=by
 refine bh (aht n k _ _) ?_;unfold td;refine g5 (by decide) ?_;have e:=Nf d;have b:1<=eN n:=by unfold eN;rw [if_neg (by omega)];omega
 have f:(eN n+(k-1))/k<=eN n:=by
  rw [Nat.div_le_iff_le_mul_add_pred a];have:k*1<=k*eN n:=aR _ b;have g:1*eN n<=k*eN n:=aN _ a;omega
 omega
def arz {T:Nat} (a:0<n) (b:Bn T n) (f:T<=1000000:=by omega) (d:0<k:=by decide) (g:k<=64:=by decide): ∃z,Bn (T+1) z/\z=tf n k/\bJ Tryz.prog bw 344 [fw n,bj (.int .i64 (k:Int))] (fw z):=
 ⟨_,ary a b d,rfl,vh fun w x y h e _=>by
  obtain rfl:y=_:=e;exact (ars h a b f d g).mono fun _ _ h=>CD h⟩
end
end
end Go.Proofs.YtnmpjdgobafdkaaGreatDoor
