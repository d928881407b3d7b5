/- refineCopies_proved. -/
import Derived.Test.YthleenhngcdgkaaGreatDoorPman
import Derived.Deep.DeepCutAuto
import Derived.Deep.CutBlock
import Derived.Deep.AppendLies
import Derived.Deep.RegionHeld3
set_option maxRecDepth 100000
set_option maxHeartbeats 16000000
set_option linter.all false
noncomputable section
namespace Go.Proofs.YthleenhngcdgkaaGreatDoor
section
open Go.RowKit
def ahZ {w w':World} {base:Nat} {v:Value} {l:List Nat} (h:gy w base v l) (e:Below w.heap.size w w'):gy w' base v l:=by
 refine ⟨⟨h.1.1,?_⟩,h.2⟩;rcases h.1.2 with b|⟨g,cap,cur,rfl,d,a,r⟩
 ·exact .inl b
 ·exact .inr ⟨g,cap,cur,rfl,d,(e.block g (au.1 a).1).trans a,r⟩
def arE (x:Addr) (i:Nat):(x.add i).block=x.block:=by unfold Addr.add;split<;>rfl
section
variable {w:World}
def arF {g N C k n cu base:Nat} {L vs:List Nat} {v:Value} (A:gy w base (.slice (some ⟨g,0,none⟩) N C) L) (hLN:L.length=N) (hk:k+n<N) (hN:N<=200000000) (tf:2<=n)
 (hv:jj w v vs) (LH:vs.length=n) (hne: ∀x c,v= .slice (some x) n c->x.block≠g) (WS:2147483648<=el vs (n-1)) (hU:bK (fun j=>el L (k+j)) (n+1)<4294967296*val vs):
 Calls Tryz.prog 263 #[.slice (some ⟨g,k,none⟩) (n+1) cu,v] w fun e I=> ∃L',e= .returned (.int .u32 ((bK (fun j=>el L (k+j)) (n+1)/val vs:Nat):Int))/\L'.length=N/\gy I base (.slice (some ⟨g,0,none⟩) N C) L'/\
  (∀j,j<k\/k+n<j->el L' j=el L j)/\bK (fun j=>el L' (k+j)) (n+1)=bK (fun j=>el L (k+j)) (n+1) % val vs/\rU g w I:=by
 have HL:=ae A.2;have WT:=ae hv.2;obtain ⟨a,c,x,rfl,ha,hc,hm,B⟩:=hv.form;rw [LH] at ha B hm;obtain rfl:=ha (by omega);have hxg:=hne x c (by rw [LH]);rw [LH];have HO:=ae A;have fT:=A.1;rw [hLN] at fT;obtain ⟨Z,oW⟩: ∃Z,n=Z+1:=⟨n-1,by omega⟩;obtain ⟨l,j8⟩: ∃l,Z=l+1:=⟨Z-1,by omega⟩;obtain ⟨un,WU⟩:=pS (el L (k+n));obtain ⟨u1,Bs⟩:=pS (el L (k+Z));obtain ⟨u0,WV⟩:=pS (el L (k+l));have cun:w.cell? ⟨g,k+n,none⟩=some (.int .u32 (un:Int)):=by rw [<-WU];exact rC fT (rD)
 have cu1:w.cell? ⟨g,k+Z,none⟩=some (.int .u32 (u1:Int)):=by rw [<-Bs];exact rC fT (rD)
 have cu0:w.cell? ⟨g,k+l,none⟩=some (.int .u32 (u0:Int)):=by rw [<-WV];exact rC fT (rD)
 have q1:=B Z (by omega);have q0:=B l (by omega);obtain ⟨y,nu⟩:=pS (vs.getD Z 0);obtain ⟨v0,GQ⟩:=pS (vs.getD l 0);rw [nu] at q1;rw [GQ] at q0;have bun:un<4294967296:=by rw [<-WU];exact nf A.2 _
 have bu1:u1<4294967296:=by rw [<-Bs];exact nf A.2 _
 have bu0:u0<4294967296:=by rw [<-WV];exact nf A.2 _
 have bv1:y<4294967296:=by rw [<-nu];exact nf hv.2 _
 have bv0:v0<4294967296:=by rw [<-GQ];exact nf hv.2 _
 have aF7:2147483648<=y:=by rw [<-nu];have:=WS;rw [show n-1=Z by omega] at this;exact this
 obtain ⟨u,Ou⟩:=pS (un*4294967296+u1);have E:(n:Int)-1=(Z:Int):=by omega
 have e0:(n:Int)-2=(l:Int):=by omega
 have hnb:(n:Int)<=200000000:=by omega
 have QG:bits .or .u64 ((un:Int)*4294967296) (u1:Int)=(u:Int):=by
  have:=bits_join .u64 64 (by decide) wraps_u64 32 ((un:Int)*4294967296) (u1:Int) (by omega) (by omega) (by omega) (by omega) (by omega) (by omega);rw [this];omega
 have HN:=ae (af oW (af j8 Ou));obtain ⟨V,hV⟩:=pS (val vs);obtain ⟨U,WW⟩:=pS (bK (mJ L k) (n+1));have hU':U<4294967296*V:=by rw [<-hV,<-WW];exact hU
 have FV:val vs=y*(4294967296*4294967296^l)+(v0*4294967296^l+bK (el vs) l):=by
  rw [lM,LH,oW,j8,<-nu,<-GQ,j8];show bK (el vs) l+4294967296^l*el vs l+4294967296^(l+1)*el vs (l+1)=el vs (l+1)*_+(el vs l*_+_);rw [bL,bG (4294967296^l) (el vs l),bG (4294967296^l) 4294967296,bG (4294967296*4294967296^l) (el vs (l+1))];omega
 have FU:bK (mJ L k) (n+1)=u*(4294967296*4294967296^l)+(u0*4294967296^l+bK (mJ L k) l):=by
  rw [<-Ou,oW,j8,<-WU,<-Bs,<-WV,oW,j8];show bK (mJ L k) l+4294967296^l*el L (k+l)+4294967296^(l+1)*el L (k+(l+1))+4294967296^(l+1+1)*el L (k+(l+1+1))=(el L (k+(l+1+1))*4294967296+el L (k+(l+1)))*_+(el L (k+l)*_+_);rw [bL 4294967296 (l+1),bL,bG (4294967296^l) (el L (k+l)),bG (4294967296^l) 4294967296,dE,bG (4294967296*4294967296^l) (el L (k+(l+1))),bD (el L (k+(l+1+1))) 4294967296,bG (4294967296*4294967296^l*4294967296),bG (4294967296*4294967296^l) 4294967296];omega
 have bvl:bK (el vs) l<4294967296^l:=qG (fun j=>vN WT.out j) l;have bul:bK (mJ L k) l<4294967296^l:=qG (fun j=>vN HL.out _) l;rw [hV] at FV;rw [WW] at FU;have hV0:0<V:=by
  rw [FV];have:0<y*(4294967296*4294967296^l):=i5 (by omega) (i5 (by decide) (aM (by decide)));omega
 have FQ:U/V*V<=U:=dM U V;have FT:u<4294967296*y+4294967296:=by
  have h1:u*(4294967296*4294967296^l)<(4294967296*y+4294967296)*(4294967296*4294967296^l):=by
   have h2:=ab2 bv0 bvl;have h3:4294967296*V<4294967296*(y*(4294967296*4294967296^l)+4294967296*4294967296^l):=by
    rw [FV];omega
   have h4:(4294967296*y+4294967296)*(4294967296*4294967296^l)=4294967296*(y*(4294967296*4294967296^l)+4294967296*4294967296^l):=by
    rw [dE,fA,bD]
   omega
  exact fQ h1
 have WY:=ae FV;have WZ:=ae FU;have O:=ae (af hV WW);have Sp:=ae (af bvl bul);have I':=ae (af FQ hV0);have HG0:=ae (aru FU FV bu0 bul (by omega) FQ);have HRG:=ae (af hU' WS);obtain ⟨g0,BX⟩:=pS (u/y);obtain ⟨r0,qp⟩:=pS (u % y);have GR:g0*y+r0=u:=by rw [<-BX,<-qp,bG];exact du u y
 have ah0:r0<y:=by rw [<-qp];exact cZ _ (by omega)
 have ah1:g0<=4294967297:=by
  rcases b6 4294967297 g0 with h|h
  ·exfalso
   have:4294967298*y<=g0*y:=aN _ h;omega
  ·exact h
 have ediv:IntKind.u64.wrap ((u:Int)/(y:Int))=(g0:Int):=by rw [<-Int.natCast_ediv,BX];exact wraps_u64 _ (by omega) (by omega)
 have emod:=ae (show (u:Int) % (y:Int)=(r0:Int) by rw [<-kJ,qp]);rw [BX] at HG0;have W2:=ae (af GR (af ah0 ah1));have HFT:=ae FT;clear A fT oW j8 Ou hv FV FU bvl bul FQ hV WW hU hU' WS GR ah0 BX qp ah1 FT;go_enter Tryz.func263,Tryz.ntmps263;go_wp2_with fail;go_region;go_wp2_with fail;go_region
 go_upto_block 0 with fail
 go_cut [7,8] from 47 to 82 (fun gv _ wc=> ∃q:Nat,gv= .int .u64 (q:Int)/\q*V<=U+V/\U/V<=q/\q<4294967296/\Below w.heap.size w wc/\wc.heap.size=w.heap.size)
 case first=>
  go_wp2_with fail;go_loopw [7,8] (fun gv rv wr=> ∃q r:Nat,gv= .int .u64 (q:Int)/\rv= .int .u64 (r:Int)/\q*y+r=u/\r<4294967296/\q<=4294967297/\U/V<=q/\Below w.heap.size w wr/\wr.heap.size=w.heap.size) (fun gv _ _=>(intOf gv).toNat)
  case atStart=>exact ⟨g0,r0,by first|rfl|rw [ediv],by first|rfl|rw [emod.out],W2.out.1,by have:=W2.out.2.1;omega,W2.out.2.2,HG0.out,(aG _ w).drew.drew,rfl⟩
  case round=>
   obtain ⟨q,r,rfl,rfl,hT,hr,hg,hq,hb,hs⟩:=hrel;have c0:=(hb.cell (aj w _ cu0)).trans cu0;have d0:=(hb.cell (aj w _ q0)).trans q0;have d1:=(hb.cell (aj w _ q1)).trans q1;obtain ⟨H,uL⟩:=pS (r+y);have er':(r:Int)+(y:Int)=(H:Int):=by omega
   have br':(H:Int)<8589934592:=by omega
   have W:=ae (af hb hs);have HT:=ae hT;have HQ:=ae hq;have X:=ae uL;clear hT hb hs hq uL;by_cases ab3:q<4294967296
   ·have esh:(q:Int)/4294967296=0:=by omega
    obtain ⟨p,hp⟩:=pS (q*v0);obtain ⟨t,T⟩:=pS (r*4294967296+u0);have W3:p<=18446744065119617025:=by rw [<-hp];exact (show q*v0<=4294967295*4294967295 from bJ (by omega) (by omega))
    have ep:IntKind.u64.wrap ((q:Int)*(v0:Int))=(p:Int):=by rw [WM,hp];exact wraps_u64 _ (by omega) (by omega)
    have eo:bits .or .u64 ((r:Int)*4294967296) (u0:Int)=(t:Int):=by
     have:=bits_join .u64 64 (by decide) wraps_u64 32 ((r:Int)*4294967296) (u0:Int) (by omega) (by omega) (by omega) (by omega) (by omega) (by omega);rw [this];omega
    have HP:=ae (af hp T);by_cases IU:t<p
    ·have arG:(t:Int)<(p:Int):=by omega
     have Ja:0<q:=by
      rcases bT q with e|e
      ·subst e;omega
      ·exact e
     have eg:(q:Int)-1=((q-1:Nat):Int):=by omega
     obtain ⟨D,hgm⟩:=pS (q-1);rw [hgm] at eg;have Q:=ae (show D*y+H=u/\D+1=q by
      refine ⟨?_,by omega⟩;have E:=HT.out;rw [show q=D+1 by omega,dE,j6] at E;have F:=X.out;omega)
     have HG:=ae (show U/V<=D from by have:=arv WZ.out WY.out Sp.out.2 HT.out (show r*4294967296+u0<q*v0 by rw [hp,T];exact IU) I'.out.1 HQ.out;omega);clear hp T;by_cases ab4:H<4294967296
     ·have eov:(H:Int)/4294967296=0:=by omega
      go_wp2_with fail;go_region;go_wp2_with fail;go_roundw
      case rel=>exact ⟨D,H,rfl,rfl,Q.out.1,ab4,by have:=Q.out.2;omega,HG.out,W.out.1.drew,W.out.2⟩
      case measure=>have:=Q.out.2;simp [intOf];omega
     ·have eov:(H:Int)/4294967296=1:=by omega
      have yW:4294967296<=H:=by omega
      have hgb:D<4294967296:=by
       rcases b6 D 4294967296 with h|h
       ·exact h
       ·exfalso
        have:4294967296*y<=D*y:=aN _ h;have:=Q.out.1;have:=HFT.out;omega
      have HX:=ae (show D*V<=U+V from by have:=ahX WZ.out WY.out bv0 Sp.out.1 Q.out.1 yW;omega);clear yW;go_wp2_with fail;go_region;go_wp2_with fail
      go_meet
      case rel=>exact ⟨D,rfl,HX.out,HG.out,hgb,W.out.1.drew,W.out.2⟩
    ·have arG: ¬(t:Int)<(p:Int):=by omega
     have HX:=ae (show q*V<=U+V from arw WZ.out WY.out Sp.out.1 (by omega) HT.out (by rw [hp,T];omega));clear hp T;go_wp2_with fail;go_region;go_wp2_with fail
     go_meet
     case rel=>exact ⟨q,rfl,HX.out,HQ.out,ab3,W.out.1.drew,W.out.2⟩
   ·have esh:(q:Int)/4294967296=1:=by omega
    have Ja:0<q:=by omega
    have eg:(q:Int)-1=((q-1:Nat):Int):=by omega
    obtain ⟨D,hgm⟩:=pS (q-1);rw [hgm] at eg;have Q:=ae (show D*y+H=u/\D+1=q by
     refine ⟨?_,by omega⟩;have E:=HT.out;rw [show q=D+1 by omega,dE,j6] at E;have F:=X.out;omega)
    have HG:=ae (show U/V<=D from by have:=(gJ I'.out.2).2 HRG.out.1;omega);by_cases ab4:H<4294967296
    ·have eov:(H:Int)/4294967296=0:=by omega
     go_wp2_with fail;go_region;go_wp2_with fail;go_roundw
     case rel=>exact ⟨D,H,rfl,rfl,Q.out.1,ab4,by have:=Q.out.2;omega,HG.out,W.out.1.drew,W.out.2⟩
     case measure=>have:=Q.out.2;simp [intOf];omega
    ·have eov:(H:Int)/4294967296=1:=by omega
     have yW:4294967296<=H:=by omega
     have hgb:D<4294967296:=by
      rcases b6 D 4294967296 with h|h
      ·exact h
      ·exfalso
       have:4294967296*y<=D*y:=aN _ h;have:=Q.out.1;have:=HFT.out;omega
     have HX:=ae (show D*V<=U+V from by have:=ahX WZ.out WY.out bv0 Sp.out.1 Q.out.1 yW;omega);clear yW;go_wp2_with fail;go_region;go_wp2_with fail
     go_meet
     case rel=>exact ⟨D,rfl,HX.out,HG.out,hgb,W.out.1.drew,W.out.2⟩
 case rest=>
  obtain ⟨q,rfl,hX,hQ,hgu,hb,hs⟩:=hcut;have ah2:Sl w wc g N C base k q L vs 0 0 0 L:=⟨by decide,by decide,hLN,ahZ HO.out hb,by simp [bK],fun _ _=>rfl,(rU.refl g w).of hb hs (ak _)⟩;have AQ:=ae ah2;have HXQ:=ae (af hX hQ);have ah3:=ae (fun I (ho:rU g w I) i (hi:i<n)=>(ho.cell (p:=x.add i) (by rw [arE];exact hxg)).trans (B i hi));have aF8:(q:Int)<=4294967295:=by omega
  clear ah2 hX hQ hb hs B q0 q1 cu0 cu1 cun GQ nu WU Bs WV emod ediv QG W2 HG0 HFT hne;go_wp2_with fail
  go_loopg [9,10,85] n (fun gh cv bv iv wr=> ∃(i R b:Nat) (o:List Nat),gh+i=n/\iv= .int .i64 i/\cv= .int .u64 R/\bv= .int .u32 b/\Sl w wr g N C base k q L vs i R b o)
  case atStart=>exact ⟨0,0,0,L,rfl,rfl,rfl,rfl,AQ.out⟩
  case round=>
   obtain ⟨i,R,b,o,hi,rfl,rfl,rfl,s⟩:=hrel;have HI:=ae hi;have lS:=ae s;have A:=s.2.2.2.1.1;rw [s.2.2.1] at A;have bc:=s.1;have bb:=s.2.1;have eT:(0:Int)<=i:=by omega
   have ahW:(i:Int)<=200000000:=by omega
   by_cases bA:i<n
   ·have q1:=ah3.out _ s.2.2.2.2.2.2 i bA
    obtain ⟨J,dT⟩:=pS (vs.getD i 0);rw [dT] at q1;have bx:J<4294967296:=by rw [<-dT];exact nf WT.out i
    have qH:=ae (show el vs i=J from dT);have l9:=A.frozenAt (k+i);obtain ⟨E,wL⟩:=pS (el o (k+i));have WN:wr.cell? ⟨g,k+i,none⟩=some (.int .u32 (E:Int)):=by rw [<-wL];exact rC A (rD (by rw [s.2.2.1];omega))
    have be:E<4294967296:=by rw [<-wL];exact vN s.2.2.2.1.2 _
    have Sj:=ae (show el L (k+i)=E by rw [<-wL];exact (s.2.2.2.2.2.1 _ (by omega)).symm);have zX:(i:Int)<n:=by omega
    obtain ⟨z,hz⟩:=pS (q*J);have QH:z<=18446744065119617025:=by rw [<-hz];exact (show q*J<=4294967295*4294967295 from bJ (by omega) (by omega))
    obtain ⟨t,T⟩:=pS (R+z);have ez:IntKind.u64.wrap ((q:Int)*(J:Int))=(z:Int):=by rw [WM,hz];exact wraps_u64 _ (by omega) (by omega)
    have et:(R:Int)+(z:Int)=(t:Int):=by omega
    obtain ⟨d,hd⟩:=pS (t % 4294967296);obtain ⟨c1,Eo⟩:=pS (t/4294967296);have ed:(t:Int) % 4294967296=(d:Int):=by omega
    have ec:(t:Int)/4294967296=(c1:Int):=by omega
    have arH:(z:Int)<=18446744065119617025:=by omega
    have arI:(t:Int)<=18446744073709551615:=by omega
    have bd:d<4294967296:=by omega
    have HT:=ae (show c1<4294967296/\t=R+q*J/\t=d+4294967296*c1 by refine ⟨?_,?_,?_⟩;omega;rw [hz];exact T.symm;omega);have Sr:=ae (fun I:World=>Vi (w:=I) E d b be bd bb);have Jb:=ae (ahY be bd bb);clear dT hi s A wL hz QH T hd Eo;go_wp2_with fail;refine (Sr.out _).mono ?_;rintro e I ⟨rfl,rfl⟩;go_wp2_with fail
    go_roundg (n-(i+1))
    case measure=>have:=HI.out;omega
    case rel=>
     have Y:gy (wr.setCell ⟨g,k+i,none⟩ (.int .u32 (sI E d b:Int))) base (.slice (some ⟨g,0,none⟩) N C) (o.set (k+i) (sI E d b)):=lS.out.2.2.2.1.set Jb.out.2.1;exact ⟨i+1,c1,xS E d b,_,by have:=HI.out;omega,by go_num,rfl,rfl,lS.out.next qH.out Sj.out (by omega) HT.out.1 Jb.out.2.2 HT.out.2.1 HT.out.2.2 Jb.out.1 Y (lS.out.2.2.2.2.2.2.set _ _)⟩
   ·obtain rfl:i=n:=by omega
    have l9:=A.frozenAt (k+i);obtain ⟨E,wL⟩:=pS (el o (k+i));have WN:wr.cell? ⟨g,k+i,none⟩=some (.int .u32 (E:Int)):=by rw [<-wL];exact rC A (rD (by rw [s.2.2.1];omega))
    have be:E<4294967296:=by rw [<-wL];exact vN s.2.2.2.1.2 _
    have Sj:=ae (show el L (k+i)=E by rw [<-wL];exact (s.2.2.2.2.2.1 _ (by omega)).symm);have ecr:(R:Int) % 4294967296=(R:Int):=by omega
    have Sr:=ae (fun I:World=>Vi (w:=I) E R b be bc bb);have Jb:=ae (ahY be bc bb);obtain ⟨d,hd⟩:=pS (sI E R b);obtain ⟨b1,bP⟩:=pS (xS E R b);rw [hd,bP] at Sr Jb;have Y:gy (wr.setCell ⟨g,k+i,none⟩ (.int .u32 (d:Int))) base (.slice (some ⟨g,0,none⟩) N C) (o.set (k+i) d):=s.2.2.2.1.set Jb.out.2.1;have FSy:bK (mJ (o.set (k+i) d) k) (i+1)+q*V=U+4294967296^(i+1)*b1:=by
     rw [WO (by rw [s.2.2.1];omega),bL,<-O.out.2];show _=bK (mJ L k) i+4294967296^i*el L (k+i)+_;rw [Sj.out,<-O.out.1,lM,LH];exact ary s.2.2.2.2.1 Jb.out.1
    have lU:=ae (af Y (show rU g w (wr.setCell ⟨g,k+i,none⟩ (.int .u32 (d:Int))) from s.2.2.2.2.2.2.set _ _));obtain ⟨S,hS⟩:=pS (o.set (k+i) d);have Ow:=ae (show S.length=N/\(∀j,j<k\/k+i<j->el S j=el L j) by
     rw [<-hS];refine ⟨by rw [bu];exact s.2.2.1,fun j hj=> ?_⟩;rw [uA d (by rw [s.2.2.1];omega),if_neg (by omega)];exact s.2.2.2.2.2.1 j (by omega))
    rw [hS] at lU FSy;have bA:=qG (f:=mJ S k) (fun j=>vN lU.out.1.2 _) (i+1);obtain ⟨P,hP⟩:=pS (4294967296^(i+1));rw [hP] at FSy bA;have HP:=ae hP;have vm:=ae bA;have HFS:=ae FSy;have bb1:=Jb.out.2.2;clear hi s A wL hd bP Y hS FSy bA hP;by_cases arJ:b1=0
    ·subst arJ
     have hbi:((0:Nat):Int)=0:=rfl;have X:=ae (arz (by have:=HFS.out;omega) HXQ.out.2 I'.out.2);go_wp2_with fail;refine (Sr.out _).mono ?_;rintro e I ⟨rfl,rfl⟩;go_wp2_with fail;go_ret;refine ⟨S,?_,Ow.out.1,lU.out.1,Ow.out.2,?_,lU.out.2⟩
     ·have:bK (fun j=>el L (k+j)) (i+1)/val vs=q:=by rw [O.out.1];exact (congrArg (· /V) O.out.2).trans X.out.1
      rw [this];rfl
     ·rw [O.out.1];exact ((congrArg (· % V) O.out.2).trans X.out.2).symm
    ·obtain rfl:b1=1:=by omega
     have X:=ae (arA (M:=P) (by have:=HFS.out;omega) vm.out HXQ.out.1);go_wp2_with fail;refine (Sr.out _).mono ?_;rintro e I ⟨rfl,rfl⟩;go_wp2_with fail;have Ja:(1:Int)<=(q:Int):=by have:=X.out.1;omega
     go_wp2_with fail
     go_loopg [13,133] i (fun gh av iv wr=> ∃(m a:Nat) (o:List Nat),gh+m=i/\iv= .int .i64 m/\av= .int .u32 a/\WQ w wr g N C base k S vs m a o)
     case atStart=>exact ⟨0,0,S,rfl,rfl,rfl,by decide,Ow.out.1,lU.out.1,by simp [bK],fun _ _=>rfl,lU.out.2⟩
     case round=>
      obtain ⟨m,a,o,mF,rfl,rfl,s⟩:=hrel;have HI:=ae mF;have lS:=ae s;have A:=s.2.2.1.1;rw [s.2.1] at A;have ba:=s.1;have rH:(0:Int)<=m:=by omega
      have aF9:(m:Int)<=200000000:=by omega
      by_cases bA:m<i
      ·have q1:=ah3.out _ s.2.2.2.2.2 m bA
       obtain ⟨J,dT⟩:=pS (vs.getD m 0);rw [dT] at q1;have bx:J<4294967296:=by rw [<-dT];exact nf WT.out m
       have qH:=ae (show el vs m=J from dT);have l9:=A.frozenAt (k+m);obtain ⟨F,C4⟩:=pS (el o (k+m));have WN:wr.cell? ⟨g,k+m,none⟩=some (.int .u32 (F:Int)):=by rw [<-C4];exact rC A (rD (by rw [s.2.1];omega))
       have be2:F<4294967296:=by rw [<-C4];exact vN s.2.2.1.2 _
       have HE2:=ae (show el S (k+m)=F by rw [<-C4];exact (s.2.2.2.2.1 _ (by omega)).symm);have zX:(m:Int)<i:=by omega
       have Ss:=ae (fun I:World=>arD (w:=I) F J a be2 bx ba);obtain ⟨t,T⟩:=pS (F+J+a);rw [T] at Ss;obtain ⟨G,xP⟩:=pS (t % 4294967296);obtain ⟨a2,uP⟩:=pS (t/4294967296);rw [xP,uP] at Ss;have tY:=ae (show a2<=1/\G+4294967296*a2=F+J+a/\G<4294967296 by refine ⟨?_,?_,?_⟩<;>omega);clear dT mF s A C4 T xP uP;go_wp2_with fail;refine (Ss.out _).mono ?_;rintro e I ⟨rfl,rfl⟩;go_wp2_with fail
       go_roundg (i-(m+1))
       case measure=>have:=HI.out;omega
       case rel=>
        have Y:gy (wr.setCell ⟨g,k+m,none⟩ (.int .u32 (G:Int))) base (.slice (some ⟨g,0,none⟩) N C) (o.set (k+m) G):=lS.out.2.2.1.set tY.out.2.2;exact ⟨m+1,a2,_,by have:=HI.out;omega,by go_num,rfl,lS.out.next qH.out HE2.out (by omega) tY.out.1 tY.out.2.1 Y (lS.out.2.2.2.2.2.set _ _)⟩
      ·obtain rfl:m=i:=by omega
       have l9:=A.frozenAt (k+m);obtain ⟨F,C4⟩:=pS (el o (k+m));have WN:wr.cell? ⟨g,k+m,none⟩=some (.int .u32 (F:Int)):=by rw [<-C4];exact rC A (rD (by rw [s.2.1];omega))
       have be2:F<4294967296:=by rw [<-C4];exact vN s.2.2.1.2 _
       have HE2:=ae (show el S (k+m)=F by rw [<-C4];exact (s.2.2.2.2.1 _ (by omega)).symm);obtain ⟨G,xP⟩:=pS ((F+a) % 4294967296);have ea1:((F:Int)+(a:Int)) % 4294967296=(G:Int):=by omega
       have ea2:IntKind.u32.wrap ((F:Int)+(a:Int))=(G:Int):=by rw [IntKind.wrap_u32];exact ea1
       have bd2:G<4294967296:=by omega
       have Y:gy (wr.setCell ⟨g,k+m,none⟩ (.int .u32 (G:Int))) base (.slice (some ⟨g,0,none⟩) N C) (o.set (k+m) G):=s.2.2.1.set bd2;have FR:bK (mJ (o.set (k+m) G) k) (m+1)=U % V:=by
        rw [WO (by rw [s.2.1];omega)];have hS:=X.out.2.2;rw [<-HP.out,bL] at hS;have BZ:bK (mJ S k) (m+1)=bK (mJ S k) m+4294967296^m*F:=by
         show bK (mJ S k) m+4294967296^m*el S (k+m)=_;rw [HE2.out]
        rw [BZ] at hS;have hVV:bK (el vs) m=V:=by rw [<-O.out.1,lM,LH]
        refine arC (hVV▸s.2.2.2.1) hS ?_ (qG (f:=mJ o k) (fun j=>vN s.2.2.1.2 _) m) ba be2 xP.symm;refine oM (cZ _ I'.out.2) ?_;rw [<-hVV];exact qG (fun j=>vN WT.out j) m
       obtain ⟨o2,pG⟩:=pS (o.set (k+m) G);have HON:=ae (show o2.length=N/\(∀j,j<k\/k+m<j->el o2 j=el L j) by
        rw [<-pG];refine ⟨by rw [bu];exact s.2.1,fun j hj=> ?_⟩;rw [uA G (by rw [s.2.1];omega),if_neg (by omega),s.2.2.2.2.1 j (by omega)];exact Ow.out.2 j hj)
       rw [pG] at Y FR;have HFR:=ae FR;have ah4:=ae (af Y (show rU g w (wr.setCell ⟨g,k+m,none⟩ (.int .u32 (G:Int))) from s.2.2.2.2.2.set _ _));clear mF s A C4 xP Y FR pG;go_wp2_with fail;go_ret;refine ⟨o2,?_,HON.out.1,ah4.out.1,HON.out.2,?_,ah4.out.2⟩
       ·have:((bK (fun j=>el L (k+j)) (m+1)/val vs:Nat):Int)=(q:Int)-1:=by
         rw [O.out.1];have h1:=(congrArg (· /V) O.out.2).trans X.out.2.1;have h2:=X.out.1;have h3:bK (fun j=>el L (k+j)) (m+1)/V=q-1:=h1;rw [h3];omega
        rw [this];rfl
       ·rw [O.out.1];exact HFR.out.trans (congrArg (· % V) O.out.2).symm
end
end
section
open Go.RowKit
def arK {l:List Nat} (a:cS l=l.length) (b:0<val l:=by omega) (d:val l<4294967296:=by omega): ∃x,l= [x]/\x=val l:=by
 match l,a with
 | [],_=>simp [val] at b
 | [x],_=>exact ⟨x,rfl,by simp [val]⟩
 |x::y::t,a=>
  have e:=KU (l:=x::y::t) (by rw [a];simp);grind
def W4 {l m:List Nat} (f:cS l=l.length) (g:val l=val m) (e:kT m):l.length<=m.length:=by
 by_cases h:l.length=0
 ·omega
 ·have b:=KU (l:=l)
  have i:val m<4294967296^m.length:=by rw [lM m];exact qG (yG e) _
  rw [f,g] at b;have d:4294967296^(l.length-1)<4294967296^m.length:=by omega
  have j:=(dB (a:=4294967296) (by omega)).1 d;omega
def W5 (a d:Nat) (w:World) (e:Ending) (w':World):Prop:= ∃q r,e= .returned (.tuple #[q,r,.bool true])/\nr w' w.heap.size q (a/d)/\nr w' w.heap.size r (a % d)/\Below w.heap.size w w'
section
variable {w:World}
def arL {v u:Value} {l m:List Nat} (h:jj w v l) (h':jj w u m) (hn:l.length<=100000000) (hm:m.length<=100000000) (G:0<val m) (Z:val m<4294967296):
 Calls Tryz.prog 205 #[v,u] w (W5 (val l) (val m) w):=by
 have A:=ae (xM h (by omega));have Q:=ae h';obtain ⟨a,B⟩:=pS (val l);obtain ⟨d,H⟩:=pS (val m);rw [B] at A⊢;rw [H] at G Z⊢;have HD:=ae H;have Su:=ae hn;have W6:=ae h.2;have s:=ae B;clear H h' h hn B;go_enter Tryz.func205,Tryz.ntmps205;go_wp2_with fail;refine A.out.mono ?_;rintro e w1 ⟨v1,rfl,mL,E⟩;have mj:=ae mL;have X:=ae E;have tY:=ae (xM (Q.out.below E) (by omega));clear mL E A;go_wp2_with fail;refine tY.out.mono ?_;rintro e w2 ⟨v2,rfl,mM,F⟩;rw [HD.out] at mM;obtain ⟨l2,o,tf,jQ⟩:=mM;obtain ⟨x,rfl,hx⟩:=arK tf;obtain rfl:x=d:=hx.trans jQ;obtain ⟨a2,c2,N,rfl,uP,vG,mF,U⟩:=o.sl.form;obtain rfl:=uP (by simp);have M:w2.cell? (N.add 0)=some (.int .u32 (x:Int)):=U 0 (by simp);rw [show [x].length=1 from rfl] at vG⊢;have GS:=ae o;have Y:=ae (X.out.trans (F.mono X.out.size));have P:=ae ((mj.out.below F));obtain ⟨l1,f,oW,nu⟩:=P.out;obtain ⟨a1,c1,x1,rfl,_⟩:=f.sl.form;have W:=ae (Vb f.sl o.sl);have NL:=ae f.sl;have y:=ae oW;have C:=ae nu;have GU:l1.length<=maxLen:=by obtain ⟨_,_,_,_,_,_,h,_⟩:=f.sl.form;exact h
 unfold maxLen at GU;clear oW nu tf jQ hx;clear o F f U mF uP mj tY Q;have t:=ae (W4 y.out (C.out.trans s.out.symm) W6.out);go_wp2_with fail;refine W.out.mono ?_;rintro e w3 ⟨rfl,k⟩;rw [C.out,show val [x]=x by simp [val]];have q3:=(k.cell (aj w2 _ M)).trans M;have ka:=ae k;have i:=ae (Y.out.trans (k.mono Y.out.size));clear k M W;by_cases b:a<x
 ·have g:=ae (show a/x=0/\a % x=a from ⟨eK b,dV b⟩)
  rw [NB b];clear b;go_wp2_with fail;refine bodyPost_ret (v:= .tuple #[.slice none 0 0,.slice a1 l1.length c1,.bool true]) (by simp [results,Tryz.results205,go_sem]) rfl ?_;exact ⟨_,_,rfl,by rw [g.out.1];exact KP _ _,by rw [g.out.2];exact P.out.below ka.out,i.out⟩
 ·obtain ⟨j,R,ah5⟩: ∃j,tW a x=j/\0<=j:=⟨_,rfl,by unfold tW;rw [if_neg b];split<;>omega⟩
  rw [R];have ah6: ¬j<0:=by omega
  rw [show N.add 0=N from if_pos rfl] at q3;have p:=ae (aaj (NL.out.below ka.out) (aL t.out Su.out) x G Z);clear R b;go_wp2_with fail;rw [C.out] at p;refine p.out.mono ?_;rintro e w4 ⟨q,rfl,hq,pA⟩;obtain ⟨rr,D⟩:=pS (a % x);have I:rr<18446744073709551616:=by have:=cZ a G;omega
  rw [D];have z:=ae D;have g:=ae hq;have J:=ae (i.out.trans (pA.mono i.out.size));have Sx:=ae (Nz (w:=w4) rr I);clear D hq pA p;go_wp2_with fail;refine Sx.out.mono ?_;rintro e w5 ⟨v5,rfl,T,O⟩;have rK:=ae T;have S:=ae O;clear T O;go_wp2_with fail;refine bodyPost_ret (v:= .tuple #[q,v5,.bool true]) (by simp [results,Tryz.results205,go_sem]) rfl ?_;exact ⟨_,_,rfl,(g.out.below S.out).base i.out.size,by rw [z.out];exact rK.out.base J.out.size,J.out.trans (S.out.mono J.out.size)⟩
end
end
section
open Go.RowKit
variable {V n A N x P d U k R:Nat} {L Q o:List Nat} {w:World}
def arM (h:kT o) (b:d<4294967296):kT (o++ [d]):=fun x a=>by
 rcases b8.1 a with a|a
 ·exact h x a
 simp_all
def arN {f:Array Oper} {b:List Oper} {l:Oper} {a:Act} {Q:Exit->Act->World->Prop} (Y:l.guard=none) (s x:Operand) (O:l.op= .call {callee:= .builtin .append,args:= #[s,x],argTypes:= #[35,35]})
 (base:Nat) (q:base<=w.heap.size) (v:Value) (o:List Nat) (n:Nat) (J:o.length=n) (S:a.eval s=v) (m:gy w base v o) (B d:Nat) (T:a.eval x= .slice (some ⟨B,0,none⟩) 1 1)
 (F:w.heap[B]? =some (.cells #[.int .u32 (d:Int)] 193 (0,0))) (H:d<4294967296) (M:n<=100000000)
 (h: ∀g cap i,gy i base (.slice (some ⟨g,0,none⟩) (n+1) cap) (o++ [d])->(∀W,Below base W w->Below base W i)->
  wpList Tryz.prog f Q b (a.put l.dst (.slice (some ⟨g,0,none⟩) (n+1) cap)) i):wpList Tryz.prog f Q (l::b) a w:=by
 subst J;obtain ⟨X,t,z,C,y⟩:=info_parts CO;refine wpList_append_lies w Y s x 35 O base 193 X _ 1 4 Tryz.underlying35 t z C y rfl (by decide) v o.length (sH o) S m.1 ⟨B,0,none⟩ 1 1 [.int .u32 (d:Int)] T rfl (World.news_of_block (cs:= #[.int .u32 (d:Int)]) F)
  (by intro u p;simp at p;rw [p];rfl) (by omega) (by unfold maxLen;omega) (by omega) q w.heap.size rfl ?_
 intro g cap i D E Z _;refine h g cap i ⟨?_,arM m.2 H⟩ fun W G=>G.grown E q (fun j I=>(m.1.lt j I).1)
 rw [bp];have e:sH (o++ [d])=sH o++ [.int .u32 (d:Int)]:=by simp [sH]
 rw [e];exact D
def arO {base:Nat} {v:Value} (h:gy w base v o) (c:Obj):gy (w.alloc c) base v o:=⟨h.1.alloc c,h.2⟩
def ah7 {l:List Nat} (h:l.length<=n:=by omega):val l=bK (el l) n:=by
 rw [lM l];exact (KH h fun j a _=>by
  unfold el;simp_all).symm
def W7 (f:Nat->Nat) (a:Nat): ∀b,bK f (a+b)=bK f a+4294967296^a*bK (fun j=>f (a+j)) b
 |0=>by simp [bK]
 |b+1=>by
  show bK f (a+b)+4294967296^(a+b)*f (a+b)=bK f a+4294967296^a*(bK (fun j=>f (a+j)) b+4294967296^b*f (a+b));rw [W7 f a b,fA,bC,bD,ft]
def ah8: ∀ {l:List Nat} {k d:Nat},k<l.length->el l k=0->val (l.set k d)=val l+4294967296^k*d
 | [],k,d,h,_=>by simp at h
 |x::l,0,d,_,a=>by
  have:x=0:=a;subst this;simp [val,iH]
 |x::l,k+1,d,h,a=>by
  have b:=ah8 (l:=l) (k:=k) (d:=d) (by simp_all) a;show x+4294967296*val (l.set k d)=x+4294967296*val l+_;grind
def ah9: ∀n,val (List.replicate n 0)=0
 |0=>rfl
 |n+1=>by show 0+4294967296*val (List.replicate n 0)=0;rw [ah9 n]
def aia: ∀l:List Nat,val (l++ [0])=val l
 | []=>rfl
 |x::l=>by show x+4294967296*val (l++ [0])=x+4294967296*val l;rw [aia l]
structure AR (A V n N k:Nat) (L Q:List Nat):Prop where
 len:L.length=N
 ab5:Q.length=N-n
 lim:kT L
 high: ∀j,k+n<=j->el L j=0
 low: ∀j,j<k->el Q j=0
 sum:val Q*V+bK (el L) (k+n)=A
 less:bK (el L) (k+n)<4294967296^k*V
def arQ (h:x+P*U<P*n*V):U<n*V:=by
 have:P*U<P*(n*V):=by grind
 exact kj this
def AR.ab6 (h:AR A V n N (k+1) L Q):bK (mJ L k) (n+1)<4294967296*V:=by
 have a:=h.less;rw [show k+1+n=k+(n+1) by omega,W7,bL] at a;exact arQ a
def arR {q:Nat} (b:q*V+(x+P*U)=A) (a:d*V+R=U):(q+P*d)*V+(x+P*R)=A:=by
 grind
def arS (b:x<P) (a:R<V):x+P*R<P*V:=by
 have:P*(R+1)<=P*V:=aR _ a;grind
def AR.next {a:List Nat} (h:AR A V n N (k+1) L Q) (F:k+n<N) (u:0<V) (y:V<=4294967296^n) (z:a.length=N) (B:kT a) (m: ∀j,j<k\/k+n<j->el a j=el L j) (g:bK (mJ a k) (n+1)=bK (mJ L k) (n+1) % V):
 AR A V n N k a (Q.set k (bK (mJ L k) (n+1)/V)):=by
 have f:=h.ab6;obtain ⟨U,i⟩:=pS (bK (mJ L k) (n+1));rw [i] at g f⊢;have t:U % V<V:=cZ _ u;have D:bK (el a) k=bK (el L) k:=Br fun j b=>m j (.inl b)
 have E:el a (k+n)=0:=by
  have s:bK (mJ a k) n+4294967296^n*el a (k+n)=U % V:=g;rcases bT (el a (k+n)) with e|e
  ·exact e
  ·exfalso
   have:4294967296^n*1<=4294967296^n*el a (k+n):=aR _ e;omega
 have q:bK (mJ a k) n=U % V:=by
  have s:bK (mJ a k) n+4294967296^n*el a (k+n)=U % V:=g;simp_all
 have l:bK (el a) (k+n)=bK (el L) k+4294967296^k*(U % V):=by
  rw [W7,D];show _+4294967296^k*bK (mJ a k) n=_;grind
 have C:bK (el L) k<4294967296^k:=qG (fun j=>vN h.lim j) k;have p:=h.sum;rw [show k+1+n=k+(n+1) by omega,W7] at p;refine ⟨z,by rw [bu];exact h.ab5,B,fun j b=> ?_,fun j b=> ?_,?_,?_⟩
 ·rcases Nat.eq_or_lt_of_le b with e|e
  ·simp_all
  ·rw [m j (.inr e)];exact h.high j (by omega)
 ·rw [uA _ (by rw [h.ab5];omega),if_neg (by omega)]
  exact h.low j (by omega)
 ·rw [ah8 (by rw [h.ab5];omega) (h.low k (by omega)),l]
  refine arR (U:=U) ?_ (by rw [bG];exact du U V);rw [<-i];exact p
 ·rw [l];exact arS C t
def AR.start (b:L.length=N) (e:kT L) (a:val L=A) (l:0<n) (h:n<N) (g:4294967296^(n-1)<=V) (f:A<4294967296^(N-1)):AR A V n N (N-n) L (List.replicate (N-n) 0):=by
 refine ⟨b,aV,e,fun j i=> ?_,fun j _=> ?_,?_,?_⟩
 ·unfold el
  grind
 ·unfold el
  simp_all
 ·rw [ah9,Nat.zero_mul,dr,<-ah7];omega
 ·rw [<-ah7,a]
  refine ax f ?_;rw [show N-1=(N-n)+(n-1) by omega,bC];exact aR _ g
def AR.done (h:AR A V n N 0 L Q) (g:n<=N):A/V=val Q/\A % V=val (L.take n):=by
 have a:=h.less;have b:=h.sum;rw [dr,kS,j6] at a;rw [dr] at b;have e:val (L.take n)=bK (el L) n:=by
  rw [lM,cY,h.len,fe g];refine Br fun j i=> ?_
  unfold el;simp_all
 rw [e];have f:A/V=val Q:=oD (by omega) (by grind);refine ⟨f,?_⟩;have:=du A V;grind
def arU (a b s:Nat):a*2^s/(b*2^s)=a/b/\a*2^s % (b*2^s)=a % b*2^s:=
 ⟨Nat.mul_div_mul_right _ _ (aM (by decide)),Nat.mul_mod_mul_right _ _ _⟩
end
section
open Go.Proofs.Tryz Go.RowKit
def arV {P lo x t M:Nat} (e:lo<P) (a:2147483648<=x*t) (b:(x+1)*t<=4294967296) (k:M=(lo+P*x)*t):P*2147483648<=M/\M<P*4294967296:=by
 have f:M=lo*t+P*(x*t):=by grind
 have g:P*2147483648<=P*(x*t):=aR _ a;have h:P*((x+1)*t)<=P*4294967296:=aR _ b;have i:P*((x+1)*t)=P*(x*t)+P*t:=by grind
 have d:0<t:=by
  grind
 have j:lo*t<P*t:=fJ e d;omega
def arW {P lo y M:Nat} (d:lo<P) (h:P*2147483648<=M) (b:M=lo+P*y):2147483648<=y:=by
 rcases b6 y 2147483648 with a|a
 ·exfalso
  have:P*(y+1)<=P*2147483648:=aR _ a;grind
 omega
def arX {x b s:Nat} (e:2^b<=x) (f:x<2^(b+1)) (g:s+b=31):2147483648<=x*2^s/\(x+1)*2^s<=4294967296:=by
 have a:2^b*2^s=2147483648:=by rw [<-bC,iH b s,g]
 have d:2^(b+1)*2^s=4294967296:=by grind
 exact ⟨a▸aN _ e,d▸aN _ f⟩
def arY {m vs:List Nat} {n x s b:Nat} (u:kT m) (t:m.length=n+1) (z:el m n=x) (i:2^b<=x) (k:x<2^(b+1)) (y:s+b=31) (f:kT vs) (D:cS vs=vs.length) (g:val vs=val m*2^s):
 vs.length=n+1/\2147483648<=el vs n/\4294967296^n<=val vs:=by
 obtain ⟨A,B⟩:=arX i k y;have e:=arV (M:=val vs) (qG (fun j=>vN u j) n) A B (by rw [g,lM m,t,<-z];rfl);have E:val vs<4294967296^vs.length:=by rw [lM vs];exact qG (fun j=>vN f j) _
 have q:4294967296^n<=val vs:=aL (fY _ (by decide)) e.1;have C:n<vs.length:=by
  rcases b6 n vs.length with h|h
  ·exact h
  ·exfalso
   have:4294967296^vs.length<=4294967296^n:=aF (by decide) h;omega
 have G:vs.length<=n+1:=by
  have o:=KU (l:=vs);have p:4294967296^(cS vs-1)<4294967296^(n+1):=bg o (by omega);have F:=(dB (a:=4294967296) (by decide)).1 p;omega
 have d:vs.length=n+1:=by omega
 refine ⟨d,arW (qG (fun j=>vN f j) n) e.1 ?_,q⟩;rw [lM vs,d];rfl
def arZ {l us:List Nat} {s:Nat} (h:kT l) (i:s<=31) (o:cS us=us.length) (k:val us=val l*2^s):us.length<=l.length+1:=by
 rcases b6 0 us.length with b|b
 ·have d:=KU (l:=us)
  have e:val l<4294967296^l.length:=by rw [lM l];exact qG (fun j=>vN h j) _
  have f:2^s<=4294967296:=aL (aF (by decide) i) (by decide);have g:val us<4294967296^(l.length+1):=by
   rw [k,bL];exact bg (aR _ f) (fJ e (by decide))
  have m:=(dB (a:=4294967296) (by decide)).1 (bg d g);omega
 omega
def ar8 {us vs:List Nat} {n:Nat} (d:kT us) (e:4294967296^n<=val vs) (h:val vs<=val us):n<us.length:=by
 have b:val us<4294967296^us.length:=by rw [lM us];exact qG (fun j=>vN d j) _
 exact (dB (a:=4294967296) (by decide)).1 (bg (aL e h) b)
def aib {w w':World} {base b n c:Nat} {l:List Nat} (h:gy w base (.slice (some ⟨b,0,none⟩) n c) l) (f:w'.heap[b]? =w.heap[b]?):gy w' base (.slice (some ⟨b,0,none⟩) n c) l:=by
 refine ⟨⟨h.1.1,?_⟩,h.2⟩;rcases h.1.2 with ⟨e,_⟩|⟨g,cap,cur,e,a,d,r⟩
 ·cases e
 ·cases e
  exact .inr ⟨_,_,cur,rfl,a,f.trans d,r⟩
def ar9 {w:World} {g b j:Nat} {v:Value} (h:b≠g):(w.setCell ⟨g,j,none⟩ v).heap[b]? =w.heap[b]? :=by
 simp only [World.setCell,eL];grind
def ab7 {w:World} {base b n c:Nat} {l:List Nat} (h:gy w base (.slice (some ⟨b,0,none⟩) n c) l):n<=c/\c<=maxLen/\base<=b/\b<w.heap.size/\l.length=n:=by
 rcases h.1.2 with ⟨e,_⟩|⟨g,cap,cur,e,a,d,r⟩
 all_goals grind
def asa {w:World} {base base':Nat} {v:Value} {l:List Nat} (h:gy w base v l) (d:base'<=base):gy w base' v l:=by
 refine ⟨⟨h.1.1,?_⟩,h.2⟩;rcases h.1.2 with a|⟨g,cap,cur,e,b,r⟩
 ·exact .inl a
 ·exact .inr ⟨g,cap,cur,e,aL d b,r⟩
def ue {w0 a b:World} (h:Below w0.heap.size w0 a) (h':Below a.heap.size a b):Below w0.heap.size w0 b:=h.trans (h'.mono h.size)
def asb {w:World} {base s:Nat} {x:Value} {m:List Nat} (h:nr w base x (val m)) (f:kT m) (g:m.length<=50000000) (i:s<=31) (w':World) (e:Below w.heap.size w w'):Calls prog 142 #[x,.int .i64 (s:Int)] w' (rE (val m/2^s) w'):=by
 obtain ⟨l,b,d,a⟩:=h;have:=ae7 (b.sl.below e) (aL (W4 d a f) (by omega)) s (by omega);rw [a] at this;exact this
structure Jf (w4 wr:World) (g gq p mN M:Nat) (L Q:List Nat):Prop where
 u:gy wr w4.heap.size (.slice (some ⟨g,0,none⟩) (p+1) mN) L
 q:gy wr w4.heap.size (.slice (some ⟨gq,0,none⟩) M M) Q
 below:Below w4.heap.size w4 wr
def Jf.digit {b wr w':World} {g a p e M:Nat} {L Q f:List Nat} (h:Jf b wr g a p e M L Q) (d:a≠g) (j:b.heap.size<=g) (k:gy w' b.heap.size (.slice (some ⟨g,0,none⟩) (p+1) e) f) (i:rU g wr w'):Jf b w' g a p e M f Q:=
 ⟨k,aib h.q (i.block a d),h.below.trans (i.below j)⟩
def Jf.put {f wr:World} {g a p i M:Nat} {L Q:List Nat} (h:Jf f wr g a p i M L Q) (b:a≠g) (l:f.heap.size<=a) {k d:Nat} (j:d<4294967296):Jf f (wr.setCell ⟨a,k,none⟩ (.int .u32 (d:Int))) g a p i M L (Q.set k d):=
 ⟨aib h.u (ar9 (fun e=>b e.symm)),h.q.set j,h.below.setCell l _⟩
section
variable {w:World}
def asc {x b s:Nat} (j:x<4294967296) (g:Lib.bitLen x=b+1) (h:s+b=31):Calls prog 262 #[.int .u32 (x:Int)] w (wG (.int .i64 (s:Int)) w):=by
 have a:=ae (afg (x:Int) w (by omega) (by omega));have f:(x:Int).toNat=x:=by omega
 have d:(32:Int)-((b:Int)+1)=(s:Int):=by omega
 go_enter func262,ntmps262;go_wp2_with fail;refine a.out.mono ?_;rintro e i ⟨rfl,rfl⟩;rw [f,g,show (((b+1:Nat)):Int)=(b:Int)+1 by omega];go_wp2_with fail;go_ret;exact zW rfl
def ase {v u:Value} {l m:List Nat} (h:jj w v l) (h':jj w u m) (hn:l.length<=50000000) (hm:m.length<=50000000) (h1:4294967296<=val m):
 Calls prog 205 #[v,u] w (W5 (val l) (val m) w):=by
 have HT:=ae (xM h (by omega));have HM:=ae h';obtain ⟨o,LK⟩:=pS (val l);obtain ⟨d,hd⟩:=pS (val m);rw [LK] at HT⊢;rw [hd] at h1⊢;have HD:=ae hd;have Su:=ae (af hn hm);have W6:=ae (af h.2 h'.2);have HAV:=ae LK;clear hd h' h hn hm LK;go_enter func205,ntmps205;go_wp2_with fail;refine HT.out.mono ?_;rintro e w1 ⟨v1,rfl,mL,bP⟩;have mj:=ae mL;have cC:=ae bP;have tY:=ae (xM (HM.out.below bP) (by have:=Su.out;omega));clear mL bP HT;go_wp2_with fail;refine tY.out.mono ?_;rintro e w2 ⟨v2,rfl,mM,dz⟩;rw [HD.out] at mM;obtain ⟨z,pG,tf,jQ⟩:=mM;obtain ⟨n,H⟩: ∃n,z.length=n/\2<=n:=by
  rcases z with _|⟨x,_|⟨y,t⟩⟩
  ·exfalso;rw [<-jQ] at h1;simp [val] at h1
  ·exfalso
   have:=pG.2 x (by simp);rw [<-jQ] at h1;simp [val] at h1;omega
  ·exact ⟨_,rfl,by simp⟩
 have asf:z.length<=50000000:=aL (W4 tf (jQ.trans HD.out.symm) W6.out.2) Su.out.2;obtain ⟨H,asg⟩:=H;rw [H] at asf;obtain ⟨f,P⟩: ∃f,n=f+1:=⟨n-1,by omega⟩;obtain ⟨a2,c2,x2,rfl,uP,vG,mF,Sv⟩:=pG.sl.form;obtain rfl:=uP (by omega);have q0:=Sv f (by omega);obtain ⟨x,hx⟩:=pS (z.getD f 0);rw [hx] at q0;have mT:0<x:=by have:=Qz z (by omega);rw [tf,H,show n-1=f by omega] at this;rw [<-hx];exact gp this
 have xK:x<4294967296:=by rw [<-hx];exact nf pG.2 _
 obtain ⟨b,mG,oI,ke⟩:=afn mT xK;have aGb:b<=31:=by
  rcases b6 b 32 with h|h
  ·omega
  ·exfalso
   have:2^32<=2^b:=aF (by decide) h;omega
 obtain ⟨s,hs⟩: ∃s,s+b=31:=⟨31-b,by omega⟩;have GS:=ae pG;have gC:=ae (cC.out.trans (dz.mono cC.out.size));have HF:=ae ((mj.out.below dz));obtain ⟨l1,sJ,oW,nu⟩:=HF.out;obtain ⟨a1,c1,x1,rfl,_⟩:=sJ.sl.form;have R:jj w2 (.slice (some x2) n c2) z:=by have:=pG.sl;rw [H] at this;exact this
 have ash:=ae R;have Sw:=ae (Vb sJ.sl R);have NL:=ae sJ.sl;have HN1:=ae oW;have LL:=ae nu;have GU:l1.length<=50000000:=aL (W4 oW (nu.trans HAV.out.symm) W6.out.1) Su.out.1;have B:=ae (show el z f=x/\2^b<=x/\x<2^(b+1)/\s+b=31/\z.length=f+1/\val z=d/\cS z=z.length from ⟨hx,oI,ke,hs,H.trans P,jQ,tf⟩);rw [H] at vG⊢;have HLZ:=ae (fun A:World=>asc (w:=A) xK mG hs);clear oW nu tf jQ hx oI ke mG mT xK H R;clear pG dz sJ Sv mF uP mj tY HM;have e2:((n:Int)==0)=false:=by rw [cO];intro e;rw [beq_iff_eq] at e;omega
 have e3:(n:Int)-1=(f:Int):=by omega
 have e4:((n:Int)==1)=false:=by rw [cO];intro e;rw [beq_iff_eq] at e;omega
 have aGc:(f:Int)<(n:Int):=by omega
 have aGd:(0:Int)<=(f:Int):=by omega
 have N:=ae (af P asg);clear P;go_wp2_with fail;refine Sw.out.mono ?_;rintro e w3 ⟨rfl,ke⟩;rw [LL.out,B.out.2.2.2.2.2.1];have q3:=(ke.cell (aj w2 _ q0)).trans q0;have ka:=ae ke;have Jc:=ae (gC.out.trans (ke.mono gC.out.size));clear ke q0 Sw;by_cases bA:o<d
 ·have HQ:=ae (show o/d=0/\o % d=o from ⟨eK bA,dV bA⟩)
  rw [NB bA];clear bA;go_wp2_with fail;refine bodyPost_ret (v:= .tuple #[.slice none 0 0,.slice a1 l1.length c1,.bool true]) (by simp [results,results205,go_sem]) rfl ?_;exact ⟨_,_,rfl,by rw [HQ.out.1];exact KP _ _,by rw [HQ.out.2];exact HF.out.below ka.out,Jc.out⟩
 ·obtain ⟨ci,Jd,ah5⟩: ∃ci,tW o d=ci/\0<=ci:=⟨_,rfl,by unfold tW;rw [if_neg bA];split<;>omega⟩
  rw [Jd];have ah6: ¬ci<0:=by omega
  have HGE:=ae (show d<=o by omega);clear Jd bA;go_wp2_with fail;refine (HLZ.out _).mono ?_;rintro e A ⟨rfl,rfl⟩;have W9:=ae (Z6 (ash.out.below ka.out) (by rw [B.out.2.2.2.2.1];have:=N.out;omega) s (by omega));go_wp2_with fail;refine W9.out.mono ?_;rintro e I ⟨v4,rfl,mV,pA⟩;rw [B.out.2.2.2.2.2.1] at mV;obtain ⟨vs,yW,RV,Sz⟩:=mV;obtain ⟨I9,hvt,hvp⟩:=arY GS.out.2 B.out.2.2.2.2.1 B.out.1 B.out.2.1 B.out.2.2.1 B.out.2.2.2.1 yW.2 RV (by rw [Sz,B.out.2.2.2.2.2.1]);have oP:=ae (Jc.out.trans (pA.mono Jc.out.size));have Xa:=ae (Z6 ((NL.out.below ka.out).below pA) (by omega) s (by omega));rw [LL.out] at Xa;obtain ⟨a4,c4,x4,rfl,ha4,uf,hm4,pH⟩:=yW.sl.form;have SA:vs.length=n:=by have:=N.out;omega
  obtain rfl:=ha4 (by omega);have aic:jj I (.slice (some x4) n c4) vs:=by have:=yW.sl;rw [SA] at this;exact this
  rw [SA] at uf;rw [SA];have hx4:x4.block<I.heap.size:=aj I _ (by have:=pH 0 (by omega);rw [show x4.add 0=x4 from if_pos rfl] at this;exact this);have SB:=ae (af aic (af hx4 (af yW.2 SA)));have i:=ae (af hvt (af hvp Sz));clear yW RV Sz pA I9 hvt hvp W9 pH hm4 ha4 SA aic hx4;go_wp2_with fail;refine Xa.out.mono ?_;rintro e w5 ⟨v5,rfl,LM,Ae⟩;obtain ⟨us,Y,hnu,Xb⟩:=LM;have Ot:=arZ (s:=s) NL.out.2 (by omega) hnu (by rw [Xb,LL.out]);have asi:=ar8 (us:=us) (n:=f) Y.2 i.out.2.1 (by rw [i.out.2.2,Xb];exact aN _ HGE.out);obtain ⟨p,hp⟩:=pS us.length;rw [hp] at Ot asi;have HOU:=ae Y;have HU:=ae (af hp Xb);have Je:=ae Ae;have W3:p<=50000001:=by omega
  clear Y hnu Xb hp Ae Ot;obtain ⟨M,hM⟩: ∃M,n+M=p+1:=⟨p+1-n,by have:=N.out;omega⟩;have eM1:(p:Int)+1-(n:Int)=(M:Int):=by omega
  have eM2:((p+1:Nat):Int)-(n:Int)=(M:Int):=by omega
  have hMb:M<=50000001:=by omega
  obtain ⟨i0,eT,fL,gd,fG⟩:=info_parts CO;go_wp2_with (first
   |(at_builtin;refine arN rfl _ _ rfl I.heap.size (by have:=Je.out.size;simp;omega) _ us p HU.out.1 rfl (arO HOU.out _) w5.heap.size 0 rfl (heap_alloc_new w5 _) (by decide) (by omega) ?_;intro g G D aid aie;have O:=ae aid;have GV:=ae (aie I (Je.out.alloc Je.out.size _));clear aid aie)
   |(refine wpList_make_full D rfl (.tmp 67) (.tmp 67) 35 rfl D.heap.size 193 i0 _ 1 underlying35 eT fL gd _ _ _ _ M rfl rfl (by first|rfl|omega) (by first|rfl|omega) (by rw [fG];omega) (by unfold maxLen;omega) (ak _) ?_;intro w7 X hg))
  have B3:Below D.heap.size D w7:=(aG _ _).grown hg (ak _) (by intro k hk;cases hk);rw [FO] at X;have hO:gy w7 D.heap.size (.slice (some ⟨D.heap.size,0,none⟩) M M) (List.replicate M 0):=⟨by rw [aV];exact X,FP _⟩;have yd:=ab7 O.out;have hW:Jf I w7 g D.heap.size p G M (us++ [0]) (List.replicate M 0):=⟨ahZ O.out B3,asa hO GV.out.size,GV.out.trans (B3.mono GV.out.size)⟩;have T:D.heap.size≠g:=by have:=yd.2.2.2.1;omega
  have AQ:AR (o*2^s) (d*2^s) n (p+1) (p+1-n) (us++ [0]) (List.replicate (p+1-n) 0):=AR.start (by rw [bp,HU.out.1];rfl) O.out.2 (by rw [aia];exact HU.out.2) (by omega) (by omega) (by rw [show n-1=f by omega,<-i.out.2.2];exact i.out.2.1) (by rw [<-HU.out.2,lM us,HU.out.1];exact qG (fun j=>vN HOU.out.2 j) _);rw [show p+1-n=M by omega] at AQ;obtain ⟨gq,qV⟩:=pS D.heap.size;have aif:I.heap.size<=gq:=by rw [<-qV];exact GV.out.size
  rw [qV] at hW T⊢;have HW0:=ae hW;have HST:=ae AQ;have HG:=ae (af T (af yd.2.2.1 aif));have aGe:(p:Int)+1<=(G:Int):=by have:=yd.1;omega
  have aGf:(G:Int)<=9223372036854775807:=by have:=yd.2.1;unfold maxLen at this;omega
  clear X hg B3 hO yd hW T AQ qV aif eT fL gd fG
  go_loopg [15] M (fun gh iv wr=> ∃(k:Nat) (L Q:List Nat),gh=k/\k<=M/\((k=0/\iv= .int .i64 (-1))\/(0<k/\iv= .int .i64 ((k-1:Nat):Int)))/\AR (o*2^s) (d*2^s) n (p+1) k L Q/\Jf I wr g gq p G M L Q)
  case atStart=>exact ⟨M,_,_,rfl,ak _,.inr ⟨by omega,by go_num⟩,HST.out,HW0.out⟩
  case round=>
   obtain ⟨kk,L,Q,hgk,hkM,QB,E,C⟩:=hrel;have HGK:=ae hgk;clear hgk;have asj:=ae E;have gf:=ae C;rcases QB with ⟨rfl,rfl⟩|⟨jG,rfl⟩
   ·have CQ:=E.done (by omega)
    have W:=arU o d s;have Im:=ae (show val Q=o/d/\val (L.take n)/2^s=o % d from ⟨by rw [<-CQ.1,W.1],by rw [<-CQ.2,W.2];exact oO _ (aM (by decide))⟩);have NI:=C.u.take (k:=n) (by rw [E.len];omega);have vm:=ae (show kT (L.take n)/\(L.take n).length<=50000000 from ⟨NI.2,by rw [cY];omega⟩);have HQT:=ae (fun (A:World) (a:Below wr.heap.size wr A)=>xM (w:=A) (v:= .slice (some ⟨gq,0,none⟩) M M) (C.q.sl.below a) (by rw [(ab7 C.q).2.2.2.2];omega));have HUT:=ae (fun (A:World) (a:Below wr.heap.size wr A)=>xM (w:=A) (v:= .slice (some ⟨g,0,none⟩) n G) (NI.sl.below a) (by have:=vm.out.2;omega));have S:=ae (ue oP.out C.below);have J:=ae (aG wr.heap.size wr).drew;have aGg:(n:Int)<=(G:Int):=by omega
    have aGh:(0:Int)<=(n:Int):=by omega
    have aGi:n<=G:=by omega
    clear E C CQ W NI;go_wp2_with fail
    go_region_held3 (fun _=>True) (exact trivial)
     (first
      |(go_at_call 142;refine (HSR.out _ (aG _ _)).mono ?_;rintro e' wz ⟨xr,rfl,l9,a⟩;have HR:=ae (af (I'.out.below a) (af (l9.base (base':=w.heap.size) (aL S.out.size hbu.size)) (ue hbu a)));clear l9 a)
      |(go_at_call 119;refine (HUT.out _ yI).mono ?_;rintro e' wu ⟨xu,rfl,hfu,a⟩;have I':=ae (I'.out.below a);have HSR:=ae (asb (s:=s) hfu vm.out.1 vm.out.2 (by omega));have hbu:=ue yI a;clear hfu a)
      |(go_at_call 119;refine (HQT.out _ J.out).mono ?_;rintro e' wq ⟨xq,rfl,hfq,a⟩;have I':=ae (hfq.base (base':=w.heap.size) (aL S.out.size J.out.size));have yI:=ue (w0:=wr) J.out a;clear hfq a))
    all_goals
     go_wp2_with fail;refine bodyPost_ret (v:= .tuple #[xq,xr,.bool true]) (by simp [results,results205,go_sem]) rfl ?_;exact ⟨_,_,rfl,Im.out.1▸HR.out.1,Im.out.2▸HR.out.2.1,ue S.out HR.out.2.2⟩
   ·obtain ⟨k,rfl⟩: ∃k,kk=k+1:=⟨kk-1,by omega⟩
    rw [dS];have aGj:(0:Int)<=(k:Int):=by omega
    have hkb:(k:Int)<=50000001:=by omega
    have gW:k+n<p+1:=by omega
    have aGk:(k:Int)+(n:Int)+1<=(p:Int)+1:=by omega
    have aGl:(k:Int)<(M:Int):=by omega
    have HDG:=ae (arF (cu:=G-k) (n:=n) (k:=k) C.u E.len gW (by omega) (by omega) (SB.out.1.below C.below) SB.out.2.2.2 (by rintro x c e;cases e;have:=SB.out.2.1;have:=HG.out.2.1;omega) (by rw [show n-1=f by omega];exact i.out.1) (by have:=E.ab6;rw [<-i.out.2.2] at this;exact this));have QN:bK (fun j=>el L (k+j)) (n+1)/val vs<4294967296:=by
     have:=E.ab6;rw [<-i.out.2.2,bG] at this;exact nD this
    obtain ⟨dq,U⟩:=pS (bK (fun j=>el L (k+j)) (n+1)/val vs);rw [U] at HDG QN;have HDQ:=ae U;clear E C U jG;go_wp2_with fail;rw [show k+n+1-k=n+1 by omega];refine HDG.out.mono ?_;rintro e A ⟨L',rfl,hl,X,C0,F,aih⟩;have Xc:=gf.out.digit HG.out.1 HG.out.2.1 X aih;have Z:=ab7 Xc.q;have uB:=Xc.q.1;rw [Z.2.2.2.2] at uB;have l9:=uB.frozenAt k;obtain ⟨cq,hcq⟩: ∃cu,A.cell? ⟨gq,k,none⟩=some cu:=⟨_,rC uB (rD (by rw [Z.2.2.2.2];omega))⟩;have vP:=ae Xc;have lU:=ae (AR.next asj.out gW (by have:=i.out.2;rw [<-this.2];exact ax (aM (by decide)) this.1) (by rw [<-i.out.2.2,lM,SB.out.2.2.2];exact aQ (qG (fun j=>vN SB.out.2.2.1 j) _)) hl X.2 C0 (by rw [<-i.out.2.2];exact F));clear hl X C0 F aih Xc Z uB;go_wp2_with fail
    go_roundg k
    case measure=>have:=HGK.out;omega
    case rel=>
     refine ⟨k,L',Q.set k dq,rfl,by omega,?_,?_,vP.out.put HG.out.1 HG.out.2.2 QN⟩
     ·rcases bT k with e|e
      ·subst e;exact .inl ⟨rfl,by go_num⟩
      ·exact .inr ⟨e,by go_num⟩
     ·have:=lU.out
      rw [<-i.out.2.2] at this⊢;rw [show bK (mJ L k) (n+1)/val vs=dq from HDQ.out] at this;exact this
end
end
section
open Go.RowKit
def asl {l:List Nat} (h:l.length=0):val l=0:=by rw [b7 h];rfl
section
variable {w:World}
def asm {v u:Value} {l m:List Nat} (h:jj w v l) (h':jj w u m) (e:l.length<=50000000) (d:m.length<=50000000) (b:0<val m):
 Calls Tryz.prog 205 #[v,u] w (W5 (val l) (val m) w):=by
 rcases b6 (val m) 4294967296 with a|a
 ·exact arL h h' (by omega) (by omega) b a
 ·exact ase h h' e d a
def SC {u v:Value} {a b:Nat} (h:eD w u a) (h':eD w v b) (g:Sm a) (d:Sm b) (e:0<b):Calls Tryz.prog 205 #[u,v] w (W5 a b w):=by
 obtain ⟨l,f,j,rfl,k⟩:=h.lim g;obtain ⟨m,i,o,rfl,p⟩:=h'.lim d;exact asm f i (by omega) (by omega) e
def asn {u v:Value} {a b:Nat} (h:eD w u a) (h':eD w v b) (Q:Sm a) (N:Sm b):Calls Tryz.prog 299 #[u,v] w (rE (Nat.gcd a b) w):=by
 obtain ⟨l,h1,h2,rfl,h4⟩:=h.lim Q;obtain ⟨m,k1,k2,rfl,k4⟩:=h'.lim N;have W:=ae (xM h1 (by omega));have T:=ae k1;have U:=ae (af Q N);clear h h' h1 h2 k1 k2 Q N;go_enter Tryz.func299,Tryz.ntmps299;go_wp2_with fail;refine W.out.mono ?_;rintro e w1 ⟨v1,rfl,mL,j⟩;have mj:=ae mL;have M:=ae j;have tY:=ae (xM (T.out.below j) (by omega));clear mL j W;go_wp2_with fail;refine tY.out.mono ?_;rintro e w2 ⟨v2,rfl,mM,k⟩;have j5:=ae mM;have js:=ae (mj.out.below k);have gC:=ae (M.out.trans (k.mono M.out.size));have FZ:=ae M.out.size;clear mM k tY mj T;go_wp2_with fail
 go_loopg [0,1] (val m) (fun gh p q wr=> ∃x y:Nat,gh=y/\Sm x/\Sm y/\(∃b1,w.heap.size<=b1/\nr wr b1 p x)/\(∃J,w.heap.size<=J/\nr wr J q y)/\Nat.gcd x y=Nat.gcd (val l) (val m)/\Below w.heap.size w wr)
 case atStart=>exact ⟨_,_,rfl,U.out.1,U.out.2,⟨_,ak _,js.out⟩,⟨_,FZ.out,j5.out⟩,rfl,gC.out⟩
 case round=>
  obtain ⟨x,y,s,t,z,⟨b1,j,hx⟩,⟨J,k,Z⟩,hg,hb⟩:=hrel;have G:=ae s;have X:=ae hx;have H:=ae Z;have S:=ae hg;have B:=ae hb;have D:=ae j;have E:=ae k;have A:=ae (af t z);obtain ⟨ly,g,f,C⟩:=Z;obtain ⟨ay,cy,xy,rfl,P,_⟩:=g.sl.form;obtain ⟨n,o⟩:=pS ly.length;rw [o] at H⊢;clear hx hg hb j k s t z P;by_cases O:n=0
  ·have i:y=0:=by rw [<-C];exact asl (o.trans O)
   subst O;have d:=ae i;clear f C g o i;go_wp2_with fail;go_ret;exact ⟨_,rfl,by rw [<-S.out,d.out,Nat.gcd_zero_right];exact X.out.base D.out,B.out⟩
  ·have i:0<y:=by
    rcases bT y with e|e
    ·exfalso
     have:=aad f (C.trans e);rw [this] at o;exact O o.symm
    ·exact e
   have hnb:((n:Int)==0)=false:=by rw [cO];intro e;rw [beq_iff_eq] at e;omega
   have Y:=ae (SC X.out.r H.out.r A.out.1 A.out.2 i);have d:=ae i;clear f C g o i;go_wp2_with fail;refine Y.out.mono ?_;rintro e w4 ⟨q,r,rfl,hq,hr,R⟩;have bA:x % y<y:=cZ _ d.out;have HR:=ae hr;have I:=ae (H.out.below R);have oP:=ae (B.out.trans (R.mono B.out.size));have F:=ae (show Nat.gcd y (x % y)=Nat.gcd (val l) (val m) by rw [<-S.out,Nat.gcd_comm x y,Nat.gcd_rec y x,Nat.gcd_comm]);have Ab:=ae B.out.size;have vm:=ae bA;clear hq hr R Y bA;go_wp2_with fail
   go_roundg (x % y)
   case measure=>have:=G.out;have:=vm.out;omega
   case rel=>exact ⟨y,x % y,rfl,A.out.2,F0 A.out.2 (aQ vm.out),⟨_,E.out,I.out⟩,⟨_,Ab.out,HR.out⟩,F.out,oP.out⟩
end
end
section
open Go.RowKit
def aso (a b:Nat) (w:World) (e:Ending) (w':World):Prop:= ∃q r,e= .returned (.tuple #[q,r,.bool true])/\nr w' w.heap.size q (a/Nat.gcd a b)/\nr w' w.heap.size r (b/Nat.gcd a b)/\Below w.heap.size w w'
section
variable {w:World}
def asp {u v:Value} {a b:Nat} (h:eD w u a) (h':eD w v b) (t:Sm a) (f:Sm b) (s:0<b):Calls Tryz.prog 244 #[u,v] w (aso a b w):=by
 have z:0<Nat.gcd a b:=iL _ s;have j:Sm (Nat.gcd a b):=F0 f (Nat.gcd_le_right _ s);have F:=ae (Vo h' f);have i:eW b≠0:=by unfold eW;rw [if_neg (by omega)];omega
 have A:=ae (asn h h' t f);have B:=ae (af h h');have d:=ae (af t (af f (af j z)));obtain ⟨k,H⟩:=pS (eW b);rw [H] at F i;have O:((k:Int)==0)=false:=by rw [cO];intro e;rw [beq_iff_eq] at e;omega
 clear h h' t f j z s H i;go_enter Tryz.func244,Tryz.ntmps244;go_wp2_with fail;refine F.out.mono ?_;rintro e U ⟨rfl,rfl⟩;go_wp2_with fail;refine A.out.mono ?_;rintro e W ⟨g,rfl,y,m⟩;have G:=ae m;have R:=ae y;have D:=ae (SC (B.out.1.below m) y.r d.out.1 d.out.2.2.1 d.out.2.2.2);clear m y A;go_wp2_with fail;refine D.out.mono ?_;rintro e X ⟨q,r,rfl,I,P,o⟩;have C:=ae (I.base G.out.size);have p:=ae (ue G.out o);have E:=ae (SC (B.out.2.below p.out) (R.out.below o).r d.out.2.1 d.out.2.2.1 d.out.2.2.2);clear I P o D;go_wp2_with fail;refine E.out.mono ?_;rintro e Y ⟨S,T,rfl,J,M,x⟩;have N:=ae (J.base p.out.size);have l:=ae (C.out.below x);have Q:=ae (ue p.out x);clear J M x E C;go_wp2_with fail;refine bodyPost_ret (v:= .tuple #[q,S,.bool true]) (by simp [results,Tryz.results244,go_sem]) rfl ?_;exact ⟨_,_,rfl,l.out,N.out,Q.out⟩
end
end
section
open Go.RowKit
section
variable {w:World}
def aii {u:Value} {a:Nat} (h:eD w u a) (f:Sm a):Calls Tryz.prog 353 #[u] w (rE (a*a) w):=by
 have g:=ae (Sk h h f f);go_enter Tryz.func353,Tryz.ntmps353;go_wp2_with fail;refine g.out.mono ?_;rintro e i ⟨y,rfl,b,d⟩;have R:=ae (af b d);clear b d;go_wp2_with fail;go_ret;exact ⟨_,rfl,R.out.1,R.out.2⟩
def asq: ∀m:Fin 65,bits .and .i64 ((m.val:Nat):Int) 1=((m.val % 2:Nat):Int):=by decide+kernel
def asr {k i:Nat} (b:k<=64):bits .and .i64 ((k:Int)/2^i) 1=((k/2^i % 2:Nat):Int):=by
 have a:(k:Int)/2^i=((k/2^i:Nat):Int):=by simp_all
 rw [a];exact asq ⟨k/2^i,by have:=bW k (2^i);omega⟩
def ass (a k i:Nat):a^(k/2^i)=a^(k/2^(i+1))*a^(k/2^(i+1))*(if k/2^i % 2=1 then a else 1):=by
 obtain ⟨m,b⟩:=pS (k/2^i);have d:k/2^(i+1)=m/2:=by rw [bL,<-iZ,b]
 rw [d,b,<-bC];split
 ·rename_i h;rw [<-bL];grind
 grind
def aij {a k m:Nat} (b:Sm (a^k)) (h:m<=k) (d:Sm 1):Sm (a^m):=by
 rcases bT a with e|e
 ·subst e
  rcases bT m with e|e
  all_goals grind
 ·exact F0 b (aF e h)
def aik {u:Value} {a k:Nat} (h:eD w u a) (hk:k<=64) (hs:Sm (a^k)) (nh:Sm a):Calls Tryz.prog 306 #[u,.int .i64 (k:Int)] w (rE (a^k) w):=by
 have Z:=ae h;have J:=ae (af hs nh);have Sx:=ae (fun w':World=>Nz (w:=w') 1 (by decide));have Di:(k:Int)<=64:=by omega
 have jG:(0:Int)<=(k:Int):=by omega
 have aGm:min (k:Int) 64=(k:Int):=by omega
 clear h hs nh;go_enter Tryz.func306,Tryz.ntmps306;go_wp2_with fail;refine (Sx.out _).mono ?_;rintro e w1 ⟨v1,rfl,mL,g⟩;have mj:=ae (af mL g);clear mL g;go_wp2_with fail
 go_loopg [5,6] 7 (fun gh ov iv wr=> ∃(j b1:Nat),gh=j/\j<=7/\iv= .int .i64 ((j:Int)-1)/\w.heap.size<=b1/\nr wr b1 ov (a^(k/2^j))/\Below w.heap.size w wr)
 case atStart=>exact ⟨7,_,rfl,ak _,rfl,ak _,by rw [show k/2^7=0 from eK (by omega)];exact mj.out.1,mj.out.2⟩
 case round=>
  obtain ⟨j,b1,C,P,rfl,g,hf,o⟩:=hrel;have F:=ae C;have H:=ae hf;have p:=ae (af g o);by_cases yH:j=0
  ·subst yH
   have e1:((0:Nat):Int)-1= -1:=by omega
   clear C P g hf o;rw [e1];go_wp2_with fail;go_ret;exact ⟨_,rfl,by have:=H.out;rw [kS,Nat.div_one] at this;exact this.base p.out.1,p.out.2⟩
  ·obtain ⟨i,rfl⟩: ∃i,j=i+1:=⟨j-1,by omega⟩
   have ei:((i+1:Nat):Int)-1=(i:Int):=by omega
   rw [ei];have hi6:(i:Int)<=6:=by omega
   have eT:(0:Int)<=(i:Int):=by omega
   obtain ⟨lo,QM,yi,T⟩:=hf;obtain ⟨ao,co,Y,rfl,B,O,Q,A⟩:=QM.sl.form;obtain ⟨n,X⟩:=pS lo.length;rw [X] at H⊢;clear C P g o ei;have abI:=asr (k:=k) (i:=i) hk;have U:=ass a k i;obtain ⟨z,R⟩:=pS (a^(k/2^(i+1)));obtain ⟨m,W⟩:=pS (k/2^i % 2);have ast:m<2:=by rw [<-W];exact cZ _ (by decide)
   have zg:Sm z:=by rw [<-R];exact aij (k:=k) J.out.1 (bW _ _) (Bu (k:=1) (by decide) (by decide))
   have Ik:Sm (z*z):=by
    rw [<-R,<-bC];refine aij (k:=k) J.out.1 ?_ (Bu (k:=1) (by decide) (by decide));have:k/2^(i+1)=k/2^i/2:=by rw [bL,<-iZ]
    have:=bW k (2^i);omega
   rw [R,W] at U;rw [R] at H T;rw [W] at abI;have E:=ae (show (m=1->a^(k/2^i)=z*z*a)/\(¬m=1->a^(k/2^i)=z*z) from ⟨fun e=>by rw [U,if_pos e],fun e=>by rw [U,if_neg e,fw]⟩);have SF:=ae (af zg (af Ik ast));have y:=ae (show¬m=1->((m:Int)==1)=false from fun h=>by rw [cO];intro e;rw [beq_iff_eq] at e;omega);have rY:=ae (show m=1->((m:Int)==1)=true from fun h=>by subst h;rfl);have M:=ae (aii H.out.r zg);clear U R W zg Ik;by_cases oW:n=1
   ·subst oW
    obtain ⟨xx,rfl⟩: ∃x,lo= [x]:=me.1 X;obtain rfl:=B (by simp);have q0:wr.cell? Y=some (.int .u32 (xx:Int)):=by have:=A 0 (by simp);rw [show Y.add 0=Y from if_pos rfl] at this;exact this
    have hvx:xx=z:=by rw [<-T];simp [val]
    clear QM yi T B O Q A X;obtain rfl:z=xx:=hvx.symm;by_cases dT:z=1
    ·have b:=ae (show nr wr w.heap.size (.slice (some Y) 1 co) (z*z)/\Below w.heap.size w wr from ⟨by have:=H.out.base p.out.1;rw [show z*z=z by rw [dT]];exact this,p.out.2⟩)
     have tu:((z:Int)==1)=true:=by rw [dT];rfl
     clear dT;by_cases d:m=1
     ·have l:=ae (E.out.1 d)
      have g:=rY.out d;have I:=ae (fun (f:World) (D:Value) (h:eD f D (z*z)) (o:Below w.heap.size w f)=>Sk (w:=f) h (Z.out.below o) SF.out.2.1 J.out.2);go_wp2_with fail;refine (I.out _ _ b.out.1.r b.out.2).mono ?_;rintro e w3 ⟨v3,rfl,t,s⟩;have q:=ae (af t (ue b.out.2 s));have G:=ae b.out.2.size;clear t s;go_wp2_with fail
      go_roundg i
      case measure=>have:=F.out;omega
      case rel=>exact ⟨i,_,rfl,by omega,by go_num,G.out,by rw [l.out];exact q.out.1,q.out.2⟩
     ·have l:=ae (E.out.2 d)
      have g:=y.out d;go_wp2_with fail
      go_roundg i
      case measure=>have:=F.out;omega
      case rel=>exact ⟨i,_,rfl,by omega,by go_num,ak _,by rw [l.out];exact b.out.1,b.out.2⟩
    ·have tu:((z:Int)==1)=false:=by rw [cO];intro e;rw [beq_iff_eq] at e;omega
     go_wp2_with fail;refine M.out.mono ?_;rintro e f ⟨D,rfl,S,N⟩;have b:=ae (af (S.base p.out.2.size) (ue p.out.2 N));clear S N;by_cases d:m=1
     ·have l:=ae (E.out.1 d)
      have g:=rY.out d;have I:=ae (fun (f:World) (D:Value) (h:eD f D (z*z)) (o:Below w.heap.size w f)=>Sk (w:=f) h (Z.out.below o) SF.out.2.1 J.out.2);go_wp2_with fail;refine (I.out _ _ b.out.1.r b.out.2).mono ?_;rintro e w3 ⟨v3,rfl,t,s⟩;have q:=ae (af t (ue b.out.2 s));have G:=ae b.out.2.size;clear t s;go_wp2_with fail
      go_roundg i
      case measure=>have:=F.out;omega
      case rel=>exact ⟨i,_,rfl,by omega,by go_num,G.out,by rw [l.out];exact q.out.1,q.out.2⟩
     ·have l:=ae (E.out.2 d)
      have g:=y.out d;go_wp2_with fail
      go_roundg i
      case measure=>have:=F.out;omega
      case rel=>exact ⟨i,_,rfl,by omega,by go_num,ak _,by rw [l.out];exact b.out.1,b.out.2⟩
   ·have hne:((n:Int)==1)=false:=by rw [cO];intro e;rw [beq_iff_eq] at e;omega
    clear QM yi T B O Q A X;go_wp2_with fail;refine M.out.mono ?_;rintro e f ⟨D,rfl,S,N⟩;have b:=ae (af (S.base p.out.2.size) (ue p.out.2 N));clear S N;by_cases d:m=1
    ·have l:=ae (E.out.1 d)
     have g:=rY.out d;have I:=ae (fun (f:World) (D:Value) (h:eD f D (z*z)) (o:Below w.heap.size w f)=>Sk (w:=f) h (Z.out.below o) SF.out.2.1 J.out.2);go_wp2_with fail;refine (I.out _ _ b.out.1.r b.out.2).mono ?_;rintro e w3 ⟨v3,rfl,t,s⟩;have q:=ae (af t (ue b.out.2 s));have G:=ae b.out.2.size;clear t s;go_wp2_with fail
     go_roundg i
     case measure=>have:=F.out;omega
     case rel=>exact ⟨i,_,rfl,by omega,by go_num,G.out,by rw [l.out];exact q.out.1,q.out.2⟩
    ·have l:=ae (E.out.2 d)
     have g:=y.out d;go_wp2_with fail
     go_roundg i
     case measure=>have:=F.out;omega
     case rel=>exact ⟨i,_,rfl,by omega,by go_num,ak _,by rw [l.out];exact b.out.1,b.out.2⟩
end
end
end Go.Proofs.YthleenhngcdgkaaGreatDoor
