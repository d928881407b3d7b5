/- refineFuel_proved. -/
import Derived.Test.YtnmpjdgobafdkaaGreatDoorPmbh
set_option maxRecDepth 100000
set_option maxHeartbeats 16000000
set_option linter.all false
noncomputable section
namespace Go.Proofs.YtnmpjdgobafdkaaGreatDoor
section
open Go Go.RowKit
variable {w w' W0:World} {p d n k k':Nat} {v vt v':Value} {L L2:List b8} {cl:Bool}
def jE.aCb {B:Nat} (h:jE w B v L) (a:Fr (· =p) w w') (f:v.ownBlock≠some p) (o:Obj):jE (w'.alloc o) B v L:=
 h.frame (a.alloc o) (fun k b e=>f (by rw [b,e]))
def E4 (D:Int) (d:Nat):Prop:=
 ∀ {W0 w:World} {p n k:Nat} {vt v:Value} {L:List b8} (closed:Bool),py W0 w p vt n k->jE w W0.heap.size v L->L.length<=1000->
  Calls Tryz.prog 18 #[ptr p,v,.int .i64 D,.bool closed] w (adn closed W0 w p vt n k v L d)
def alr (d:Nat):2^(d+1)=2*2^d:=by rw [bI];omega
def L6 (k:Int):arity k=0\/arity k=1\/arity k=2:=by unfold arity;split;simp;split<;>simp
def als {k:Int} (h:arity k=1):5<=k:=by unfold arity at h;split at h;simp at h;omega
def ado {k:Int} (h:arity k=2):6<=k/\k<=9:=by unfold arity at h;split at h;simp at h;split at h;omega;simp at h
def BT.from_ {w2:World} {k2:Nat} (h:BT cl W0 w2 p vt n k2 v L d v' L2 k' w') (hF:Fr (· =p) w w2) (a0:k<=k2) (a1:k<n->k<k2) (a2:k<=n->k2<=n):BT cl W0 w p vt n k v L d v' L2 k' w' where
 E3:=h.E3
 row:=h.row
 lz:=h.lz
 Jx:=h.Jx
 pos:=h.pos
 len:=h.len
 k0:=by have:=h.k0;omega
 k1:=fun e=>by have:=a1 e;have:=h.k0;omega
 k2:=fun e=>h.k2 (a2 e)
 own:=fun j e=>(h.own j e).imp id (fun q=>by have:=hF.size;omega)
 fr:=(hF.mono (fun _ _ e=> .inl e)).trans h.fr (fun _ _ e=>e)
def BT.deeper {d':Nat} (h:BT cl W0 w p vt n k v L d v' L2 k' w') (a:d<=d'):BT cl W0 w p vt n k v L d' v' L2 k' w':=
 {h with len:=aK h.len (aG (by omega) a)}
def alu {w1 w9:World} {g cap:Nat} {v1:Value} {M:List b8} {y:b8} {o:Obj} (hM:py W0 w1 p vt n k') (hN:jE w1 W0.heap.size v1 (L++M)) (hm: ∀x∈M,px x) (Nr: ∀i,i<M.length->xS cl (L.length+i) (M.getD i ⟨0,0,0,0,ByteArray.empty⟩)) (eJ: ∀j,v1.ownBlock=some j->v.ownBlock=some j\/w.heap.size<=j)
 (hf:Fr (fun j=>j=p\/v.ownBlock=some j) w w1) (h1:jE w9 W0.heap.size (.slice (some ⟨g,0,none⟩) ((L++M).length+1) cap) ((L++M)++ [y])) (h2:Fr (fun j=>v1.ownBlock=some j) (w1.alloc o) w9) (h3:v1.ownBlock=some g\/(w1.alloc o).heap.size<=g)
 (hy:px y) (uM:xS cl (L.length+M.length) y) (hlen:M.length+2<=2^d) (a0:k<=k') (a1:k<n->k<k') (a2:k<=n->k'<=n):BT cl W0 w p vt n k v L d (.slice (some ⟨g,0,none⟩) ((L++M).length+1) cap) (M++ [y]) k' w9 where
 E3:=(hM.stay ((Fr.refl (fun _=>False) w1).alloc o) (fun _ e=>e.elim) (fun e=>e)).stay h2 (fun j e=>(hN.own.lt j e).1) (alp hM.tape hN)
 row:=by rw [<-dR];exact h1
 lz:=fun x hx=>by
  rcases bZ.1 hx with hx|hx
  ·exact hm x hx
  ·simp at hx;rw [hx];exact hy
 Jx:=alq Nr fun i hi=>by
  obtain rfl:i=0:=by simp at hi;omega
  rw [aX];exact uM
 pos:=by simp
 len:=by rw [aX];simpa using hlen
 k0:=a0
 k1:=a1
 k2:=a2
 own:=fun j e=>by
  have e1:g=j:=by simpa [Value.ownBlock] using e
  subst e1;rcases h3 with h|h
  ·exact eJ g h
  ·have:=hf.size;simp at h;exact .inr (by omega)
 fr:=(hf.trans ((Fr.refl (fun _=>False) w1).alloc o) (fun _ _ e=>e.elim)).trans h2 fun j hj e=>by
  rcases eJ j e with q|q
  ·exact .inr q
  ·omega
def Yq {D:Int} (h8:D<=8) (hd7:d<=7) (S:2<=D->E4 (D-1) d/\E4 1 1):E4 D (d+1):=by
 intro W0 w p n k vt v L closed hM hN hL;obtain ⟨a,c,rfl⟩:=hN.slice;have HP:=ae (alp hM.tape hN);obtain ⟨m,hm⟩:=pQ L.length;have Z:=ae hM;have HN:=ae hN;have HL:=ae hL;have HM:=ae hm;have HD:=ae (show 1<=d+1 by omega);have HPm:=ae (show (Value.slice a m c).ownBlock≠some p by rw [<-hm];exact HP.out);have HNm:=ae (show jE w W0.heap.size (.slice a m c) L by rw [<-hm];exact hN);rw [hm] at hL⊢;clear hM hN hm;unfold ptr;go_enter Tryz.func18,Tryz.ntmps18;by_cases hD1:D<=1;clear S;have TG:=ae (af Z.out (Fr.refl (· =p) w))
 focus go_wp2_with fail
 rotate_left
 obtain ⟨S,i1⟩:=S (by omega)
 focus go_wp2_with fail
 refine Z.out.more.mono ?_;rintro e w1 ⟨rfl,hM1,OW⟩;have TG:=ae (af hM1 (OW.mono (S':=(· =p)) (fun _ _ e=>e.elim)));clear hM1 OW;by_cases hk:k<n
 rotate_left
 rw [decide_eq_false hk];clear hk S i1
 focus go_wp2_with fail
 rotate_left 2
 rw [decide_eq_true hk];have HK:=ae hk;clear hk;by_cases BI:24<m;clear S i1
 focus go_wp2_with fail
 rotate_left
 ·go_wp2_with fail
  refine (TG.out.1.range 1 16 (by omega) (by omega) (by omega)).mono ?_;rintro e I ⟨kd,k2,rfl,b1,TH,f,o,h,wL,uP⟩;have b:=ae (af wL (af (TG.out.2.trans uP (fun _ _ e=>e)) (af f (af o h))));clear wL uP f o h;go_wp2_with fail;refine (aBo b1 TH _).mono ?_;rintro e J ⟨rfl,X⟩;rw [X];clear X;rcases L6 kd with y|y|y
  ·rw [y]
   clear y;go_wp2_with fail;refine (i1 closed b.out.1 (HNm.out.frame b.out.2.1 (fun j hj e=>HPm.out (hj.trans (congrArg some e)))) HL.out).mono ?_;rintro e w4 ⟨v',L2,k4,rfl,S3⟩;have P4:=ae (S3.from_ b.out.2.1 b.out.2.2.1 b.out.2.2.2.1 b.out.2.2.2.2);clear S3;go_wp2_with fail;go_ret;exact ⟨_,_,_,rfl,P4.out.deeper (d':=d+1) (by omega)⟩
  rotate_left
  rw [y];have N:=ae y;have O:=ado y;have t:=ae O;have G:=b;clear y O
  focus go_wp2_with fail
  rotate_left
  rw [y];have N:=ae y;have O:=als y;clear y;by_cases eT:kd=10
  focus go_wp2_with fail
  refine (b.out.1.range (-3) 4 (by omega) (by omega) (by omega)).mono ?_;rintro e w4 ⟨q,k4,rfl,q1,q2,f,o,h,hM4,W⟩;have G:=ae (af hM4 (af (b.out.2.1.trans W (fun _ _ e=>e)) (af (aK b.out.2.2.1 f) (af (fun e=>az (b.out.2.2.2.1 e) f) (fun e=>h (b.out.2.2.2.2 e))))));have t:=ae (af q1 (af q2 (af eT (af O (af b1 TH)))));clear hM4 W f o h q1 q2 eT O b1 TH
  focus go_wp2_with fail
  rotate_left
  have G:=b;have t:=ae (af eT (af O (af b1 TH)))
  focus go_wp2_with fail
  clear eT O b1 TH
  rotate_left
  all_goals
   refine (S closed G.out.1 (HNm.out.frame G.out.2.1 (fun j hj e=>HPm.out (hj.trans (congrArg some e)))) HL.out).mono ?_;rintro e w5 ⟨v1,C,k5,rfl,Jd⟩;obtain ⟨o,c1,rfl⟩:=Jd.row.slice;obtain ⟨U,vd⟩:=pQ ((L++C).length);have b1:U<=200:=by
    have:=Jd.len;have:2^d<=2^7:=aG (by omega) hd7;have:=HM.out;rw [<-vd,aX];omega
   have A:=ae vd;have P1:=ae (Jd.from_ G.out.2.1 G.out.2.2.1 G.out.2.2.2.1 G.out.2.2.2.2);rw [vd];clear Jd vd
  ·go_wp2_with fail
   refine (S closed P1.out.E3 (by have R:=P1.out.row;rw [A.out] at R;exact R) (by have:=A.out;omega)).mono ?_;rintro e w6 ⟨v2,L2,k6,rfl,S2⟩;obtain ⟨h,c2,rfl⟩:=S2.row.slice;obtain ⟨m2,lV⟩:=pQ (((L++C)++L2).length);have b2:m2<=400:=by
    have:=S2.len;have:2^d<=2^7:=aG (by omega) hd7;have:=A.out;rw [<-lV,aX];omega
   have TJ:=ae lV;have P2:=ae S2;rw [lV];clear S2 lV;go_wp2_with (at_builtin;refine adm rfl _ _ rfl W0.heap.size (by have:=P2.out.E3.below.size;simp;omega) _ ((L++C)++L2) (by rw [TJ.out];rfl) ⟨P2.out.row.own.alloc _⟩ _ ⟨kd,(U:Int)-1,(m2:Int)-1,0,ByteArray.empty⟩ rfl (heap_alloc_new _ _) (by have:=TJ.out;omega) ?_;intro g cap w9 F E H;have z:=ae (af F (af E H));rw [TJ.out];clear F E H);go_ret;have hl:1<=U/\U<=L.length+(C++L2).length/\1<=m2/\m2<=L.length+(C++L2).length:=by have h1:=A.out;have h2:=TJ.out;simp only [aX] at h1 h2⊢;have:=P1.out.pos;have:=P2.out.pos;omega
   have T:=P1.out.then (by rw [A.out];exact P2.out);have Y:=z.out.1;rw [dR L C L2] at Y;have P:=alu (d:=d+1) (M:=C++L2) P2.out.E3 T.1 (fun x hx=>(bZ.1 hx).elim (P1.out.lz x) (P2.out.lz x)) (alq P1.out.Jx P2.out.Jx) T.2.1 T.2.2 Y z.out.2.1 z.out.2.2 ⟨by have:=t.out;simp;omega,by have:=t.out;simp;omega,fun e=>by have:=t.out;simp at e;omega,fun e=>by have:=t.out;simp at e;omega,fun _ _=>rfl,fun e=>by have:=t.out;simp at e;omega,fun _=>rfl⟩ (aB9 N.out)
    (by have:=P1.out.len;have:=P2.out.len;have:=alr d;rw [aX];omega) (aK P1.out.k0 P2.out.k0) (fun e=>az (P1.out.k1 e) P2.out.k0) (fun e=>P2.out.k2 (P1.out.k2 e))
   rw [<-dR,TJ.out] at P;exact ⟨_,_,_,rfl,P⟩
  all_goals
   go_wp2_with (at_builtin;refine adm rfl _ _ rfl W0.heap.size (by have:=P1.out.E3.below.size;simp;omega) _ (L++C) (by rw [A.out];rfl) ⟨P1.out.row.own.alloc _⟩ _ ⟨_,(U:Int)-1,0,_,ByteArray.empty⟩ rfl (heap_alloc_new _ _) (by have:=A.out;omega) ?_;intro g cap w9 F E H;have z:=ae (af F (af E H));rw [A.out];clear F E H);go_ret;have hl:1<=U/\U<=L.length+C.length:=by have:=A.out;rw [aX] at this;have:=P1.out.pos;omega
   have P:=alu (d:=d+1) P1.out.E3 P1.out.row P1.out.lz P1.out.Jx P1.out.own P1.out.fr z.out.1 z.out.2.1 z.out.2.2 (by first|exact ⟨by simp,by simp,fun e=>by simp at e,fun e=>by simp at e,fun _ _=>rfl,fun _=>⟨t.out.1,by have:=t.out.2.1;simp;omega⟩,fun e=>by simp at e⟩|exact ⟨by have:=t.out;simp;omega,by have:=t.out;simp;omega,fun e=>by have:=t.out;simp at e;omega,fun e=>by have:=t.out;simp at e;omega,fun _ _=>rfl,fun e=>by have:=t.out;simp at e;omega,fun _=>rfl⟩) (aB8 (by first|exact N.out|decide)) (by have:=P1.out.len;have:=alr d;omega) P1.out.k0 P1.out.k1 P1.out.k2;rw [A.out] at P;exact ⟨_,_,_,rfl,P⟩
 all_goals
  refine (TG.out.1.next 5 (by omega) (by omega)).mono ?_;rintro e I ⟨r,k2,rfl,r0,r5,f,o,h,wL,uP⟩;have b:=ae (af wL (af (TG.out.2.trans uP (fun _ _ e=>e)) (af f (af o h))));have hr:r=0\/r=1\/r=2\/r=3\/r=4:=by omega
  clear wL uP r0 r5 f o h;rcases hr with rfl|rfl|rfl|rfl|rfl
  all_goals
   obtain ⟨cl,hcl⟩:=pT closed;cases closed
  all_goals go_wp2_with fail
  all_goals first
   |refine b.out.1.number.mono ?_
    rintro e J ⟨s,k3,rfl,hs,f,o,h,TK,B⟩;have u:=ae (af TK (af (b.out.2.1.trans B (fun _ _ e=>e)) (af f (af o (af h hs)))));clear TK B f o h hs
   |refine (b.out.1.next 2 (by omega) (by omega)).mono ?_
    rintro e J ⟨r,k3,rfl,r0,r5,f,o,h,TK,B⟩;have u:=ae (af TK (af (b.out.2.1.trans B (fun _ _ e=>e)) (af f (af o (af h trivial)))));have hr:r=0\/r=1:=by omega
    clear TK B r0 r5 f o h
    (rcases hr with rfl|rfl)
   |refine (alk I).mono ?_
    rintro e J ⟨rfl,X⟩;have lg:J.heap[I.heap.size]? =some (.cells ⟨E2.map .string⟩ 9 (0,0)):=by rw [X];show (I.heap.push _)[I.heap.size]? =_;simp
    have B:Fr (fun _=>False) I J:=by rw [X];exact (Fr.refl _ _).alloc _
    have sG:=ae (af lg (af B (b.out.1.stay B (fun _ e=>e.elim) (fun e=>e))));clear X lg B;go_wp2_with fail;refine (alk J).mono ?_;rintro e w4 ⟨rfl,BR⟩;have W:Fr (fun _=>False) J w4:=by rw [BR];exact (Fr.refl _ _).alloc _
    have qk:=ae (af W (sG.out.2.2.stay W (fun _ e=>e.elim) (fun e=>e)));clear BR W;go_wp2_with fail;refine (qk.out.2.next 5 (by omega) (by omega)).mono ?_;rintro e w5 ⟨r,k3,rfl,r0,r5,f,o,h,hM5,Q⟩;obtain ⟨i,rfl⟩: ∃i:Nat,r=(i:Int):=⟨r.toNat,by omega⟩;have alv:I.heap.size<J.heap.size:=(ax.1 sG.out.1).1;have hc:w5.cell? ⟨I.heap.size,i,none⟩=some (.string (E2.getD i ByteArray.empty)):=
     alm (((Q.block _ (by have:=qk.out.1.size;omega) (fun e=>by have:=b.out.1.tape.lt;omega)).trans (qk.out.1.block _ alv (fun e=>e))).trans sG.out.1) (show i<5 by omega)
    have hs:=aln (l:=E2) (i:=i) (show i<5 by omega);have u:=ae (af hM5 (af (((b.out.2.1.trans sG.out.2.1 (fun _ _ e=>e.elim)).trans qk.out.1 (fun _ _ e=>e.elim)).trans Q (fun _ _ e=>e)) (af f (af o (af h hs)))));generalize E2.getD i ByteArray.empty=s at hc u;clear hM5 Q f o h hs alv
  all_goals
   go_wp2_with (at_builtin;refine adm rfl _ _ rfl W0.heap.size (by have:=u.out.1.below.size;simp;omega) _ L (by rw [HM.out];rfl) (HN.out.aCb u.out.2.1 HP.out _) _ ⟨_,0,0,0,_⟩ rfl (heap_alloc_new _ _) (by have:=HL.out;omega) ?_;intro g cap w9 F E H;have z:=ae (af F (af E H));rw [HM.out];clear F E H);go_ret;have P:=aCa (cl:=cl) (d:=d+1) u.out.1 HN.out u.out.2.1 ((Fr.refl _ _).alloc _) z.out.1 z.out.2.1 z.out.2.2 HP.out ⟨by simp,by simp,by first|exact fun _=>u.out.2.2.2.2.2|simp,by first|exact fun _=>u.out.2.2.2.2.2|simp,by first|exact fun _ _=>rfl|simp,by simp,fun _=>rfl⟩ (aB7 (by simp [hcl])) HD.out (by have:=b.out.2.2.1;have:=u.out.2.2.1;omega) (fun e=>by have:=b.out.2.2.2.1 e;have:=u.out.2.2.1;omega) (fun e=>u.out.2.2.2.2.1 (b.out.2.2.2.2 e));rw [HM.out] at P;subst hcl;exact ⟨_,_,_,rfl,P⟩
def Yr:E4 1 1/\E4 2 2/\E4 3 3/\E4 4 4:=by
 have a:E4 1 1:=Yq (d:=0) (by omega) (by omega) fun h=>absurd h (by decide)
 have b:E4 2 2:=Yq (d:=1) (by omega) (by omega) fun _=>⟨by rw [show (2:Int)-1=1 by omega];exact a,a⟩
 have e:E4 3 3:=Yq (d:=2) (by omega) (by omega) fun _=>⟨by rw [show (3:Int)-1=2 by omega];exact b,a⟩
 exact ⟨a,b,e,Yq (d:=3) (by omega) (by omega) fun _=>⟨by rw [show (4:Int)-1=3 by omega];exact e,a⟩⟩
end
end Go.Proofs.YtnmpjdgobafdkaaGreatDoor
