/- refineFuel_proved. -/
import Derived.Test.YtnmpjdgobafdkaaGreatDoorPmam
import Derived.Below
set_option maxRecDepth 100000
set_option maxHeartbeats 16000000
set_option linter.all false
noncomputable section
namespace Go.Ev
section
variable [aJ] {S:Nat->Prop}
structure Cx where
 P:Program
 E:Env
 nt:Nat
 all:List Oper
 cf:(FuncId->List aj->aP->VR)
 zA:Tm
 m0:Mp
 h0:aP
 w0:World
 S0:Nat->Prop
 sN:DS
 st:Nat->DS
 K:Nat->Kd
 v:Nat->aj
namespace Cx
variable (c:Cx)
def n:Nat:=c.all.length
def pr (i j:Nat):Prop:=Nat.testBit (fK c.all i) j=true
def nm (p:Nat):Pos:=(c.st p).h.nx
def dst (i:Nat):Option Tmp:=(c.all[i]?).bind (·.dst)
def DV (q j:Nat) (n:Pos):Prop:=aF (c.st q).h n\/ ∃p b mk,(p=j\/c.pr j p)/\p<c.n/\c.K p= .nw b mk/\n=c.nm p
def DP (q i:Nat) (n:Pos):Prop:=aF (c.st q).h n\/ ∃p b mk,c.pr i p/\p<c.n/\c.K p= .nw b mk/\n=c.nm p
def cur (L:Nat->Bool):Nat->Nat->aj
 |0,t=>gW t c.zA
 |k+1,t=>if L k=true/\c.dst k=some t then c.v k else cur L k t
def SS (L:Nat->Bool) (m:Mp) (b:Nat):Prop:=c.S0 b\/ ∃p d mk,p<c.n/\c.K p= .nw d mk/\L p=true/\b=m.b (c.nm p)
structure Vz (L:Nat->Bool) (m:Mp) (q:Nat) (w:World) (p:Nat) (ob:jG):Prop where
 blk: ∃o,w.heap[m.b (c.nm p)]? =some o/\vb m (c.nm p) ob o
 new:c.w0.heap.size<=m.b (c.nm p)
 apart: ∀k,bk (c.st q).h k->m.b k≠m.b (c.nm p)
 each: ∀p' jn mk',p'<c.n->c.K p'= .nw jn mk'->L p'=true->p'≠p->m.b (c.nm p')≠m.b (c.nm p)
structure Inv (L:Nat->Bool) (a:Act) (w:World) (m:Mp) (q:Nat):Prop where
 qn:q<=c.n
 qc: ∀i,i<c.n->c.K i= .wr->(L i=true↔i<q)
 qm:q=0\/ ∃k,q=k+1/\c.K k= .wr
 rep:bR c.E.gl (c.SS L m) m (c.st q).h w
 goes:Goes c.m0 c.h0 c.w0 m (c.st q).h w
 df:(c.st q).h.df=c.h0.df
 yp: ∀p ob mk,p<c.n->c.K p= .nw ob mk->L p=true->aF (c.st q).h (c.nm p)\/c.Vz L m q w p ob
 fin: ∀p ob mk,p<c.n->c.K p= .nw ob mk->L p=true->zK (c.DV q p) ob/\ob.pI=true
 F0: ∀p ob mk,p<c.n->c.K p= .nw ob mk->L p≠true-> ¬aF (c.st q).h (c.nm p)
 Ia: ∀p ob mk,p<c.n->c.K p= .nw ob mk-> ∀id,((c.st q).h.at (c.nm p)).obj≠ .ga id
 tv: ∀t,a.tmps.getD t undef=γ m (c.cur L c.n t)
 QO: ∀j,j<c.n->L j=true->In (c.DV q j) (c.v j)
 sz:c.nt<=a.tmps.size
 VA:a.defers=c.h0.df.map (collected c.m0)
 closed: ∀i j,L i=true->c.pr i j->L j=true
structure Ok:Prop where
 env:eD c.P c.E
 apT:sZ c.P c.E c.cf
 ord:Ordered c.all
 run:Run c.E c.nt c.all c.cf ⟨c.zA,c.h0,[],0,[],[]⟩ c.sN c.st c.K c.v
 rep:bR c.E.gl c.S0 c.m0 c.h0 c.w0
 tin: ∀t,In (aF c.h0) (gW t c.zA)
 A9: ∀d∈c.h0.df,aF c.h0 d
end Cx
variable {c:Cx}
namespace Cx.Ok
def D9 (k:c.Ok) {p j:Nat} {ob:jG} {mk:Mk} (g:c.K p= .nw ob mk) (b:p<j) (f:j<=c.n):(c.nm p).n<(c.st j).h.nx.n:=by
 have d:p<c.all.length:=az b f;obtain ⟨o,_,_,_,_,e⟩:=k.run.get d;rw [g] at e;simp only [s6] at e;have l:(c.st (p+1)).h.nx.n=(c.nm p).n+1:=by rw [e.2.2.2.1];exact Pos.Hl _
 have s:=k.run.mono (i:=p+1) (j:=j) (by omega) f;omega
def aaV (k:c.Ok) {p b:Nat} {ob l:jG} {mk f:Mk} (j:c.K p= .nw ob mk) (g:c.K b= .nw l f) (h:p<c.n) (h':b<c.n) (e:c.nm p=c.nm b):p=b:=by
 rcases gj p b with d|d|d
 ·have:(c.nm p).n<(c.nm b).n:=k.D9 j d (aQ h')
  all_goals grind
 ·exact d
 ·have:(c.nm b).n<(c.nm p).n:=k.D9 g d (aQ h)
  all_goals grind
def agy (k:c.Ok) {i j:Nat} (h:c.pr i j):j<i:=k.ord.lt i j h
def aaW (k:c.Ok) {i j l:Nat} (h:c.pr i j) (h':c.pr j l):c.pr i l:=k.ord.trans h h'
def dz (k:c.Ok) (x:su) {i:Nat} (hi:i<=c.n):x∈(c.st i).dz↔ ∃mk,x.ix<i/\c.K x.ix= .nw x.ob mk/\x.n=c.nm x.ix:=k.run.dz rfl x hi
section
variable {L:Nat->Bool} {a:Act} {w:World} {m:Mp} {q i:Nat}
def VB (k:c.Ok) (I:c.Inv L a w m q) (hi:i<c.n) (l: ∀j,c.pr i j->L j=true) {H:aP} (g:H.t=(c.st q).h.t) (x:Pos):
 aF (gy (fK c.all i) (c.st i).dz H) x↔c.DP q i x:=by
 rw [agr]
 ·constructor
  ·rintro (h|⟨p,f,a,rfl⟩)
   ·exact .inl ((H8 g x).1 h)
   ·obtain ⟨mk,b,d,e⟩:=(k.dz p (aQ hi)).1 f
    exact .inr ⟨p.ix,p.ob,mk,a,by omega,d,e⟩
  ·rintro (h|⟨p,s,mk,b,d,e,rfl⟩)
   ·exact .inl ((H8 g x).2 h)
   ·exact .inr ⟨⟨p,c.nm p,s⟩,(k.dz _ (aQ hi)).2 ⟨mk,k.agy b,e,rfl⟩,b,rfl⟩
 ·intro p f o
  obtain ⟨mk,b,d,e⟩:=(k.dz p (aQ hi)).1 f;exact (I.fin p.ix p.ob mk (by omega) d (l _ o)).2
def agz (k:c.Ok) {g:Nat} {l:List Value} (f:c.E.gl.g g=some l):g<c.w0.heap.size:=by
 obtain ⟨⟨b,e,j,d⟩,_⟩:=k.rep.qF g l f;exact (ax.1 d).1
def shown (k:c.Ok) (I:c.Inv L a w m q) (hi:i<c.n) (y: ∀j,c.pr i j->L j=true) {H:aP} (N:H.t=(c.st q).h.t) (ha:H.al=(c.st q).h.al)
 (hn: ∀x,aF (c.st q).h x->x.n<H.nx.n) (Y: ∀p A mk,p<i->c.K p= .nw A mk->(c.nm p).n<H.nx.n):bR c.E.gl (c.SS L m) m (gy (fK c.all i) (c.st i).dz H) w:=by
 have r1:bR c.E.gl (c.SS L m) m H w:=I.rep.ext N ha hn;have Q: ∀p A mk,p<c.n->c.K p= .nw A mk->L p=true->(H.at (c.nm p)).obj= .free->c.Vz L m q w p A:=fun p A mk z b d B=>by
  rcases I.yp p A mk z b d with C|C
  ·exact absurd B ((H8 N _).2 C)
  ·exact C
 refine r1.agt (fun p o u=> ?_) (fun p o u D=> ?_) (fun p o M T hb Z D R f=> ?_) (fun p o u D=> ?_)
 ·obtain ⟨mk,z,b,d⟩:=(k.dz p (aQ hi)).1 o
  exact (I.fin p.ix p.ob mk (by omega) b (y _ u)).2
 ·obtain ⟨mk,z,b,d⟩:=(k.dz p (aQ hi)).1 o
  have O:=y _ u;rw [d] at D⊢;have F:=Q p.ix p.ob mk (by omega) b O D;refine ⟨F.blk,Y p.ix p.ob mk z b,fun x J=>F.apart x ((Kz N x).1 J),?_,fun g l hg e=> ?_⟩
  ·refine yi (fun x J=> ?_) (I.fin p.ix p.ob mk (by omega) b O).1
   refine (k.VB I hi y N x).2 ?_;rcases J with J|⟨M,jn,s,B,C,h6,h7⟩
   ·exact .inl J
   ·refine .inr ⟨M,jn,s,?_,C,h6,h7⟩
    rcases B with rfl|B
    ·exact u
    ·exact k.aaW u B
  ·have:=k.agz hg
   have:=F.new;omega
 ·obtain ⟨mk,z,b,d⟩:=(k.dz p (aQ hi)).1 o
  obtain ⟨s,h1',U,W⟩:=(k.dz M (aQ hi)).1 T;rw [d] at D f⊢;rw [W] at R f⊢;have X:=Q M.ix M.ob s (by omega) U (y _ Z) R;exact X.each p.ix p.ob mk (by omega) b (y _ hb) (fun e=>f (by rw [e]))
 ·obtain ⟨mk,z,b,d⟩:=(k.dz p (aQ hi)).1 o
  exact .inr ⟨p.ix,p.ob,mk,by omega,b,y _ u,by rw [d]⟩
def agA (I:c.Inv L a w m q) {p:Nat} {ob:jG} {mk:Mk} (e:p<c.n) (d:c.K p= .nw ob mk) (b:aF (c.st q).h (c.nm p)):bk (c.st q).h (c.nm p):=by
 rcases ZX b with h|⟨id,h⟩
 ·exact h
 ·exact absurd h (I.Ia p ob mk e d id)
def apU (k:c.Ok) (hi:i<c.n) (t:Nat):gW t (c.st (i+1)).tm=if c.dst i=some t then c.v i else gW t (c.st i).tm:=by
 obtain ⟨o,p,j,b,e,_⟩:=k.run.get hi;rw [e];have g:c.dst i=o.dst:=by unfold Cx.dst;rw [j];rfl
 rw [g];unfold yg at b;cases l:o.dst with
 |none=>grind
 |some d=>
  rw [l] at b;simp only at b;obtain ⟨s,f⟩:=Ht b;cases f;rw [Ku]
  all_goals grind
def aaX (k:c.Ok) (hi:i<=c.n) (t:Nat) (h: ∀j,j<i->c.dst j=some t->L j=true):c.cur L i t=gW t (c.st i).tm:=by
 induction i with
 |zero=>rw [k.run.first];rfl
 |succ i b=>
  rw [k.apU hi,Cx.cur,b (by omega) fun j d=>h j (by omega)]
  all_goals grind
omit [aJ] in
def apV (t:Nat) {j:Nat} (f:i<=j) (h: ∀l,i<=l->l<j->c.dst l=some t->L l≠true):c.cur L j t=c.cur L i t:=by
 induction j with
 |zero=>simp_all
 |succ j d=>
  by_cases e:i=j+1
  ·rw [e]
  ·rw [Cx.cur,if_neg fun x=>h j (by omega) (by omega) x.2 x.1]
   exact d (by omega) fun l b g=>h l b (by omega)
omit [aJ] in
def aaY (t:Nat): ∀(j:Nat),c.cur L j t=gW t c.zA\/ ∃l,l<j/\L l=true/\c.dst l=some t/\c.cur L j t=c.v l
 |0=> .inl rfl
 |j+1=>by
  rw [Cx.cur];split
  ·grind
  ·rcases aaY t j with h|⟨l,b,d⟩
   all_goals grind
omit [aJ] in
def apW {o:Oper} (b:c.all[i]? =some o):c.dst i=o.dst:=by unfold Cx.dst;rw [b];rfl
omit [aJ] in
def VD {t:Nat} (h:c.dst i=some t): ∃o,c.all[i]? =some o/\o.dst=some t:=by
 unfold Cx.dst at h;cases b:c.all[i]? with
 |none=>rw [b] at h;cases h
 |some o=>simp_all
def reads (k:c.Ok) (I:c.Inv L a w m q) (hi:i<c.n) (F:L i≠true) (z: ∀j,c.pr i j->L j=true) {o:Oper} (E:c.all[i]? =some o) {t:Nat} (D:Looks c.all o t):
 a.tmps.getD t undef=γ m (gW t (c.st i).tm)/\In (c.DP q i) (gW t (c.st i).tm):=by
 have u: ∀j,j<i->c.dst j=some t->c.pr i j:=fun j g d=>by
  obtain ⟨x,b,f⟩:=VD d;exact k.ord.Vw j i x o g b E ⟨t,.inl ⟨f,.inl D⟩⟩
 have hc:c.cur L c.n t=gW t (c.st i).tm:=by
  rw [apV t (aQ hi) fun l A B d C=> ?_]
  ·exact k.aaX (aQ hi) t fun j g d=>z j (u j g d)
  ·by_cases e:i=l
   ·subst e;exact F C
   ·obtain ⟨x,b,f⟩:=VD d
    have:=k.ord.Vw i l o x (by omega) E b ⟨t,.inr ⟨f,D⟩⟩;exact F (I.closed l i C this)
 refine ⟨by rw [I.tv,hc],?_⟩;rw [<-k.aaX (L:=L) (aQ hi) t fun j g d=>z j (u j g d)];rcases aaY (L:=L) t i with e|⟨l,A,B,H,e⟩
 ·rw [e]
  exact rD (fun x b=> .inl (I.goes.old x b)) _ (k.tin t)
 ·rw [e]
  refine rD (fun x b=> ?_) _ (I.QO l (by omega) B);rcases b with b|⟨p,M,mk,s,J⟩
  ·exact .inl b
  ·refine .inr ⟨p,M,mk,?_,J⟩
   have y:=u l A H;rcases s with rfl|s
   ·exact y
   ·exact k.aaW y s
def Live (c:Cx) (L:Nat->Bool) (q:Nat) (x:Pos):Prop:=aF (c.st q).h x\/ ∃p b mk,p<c.n/\c.K p= .nw b mk/\L p=true/\x=c.nm p
def VE (I:c.Inv L a w m q) {j:Nat} (d:L j=true) {x:Pos} (h:c.DV q j x):Live c L q x:=by
 rcases h with h|⟨p,k,mk,b,e,f,g⟩
 ·exact .inl h
 ·refine .inr ⟨p,k,mk,e,f,?_,g⟩
  rcases b with rfl|b
  ·exact d
  ·exact I.closed j p d b
def agB (k:c.Ok) (I:c.Inv L a w m q) (t:Nat):In (Live c L q) (c.cur L c.n t):=by
 rcases aaY (L:=L) t c.n with e|⟨l,f,d,g,e⟩
 ·rw [e];exact rD (fun x b=> .inl (I.goes.old x b)) _ (k.tin t)
 ·rw [e];exact rD (fun x b=>VE I d b) _ (I.QO l f d)
end
end Cx.Ok
end
section
variable [aJ] {S:Nat->Prop}
variable {c:Cx}
omit [aJ] in
def least {p:Nat->Prop} (h: ∃n,p n): ∃n,p n/\ ∀m,m<n-> ¬p m:=by
 obtain ⟨n,b⟩:=h
 induction n using Nat.strongRecOn with
 |_ n d=>
  grind
omit [aJ] in
def apX {D:Pos->Prop} {n:Pos} (mk:Mk) (h:D n):In D (mk.mk n):=by cases mk<;>exact h
namespace Cx.Ok
section
variable {L L':Nat->Bool} {a:Act} {w:World} {m:Mp} {q i:Nat}
def apY (k:c.Ok) (I:c.Inv L a w m q) (hi:i<c.n) (y:L i≠true) (D: ∀j,L' j=true↔(L j=true\/j=i)) (t:Nat):
 c.cur L' c.n t=if c.dst i=some t then c.v i else c.cur L c.n t:=by
 have z: ∀j,j<=i->c.cur L' j t=c.cur L j t:=by
  intro j
  induction j with
  |zero=>intro _;rfl
  |succ j l=>
   intro s;rw [Cx.cur,Cx.cur,l (by omega)]
   all_goals grind
 have E: ∀j,i+1<=j->j<=c.n->c.cur L' j t=if c.dst i=some t then c.v i else c.cur L j t:=by
  intro j
  induction j with
  |zero=>intro h;omega
  |succ j l=>
   intro s C;by_cases e:i=j
   ·subst e
    rw [Cx.cur,Cx.cur,z i (aq _)]
    all_goals grind
   ·have o:i<j:=by omega
    have p:L' j=true↔L j=true:=by grind
    rw [Cx.cur,Cx.cur,l (by omega) (by omega)];by_cases d:c.dst i=some t
    ·rw [if_pos d,if_pos d]
     refine if_neg fun x=> ?_
     obtain ⟨A,u,f⟩:=VD d;obtain ⟨B,g,b⟩:=VD x.2;have:=k.ord.Vw i j A B o u g ⟨t,.inl ⟨f,.inr b⟩⟩;exact y (I.closed j i (p.1 x.1) this)
    all_goals grind
 all_goals grind
omit [aJ] in
def ap0 (a:Act) (d:Option Tmp) (u:Value) (t:Nat) (b: ∀x,d=some x->x<a.tmps.size):(a.put d u).tmps.getD t undef=if d=some t then u else a.tmps.getD t undef:=by
 cases d with
 |none=>simp [Act.put]
 |some x=>
  rw [af3 a x u t (b x rfl)];by_cases e:x=t<;>simp [e]
def aaZ (k:c.Ok) (I:c.Inv L a w m q) (hi:i<c.n) (lN:L i≠true) (gG: ∀j,c.pr i j->L j=true) (lZ: ∀j,L' j=true↔(L j=true\/j=i)) {o:Oper} (ho:c.all[i]? =some o)
 {m':Mp} {q':Nat} {w':World} (qn:q'<=c.n) (qc: ∀j,j<c.n->c.K j= .wr->(L' j=true↔j<q')) (qm:q'=0\/ ∃k,q'=k+1/\c.K k= .wr)
 (rep:bR c.E.gl (c.SS L' m') m' (c.st q').h w') (goes:Goes c.m0 c.h0 c.w0 m' (c.st q').h w') (df:(c.st q').h.df=c.h0.df)
 (yp: ∀p ob mk,p<c.n->c.K p= .nw ob mk->L' p=true->aF (c.st q').h (c.nm p)\/c.Vz L' m' q' w' p ob)
 (fin: ∀p ob mk,p<c.n->c.K p= .nw ob mk->L' p=true->zK (c.DV q' p) ob/\ob.pI=true)
 (F0: ∀p ob mk,p<c.n->c.K p= .nw ob mk->L' p≠true-> ¬aF (c.st q').h (c.nm p))
 (Ia: ∀p ob mk,p<c.n->c.K p= .nw ob mk-> ∀id,((c.st q').h.at (c.nm p)).obj≠ .ga id)
 (fT: ∀x,Live c L q x->m'.b x=m.b x/\m'.cv x=m.cv x) (hdv: ∀x,aF (c.st q).h x->aF (c.st q').h x) (hv:In (c.DV q' i) (c.v i)):
 c.Inv L' (a.put o.dst (γ m' (c.v i))) w' m' q' where
 qn:=qn
 qc:=qc
 qm:=qm
 rep:=rep
 goes:=goes
 df:=df
 yp:=yp
 fin:=fin
 F0:=F0
 Ia:=Ia
 tv:=fun t=>by
  have hd: ∀x,o.dst=some x->x<a.tmps.size:=fun x hx=>by
   obtain ⟨o',p,lX,hp,_⟩:=k.run.get hi;rw [ho] at lX;cases lX;unfold yg at hp;rw [hx] at hp;simp only at hp;obtain ⟨h1,_⟩:=Ht hp;exact az (sw.1 h1) I.sz
  rw [ap0 a o.dst _ t hd,k.apY I hi lN lZ t,apW ho];by_cases e:o.dst=some t
  ·rw [if_pos e,if_pos e]
  ·rw [if_neg e,if_neg e,I.tv t]
   exact (D1 fT _ (k.agB I t)).symm
 QO:=fun j hj hLj=>by
  rcases (lZ j).1 hLj with h|rfl
  ·refine rD (fun x hx=> ?_) _ (I.QO j hj h)
   rcases hx with hx|hx
   ·exact .inl (hdv x hx)
   ·exact .inr hx
  ·exact hv
 sz:=by
  have:(a.put o.dst (γ m' (c.v i))).tmps.size=a.tmps.size:=by cases o.dst<;>simp [Act.put]
  rw [this];exact I.sz
 VA:=by
  have:(a.put o.dst (γ m' (c.v i))).defers=a.defers:=by cases o.dst<;>rfl
  rw [this];exact I.VA
 closed:=fun x y hx Ff=>by
  rcases (lZ x).1 hx with h|rfl
  ·exact (lZ y).2 (.inl (I.closed x y h Ff))
  all_goals grind
def calm (k:c.Ok) (I:c.Inv L a w m q) (hi:i<c.n) (X:L i≠true) (M: ∀j,c.pr i j->L j=true) (D: ∀j,L' j=true↔(L j=true\/j=i)) {o:Oper} (T:c.all[i]? =some o)
 (A: ∀d mk,c.K i≠ .nw d mk) (s:c.K i≠ .wr) (U:In (c.DP q i) (c.v i)):c.Inv L' (a.put o.dst (γ m (c.v i))) w m q:=by
 have f: ∀p,L' p=true->p≠i->L p=true:=fun p l R=>by simp_all
 have z: ∀p d mk,c.K p= .nw d mk->p≠i:=fun p d mk l e=>by simp_all
 refine k.aaZ I hi X M D T I.qn (fun j Q W=> ?_) I.qm (I.rep.shrink fun b C=>by
  rcases C with C|⟨p,d,mk,B,H,N,O⟩
  ·exact .inl C
  ·exact .inr ⟨p,d,mk,B,H,f p N (z p d mk H),O⟩) I.goes I.df (fun p d mk l g y=> ?_) (fun p d mk l g y=>I.fin p d mk l g (f p y (z p d mk g))) (fun p d mk l g y=>I.F0 p d mk l g (fun h=>y ((D p).2 (.inl h)))) I.Ia (fun x _=>⟨rfl,rfl⟩) (fun x t=>t) ?_
 ·rw [<-I.qc j Q W,D]
  all_goals grind
 ·rcases I.yp p d mk l g (f p y (z p d mk g)) with h|F
  ·exact .inl h
  ·exact .inr ⟨F.blk,F.new,F.apart,fun E J u A s B=>F.each E J u A s (f E B (z E J u s))⟩
 ·refine rD (fun x t=> ?_) _ U
  rcases t with t|⟨p,d,mk,A,s⟩
  ·exact .inl t
  ·exact .inr ⟨p,d,mk,.inr A,s⟩
def view (k:c.Ok) (I:c.Inv L a w m q) (hi:i<c.n) (z:L i≠true) (u: ∀j,c.pr i j->L j=true) {o:Oper} (y:c.all[i]? =some o):
 ∃(e:Tm) (ρ:Operand->Value),Src c.E.gl m (c.DP q i) e ρ/\((∀B b,o.op≠ .select B b)->execOp a.eval o=execOp ρ o)/\(pG c.E o.op).same (c.st i).tm e:=by
 let A:List Nat:=o.op.operands.toList.filterMap fun| .tmp t=>some t|_=>none
 have l: ∀t,t∈A↔Operand.tmp t∈o.op.operands.toList:=fun t=>by
  grind
 let e:=only (c.st i).tm A
 have p: ∀t,Operand.tmp t∈o.op.operands.toList->gW t e=gW t (c.st i).tm:=fun t d=>by
  show gW t (only _ _)=_;rw [aaT,if_pos ((l t).2 d)]
 let ρ:Operand->Value:=fun x=>match x with
  | .tmp t=>γ m (gW t e)
  | .const v=>v
  | .global g=> .pointer (some ⟨g,0,none⟩)
  | .func f=> .func (.func f) #[] #[]
 refine ⟨e,ρ,⟨fun t=>⟨rfl,?_⟩,fun _=>rfl,fun _=>rfl,fun _=>rfl⟩,fun C=> ?_,?_⟩
 ·by_cases d:Operand.tmp t∈o.op.operands.toList
  ·rw [p t d];exact (k.reads I hi z u y (.inl d)).2
  ·show In _ (gW t (only _ _))
   rw [aaT,if_neg fun h=>d ((l t).1 h)];exact trivial
 ·refine execOp_congr o C fun x s=> ?_
  cases x with
  |tmp t=>
   have d:Operand.tmp t∈o.op.operands.toList:=by simpa using s
   show a.tmps.getD t undef=γ m (gW t e);rw [p t d];exact (k.reads I hi z u y (.inl d)).1
  |const v=>rfl
  |global g=>rfl
  |func f=>rfl
 ·refine apG o.op fun x s=> ?_
  cases x with
  |tmp t=>
   have d:Operand.tmp t∈o.op.operands.toList:=by simpa using s
   exact (p t d).symm
  |const v=>rfl
  |global g=>rfl
  |func f=>rfl
def ap1 (k:c.Ok) (I:c.Inv L a w m q) (hi:i<c.n) (lN:L i≠true) (gG: ∀j,c.pr i j->L j=true) {o:Oper} (ho:c.all[i]? =some o) (hK:c.K i= .rd):
 ∃f H,pG c.E o.op= .rd f/\KA c.all o (c.st i).tm/\H.t=(c.st q).h.t/\H.al=(c.st q).h.al/\(∀x,aF (c.st q).h x->x.n<H.nx.n)/\(∀p u mk,p<i->c.K p= .nw u mk->(c.nm p).n<H.nx.n)/\
  f (c.st i).tm (gy (fK c.all i) (c.st i).dz H)=some (c.v i):=by
 obtain ⟨o',p,lX,_,_,Q⟩:=k.run.get hi;rw [ho] at lX;cases lX;rw [hK] at Q;simp only [s6] at Q;obtain ⟨T,⟨f,M,l,C,D⟩,_⟩:=Q;by_cases O:q<=i
 ·by_cases b: ∃d,q<=d/\d<i/\c.K d= .wr
  ·obtain ⟨d,⟨h1,h2,h3⟩,h4⟩:=least b
   have g:=k.run.quiet (i:=q) (j:=d) h1 (by grind) fun x F X z=>h4 x X ⟨F,by omega,z⟩
   have N:L d≠true:=fun h=>by have:=(I.qc d (by omega) h3).1 h;omega
   have Y:Nat.testBit (fK c.all i) d=false:=by
    cases J:Nat.testBit (fK c.all i) d with
    |false=>rfl
    |true=>exact absurd (gG d J) N
   have R:=k.run.back rfl rfl (pre:=fK c.all i) (fun x y h5 h6=>k.aaW h5 h6) (aQ hi) C d h2 h3 Y;refine ⟨f,⟨(c.st d).h.t,(c.st i).h.nx,(c.st d).h.al,(c.st d).h.df⟩,M,T,g.1,g.2.1,fun x U=> ?_,fun p u mk s e=>k.D9 e s (aQ hi),R⟩;exact az (I.rep.fresh x U) (k.run.mono O (aQ hi))
  ·have tK:=k.run.quiet (i:=q) (j:=i) O (aQ hi) fun x F X z=>b ⟨x,F,X,z⟩
   refine ⟨f,(c.st i).h,M,T,tK.1,tK.2.1,fun x U=>az (I.rep.fresh x U) (k.run.mono O (aQ hi)),fun p u mk s e=>k.D9 e s (aQ hi),l⟩
 ·rcases I.qm with h0|⟨d,hd,Z⟩
  ·omega
  ·have W:d<c.n:=by have:=I.qn;omega
   have hdi:i<d:=by
    grind
   have QP:L d=true:=(I.qc d W Z).2 (by omega);have Y:Nat.testBit (fK c.all d) i=false:=by
    cases J:Nat.testBit (fK c.all d) i with
    |false=>rfl
    |true=>exact absurd (I.closed d i QP J) lN
   obtain ⟨od,pd,_,_,_,A⟩:=k.run.get W;rw [Z] at A;simp only [s6] at A;have eX:=A.2.2.2.1;have B:=k.run.held (i:=i+1) (x:=⟨i,fun h=>f (c.st i).tm (gy (fK c.all i) (c.st i).dz h),c.v i⟩) (by rw [D];simp) (k:=d) (by omega) (aQ W);have R:=agx eX _ B Y;refine ⟨f,(c.st q).h,M,T,rfl,rfl,I.rep.fresh,fun p u mk s e=>k.D9 e (by omega) I.qn,?_⟩;rw [hd];exact R
end
end Cx.Ok
end
section
variable [aJ] {S:Nat->Prop}
variable {c:Cx}
namespace Cx.Ok
section
variable {L L':Nat->Bool} {a:Act} {w:World} {m:Mp} {q i:Nat}
def ap3 (k:c.Ok) (I:c.Inv L a w m q) (hi:i<c.n) (lN:L i≠true) (gG: ∀j,c.pr i j->L j=true) (lZ: ∀j,L' j=true↔(L j=true\/j=i)) {o:Oper} (ho:c.all[i]? =some o)
 {ob:jG} {mk:Mk} (T:c.K i= .nw ob mk) (hv:c.v i=mk.mk (c.nm i)) {cap:Nat} {t:Obj} (J:vb (m.set (c.nm i) w.heap.size cap) (c.nm i) ob t) (bz:zK (c.DP q i) ob) (U:ob.pI=true):
 c.Inv L' (a.put o.dst (γ (m.set (c.nm i) w.heap.size cap) (c.v i))) {w with heap:=w.heap.push t} (m.set (c.nm i) w.heap.size cap) q:=by
 have f: ∀p,L' p=true->p≠i->L p=true:=fun p C U=>by simp_all
 have vU: ¬aF (c.st q).h (c.nm i):=I.F0 i ob mk hi T lN;have ap4: ∀x,Live c L q x->x≠c.nm i:=fun x l e=>by
  rcases l with l|⟨p,s,d,u,y,z,A⟩
  ·simp_all
  ·rw [e] at A
   have:=k.aaV T y hi u A
   all_goals grind
 have E: ∀x,Live c L q x->(m.set (c.nm i) w.heap.size cap).b x=m.b x/\(m.set (c.nm i) w.heap.size cap).cv x=m.cv x:=fun x l=>Mp.A0 m _ _ (ap4 x l)
 have Cl: ∀b,b<w.heap.size->(w.heap.push t)[b]? =w.heap[b]? :=fun b J=>by grind
 have hle:c.h0.nx.n<=(c.nm i).n:=by
  have:=k.run.mono (i:=0) (j:=i) (b6 _) (aQ hi);rw [k.run.first] at this;exact this
 have bB: ∀p s d,p<c.n->c.K p= .nw s d->L p=true->m.b (c.nm p)<w.heap.size:=fun p s d u y z=>by
  rcases I.yp p s d u y z with h|F
  ·exact I.rep.lt (agA I u y h)
  ·obtain ⟨o',A,_⟩:=F.blk;exact (ax.1 A).1
 have Z: ∀p s d,p<c.n->c.K p= .nw s d->L p=true->(m.set (c.nm i) w.heap.size cap).b (c.nm p)=m.b (c.nm p)/\(m.set (c.nm i) w.heap.size cap).cv (c.nm p)=m.cv (c.nm p):=fun p s d u y z=>E _ (.inr ⟨p,s,d,u,y,z,rfl⟩)
 have ap5: ∀x,c.DP q i x->c.DV q i x:=fun x l=>by
  rcases l with l|⟨p,ob,mk,u,y⟩
  ·exact .inl l
  ·exact .inr ⟨p,ob,mk,.inr u,y⟩
 have AZ:c.DV q i (c.nm i):= .inr ⟨i,ob,mk,.inl rfl,hi,T,rfl⟩;have g:=I.goes;refine k.aaZ I hi lN gG lZ ho I.qn (fun j hj hw=> ?_) I.qm (I.rep.congr (fun x l=>E x (.inl l)) Cl (by simp) (fun b J H=> ?_) fun b H=> ?_)
  ⟨g.tape,g.os,g.output,aK g.size (by simp),fun b J hn=> ?_,fun x l=> ?_,g.nx,g.FF,fun x l nP=> ?_,g.old,g.bold,g.Hp⟩ I.df
  (fun p s d C B Y=> ?_) (fun p s d C B Y=> ?_) (fun p s d C B Y=>I.F0 p s d C B (fun h=>Y ((lZ p).2 (.inl h)))) I.Ia E (fun x l=>l) ?_
 ·rw [<-I.qc j hj hw,lZ]
  all_goals grind
 ·rcases H with H|⟨p,s,d,z,A,Q,R⟩
  ·exact .inl H
  ·by_cases e:p=i
   ·subst e;rw [Mp.p8] at R;omega
   ·exact .inr ⟨p,s,d,z,A,f p Q e,by rw [R,(Z p s d z A (f p Q e)).1]⟩
 ·show b<(w.heap.push t).size
  rw [Array.size_push];rcases H with H|⟨p,s,d,z,A,Q,R⟩
  ·have:=I.rep.lim b (.inl H);omega
  ·by_cases e:p=i
   ·subst e;rw [Mp.p8] at R;omega
   ·have:=I.rep.lim b (.inr ⟨p,s,d,z,A,f p Q e,by rw [R,(Z p s d z A (f p Q e)).1]⟩);omega
 ·show (w.heap.push t)[b]? =_
  rw [Cl b (az J g.size)];exact g.xj b J hn
 ·have:x≠c.nm i:=fun e=>by rw [e] at l;omega
  rw [(Mp.A0 m w.heap.size cap this).1,(Mp.A0 m w.heap.size cap this).2];exact g.agree x l
 ·rw [(E x (.inl l.aF)).1];exact g.yj x l nP
 ·by_cases e:p=i
  ·subst e
   rw [T] at B;cases B;right;refine ⟨⟨t,by rw [Mp.p8];show (w.heap.push t)[w.heap.size]? =_;simp,J⟩,by rw [Mp.p8];exact g.size,fun x l=> ?_,fun D s d u y z A=> ?_⟩
   ·rw [Mp.p8,(E x (.inl l.aF)).1];exact gR (I.rep.lt l)
   ·have O:=f D z A
    rw [Mp.p8,(Z D s d u y O).1];exact gR (bB D s d u y O)
  ·have N:=f p Y e
   rcases I.yp p s d C B N with h|F
   ·exact .inl h
   ·right
    obtain ⟨o',f1,f2⟩:=F.blk;have M:=Z p s d C B N;refine ⟨⟨o',by rw [M.1];show (w.heap.push t)[_]? =_;rw [Cl _ (ax.1 f1).1];exact f1,Kb (fun x l=>E x (VE I N l)) (I.fin p s d C B N).1 M.2 f2⟩,
     by rw [M.1];exact F.new,fun x l=>by rw [M.1,(E x (.inl l.aF)).1];exact F.apart x l,fun D X W u y z A=> ?_⟩
    by_cases e':D=i
    ·subst e';rw [Mp.p8,M.1];exact ij (gR (bB p s d C B N))
    ·have O:=f D z e'
     rw [M.1,(Z D X W u y O).1];exact F.each D X W u y O A
 ·by_cases e:p=i
  ·subst e
   rw [T] at B;cases B;exact ⟨yi ap5 bz,U⟩
  ·exact I.fin p s d C B (f p Y e)
 ·rw [hv];exact apX mk AZ
def agC (k:c.Ok) (I:c.Inv L a w m q) (hi:i<c.n) (lN:L i≠true) (H: ∀j,c.pr i j->L j=true) (lZ: ∀j,L' j=true↔(L j=true\/j=i)) {o:Oper} (ho:c.all[i]? =some o)
 (hK:c.K i= .wr) {Q:Mp} {w1:World} (r1:bR c.E.gl (c.SS L m) Q (c.st (i+1)).h w1) (N:Goes m (gy (fK c.all i) (c.st i).dz (c.st i).h) w Q (c.st (i+1)).h w1)
 (yq:(c.st (i+1)).h.df=(gy (fK c.all i) (c.st i).dz (c.st i).h).df) (hv:In (aF (c.st (i+1)).h) (c.v i)):
 ∃A,γ A (c.v i)=γ Q (c.v i)/\c.Inv L' (a.put o.dst (γ A (c.v i))) w1 A (i+1):=by
 have C: ∀p,L' p=true->p≠i->L p=true:=fun p u hne=>by simp_all
 have Ea: ∀p g mk,c.K p= .nw g mk->p≠i:=fun p g mk u e=>by simp_all
 have hq:q<=i:=by
  rcases I.qm with h0|⟨d,hd,Eb⟩
  ·omega
  ·rcases bV i d with h|h
   ·have mU:d<c.n:=by have:=I.qn;omega
    have QP:L d=true:=(I.qc d mU Eb).2 (by omega);have:=k.run.ordered rfl h mU hK Eb;exact absurd (I.closed d i QP this) lN
   ·by_cases e:d=i
    ·subst e
     exact absurd ((I.qc d hi Eb).2 (by omega)) lN
    ·omega
 have M:=k.run.quiet (i:=q) (j:=i) hq (aQ hi) fun x dW s7 Cz=>by
  have:=k.run.ordered rfl s7 hi Cz hK;have:=(I.qc x (by omega) Cz).1 (H x this);omega
 have jz:(c.st q).h.nx.n<=(c.st i).h.nx.n:=k.run.mono hq (aQ hi);obtain ⟨J,lf2,lf3⟩:=Ky (fK c.all i) (c.st i).dz (c.st i).h;have mu:=k.VB I hi H M.1;have R: ∀x,aF (c.st q).h x->x.n<(c.st i).h.nx.n:=fun x f=>az (I.rep.fresh x f) jz
 have agD: ∀x,aF (c.st q).h x->aF (gy (fK c.all i) (c.st i).dz (c.st i).h) x:=fun x f=>(mu x).2 (.inl f)
 have W: ∀x,aF (c.st q).h x->aF (c.st (i+1)).h x:=fun x f=>N.old x (agD x f)
 have ap6: ∀p g mk,c.pr i p->p<c.n->c.K p= .nw g mk->aF (c.st (i+1)).h (c.nm p):=fun p g mk t l z=>N.old _ ((mu _).2 (.inr ⟨p,g,mk,t,l,z,rfl⟩))
 have nO: ∀p g mk,p<c.n->c.K p= .nw g mk-> ¬aF (gy (fK c.all i) (c.st i).dz (c.st i).h) (c.nm p)-> ¬aF (c.st (i+1)).h (c.nm p):=fun p g mk t l z B=>by
  have hpi:=Ea p g mk l;rcases bV p i with h|h
  ·have:=k.D9 l h (aQ hi)
   rcases N.FF _ B with Y|Y
   ·exact z Y
   ·rw [J] at Y;omega
  ·have h6:=r1.fresh _ B
   have h7:=k.run.mono (i:=i+1) (j:=p) (by omega) (aQ t);show False;have:(c.nm p).n=(c.st p).h.nx.n:=rfl;omega
 let A:Mp:=⟨fun x=> @ite _ (aF (c.st (i+1)).h x) (Classical.propDecidable _) (Q.b x) (m.b x),fun x=> @ite _ (aF (c.st (i+1)).h x) (Classical.propDecidable _) (Q.cv x) (m.cv x)⟩
 have vd: ∀x,aF (c.st (i+1)).h x->A.b x=Q.b x/\A.cv x=Q.cv x:=fun x f=>by
  simp [A,f]
 have rq: ∀x,¬aF (c.st (i+1)).h x->A.b x=m.b x/\A.cv x=m.cv x:=fun x f=>by
  simp [A,f]
 have VF: ∀x,x.n<(gy (fK c.all i) (c.st i).dz (c.st i).h).nx.n->A.b x=m.b x/\A.cv x=m.cv x:=fun x f=>by
  by_cases e:aF (c.st (i+1)).h x
  ·rw [(vd x e).1,(vd x e).2];exact N.agree x f
  ·exact rq x e
 have fT: ∀x,Live c L q x->A.b x=m.b x/\A.cv x=m.cv x:=fun x f=>by
  rcases f with f|⟨p,g,mk,t,l,z,rfl⟩
  ·exact VF x (by rw [J];exact R x f)
  ·by_cases e:aF (gy (fK c.all i) (c.st i).dz (c.st i).h) (c.nm p)
   ·rcases (mu _).1 e with h|⟨X,O,s,B,Y,h6,h7⟩
    ·exact VF _ (by rw [J];exact R _ h)
    ·exact VF _ (by rw [J,h7];exact k.D9 h6 (k.agy B) (aQ hi))
   ·exact rq _ (nO p g mk t l e)
 have g1':Goes m (gy (fK c.all i) (c.st i).dz (c.st i).h) w A (c.st (i+1)).h w1:=N.apM vd VF;have QR:=k.shown I hi H M.1 M.2.1 R (fun p g mk u D=>k.D9 D u (aQ hi));have gin:Goes c.m0 c.h0 c.w0 m (gy (fK c.all i) (c.st i).dz (c.st i).h) w:=by
  have T: ∀p∈(c.st i).dz,Nat.testBit (fK c.all i) p.ix=true->p.ob.pI=true:=fun p u oN=>by
   obtain ⟨mk,t,l,z⟩:=(k.dz p (aQ hi)).1 u;exact (I.fin p.ix p.ob mk (by omega) l (H _ oN)).2
  refine I.goes.lay (by rw [J];exact jz) agD (fun x f=> ?_) (fun x f=>ags T ((Kz M.1 x).2 f)) (fun x f=> ?_) fun x id f=>(Vy T).2 (by rw [aaR M.1];exact f)
  ·rcases (mu x).1 f with h|⟨p,g,mk,t,l,z,rfl⟩
   ·exact .inl h
   ·have:=k.run.mono (i:=0) (j:=p) (b6 _) (aQ l)
    rw [k.run.first] at this;exact .inr this
  ·rcases aaS T f with h|⟨h,p,u,hb,rfl⟩
   ·exact .inl ((Kz M.1 x).1 h)
   ·obtain ⟨mk,t,l,z⟩:=(k.dz p (aQ hi)).1 u
    rw [z] at h⊢;rcases I.yp p.ix p.ob mk (by omega) l (H _ hb) with B|F
    ·exact absurd h ((H8 M.1 _).2 B)
    ·exact .inr F.new
 have qG:γ A (c.v i)=γ Q (c.v i):=D1 vd _ hv;have bB: ∀p O s,p<c.n->c.K p= .nw O s->L p=true->m.b (c.nm p)<w.heap.size:=fun p O s t l z=>by
  rcases I.yp p O s t l z with h|F
  ·exact I.rep.lt (agA I t l h)
  ·obtain ⟨o',B,_⟩:=F.blk;exact (ax.1 B).1
 have QS: ∀p g mk,p<c.n->c.K p= .nw g mk-> ∀id,((c.st (i+1)).h.at (c.nm p)).obj≠ .ga id:=fun p g mk t l id e=>by
  have T: ∀p∈(c.st i).dz,Nat.testBit (fK c.all i) p.ix=true->p.ob.pI=true:=fun p u oN=>by
   obtain ⟨mk,t,l,z⟩:=(k.dz p (aQ hi)).1 u;exact (I.fin p.ix p.ob mk (by omega) l (H _ oN)).2
  have Py:aF (c.st (i+1)).h (c.nm p):=fun e'=>by rw [e'] at e;cases e
  have xZ:aF (gy (fK c.all i) (c.st i).dz (c.st i).h) (c.nm p):=Classical.byContradiction fun h=>nO p g mk t l h Py
  rcases ZX xZ with h|⟨id',h⟩
  ·have:=N.bold _ h
   unfold bk at this;rw [e] at this;cases this
  ·rw [Vy T,aaR M.1] at h
   exact I.Ia p g mk t l id' h
 have hSm: ∀b,c.SS L' A b->c.SS L m b:=fun b U=>by
  rcases U with U|⟨p,g,mk,z,B,Y,h6⟩
  ·exact .inl U
  ·have h5':=C p Y (Ea p g mk B)
   exact .inr ⟨p,g,mk,z,B,h5',by rw [h6,(fT _ (.inr ⟨p,g,mk,z,B,h5',rfl⟩)).1]⟩
 refine ⟨A,qG,?_⟩;refine k.aaZ I hi lN H lZ ho hi (fun j hj hw=> ?_) (.inr ⟨i,rfl,hK⟩) (r1.congr vd (fun _ _=>rfl) (aq _) (fun b _ U=>hSm b U) fun b U=>r1.lim b (hSm b U)) (Goes.trans k.rep QR gin g1')
  (by rw [yq,lf3,M.2.2];exact I.df) (fun p g mk u D Z=> ?_) (fun p g mk u D Z=> ?_) (fun p g mk u D Z=> ?_) QS fT W (rD (fun x f=> .inl f) _ hv)
 ·rw [lZ]
  constructor
  ·rintro (h|rfl)
   ·have:=(I.qc j hj hw).1 h;omega
   ·omega
  ·intro h
   by_cases e:j=i
   ·exact .inr e
   ·exact .inl (H j (k.run.ordered rfl (by omega) hi hw hK))
 ·have CA:=C p Z (Ea p g mk D)
  by_cases e:aF (c.st (i+1)).h (c.nm p)
  ·exact .inl e
  ·right
   rcases I.yp p g mk u D CA with h|F
   ·exact absurd (W _ h) e
   ·have vT:=rq _ e
    have T: ∀p∈(c.st i).dz,Nat.testBit (fK c.all i) p.ix=true->p.ob.pI=true:=fun p u oN=>by
     obtain ⟨mk,t,l,z⟩:=(k.dz p (aQ hi)).1 u;exact (I.fin p.ix p.ob mk (by omega) l (H _ oN)).2
    have M5: ∀x,bk (gy (fK c.all i) (c.st i).dz (c.st i).h) x->m.b x≠m.b (c.nm p):=fun x f=>by
     rcases aaS T f with h|⟨_,y,hy,hb,rfl⟩
     ·exact F.apart x ((Kz M.1 x).1 h)
     ·obtain ⟨s,t,l,z⟩:=(k.dz y (aQ hi)).1 hy
      rw [z];refine F.each y.ix y.ob s (by omega) l (H _ hb) fun e'=> ?_
      rw [<-e'] at e;exact e (ap6 y.ix y.ob s hb (by omega) l)
    have agE: ∀x,bk (c.st (i+1)).h x->A.b x≠m.b (c.nm p):=fun x f=>by
     rw [(vd x f.aF).1];by_cases e2:bk (gy (fK c.all i) (c.st i).dz (c.st i).h) x
     ·rw [(N.agree x (QR.fresh x e2.aF)).1];exact M5 x e2
     ·rcases N.yj x f e2 with h|⟨y,hy,h⟩
      ·have:=bB p g mk u D CA;omega
      ·rw [<-h];exact M5 y hy
    obtain ⟨o',f1,f2⟩:=F.blk;refine ⟨⟨o',by rw [vT.1,N.xj _ (bB p g mk u D CA) M5];exact f1,Kb (fun x f=>fT x (VE I CA f)) (I.fin p g mk u D CA).1 vT.2 f2⟩,by rw [vT.1];exact F.new,
     fun x f=>by rw [vT.1];exact agE x f,fun X O s t l z B=> ?_⟩
    rw [vT.1];have Cy:=C X z (Ea X O s l);by_cases e3:aF (c.st (i+1)).h (c.nm X)
    ·refine agE _ ?_
     rcases ZX e3 with h|⟨id,h⟩
     ·exact h
     ·exact absurd h (QS X O s t l id)
    ·rw [(rq _ e3).1];exact F.each X O s t l Cy B
 ·obtain ⟨f1,f2⟩:=I.fin p g mk u D (C p Z (Ea p g mk D))
  refine ⟨yi (fun x f=> ?_) f1,f2⟩;rcases f with f|f
  ·exact .inl (W x f)
  ·exact .inr f
 ·refine nO p g mk u D fun hd=> ?_
  rcases (mu _).1 hd with h|⟨X,O,s,t,l,z,B⟩
  ·exact I.F0 p g mk u D (fun h=>Z ((lZ p).2 (.inl h))) h
  ·have:=k.aaV D z u l B
   subst this;exact Z ((lZ p).2 (.inl (H p t)))
end
end Cx.Ok
end
section
variable [aJ] {S:Nat->Prop}
variable {c:Cx}
omit [aJ] in
def VG {E:Env} {cs b} :pG E (.select cs b)= .bad:=by unfold pG;split<;>rfl
omit [aJ] in
def count_set: ∀(x:List Bool) (i:Nat),x[i]? =some false->((x.set i true).filter id).length=(x.filter id).length+1
 | [],_,h=>by cases h
 |b::x,0,h=>by simp_all
 |b::x,i+1,h=>by
  have:=count_set x i (by simpa using h)
  all_goals grind
namespace Cx.Ok
section
variable {L L':Nat->Bool} {a:Act} {w:World} {m:Mp} {q i:Nat}
def wants (k:c.Ok) (I:c.Inv L a w m q) (hi:i<c.n) (y:L i≠true) (t: ∀j,c.pr i j->L j=true) {o:Oper} (x:c.all[i]? =some o):
 (KA c.all o (c.st i).tm->Region.wanted o (yielded c.all.toArray a.tmps)=true)/\((∃e,um c.all o.guard=some e/\e.f (c.st i).tm=some false)->Region.wanted o (yielded c.all.toArray a.tmps)=false):=by
 obtain ⟨s,p⟩:=af6 (all:=c.all) (o:=o) (m:=m) (tm:=(c.st i).tm) (a:=a) fun j b z d g l u=>(k.reads I hi y t x (.inr ⟨j,b,z,g,l,u⟩)).1
 exact ⟨fun h=>by rcases h with h|⟨e,g,l⟩;exact s h;exact p e true g l,fun ⟨e,g,l⟩=>p e false g l⟩
def step (k:c.Ok) (I:c.Inv L a w m q) (hi:i<c.n) (B:L i≠true) (u: ∀j,c.pr i j->L j=true) (Z: ∀j,L' j=true↔(L j=true\/j=i)) {Q:Exit->Act->World->Prop} {U:Act->World->Prop}
 (Y: ∀a' w' m' q',c.Inv L' a' w' m' q'->U a' w'):wpOp c.P c.all.toArray Q i U a w:=by
 obtain ⟨o,p,D,hp,Ib,s⟩:=k.run.get hi;have g9:c.all.toArray[i]? =some o:=by simpa using D
 unfold wpOp;rw [g9];simp only;obtain ⟨wt,wf⟩:=k.wants I hi B u D;obtain ⟨F,ρ,T,VH,M⟩:=k.view I hi B u D;have O:=af0 k.env o.op;have agF: ∀ {H:aP},H.t=(c.st q).h.t->Src c.E.gl m (aF (gy (fK c.all i) (c.st i).dz H)) F ρ:=fun ht=>
  ⟨fun t=>⟨(T.tmp t).1,rD (fun x hx=>(k.VB I hi u ht x).2 hx) _ (T.tmp t).2⟩,T.const,T.global,T.func⟩
 cases l:c.K i with
 |skip=>
  rw [l] at s;simp only [s6] at s;rw [wf s.2.1];simp only [cG,if_false];refine Y _ _ m q ?_;have:=k.calm I hi B u Z D (by rw [l];simp) (by rw [l];simp) (by rw [s.1];exact trivial);rw [s.1] at this;exact this
 |pu=>
  rw [l] at s;simp only [s6] at s;rw [wt s.1];simp only [if_true];obtain ⟨f,y,A⟩:=s.2.1;rw [y] at O M;have R: ∀C b,o.op≠ .select C b:=fun C b e=>by rw [e,VG] at y;cases y;cases A
  obtain ⟨W,z⟩:=O m (c.DP q i) F ρ (c.v i) w o rfl T (by rw [<-(show f (c.st i).tm=f F from M)];exact A);left;unfold Oper.wp;rw [VH R,W];exact Y _ _ m q (k.calm I hi B u Z D (by rw [l];simp) (by rw [l];simp) z)
 |rd=>
  obtain ⟨f,H,y,hw,ht,ha,hn,MT,A⟩:=k.ap1 I hi B u D l;rw [wt hw];simp only [if_true];rw [y] at O M;have R: ∀C b,o.op≠ .select C b:=fun C b e=>by rw [e,VG] at y;cases y
  obtain ⟨W,z⟩:=O _ m _ F ρ (c.v i) w o rfl (k.shown I hi u ht ha hn MT) (agF ht) (by rw [<-(M: ∀h,f (c.st i).tm h=f F h)];exact A);left;unfold Oper.wp;rw [VH R,W];exact Y _ _ m q (k.calm I hi B u Z D (by rw [l];simp) (by rw [l];simp) (rD (fun x hx=>(k.VB I hi u ht x).1 hx) _ z))
 |nw ob mk=>
  rw [l] at s;simp only [s6] at s;rw [wt s.1];simp only [if_true];obtain ⟨f,y,A⟩:=s.2.1;rw [y] at O M;have R: ∀C b,o.op≠ .select C b:=fun C b e=>by rw [e,VG] at y;cases y
  have vU: ¬c.DP q i (c.nm i):=fun h=>by
   rcases h with h|⟨p,jn,mk',W,z,N,X⟩
   ·exact I.F0 i ob mk hi l B h
   ·have:=k.aaV l N hi z X
    all_goals grind
  obtain ⟨cap,obj,W,z,N,X⟩:=O m (c.DP q i) F ρ ob mk w o rfl T (by rw [<-(show f (c.st i).tm=f F from M)];exact A) (c.nm i) vU;left;unfold Oper.wp;rw [VH R,W];have:=k.ap3 I hi B u Z D l s.2.2.1 z N X;rw [show c.v i=mk.mk (c.nm i) from s.2.2.1] at this;exact Y _ _ _ q this
 |wr=>
  rw [l] at s;simp only [s6] at s;rw [wt s.1];simp only [if_true];obtain ⟨f,y,A⟩:=s.2.1;rw [y] at O M;have R: ∀C b,o.op≠ .select C b:=fun C b e=>by rw [e,VG] at y;cases y
  left;unfold Oper.wp;rw [VH R];have hq:q<=i:=by
   rcases I.qm with h0|⟨d,hd,Eb⟩
   ·omega
   ·rcases bV i d with h|h
    ·have mU:d<c.n:=by have:=I.qn;omega
     have QP:L d=true:=(I.qc d mU Eb).2 (by omega);exact absurd (I.closed d i QP (k.run.ordered rfl h mU l Eb)) B
    ·by_cases e:d=i
     ·subst e
      exact absurd ((I.qc d hi Eb).2 (by omega)) B
     ·omega
  have tK:=k.run.quiet (i:=q) (j:=i) hq (aQ hi) fun x dW s7 Cz=>by
   have:=(I.qc x (by omega) Cz).1 (u x (k.run.ordered rfl s7 hi Cz l));omega
  have QR:=k.shown I hi u tK.1 tK.2.1 (fun x hx=>az (I.rep.fresh x hx) (k.run.mono hq (aQ hi))) (fun p ob mk hp l=>k.D9 l hp (aQ hi));have hg:=O _ m _ F ρ w o rfl QR (agF tK.1);rw [<-(M: ∀h,f (c.st i).tm h=f F h)] at hg;rcases A with A|⟨g,args,A,hc⟩
  ·rw [A] at hg
   obtain ⟨m1,w1,r,z,N,X,h5,h6,h7⟩:=hg;rw [z];obtain ⟨m',e1,J⟩:=k.agC I hi B u Z D l X h5 h7 h6;rcases N with rfl|⟨rfl,h8⟩
   ·rw [<-e1];exact Y _ _ m' _ J
   ·rw [h8] at J;exact Y _ _ m' _ J
  ·rw [A] at hg
   obtain ⟨z,N⟩:=hg;rw [z];obtain ⟨X,h5⟩:=k.apT g args _ _ _ hc;show Calls c.P g ⟨aV m args⟩ w _;refine (h5 _ m w QR N (fun d hd=> ?_)).mono fun en w1 ⟨m1,he,r1,g1,bz⟩=> ?_
   ·rw [(Ky _ _ _).2.2,tK.2.2,I.df] at hd
    exact QL (fun p hp oN=>by
     obtain ⟨mk,W,z,N⟩:=(k.dz p (aQ hi)).1 hp;exact (I.fin p.ix p.ob mk (by omega) z (u _ oN)).2) ((H8 tK.1 d).2 (I.goes.old d (k.A9 d hd)))
   ·subst he
    obtain ⟨m',e1,J⟩:=k.agC I hi B u Z D l r1 g1 X bz;show U (a.put o.dst (γ m1 (c.v i))) w1;rw [<-e1];exact Y _ _ m' _ J
end
def s8 (l:Array Bool) (j:Nat):Bool:=l.getD j false
omit [aJ] in
def VI {l:Array Bool} (t:l.size=c.n) {i:Nat} :i∈Region.ready .any c.all.toArray l↔(i<c.n/\s8 l i≠true/\ ∃o,c.all[i]? =some o/\ ∀e∈o.after.toList,DW e=true->s8 l e.on=true):=by
 have x: ∀e:Edge,Region.binds .any e=DW e:=fun e=>by unfold Region.binds DW;cases e.ground<;>rfl
 unfold Region.ready;simp only [List.mem_filter,m6,List.size_toArray,au,iZ];constructor
 ·rintro ⟨b,p,d⟩
  have u:i<l.size:=by rw [t];exact b
  refine ⟨b,?_,?_⟩
  ·unfold s8
   all_goals grind
  ·have g:c.all[i]? =some c.all[i]:=aM b
   have j:c.all.toArray[i]? =some c.all[i]:=by simp
   refine ⟨_,g,fun e f k=> ?_⟩;rw [j] at d;simp only [dD,Option.getD_some,jo,dw,iZ] at d;rcases d e (by simpa using f) with s|s
   ·simp_all
   ·exact s
 ·rintro ⟨b,p,o,g,d⟩
  have u:i<l.size:=by rw [t];exact b
  have j:c.all.toArray[i]? =some o:=by simpa using g
  refine ⟨b,?_,?_⟩
  ·unfold s8 at p
   all_goals grind
  ·rw [j]
   simp only [dD,Option.getD_some,jo,dw,iZ];intro e f;cases k:DW e with
   |false=>simp_all
   |true=>right;exact d e (by simpa using f) k
def ap7 (k:c.Ok) {Q:Exit->Act->World->Prop} (H: ∀L a w m q,(∀i,i<c.n->L i=true)->c.Inv L a w m q->Q .normal a w): ∀(b:Nat) (l:Array Bool) (a:Act) (w:World) (m:Mp) (q:Nat),
 l.size=c.n->c.n<=b+(l.toList.filter id).length->c.Inv (s8 l) a w m q->wpAny c.P .any c.all.toArray Q b l a w:=by
 have done: ∀(l:Array Bool) (a:Act) (w:World) (m:Mp) (q:Nat),l.size=c.n->c.Inv (s8 l) a w m q->Region.ready .any c.all.toArray l= []->Q .normal a w:=fun l a w m q f I y=>by
  refine H (s8 l) a w m q (fun i s=> ?_) I;cases oM (∃j,j<c.n/\s8 l j≠true) with
  |inr h=>simp_all
  |inl h=>
   obtain ⟨j,⟨g,d⟩,C⟩:=least h;have u:c.all[j]? =some c.all[j]:=aM g;have:j∈Region.ready .any c.all.toArray l:=(VI f).2 ⟨g,d,_,u,fun e z D=>by
    have R:Nat.testBit (fK c.all j) e.on=true:=(QI u e.on).2 ⟨e,z,D,.inl rfl⟩;have Z:e.on<j:=k.ord.lt j e.on R
    all_goals grind⟩
   all_goals grind
 intro b
 induction b with
 |zero=>
  intro l a w m q f N I;refine ⟨?_,?_⟩
  ·cases y:Region.ready .any c.all.toArray l with
   |nil=>rfl
   |cons i x=>
    have s:i∈Region.ready .any c.all.toArray l:=by rw [y];simp
    obtain ⟨g,d,_⟩:=(VI f).1 s;have B:(l.toList.filter id).length=l.toList.length:=by
     grind
    have p:=ju.1 B;have t:i<l.size:=by rw [f];exact g
    have:=p l[i] (by simp);unfold s8 at d;simp [t] at d
    all_goals grind
  ·refine done l a w m q f I ?_
   cases y:Region.ready .any c.all.toArray l with
   |nil=>rfl
   |cons i x=>
    have s:i∈Region.ready .any c.all.toArray l:=by rw [y];simp
    obtain ⟨g,d,_⟩:=(VI f).1 s;have B:(l.toList.filter id).length=l.toList.length:=by
     grind
    have p:=ju.1 B;have t:i<l.size:=by rw [f];exact g
    have:=p l[i] (by simp);unfold s8 at d;simp [t] at d
    all_goals grind
 |succ b T=>
  intro l a w m q f N I;refine ⟨done l a w m q f I,fun i s=> ?_⟩;obtain ⟨g,d,o,u,C⟩:=(VI f).1 s;have t:i<l.size:=by rw [f];exact g
  have F: ∀j,c.pr i j->s8 l j=true:=fun j O=>by
   obtain ⟨e,z,M,h|⟨Y,h⟩⟩:=(QI u j).1 O
   ·grind
   ·exact I.closed e.on j (C e z M) h
  have U: ∀j,s8 (l.setIfInBounds i true) j=true↔(s8 l j=true\/j=i):=fun j=>by
   unfold s8;by_cases e:j=i
   ·subst e;simp [t]
   ·simp [bU (ij e),e]
  refine k.step I g d F U fun E w' W X J=> ?_
  refine T _ E w' W X (by simpa using f) ?_ J;have:((l.setIfInBounds i true).toList.filter id).length=(l.toList.filter id).length+1:=by
   have A:l.toList[i]? =some false:=by
    unfold s8 at d;simp [t] at d⊢;exact d
   rw [Array.toList_setIfInBounds];exact count_set _ _ A
  omega
end Cx.Ok
def F1 {P:Program} {E:Env} (qg:P.follows .mixedOrders=true) (ok:eD P E):H4 P E:=by
 intro nt id o cf kF tm h out bG h' e S m a w Q hr W hQ;unfold Qe at e;cases Ba:Fy o.toList o.toList (sX o.toList) 0 [] with
 |false=>rw [Ba] at e;cases e
 |true=>
  rw [Ba] at e;simp only at e;cases T:(DX E nt o.toList o.toList (sX o.toList) 0).f cf ⟨tm,h,[],0,[],[]⟩ with
  |none=>rw [T] at e;cases e
  |some sN=>
   rw [T] at e;simp only at e;rw [Vx] at e;cases e;obtain ⟨st,K,v,A⟩:=apP T
   let w0:World:= {w with drawn:=w.drawn+1}
   let c:Cx:= {P,E,nt,all:=o.toList,cf,zA:=tm,m0:=m,h0:=h,w0,S0:=S,sN,st,K,v}
   have pY:bR E.gl S m h w0:=hr.aap rfl;have g0:Goes m h w m h w0:=⟨rfl,rfl,rfl,aq _,fun _ _ _=>rfl,fun _ _=>⟨rfl,rfl⟩,aq _,fun _ h=> .inl h,fun _ a b=>absurd a b,fun _ h=>h,fun _ h=>h,fun _ _ h=>h⟩;have k:c.Ok:=⟨ok,kF,apK Ba,A,pY,W.ins,W.A9⟩;have O:c.st 0=⟨tm,h,[],0,[],[]⟩:=A.first;have ap8: ∀(j t:Nat),c.cur (Cx.Ok.s8 (Array.replicate o.size false)) j t=gW t tm:=fun j t=>by
    induction j with
    |zero=>rfl
    |succ j ih=>
     rw [Cx.cur,if_neg,ih];rintro ⟨s,_⟩;simp [Cx.Ok.s8,cR,iJ] at s
     all_goals grind
   have no: ∀j,Cx.Ok.s8 (Array.replicate o.size false) j≠true:=fun j s=>by
    simp [Cx.Ok.s8,cR,iJ] at s;split at s<;>simp at s
   have I:c.Inv (Cx.Ok.s8 (Array.replicate o.size false)) a w0 m 0:=
    {qn:=b6 _
     qc:=fun i _ _=>⟨fun h=>absurd h (no i),fun h=>by omega⟩
     qm:= .inl rfl
     rep:=by
      rw [O];refine pY.shrink fun b H=> ?_
      rcases H with H|⟨p,_,_,_,_,h,_⟩
      all_goals grind
     goes:=by rw [O];exact Goes.refl m h w0
     df:=by rw [O]
     yp:=fun p _ _ _ _ h=>absurd h (no p)
     fin:=fun p _ _ _ _ h=>absurd h (no p)
     F0:=fun p M mk y hk _ T=>by
      have s:aF h (c.nm p):=by simp_all
      have u:=pY.fresh _ s;have z:=A.mono (i:=0) (j:=p) (b6 _) (aQ y);rw [A.first] at z;exact absurd (az u z) (bO _)
     Ia:=fun p M mk y hk id e=>by
      have s:aF h (c.nm p):=fun e'=>by simp_all
      have u:=pY.fresh _ s;have z:=A.mono (i:=0) (j:=p) (b6 _) (aQ y);rw [A.first] at z;exact absurd (az u z) (bO _)
     tv:=fun t=>by rw [ap8];exact W.val t
     QO:=fun j _ h=>absurd h (no j)
     sz:=W.size
     VA:=W.defs
     closed:=fun i j h _=>absurd h (no i)}
   refine wp_region_any qg ?_;have key:=k.ap7 (Q:=Q) (fun L a' w' X q' N J=> ?_) o.size (Array.replicate o.size false) a w0 m 0 (by show _=o.toList.length;simp) (by show o.toList.length<=_;simp) I
   ·omega
   ·
    have D:c.st c.n=sN:=A.last;have C:=k.run.quiet (i:=q') (j:=c.n) J.qn (aq _) fun x dW s7 Cz=>by
     have:=(J.qc x s7 Cz).1 (N x s7);omega
    have R:=k.run.mono (i:=q') (j:=c.n) J.qn (aq _);rw [D] at C R;have aa4: ∀i,Nat.testBit (Nat.sub (Nat.pow 2 o.toList.length) 1) i=decide (i<o.toList.length):=fun i=>Nat.testBit_two_pow_sub_one ..
    have Z: ∀p∈sN.dz,Nat.testBit (Nat.sub (Nat.pow 2 o.toList.length) 1) p.ix=true->p.ob.pI=true:=fun p y _=>by
     rw [<-D] at y;obtain ⟨mk,s,u,z⟩:=(k.dz p (aq _)).1 y;exact (J.fin p.ix p.ob mk s u (N _ s)).2
    obtain ⟨lf1,lf2,lf3⟩:=Ky (Nat.sub (Nat.pow 2 o.toList.length) 1) sN.dz sN.h;have mu: ∀x,aF (gy (Nat.sub (Nat.pow 2 o.toList.length) 1) sN.dz sN.h) x↔Cx.Ok.Live c L q' x:=fun x=>by
     rw [agr Z];constructor
     ·rintro (h|⟨p,y,H,rfl⟩)
      ·exact .inl ((H8 C.1 x).1 h)
      ·rw [<-D] at y
       obtain ⟨mk,s,u,z⟩:=(k.dz p (aq _)).1 y;exact .inr ⟨p.ix,p.ob,mk,s,u,N _ s,z⟩
     ·rintro (h|⟨p,M,mk,s,u,z,rfl⟩)
      ·exact .inl ((H8 C.1 x).2 h)
      ·refine .inr ⟨⟨p,c.nm p,M⟩,?_,?_,rfl⟩
       ·rw [<-D];exact (k.dz _ (aq _)).2 ⟨mk,s,u,rfl⟩
       ·rw [aa4];exact decide_eq_true s
    have r1:bR E.gl (c.SS L X) X sN.h w':=J.rep.ext C.1 C.2.1 fun n hn=>az (J.rep.fresh n hn) R
    have QT: ∀p M mk,p<c.n->c.K p= .nw M mk->(sN.h.at (c.nm p)).obj= .free->c.Vz L X q' w' p M:=fun p M mk s u z=>by
     rcases J.yp p M mk s u (N p s) with h4|h4
     ·exact absurd z ((H8 C.1 _).2 h4)
     ·exact h4
    have r2:bR E.gl (c.SS L X) X (gy (Nat.sub (Nat.pow 2 o.toList.length) 1) sN.dz sN.h) w':=by
     refine r1.agt Z (fun p y H hf=> ?_) (fun p y p' Cu H gd hf lL U=> ?_) (fun p y H hf=> ?_)
     ·rw [<-D] at y
      obtain ⟨mk,s,u,z⟩:=(k.dz p (aq _)).1 y;rw [z] at hf⊢;have F:=QT p.ix p.ob mk s u hf;refine ⟨F.blk,by rw [<-D];exact k.D9 u s (aq _),fun x B=>F.apart x ((Kz C.1 x).1 B),?_,fun g l hg e=> ?_⟩
      ·exact yi (fun x B=>(mu x).2 (Cx.Ok.VE J (N _ s) B)) (J.fin p.ix p.ob mk s u (N _ s)).1
      ·have:=k.agz hg
       have:=F.new;omega
     ·rw [<-D] at y Cu
      obtain ⟨mk,s,u,z⟩:=(k.dz p (aq _)).1 y;obtain ⟨mk',h1',Cw,Cy⟩:=(k.dz p' (aq _)).1 Cu;rw [z] at hf U⊢;rw [Cy] at lL U⊢;exact (QT p'.ix p'.ob mk' h1' Cw lL).each p.ix p.ob mk s u (N _ s) (fun e=>U (by rw [e]))
     ·rw [<-D] at y
      obtain ⟨mk,s,u,z⟩:=(k.dz p (aq _)).1 y;exact .inr ⟨p.ix,p.ob,mk,s,u,N _ s,by rw [z]⟩
    have g2:Goes m h w0 X (gy (Nat.sub (Nat.pow 2 o.toList.length) 1) sN.dz sN.h) w':=by
     refine J.goes.lay (by rw [lf1];exact R) (fun x B=>(mu x).2 (.inl B)) (fun x B=> ?_) (fun x B=>ags Z ((Kz C.1 x).2 B)) (fun x B=> ?_) fun x id B=>(Vy Z).2 (by rw [aaR C.1];exact B)
     ·rcases (mu x).1 B with s|⟨p,M,mk,s,u,z,rfl⟩
      ·exact .inl s
      ·have:=A.mono (i:=0) (j:=p) (b6 _) (aQ s)
       rw [A.first] at this;exact .inr this
     ·rcases aaS Z B with s|⟨s,p,y,H,rfl⟩
      ·exact .inl ((Kz C.1 x).1 s)
      ·rw [<-D] at y
       obtain ⟨mk,u,z,h4⟩:=(k.dz p (aq _)).1 y;rw [h4] at s⊢;exact .inr (QT p.ix p.ob mk u z s).new
    have g3:=Goes.trans hr pY g0 g2;refine hQ X a' w' (r2.shrink fun b H=> .inl H) ?_ g3;have yq:(gy (Nat.sub (Nat.pow 2 o.toList.length) 1) sN.dz sN.h).df=h.df:=by rw [lf3,C.2.2];exact J.df
    have Y: ∀t,c.cur L c.n t=gW t sN.tm:=fun t=>by
     rw [k.aaX (aq _) t fun j hj _=>N j hj,D]
    refine ⟨J.sz,fun t=>by rw [J.tv,Y],fun t=> ?_,?_,fun d T=> ?_⟩
    ·rw [<-Y];exact rD (fun x B=>(mu x).2 B) _ (k.agB J t)
    ·rw [J.VA,yq]
     apply dy;intro d hm;simp only [collected];rw [(g3.agree d (hr.fresh d (W.A9 d hm))).1]
    ·rw [yq] at T;exact g3.old d (W.A9 d T)
def agH {P:Program} (d:P.follows .mixedOrders=true) (G:gb) (b:G.len=fun _=>none) (n:Nat):sZ P (Env.of P G) (zI (Env.of P G) n):=
 have ok:=Vs P G [] (fun _ h=>by cases h) (fun id a h=>by rw [b] at h;cases h)
 agh ok (F1 d ok) n
end
section
def isTrue:VR->Bool
 | .ok (.bool b) _=>b
 |_=>false
instance aES:aJ:=⟨fun _=>default⟩
def vV (n:Nat) (x:Pos): ¬aF (sY n) x:=fun h=>h (by
 show ((fX.leaf:fX Cell).get noCell x).obj= .free;rw [fX.DY];rfl)
def tb (n:Nat) (x:Pos): ¬bk (sY n) x:=fun h=>vV n x h.aF
def F2 (n:Nat) (x:Pos):(sY n).at x=noCell:=fX.DY _
def ap9 {P:Program} (E:P.follows .mixedOrders=true) {G:gb} (x:G.len=fun _=>none) {n f:Nat} (h:isTrue (zI (Env.of P G) n f [] (sY 1))=true) {W:World}
 (B: ∀g l,G.g g=some l-> ∃o e t,W.heap[g]? =some (.cells ⟨l++o⟩ e t)):
 Calls P f #[] W fun e p=>e= .returned (.bool true)/\RowKit.Below W.heap.size W p:=by
 cases hc:zI (Env.of P G) n f [] (sY 1) with
 |fail=>rw [hc] at h;cases h
 |ok v u=>
  rw [hc] at h;have D:v= .bool true:=by
   cases v<;>first|(cases h;done)|(rename_i b;cases b<;>first|rfl|cases h)
  subst D
  let s:Mp:=⟨fun _=>0,fun _=>⟨0,default⟩⟩
  have F:bR (Env.of P G).gl (fun _=>False) s (sY 1) W:=
   {blk:=fun n j=>absurd j (tb 1 n)
    fresh:=fun n j=>absurd j (vV 1 n)
    apart:=fun n k j=>absurd j (tb 1 n)
    mem:=fun n k j=>absurd j (vV 1 n)
    mq:=fun n j=>absurd j (vV 1 n)
    ins:=fun n=>by rw [F2];exact trivial
    qF:=fun g l C=>⟨B g l C,fun n j=>absurd j (tb 1 n)⟩
    jf:=fun n id j=>by rw [F2] at j;cases j
    lim:=fun _ h=>h.elim}
  have:=(agH E G x n f [] (sY 1) (.bool true) u hc).2 _ s W F trivial (fun d z=>by cases z);exact Calls.mono this fun e p ⟨H,A,_,g,_⟩=>⟨A,⟨g.os,g.tape,g.output,g.size,fun b y=>g.xj b y fun n j=>absurd j (tb 1 n)⟩⟩
end
section
section
variable [aJ] {S:Nat->Prop} {P:Program} {G:gb} {m:Mp} {h:aP} {w w':World}
def bR.agI (r:bR G S m h w) {n:Pos} (d:bk h n):m.b n<w.heap.size:=by
 obtain ⟨o,e,_⟩:=r.blk n d;exact (ax.1 e).1
def bR.aqa (r:bR G S m h w) {g:Nat} {l:List Value} (f:G.g g=some l):g<w.heap.size:=by
 obtain ⟨⟨b,e,j,d⟩,_⟩:=r.qF g l f;exact (ax.1 d).1
def noS:Nat->Prop:=fun _=>False
structure aa6 (G:gb) (B:Nat) (m:Mp) (h:aP) (w:World):Prop where
 rep:bR G noS m h w
 df:h.df= []
 from_: ∀n,bk h n->B<=m.b n
 tri: ∀i w v,G.jf i w v
 aa7:G.len=fun _=>none
def mp0:Mp:=⟨fun _=>0,fun _=>⟨0,default⟩⟩
def Ec (g:Nat->Option (List Value)):gb:=⟨g,fun _ _ _=>True,fun _=>none⟩
def agJ {g:Nat->Option (List Value)} {W:World} (hg: ∀k l,g k=some l-> ∃rest e fz,W.heap[k]? =some (.cells ⟨l++rest⟩ e fz)):aa6 (Ec g) W.heap.size mp0 (sY 1) W where
 rep:=
  {blk:=fun n hn=>absurd hn (tb 1 n)
   fresh:=fun n hn=>absurd hn (vV 1 n)
   apart:=fun n k hn=>absurd hn (tb 1 n)
   mem:=fun n k hn=>absurd hn (vV 1 n)
   mq:=fun n hn=>absurd hn (vV 1 n)
   ins:=fun n=>by rw [F2];exact trivial
   qF:=fun k l hl=>⟨hg k l hl,fun n hn=>absurd hn (tb 1 n)⟩
   jf:=fun _ _ _ _ _=>trivial
   lim:=fun _ h=>h.elim}
 df:=rfl
 from_:=fun n hn=>absurd hn (tb 1 n)
 tri:=fun _ _ _=>trivial
 aa7:=rfl
def agK (C:P.follows .mixedOrders=true) {n f:Nat} {args:List aj} {v:aj} {h':aP} (hc:zI (Env.of P G) n f args h= .ok v h') {B:Nat}
 (j:aa6 G B m h w) (E:B<=w.heap.size) (y:i9 (aF h) args):
 Calls P f ⟨aV m args⟩ w fun e w'=> ∃l,e= .returned (γ l v)/\aa6 G B l h' w'/\In (aF h') v/\RowKit.Below B w w'/\Goes m h w l h' w':=by
 obtain ⟨z,p⟩:=agH C G j.aa7 n f args h v h' hc;refine (p _ m w j.rep y (fun d u=>by rw [j.df] at u;cases u)).mono fun e w' ⟨l,o,r,g,A⟩=>⟨l,o,⟨r,z.trans j.df,fun x s=> ?_,j.tri,j.aa7⟩,A,?_,g⟩
 ·by_cases t:bk h x
  ·rw [(g.agree x (j.rep.fresh x t.aF)).1];exact j.from_ x t
  ·rcases g.yj x s t with D|⟨k,p,o⟩
   ·omega
   ·rw [<-o];exact j.from_ k p
 ·exact ⟨g.os,g.tape,g.output,g.size,fun b F=>g.xj b (by omega) fun x s e=>by have:=j.from_ x s;omega⟩
end
end
end Go.Ev
