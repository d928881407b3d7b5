/- refineCopies_proved. -/
import Derived.Test.YthleenhngcdgkaaGreatDoorPmal
import Derived.Below
set_option maxRecDepth 100000
set_option maxHeartbeats 16000000
set_option linter.all false
noncomputable section
namespace Go.Ev
section
variable [aJ] {S:Nat->Prop}
structure Cx where
 P:Program
 E:Env
 nt:Nat
 all:List Oper
 cf:(FuncId->List ai->aP->VR)
 Ao:Tm
 m0:Mp
 h0:aP
 w0:World
 S0:Nat->Prop
 sN:DS
 st:Nat->DS
 K:Nat->Kd
 v:Nat->ai
namespace Cx
variable (c:Cx)
def n:Nat:=c.all.length
def pr (i j:Nat):Prop:=Nat.testBit (fK c.all i) j=true
def nm (p:Nat):Pos:=(c.st p).h.nx
def dst (i:Nat):Option Tmp:=(c.all[i]?).bind (·.dst)
def DV (q j:Nat) (n:Pos):Prop:=aH (c.st q).h n\/ ∃p b mk,(p=j\/c.pr j p)/\p<c.n/\c.K p= .nw b mk/\n=c.nm p
def DP (q i:Nat) (n:Pos):Prop:=aH (c.st q).h n\/ ∃p b mk,c.pr i p/\p<c.n/\c.K p= .nw b mk/\n=c.nm p
def cur (L:Nat->Bool):Nat->Nat->ai
 |0,t=>ig t c.Ao
 |k+1,t=>if L k=true/\c.dst k=some t then c.v k else cur L k t
def SS (L:Nat->Bool) (m:Mp) (b:Nat):Prop:=c.S0 b\/ ∃p d mk,p<c.n/\c.K p= .nw d mk/\L p=true/\b=m.b (c.nm p)
structure Wx (L:Nat->Bool) (m:Mp) (q:Nat) (w:World) (p:Nat) (ob:jR):Prop where
 blk: ∃o,w.heap[m.b (c.nm p)]? =some o/\vD m (c.nm p) ob o
 new:c.w0.heap.size<=m.b (c.nm p)
 apart: ∀k,bk (c.st q).h k->m.b k≠m.b (c.nm p)
 each: ∀p' jC mk',p'<c.n->c.K p'= .nw jC mk'->L p'=true->p'≠p->m.b (c.nm p')≠m.b (c.nm p)
structure Inv (L:Nat->Bool) (a:Act) (w:World) (m:Mp) (q:Nat):Prop where
 qn:q<=c.n
 qc: ∀i,i<c.n->c.K i= .wr->(L i=true↔i<q)
 qm:q=0\/ ∃k,q=k+1/\c.K k= .wr
 rep:bV c.E.gl (c.SS L m) m (c.st q).h w
 goes:Goes c.m0 c.h0 c.w0 m (c.st q).h w
 df:(c.st q).h.df=c.h0.df
 za: ∀p ob mk,p<c.n->c.K p= .nw ob mk->L p=true->aH (c.st q).h (c.nm p)\/c.Wx L m q w p ob
 fin: ∀p ob mk,p<c.n->c.K p= .nw ob mk->L p=true->Az (c.DV q p) ob/\ob.pY=true
 GF: ∀p ob mk,p<c.n->c.K p= .nw ob mk->L p≠true-> ¬aH (c.st q).h (c.nm p)
 I2: ∀p ob mk,p<c.n->c.K p= .nw ob mk-> ∀id,((c.st q).h.at (c.nm p)).obj≠ .gH id
 tv: ∀t,a.tmps.getD t undef=γ m (c.cur L c.n t)
 RR: ∀j,j<c.n->L j=true->In (c.DV q j) (c.v j)
 sz:c.nt<=a.tmps.size
 Wy:a.defers=c.h0.df.map (collected c.m0)
 closed: ∀i j,L i=true->c.pr i j->L j=true
structure Ok:Prop where
 env:eN c.P c.E
 aqL:tr c.P c.E c.cf
 ord:Ordered c.all
 run:Run c.E c.nt c.all c.cf ⟨c.Ao,c.h0,[],0,[],[]⟩ c.sN c.st c.K c.v
 rep:bV c.E.gl c.S0 c.m0 c.h0 c.w0
 tin: ∀t,In (aH c.h0) (ig t c.Ao)
 BQ: ∀d∈c.h0.df,aH c.h0 d
end Cx
variable {c:Cx}
namespace Cx.Ok
def EO (k:c.Ok) {p j:Nat} {ob:jR} {mk:Mk} (g:c.K p= .nw ob mk) (b:p<j) (f:j<=c.n):(c.nm p).n<(c.st j).h.nx.n:=by
 have d:p<c.all.length:=ax b f;obtain ⟨o,_,_,_,_,e⟩:=k.run.get d;rw [g] at e;simp only [tt] at e;have l:(c.st (p+1)).h.nx.n=(c.nm p).n+1:=by rw [e.2.2.2.1];exact Pos.IC _
 have s:=k.run.mono (i:=p+1) (j:=j) (by omega) f;omega
def abz (k:c.Ok) {p b:Nat} {ob l:jR} {mk f:Mk} (j:c.K p= .nw ob mk) (g:c.K b= .nw l f) (h:p<c.n) (h':b<c.n) (e:c.nm p=c.nm b):p=b:=by
 rcases fS p b with d|d|d
 ·have:(c.nm p).n<(c.nm b).n:=k.EO j d (aQ h')
  all_goals grind
 ·exact d
 ·have:(c.nm b).n<(c.nm p).n:=k.EO g d (aQ h)
  all_goals grind
def ahp (k:c.Ok) {i j:Nat} (h:c.pr i j):j<i:=k.ord.lt i j h
def abA (k:c.Ok) {i j l:Nat} (h:c.pr i j) (h':c.pr j l):c.pr i l:=k.ord.trans h h'
def dA (k:c.Ok) (x:sL) {i:Nat} (hi:i<=c.n):x∈(c.st i).dA↔ ∃mk,x.ix<i/\c.K x.ix= .nw x.ob mk/\x.n=c.nm x.ix:=k.run.dA rfl x hi
section
variable {L:Nat->Bool} {a:Act} {w:World} {m:Mp} {q i:Nat}
def Wz (k:c.Ok) (I:c.Inv L a w m q) (hi:i<c.n) (l: ∀j,c.pr i j->L j=true) {H:aP} (g:H.t=(c.st q).h.t) (x:Pos):
 aH (gM (fK c.all i) (c.st i).dA H) x↔c.DP q i x:=by
 rw [ahi]
 ·constructor
  ·rintro (h|⟨p,f,a,rfl⟩)
   ·exact .inl ((I1 g x).1 h)
   ·obtain ⟨mk,b,d,e⟩:=(k.dA p (aQ hi)).1 f
    exact .inr ⟨p.ix,p.ob,mk,a,by omega,d,e⟩
  ·rintro (h|⟨p,o,mk,b,d,e,rfl⟩)
   ·exact .inl ((I1 g x).2 h)
   ·exact .inr ⟨⟨p,c.nm p,o⟩,(k.dA _ (aQ hi)).2 ⟨mk,k.ahp b,e,rfl⟩,b,rfl⟩
 ·intro p f s
  obtain ⟨mk,b,d,e⟩:=(k.dA p (aQ hi)).1 f;exact (I.fin p.ix p.ob mk (by omega) d (l _ s)).2
def ahq (k:c.Ok) {g:Nat} {l:List Value} (f:c.E.gl.g g=some l):g<c.w0.heap.size:=by
 obtain ⟨⟨b,e,j,d⟩,_⟩:=k.rep.qN g l f;exact (au.1 d).1
def shown (k:c.Ok) (I:c.Inv L a w m q) (hi:i<c.n) (y: ∀j,c.pr i j->L j=true) {H:aP} (N:H.t=(c.st q).h.t) (ha:H.al=(c.st q).h.al)
 (hn: ∀x,aH (c.st q).h x->x.n<H.nx.n) (Y: ∀p A mk,p<i->c.K p= .nw A mk->(c.nm p).n<H.nx.n):bV c.E.gl (c.SS L m) m (gM (fK c.all i) (c.st i).dA H) w:=by
 have r1:bV c.E.gl (c.SS L m) m H w:=I.rep.ext N ha hn;have Q: ∀p A mk,p<c.n->c.K p= .nw A mk->L p=true->(H.at (c.nm p)).obj= .free->c.Wx L m q w p A:=fun p A mk z b d B=>by
  rcases I.za p A mk z b d with C|C
  ·exact absurd B ((I1 N _).2 C)
  ·exact C
 refine r1.ahk (fun p o u=> ?_) (fun p o u D=> ?_) (fun p o M T hb Z D R f=> ?_) (fun p o u D=> ?_)
 ·obtain ⟨mk,z,b,d⟩:=(k.dA p (aQ hi)).1 o
  exact (I.fin p.ix p.ob mk (by omega) b (y _ u)).2
 ·obtain ⟨mk,z,b,d⟩:=(k.dA p (aQ hi)).1 o
  have O:=y _ u;rw [d] at D⊢;have F:=Q p.ix p.ob mk (by omega) b O D;refine ⟨F.blk,Y p.ix p.ob mk z b,fun x J=>F.apart x ((Lw N x).1 J),?_,fun g l hg e=> ?_⟩
  ·refine yT (fun x J=> ?_) (I.fin p.ix p.ob mk (by omega) b O).1
   refine (k.Wz I hi y N x).2 ?_;rcases J with J|⟨M,jC,s,B,C,h6,h7⟩
   ·exact .inl J
   ·refine .inr ⟨M,jC,s,?_,C,h6,h7⟩
    rcases B with rfl|B
    ·exact u
    ·exact k.abA u B
  ·have:=k.ahq hg
   have:=F.new;omega
 ·obtain ⟨mk,z,b,d⟩:=(k.dA p (aQ hi)).1 o
  obtain ⟨s,h1',U,W⟩:=(k.dA M (aQ hi)).1 T;rw [d] at D f⊢;rw [W] at R f⊢;have X:=Q M.ix M.ob s (by omega) U (y _ Z) R;exact X.each p.ix p.ob mk (by omega) b (y _ hb) (fun e=>f (by rw [e]))
 ·obtain ⟨mk,z,b,d⟩:=(k.dA p (aQ hi)).1 o
  exact .inr ⟨p.ix,p.ob,mk,by omega,b,y _ u,by rw [d]⟩
def ahr (I:c.Inv L a w m q) {p:Nat} {ob:jR} {mk:Mk} (e:p<c.n) (d:c.K p= .nw ob mk) (b:aH (c.st q).h (c.nm p)):bk (c.st q).h (c.nm p):=by
 rcases aaG b with h|⟨id,h⟩
 ·exact h
 ·exact absurd h (I.I2 p ob mk e d id)
def aqM (k:c.Ok) (hi:i<c.n) (t:Nat):ig t (c.st (i+1)).tm=if c.dst i=some t then c.v i else ig t (c.st i).tm:=by
 obtain ⟨o,p,j,b,e,_⟩:=k.run.get hi;rw [e];have g:c.dst i=o.dst:=by unfold Cx.dst;rw [j];rfl
 rw [g];unfold yR at b;cases l:o.dst with
 |none=>grind
 |some d=>
  rw [l] at b;simp only at b;obtain ⟨s,f⟩:=IP b;cases f;rw [Ls]
  all_goals grind
def abB (k:c.Ok) (hi:i<=c.n) (t:Nat) (h: ∀j,j<i->c.dst j=some t->L j=true):c.cur L i t=ig t (c.st i).tm:=by
 induction i with
 |zero=>rw [k.run.first];rfl
 |succ i b=>
  rw [k.aqM hi,Cx.cur,b (by omega) fun j d=>h j (by omega)]
  all_goals grind
omit [aJ] in
def aqN (t:Nat) {j:Nat} (f:i<=j) (h: ∀l,i<=l->l<j->c.dst l=some t->L l≠true):c.cur L j t=c.cur L i t:=by
 induction j with
 |zero=>simp_all
 |succ j d=>
  by_cases e:i=j+1
  ·rw [e]
  ·rw [Cx.cur,if_neg fun x=>h j (by omega) (by omega) x.2 x.1]
   exact d (by omega) fun l b g=>h l b (by omega)
omit [aJ] in
def abC (t:Nat): ∀(j:Nat),c.cur L j t=ig t c.Ao\/ ∃l,l<j/\L l=true/\c.dst l=some t/\c.cur L j t=c.v l
 |0=> .inl rfl
 |j+1=>by
  rw [Cx.cur];split
  ·grind
  ·rcases abC t j with h|⟨l,b,d⟩
   all_goals grind
omit [aJ] in
def aqO {o:Oper} (b:c.all[i]? =some o):c.dst i=o.dst:=by unfold Cx.dst;rw [b];rfl
omit [aJ] in
def WA {t:Nat} (h:c.dst i=some t): ∃o,c.all[i]? =some o/\o.dst=some t:=by
 unfold Cx.dst at h;cases b:c.all[i]? with
 |none=>rw [b] at h;cases h
 |some o=>simp_all
def reads (k:c.Ok) (I:c.Inv L a w m q) (hi:i<c.n) (F:L i≠true) (z: ∀j,c.pr i j->L j=true) {o:Oper} (E:c.all[i]? =some o) {t:Nat} (D:Looks c.all o t):
 a.tmps.getD t undef=γ m (ig t (c.st i).tm)/\In (c.DP q i) (ig t (c.st i).tm):=by
 have u: ∀j,j<i->c.dst j=some t->c.pr i j:=fun j g d=>by
  obtain ⟨x,b,f⟩:=WA d;exact k.ord.Wu j i x o g b E ⟨t,.inl ⟨f,.inl D⟩⟩
 have hc:c.cur L c.n t=ig t (c.st i).tm:=by
  rw [aqN t (aQ hi) fun l A B d C=> ?_]
  ·exact k.abB (aQ hi) t fun j g d=>z j (u j g d)
  ·by_cases e:i=l
   ·subst e;exact F C
   ·obtain ⟨x,b,f⟩:=WA d
    have:=k.ord.Wu i l o x (by omega) E b ⟨t,.inr ⟨f,D⟩⟩;exact F (I.closed l i C this)
 refine ⟨by rw [I.tv,hc],?_⟩;rw [<-k.abB (L:=L) (aQ hi) t fun j g d=>z j (u j g d)];rcases abC (L:=L) t i with e|⟨l,A,B,H,e⟩
 ·rw [e]
  exact rN (fun x b=> .inl (I.goes.old x b)) _ (k.tin t)
 ·rw [e]
  refine rN (fun x b=> ?_) _ (I.RR l (by omega) B);rcases b with b|⟨p,M,mk,s,J⟩
  ·exact .inl b
  ·refine .inr ⟨p,M,mk,?_,J⟩
   have y:=u l A H;rcases s with rfl|s
   ·exact y
   ·exact k.abA y s
def Live (c:Cx) (L:Nat->Bool) (q:Nat) (x:Pos):Prop:=aH (c.st q).h x\/ ∃p b mk,p<c.n/\c.K p= .nw b mk/\L p=true/\x=c.nm p
def WB (I:c.Inv L a w m q) {j:Nat} (d:L j=true) {x:Pos} (h:c.DV q j x):Live c L q x:=by
 rcases h with h|⟨p,k,mk,b,e,f,g⟩
 ·exact .inl h
 ·refine .inr ⟨p,k,mk,e,f,?_,g⟩
  rcases b with rfl|b
  ·exact d
  ·exact I.closed j p d b
def ahs (k:c.Ok) (I:c.Inv L a w m q) (t:Nat):In (Live c L q) (c.cur L c.n t):=by
 rcases abC (L:=L) t c.n with e|⟨l,f,d,g,e⟩
 ·rw [e];exact rN (fun x b=> .inl (I.goes.old x b)) _ (k.tin t)
 ·rw [e];exact rN (fun x b=>WB I d b) _ (I.RR l f d)
end
end Cx.Ok
end
section
variable [aJ] {S:Nat->Prop}
variable {c:Cx}
omit [aJ] in
def least {p:Nat->Prop} (h: ∃n,p n): ∃n,p n/\ ∀m,m<n-> ¬p m:=by
 obtain ⟨n,b⟩:=h
 induction n using Nat.strongRecOn with
 |_ n d=>
  grind
omit [aJ] in
def aqP {D:Pos->Prop} {n:Pos} (mk:Mk) (h:D n):In D (mk.mk n):=by cases mk<;>exact h
namespace Cx.Ok
section
variable {L L':Nat->Bool} {a:Act} {w:World} {m:Mp} {q i:Nat}
def aqQ (k:c.Ok) (I:c.Inv L a w m q) (hi:i<c.n) (z:L i≠true) (D: ∀j,L' j=true↔(L j=true\/j=i)) (t:Nat):
 c.cur L' c.n t=if c.dst i=some t then c.v i else c.cur L c.n t:=by
 have y: ∀j,j<=i->c.cur L' j t=c.cur L j t:=by
  intro j
  induction j with
  |zero=>intro _;rfl
  |succ j l=>
   intro s;rw [Cx.cur,Cx.cur,l (by omega)]
   all_goals grind
 have E: ∀j,i+1<=j->j<=c.n->c.cur L' j t=if c.dst i=some t then c.v i else c.cur L j t:=by
  intro j
  induction j with
  |zero=>intro h;omega
  |succ j l=>
   intro s C;by_cases e:i=j
   ·subst e
    rw [Cx.cur,Cx.cur,y i (ak _)]
    all_goals grind
   ·have o:i<j:=by omega
    have p:L' j=true↔L j=true:=by grind
    rw [Cx.cur,Cx.cur,l (by omega) (by omega)];by_cases d:c.dst i=some t
    ·rw [if_pos d,if_pos d]
     refine if_neg fun x=> ?_
     obtain ⟨A,u,f⟩:=WA d;obtain ⟨B,g,b⟩:=WA x.2;have:=k.ord.Wu i j A B o u g ⟨t,.inl ⟨f,.inr b⟩⟩;exact z (I.closed j i (p.1 x.1) this)
    all_goals grind
 all_goals grind
omit [aJ] in
def aqS (a:Act) (d:Option Tmp) (u:Value) (t:Nat) (b: ∀x,d=some x->x<a.tmps.size):(a.put d u).tmps.getD t undef=if d=some t then u else a.tmps.getD t undef:=by
 cases d with
 |none=>simp [Act.put]
 |some x=>
  rw [agV a x u t (b x rfl)];by_cases e:x=t<;>simp [e]
def abD (k:c.Ok) (I:c.Inv L a w m q) (hi:i<c.n) (mA:L i≠true) (gR: ∀j,c.pr i j->L j=true) (mI: ∀j,L' j=true↔(L j=true\/j=i)) {o:Oper} (ho:c.all[i]? =some o)
 {m':Mp} {q':Nat} {w':World} (qn:q'<=c.n) (qc: ∀j,j<c.n->c.K j= .wr->(L' j=true↔j<q')) (qm:q'=0\/ ∃k,q'=k+1/\c.K k= .wr)
 (rep:bV c.E.gl (c.SS L' m') m' (c.st q').h w') (goes:Goes c.m0 c.h0 c.w0 m' (c.st q').h w') (df:(c.st q').h.df=c.h0.df)
 (za: ∀p ob mk,p<c.n->c.K p= .nw ob mk->L' p=true->aH (c.st q').h (c.nm p)\/c.Wx L' m' q' w' p ob)
 (fin: ∀p ob mk,p<c.n->c.K p= .nw ob mk->L' p=true->Az (c.DV q' p) ob/\ob.pY=true)
 (GF: ∀p ob mk,p<c.n->c.K p= .nw ob mk->L' p≠true-> ¬aH (c.st q').h (c.nm p))
 (I2: ∀p ob mk,p<c.n->c.K p= .nw ob mk-> ∀id,((c.st q').h.at (c.nm p)).obj≠ .gH id)
 (fM: ∀x,Live c L q x->m'.b x=m.b x/\m'.cv x=m.cv x) (hdv: ∀x,aH (c.st q).h x->aH (c.st q').h x) (hv:In (c.DV q' i) (c.v i)):
 c.Inv L' (a.put o.dst (γ m' (c.v i))) w' m' q' where
 qn:=qn
 qc:=qc
 qm:=qm
 rep:=rep
 goes:=goes
 df:=df
 za:=za
 fin:=fin
 GF:=GF
 I2:=I2
 tv:=fun t=>by
  have hd: ∀x,o.dst=some x->x<a.tmps.size:=fun x hx=>by
   obtain ⟨o',p,mH,hp,_⟩:=k.run.get hi;rw [ho] at mH;cases mH;unfold yR at hp;rw [hx] at hp;simp only at hp;obtain ⟨h1,_⟩:=IP hp;exact ax (sM.1 h1) I.sz
  rw [aqS a o.dst _ t hd,k.aqQ I hi mA mI t,aqO ho];by_cases e:o.dst=some t
  ·rw [if_pos e,if_pos e]
  ·rw [if_neg e,if_neg e,I.tv t]
   exact (EH fM _ (k.ahs I t)).symm
 RR:=fun j hj hLj=>by
  rcases (mI j).1 hLj with h|rfl
  ·refine rN (fun x hx=> ?_) _ (I.RR j hj h)
   rcases hx with hx|hx
   ·exact .inl (hdv x hx)
   ·exact .inr hx
  ·exact hv
 sz:=by
  have:(a.put o.dst (γ m' (c.v i))).tmps.size=a.tmps.size:=by cases o.dst<;>simp [Act.put]
  rw [this];exact I.sz
 Wy:=by
  have:(a.put o.dst (γ m' (c.v i))).defers=a.defers:=by cases o.dst<;>rfl
  rw [this];exact I.Wy
 closed:=fun x y hx FY=>by
  rcases (mI x).1 hx with h|rfl
  ·exact (mI y).2 (.inl (I.closed x y h FY))
  all_goals grind
def calm (k:c.Ok) (I:c.Inv L a w m q) (hi:i<c.n) (X:L i≠true) (M: ∀j,c.pr i j->L j=true) (D: ∀j,L' j=true↔(L j=true\/j=i)) {o:Oper} (T:c.all[i]? =some o)
 (A: ∀d mk,c.K i≠ .nw d mk) (s:c.K i≠ .wr) (U:In (c.DP q i) (c.v i)):c.Inv L' (a.put o.dst (γ m (c.v i))) w m q:=by
 have f: ∀p,L' p=true->p≠i->L p=true:=fun p l R=>by simp_all
 have z: ∀p d mk,c.K p= .nw d mk->p≠i:=fun p d mk l e=>by simp_all
 refine k.abD I hi X M D T I.qn (fun j Q W=> ?_) I.qm (I.rep.shrink fun b C=>by
  rcases C with C|⟨p,d,mk,B,H,N,O⟩
  ·exact .inl C
  ·exact .inr ⟨p,d,mk,B,H,f p N (z p d mk H),O⟩) I.goes I.df (fun p d mk l g y=> ?_) (fun p d mk l g y=>I.fin p d mk l g (f p y (z p d mk g))) (fun p d mk l g y=>I.GF p d mk l g (fun h=>y ((D p).2 (.inl h)))) I.I2 (fun x _=>⟨rfl,rfl⟩) (fun x t=>t) ?_
 ·rw [<-I.qc j Q W,D]
  all_goals grind
 ·rcases I.za p d mk l g (f p y (z p d mk g)) with h|F
  ·exact .inl h
  ·exact .inr ⟨F.blk,F.new,F.apart,fun E J u A s B=>F.each E J u A s (f E B (z E J u s))⟩
 ·refine rN (fun x t=> ?_) _ U
  rcases t with t|⟨p,d,mk,A,s⟩
  ·exact .inl t
  ·exact .inr ⟨p,d,mk,.inr A,s⟩
def view (k:c.Ok) (I:c.Inv L a w m q) (hi:i<c.n) (z:L i≠true) (u: ∀j,c.pr i j->L j=true) {o:Oper} (y:c.all[i]? =some o):
 ∃(e:Tm) (ρ:Operand->Value),Src c.E.gl m (c.DP q i) e ρ/\((∀B b,o.op≠ .select B b)->execOp a.eval o=execOp ρ o)/\(pW c.E o.op).same (c.st i).tm e:=by
 let A:List Nat:=o.op.operands.toList.filterMap fun| .tmp t=>some t|_=>none
 have l: ∀t,t∈A↔Operand.tmp t∈o.op.operands.toList:=fun t=>by
  grind
 let e:=only (c.st i).tm A
 have p: ∀t,Operand.tmp t∈o.op.operands.toList->ig t e=ig t (c.st i).tm:=fun t d=>by
  show ig t (only _ _)=_;rw [abx,if_pos ((l t).2 d)]
 let ρ:Operand->Value:=fun x=>match x with
  | .tmp t=>γ m (ig t e)
  | .const v=>v
  | .global g=> .pointer (some ⟨g,0,none⟩)
  | .func f=> .func (.func f) #[] #[]
 refine ⟨e,ρ,⟨fun t=>⟨rfl,?_⟩,fun _=>rfl,fun _=>rfl,fun _=>rfl⟩,fun C=> ?_,?_⟩
 ·by_cases d:Operand.tmp t∈o.op.operands.toList
  ·rw [p t d];exact (k.reads I hi z u y (.inl d)).2
  ·show In _ (ig t (only _ _))
   rw [abx,if_neg fun h=>d ((l t).1 h)];exact trivial
 ·refine execOp_congr o C fun x s=> ?_
  cases x with
  |tmp t=>
   have d:Operand.tmp t∈o.op.operands.toList:=by simpa using s
   show a.tmps.getD t undef=γ m (ig t e);rw [p t d];exact (k.reads I hi z u y (.inl d)).1
  |const v=>rfl
  |global g=>rfl
  |func f=>rfl
 ·refine aqz o.op fun x s=> ?_
  cases x with
  |tmp t=>
   have d:Operand.tmp t∈o.op.operands.toList:=by simpa using s
   exact (p t d).symm
  |const v=>rfl
  |global g=>rfl
  |func f=>rfl
def aqT (k:c.Ok) (I:c.Inv L a w m q) (hi:i<c.n) (mA:L i≠true) (gR: ∀j,c.pr i j->L j=true) {o:Oper} (ho:c.all[i]? =some o) (hK:c.K i= .rd):
 ∃f H,pW c.E o.op= .rd f/\Lx c.all o (c.st i).tm/\H.t=(c.st q).h.t/\H.al=(c.st q).h.al/\(∀x,aH (c.st q).h x->x.n<H.nx.n)/\(∀p u mk,p<i->c.K p= .nw u mk->(c.nm p).n<H.nx.n)/\
  f (c.st i).tm (gM (fK c.all i) (c.st i).dA H)=some (c.v i):=by
 obtain ⟨o',p,mH,_,_,O⟩:=k.run.get hi;rw [ho] at mH;cases mH;rw [hK] at O;simp only [tt] at O;obtain ⟨R,⟨f,J,l,B,C⟩,_⟩:=O;by_cases N:q<=i
 ·by_cases b: ∃d,q<=d/\d<i/\c.K d= .wr
  ·obtain ⟨d,⟨h1,h2,Z⟩,h4⟩:=least b
   have g:=k.run.quiet (i:=q) (j:=d) h1 (by grind) fun x D W z=>h4 x W ⟨D,by omega,z⟩
   have M:L d≠true:=fun h=>by have:=(I.qc d (by omega) Z).1 h;omega
   have X:Nat.testBit (fK c.all i) d=false:=by
    cases F:Nat.testBit (fK c.all i) d with
    |false=>rfl
    |true=>exact absurd (gR d F) M
   have Q:=k.run.back rfl rfl (pre:=fK c.all i) (fun x y h5 h6=>k.abA h5 h6) (aQ hi) B d h2 Z X;refine ⟨f,⟨(c.st d).h.t,(c.st i).h.nx,(c.st d).h.al,(c.st d).h.df⟩,J,R,g.1,g.2.1,fun x T=> ?_,fun p u mk s e=>k.EO e s (aQ hi),Q⟩;exact ax (I.rep.fresh x T) (k.run.mono N (aQ hi))
  ·have ua:=k.run.quiet (i:=q) (j:=i) N (aQ hi) fun x D W z=>b ⟨x,D,W,z⟩
   refine ⟨f,(c.st i).h,J,R,ua.1,ua.2.1,fun x T=>ax (I.rep.fresh x T) (k.run.mono N (aQ hi)),fun p u mk s e=>k.EO e s (aQ hi),l⟩
 ·rcases I.qm with h0|⟨d,hd,Y⟩
  ·omega
  ·have U:d<c.n:=by have:=I.qn;omega
   have hdi:i<d:=by
    grind
   have RS:L d=true:=(I.qc d U Y).2 (by omega);have X:Nat.testBit (fK c.all d) i=false:=by
    cases F:Nat.testBit (fK c.all d) i with
    |false=>rfl
    |true=>exact absurd (I.closed d i RS F) mA
   obtain ⟨od,pd,_,_,_,A⟩:=k.run.get U;rw [Y] at A;simp only [tt] at A;have eB:=A.2.2.2.1;have RA:=k.run.held (i:=i+1) (x:=⟨i,fun h=>f (c.st i).tm (gM (fK c.all i) (c.st i).dA h),c.v i⟩) (by rw [C];simp) (k:=d) (by omega) (aQ U);have Q:=aho eB _ RA X;refine ⟨f,(c.st q).h,J,R,rfl,rfl,I.rep.fresh,fun p u mk s e=>k.EO e (by omega) I.qn,?_⟩;rw [hd];exact Q
end
end Cx.Ok
end
section
variable [aJ] {S:Nat->Prop}
variable {c:Cx}
namespace Cx.Ok
section
variable {L L':Nat->Bool} {a:Act} {w:World} {m:Mp} {q i:Nat}
def aqV (k:c.Ok) (I:c.Inv L a w m q) (hi:i<c.n) (mA:L i≠true) (gR: ∀j,c.pr i j->L j=true) (mI: ∀j,L' j=true↔(L j=true\/j=i)) {o:Oper} (ho:c.all[i]? =some o)
 {ob:jR} {mk:Mk} (U:c.K i= .nw ob mk) (hv:c.v i=mk.mk (c.nm i)) {cap:Nat} {t:Obj} (J:vD (m.set (c.nm i) w.heap.size cap) (c.nm i) ob t) (bz:Az (c.DP q i) ob) (W:ob.pY=true):
 c.Inv L' (a.put o.dst (γ (m.set (c.nm i) w.heap.size cap) (c.v i))) {w with heap:=w.heap.push t} (m.set (c.nm i) w.heap.size cap) q:=by
 have f: ∀p,L' p=true->p≠i->L p=true:=fun p C W=>by simp_all
 have wT: ¬aH (c.st q).h (c.nm i):=I.GF i ob mk hi U mA;have aqW: ∀x,Live c L q x->x≠c.nm i:=fun x l e=>by
  rcases l with l|⟨p,s,d,u,y,z,A⟩
  ·simp_all
  ·rw [e] at A
   have:=k.abz U y hi u A
   all_goals grind
 have E: ∀x,Live c L q x->(m.set (c.nm i) w.heap.size cap).b x=m.b x/\(m.set (c.nm i) w.heap.size cap).cv x=m.cv x:=fun x l=>Mp.BI m _ _ (aqW x l)
 have C0: ∀b,b<w.heap.size->(w.heap.push t)[b]? =w.heap[b]? :=fun b J=>by grind
 have hle:c.h0.nx.n<=(c.nm i).n:=by
  have:=k.run.mono (i:=0) (j:=i) (bZ _) (aQ hi);rw [k.run.first] at this;exact this
 have bA: ∀p s d,p<c.n->c.K p= .nw s d->L p=true->m.b (c.nm p)<w.heap.size:=fun p s d u y z=>by
  rcases I.za p s d u y z with h|F
  ·exact I.rep.lt (ahr I u y h)
  ·obtain ⟨o',A,_⟩:=F.blk;exact (au.1 A).1
 have N: ∀p s d,p<c.n->c.K p= .nw s d->L p=true->(m.set (c.nm i) w.heap.size cap).b (c.nm p)=m.b (c.nm p)/\(m.set (c.nm i) w.heap.size cap).cv (c.nm p)=m.cv (c.nm p):=fun p s d u y z=>E _ (.inr ⟨p,s,d,u,y,z,rfl⟩)
 have aqX: ∀x,c.DP q i x->c.DV q i x:=fun x l=>by
  rcases l with l|⟨p,ob,mk,u,y⟩
  ·exact .inl l
  ·exact .inr ⟨p,ob,mk,.inr u,y⟩
 have BH:c.DV q i (c.nm i):= .inr ⟨i,ob,mk,.inl rfl,hi,U,rfl⟩;have g:=I.goes;refine k.abD I hi mA gR mI ho I.qn (fun j hj hw=> ?_) I.qm (I.rep.congr (fun x l=>E x (.inl l)) C0 (by simp) (fun b J H=> ?_) fun b H=> ?_)
  ⟨g.tape,g.os,g.output,aL g.size (by simp),fun b J hn=> ?_,fun x l=> ?_,g.nx,g.Gm,fun x l mT=> ?_,g.old,g.bold,g.II⟩ I.df
  (fun p s d C B Z=> ?_) (fun p s d C B Z=> ?_) (fun p s d C B Z=>I.GF p s d C B (fun h=>Z ((mI p).2 (.inl h)))) I.I2 E (fun x l=>l) ?_
 ·rw [<-I.qc j hj hw,mI]
  all_goals grind
 ·rcases H with H|⟨p,s,d,z,A,R,T⟩
  ·exact .inl H
  ·by_cases e:p=i
   ·subst e;rw [Mp.qu] at T;omega
   ·exact .inr ⟨p,s,d,z,A,f p R e,by rw [T,(N p s d z A (f p R e)).1]⟩
 ·show b<(w.heap.push t).size
  rw [Array.size_push];rcases H with H|⟨p,s,d,z,A,R,T⟩
  ·have:=I.rep.lim b (.inl H);omega
  ·by_cases e:p=i
   ·subst e;rw [Mp.qu] at T;omega
   ·have:=I.rep.lim b (.inr ⟨p,s,d,z,A,f p R e,by rw [T,(N p s d z A (f p R e)).1]⟩);omega
 ·show (w.heap.push t)[b]? =_
  rw [C0 b (ax J g.size)];exact g.xZ b J hn
 ·have:x≠c.nm i:=fun e=>by rw [e] at l;omega
  rw [(Mp.BI m w.heap.size cap this).1,(Mp.BI m w.heap.size cap this).2];exact g.agree x l
 ·rw [(E x (.inl l.aH)).1];exact g.yU x l mT
 ·by_cases e:p=i
  ·subst e
   rw [U] at B;cases B;right;refine ⟨⟨t,by rw [Mp.qu];show (w.heap.push t)[w.heap.size]? =_;simp,J⟩,by rw [Mp.qu];exact g.size,fun x l=> ?_,fun D s d u y z A=> ?_⟩
   ·rw [Mp.qu,(E x (.inl l.aH)).1];exact gO (I.rep.lt l)
   ·have O:=f D z A
    rw [Mp.qu,(N D s d u y O).1];exact gO (bA D s d u y O)
  ·have Q:=f p Z e
   rcases I.za p s d C B Q with h|F
   ·exact .inl h
   ·right
    obtain ⟨o',f1,f2⟩:=F.blk;have M:=N p s d C B Q;refine ⟨⟨o',by rw [M.1];show (w.heap.push t)[_]? =_;rw [C0 _ (au.1 f1).1];exact f1,K8 (fun x l=>E x (WB I Q l)) (I.fin p s d C B Q).1 M.2 f2⟩,
     by rw [M.1];exact F.new,fun x l=>by rw [M.1,(E x (.inl l.aH)).1];exact F.apart x l,fun D Y X u y z A=> ?_⟩
    by_cases e':D=i
    ·subst e';rw [Mp.qu,M.1];exact g9 (gO (bA p s d C B Q))
    ·have O:=f D z e'
     rw [M.1,(N D Y X u y O).1];exact F.each D Y X u y O A
 ·by_cases e:p=i
  ·subst e
   rw [U] at B;cases B;exact ⟨yT aqX bz,W⟩
  ·exact I.fin p s d C B (f p Z e)
 ·rw [hv];exact aqP mk BH
def aht (k:c.Ok) (I:c.Inv L a w m q) (hi:i<c.n) (mA:L i≠true) (H: ∀j,c.pr i j->L j=true) (mI: ∀j,L' j=true↔(L j=true\/j=i)) {o:Oper} (ho:c.all[i]? =some o)
 (hK:c.K i= .wr) {Q:Mp} {w1:World} (r1:bV c.E.gl (c.SS L m) Q (c.st (i+1)).h w1) (N:Goes m (gM (fK c.all i) (c.st i).dA (c.st i).h) w Q (c.st (i+1)).h w1)
 (zb:(c.st (i+1)).h.df=(gM (fK c.all i) (c.st i).dA (c.st i).h).df) (hv:In (aH (c.st (i+1)).h) (c.v i)):
 ∃A,γ A (c.v i)=γ Q (c.v i)/\c.Inv L' (a.put o.dst (γ A (c.v i))) w1 A (i+1):=by
 have C: ∀p,L' p=true->p≠i->L p=true:=fun p u hne=>by simp_all
 have EP: ∀p g mk,c.K p= .nw g mk->p≠i:=fun p g mk u e=>by simp_all
 have hq:q<=i:=by
  rcases I.qm with h0|⟨d,hd,ER⟩
  ·omega
  ·rcases b6 i d with h|h
   ·have kK:d<c.n:=by have:=I.qn;omega
    have RS:L d=true:=(I.qc d kK ER).2 (by omega);have:=k.run.ordered rfl h kK hK ER;exact absurd (I.closed d i RS this) mA
   ·by_cases e:d=i
    ·subst e
     exact absurd ((I.qc d hi ER).2 (by omega)) mA
    ·omega
 have M:=k.run.quiet (i:=q) (j:=i) hq (aQ hi) fun x dT tu C'=>by
  have:=k.run.ordered rfl tu hi C' hK;have:=(I.qc x (by omega) C').1 (H x this);omega
 have jL:(c.st q).h.nx.n<=(c.st i).h.nx.n:=k.run.mono hq (aQ hi);obtain ⟨J,lf2,lf3⟩:=Lv (fK c.all i) (c.st i).dA (c.st i).h;have mY:=k.Wz I hi H M.1;have R: ∀x,aH (c.st q).h x->x.n<(c.st i).h.nx.n:=fun x f=>ax (I.rep.fresh x f) jL
 have ahu: ∀x,aH (c.st q).h x->aH (gM (fK c.all i) (c.st i).dA (c.st i).h) x:=fun x f=>(mY x).2 (.inl f)
 have W: ∀x,aH (c.st q).h x->aH (c.st (i+1)).h x:=fun x f=>N.old x (ahu x f)
 have aqY: ∀p g mk,c.pr i p->p<c.n->c.K p= .nw g mk->aH (c.st (i+1)).h (c.nm p):=fun p g mk t l z=>N.old _ ((mY _).2 (.inr ⟨p,g,mk,t,l,z,rfl⟩))
 have ox: ∀p g mk,p<c.n->c.K p= .nw g mk-> ¬aH (gM (fK c.all i) (c.st i).dA (c.st i).h) (c.nm p)-> ¬aH (c.st (i+1)).h (c.nm p):=fun p g mk t l z B=>by
  have hpi:=EP p g mk l;rcases b6 p i with h|h
  ·have:=k.EO l h (aQ hi)
   rcases N.Gm _ B with Y|Y
   ·exact z Y
   ·rw [J] at Y;omega
  ·have h6:=r1.fresh _ B
   have h7:=k.run.mono (i:=i+1) (j:=p) (by omega) (aQ t);show False;have:(c.nm p).n=(c.st p).h.nx.n:=rfl;omega
 let A:Mp:=⟨fun x=> @ite _ (aH (c.st (i+1)).h x) (Classical.propDecidable _) (Q.b x) (m.b x),fun x=> @ite _ (aH (c.st (i+1)).h x) (Classical.propDecidable _) (Q.cv x) (m.cv x)⟩
 have vF: ∀x,aH (c.st (i+1)).h x->A.b x=Q.b x/\A.cv x=Q.cv x:=fun x f=>by
  simp [A,f]
 have rH: ∀x,¬aH (c.st (i+1)).h x->A.b x=m.b x/\A.cv x=m.cv x:=fun x f=>by
  simp [A,f]
 have WC: ∀x,x.n<(gM (fK c.all i) (c.st i).dA (c.st i).h).nx.n->A.b x=m.b x/\A.cv x=m.cv x:=fun x f=>by
  by_cases e:aH (c.st (i+1)).h x
  ·rw [(vF x e).1,(vF x e).2];exact N.agree x f
  ·exact rH x e
 have fM: ∀x,Live c L q x->A.b x=m.b x/\A.cv x=m.cv x:=fun x f=>by
  rcases f with f|⟨p,g,mk,t,l,z,rfl⟩
  ·exact WC x (by rw [J];exact R x f)
  ·by_cases e:aH (gM (fK c.all i) (c.st i).dA (c.st i).h) (c.nm p)
   ·rcases (mY _).1 e with h|⟨X,O,s,B,Y,h6,h7⟩
    ·exact WC _ (by rw [J];exact R _ h)
    ·exact WC _ (by rw [J,h7];exact k.EO h6 (k.ahp B) (aQ hi))
   ·exact rH _ (ox p g mk t l e)
 have g1':Goes m (gM (fK c.all i) (c.st i).dA (c.st i).h) w A (c.st (i+1)).h w1:=N.aqF vF WC;have RU:=k.shown I hi H M.1 M.2.1 R (fun p g mk u D=>k.EO D u (aQ hi));have gin:Goes c.m0 c.h0 c.w0 m (gM (fK c.all i) (c.st i).dA (c.st i).h) w:=by
  have T: ∀p∈(c.st i).dA,Nat.testBit (fK c.all i) p.ix=true->p.ob.pY=true:=fun p u pj=>by
   obtain ⟨mk,t,l,z⟩:=(k.dA p (aQ hi)).1 u;exact (I.fin p.ix p.ob mk (by omega) l (H _ pj)).2
  refine I.goes.lay (by rw [J];exact jL) ahu (fun x f=> ?_) (fun x f=>ahj T ((Lw M.1 x).2 f)) (fun x f=> ?_) fun x id f=>(Ww T).2 (by rw [abv M.1];exact f)
  ·rcases (mY x).1 f with h|⟨p,g,mk,t,l,z,rfl⟩
   ·exact .inl h
   ·have:=k.run.mono (i:=0) (j:=p) (bZ _) (aQ l)
    rw [k.run.first] at this;exact .inr this
  ·rcases abw T f with h|⟨h,p,u,hb,rfl⟩
   ·exact .inl ((Lw M.1 x).1 h)
   ·obtain ⟨mk,t,l,z⟩:=(k.dA p (aQ hi)).1 u
    rw [z] at h⊢;rcases I.za p.ix p.ob mk (by omega) l (H _ hb) with B|F
    ·exact absurd h ((I1 M.1 _).2 B)
    ·exact .inr F.new
 have qO:γ A (c.v i)=γ Q (c.v i):=EH vF _ hv;have bA: ∀p O s,p<c.n->c.K p= .nw O s->L p=true->m.b (c.nm p)<w.heap.size:=fun p O s t l z=>by
  rcases I.za p O s t l z with h|F
  ·exact I.rep.lt (ahr I t l h)
  ·obtain ⟨o',B,_⟩:=F.blk;exact (au.1 B).1
 have RV: ∀p g mk,p<c.n->c.K p= .nw g mk-> ∀id,((c.st (i+1)).h.at (c.nm p)).obj≠ .gH id:=fun p g mk t l id e=>by
  have T: ∀p∈(c.st i).dA,Nat.testBit (fK c.all i) p.ix=true->p.ob.pY=true:=fun p u pj=>by
   obtain ⟨mk,t,l,z⟩:=(k.dA p (aQ hi)).1 u;exact (I.fin p.ix p.ob mk (by omega) l (H _ pj)).2
  have QC:aH (c.st (i+1)).h (c.nm p):=fun e'=>by rw [e'] at e;cases e
  have yJ:aH (gM (fK c.all i) (c.st i).dA (c.st i).h) (c.nm p):=Classical.byContradiction fun h=>ox p g mk t l h QC
  rcases aaG yJ with h|⟨id',h⟩
  ·have:=N.bold _ h
   unfold bk at this;rw [e] at this;cases this
  ·rw [Ww T,abv M.1] at h
   exact I.I2 p g mk t l id' h
 have hSm: ∀b,c.SS L' A b->c.SS L m b:=fun b U=>by
  rcases U with U|⟨p,g,mk,z,B,Y,h6⟩
  ·exact .inl U
  ·have h5':=C p Y (EP p g mk B)
   exact .inr ⟨p,g,mk,z,B,h5',by rw [h6,(fM _ (.inr ⟨p,g,mk,z,B,h5',rfl⟩)).1]⟩
 refine ⟨A,qO,?_⟩;refine k.abD I hi mA H mI ho hi (fun j hj hw=> ?_) (.inr ⟨i,rfl,hK⟩) (r1.congr vF (fun _ _=>rfl) (ak _) (fun b _ U=>hSm b U) fun b U=>r1.lim b (hSm b U)) (Goes.trans k.rep RU gin g1')
  (by rw [zb,lf3,M.2.2];exact I.df) (fun p g mk u D Z=> ?_) (fun p g mk u D Z=> ?_) (fun p g mk u D Z=> ?_) RV fM W (rN (fun x f=> .inl f) _ hv)
 ·rw [mI]
  constructor
  ·rintro (h|rfl)
   ·have:=(I.qc j hj hw).1 h;omega
   ·omega
  ·intro h
   by_cases e:j=i
   ·exact .inr e
   ·exact .inl (H j (k.run.ordered rfl (by omega) hi hw hK))
 ·have Da:=C p Z (EP p g mk D)
  by_cases e:aH (c.st (i+1)).h (c.nm p)
  ·exact .inl e
  ·right
   rcases I.za p g mk u D Da with h|F
   ·exact absurd (W _ h) e
   ·have wS:=rH _ e
    have T: ∀p∈(c.st i).dA,Nat.testBit (fK c.all i) p.ix=true->p.ob.pY=true:=fun p u pj=>by
     obtain ⟨mk,t,l,z⟩:=(k.dA p (aQ hi)).1 u;exact (I.fin p.ix p.ob mk (by omega) l (H _ pj)).2
    have Ob: ∀x,bk (gM (fK c.all i) (c.st i).dA (c.st i).h) x->m.b x≠m.b (c.nm p):=fun x f=>by
     rcases abw T f with h|⟨_,y,hy,hb,rfl⟩
     ·exact F.apart x ((Lw M.1 x).1 h)
     ·obtain ⟨s,t,l,z⟩:=(k.dA y (aQ hi)).1 hy
      rw [z];refine F.each y.ix y.ob s (by omega) l (H _ hb) fun e'=> ?_
      rw [<-e'] at e;exact e (aqY y.ix y.ob s hb (by omega) l)
    have ahv: ∀x,bk (c.st (i+1)).h x->A.b x≠m.b (c.nm p):=fun x f=>by
     rw [(vF x f.aH).1];by_cases e2:bk (gM (fK c.all i) (c.st i).dA (c.st i).h) x
     ·rw [(N.agree x (RU.fresh x e2.aH)).1];exact Ob x e2
     ·rcases N.yU x f e2 with h|⟨y,hy,h⟩
      ·have:=bA p g mk u D Da;omega
      ·rw [<-h];exact Ob y hy
    obtain ⟨o',f1,f2⟩:=F.blk;refine ⟨⟨o',by rw [wS.1,N.xZ _ (bA p g mk u D Da) Ob];exact f1,K8 (fun x f=>fM x (WB I Da f)) (I.fin p g mk u D Da).1 wS.2 f2⟩,by rw [wS.1];exact F.new,
     fun x f=>by rw [wS.1];exact ahv x f,fun X O s t l z B=> ?_⟩
    rw [wS.1];have C9:=C X z (EP X O s l);by_cases e3:aH (c.st (i+1)).h (c.nm X)
    ·refine ahv _ ?_
     rcases aaG e3 with h|⟨id,h⟩
     ·exact h
     ·exact absurd h (RV X O s t l id)
    ·rw [(rH _ e3).1];exact F.each X O s t l C9 B
 ·obtain ⟨f1,f2⟩:=I.fin p g mk u D (C p Z (EP p g mk D))
  refine ⟨yT (fun x f=> ?_) f1,f2⟩;rcases f with f|f
  ·exact .inl (W x f)
  ·exact .inr f
 ·refine ox p g mk u D fun hd=> ?_
  rcases (mY _).1 hd with h|⟨X,O,s,t,l,z,B⟩
  ·exact I.GF p g mk u D (fun h=>Z ((mI p).2 (.inl h))) h
  ·have:=k.abz D z u l B
   subst this;exact Z ((mI p).2 (.inl (H p t)))
end
end Cx.Ok
end
section
variable [aJ] {S:Nat->Prop}
variable {c:Cx}
omit [aJ] in
def WD {E:Env} {cs b} :pW E (.select cs b)= .bad:=by unfold pW;split<;>rfl
omit [aJ] in
def count_set: ∀(x:List Bool) (i:Nat),x[i]? =some false->((x.set i true).filter id).length=(x.filter id).length+1
 | [],_,h=>by cases h
 |b::x,0,h=>by simp_all
 |b::x,i+1,h=>by
  have:=count_set x i (by simpa using h)
  all_goals grind
namespace Cx.Ok
section
variable {L L':Nat->Bool} {a:Act} {w:World} {m:Mp} {q i:Nat}
def wants (k:c.Ok) (I:c.Inv L a w m q) (hi:i<c.n) (y:L i≠true) (t: ∀j,c.pr i j->L j=true) {o:Oper} (x:c.all[i]? =some o):
 (Lx c.all o (c.st i).tm->Region.wanted o (yielded c.all.toArray a.tmps)=true)/\((∃e,uJ c.all o.guard=some e/\e.f (c.st i).tm=some false)->Region.wanted o (yielded c.all.toArray a.tmps)=false):=by
 obtain ⟨s,p⟩:=agY (all:=c.all) (o:=o) (m:=m) (tm:=(c.st i).tm) (a:=a) fun j b z d g l u=>(k.reads I hi y t x (.inr ⟨j,b,z,g,l,u⟩)).1
 exact ⟨fun h=>by rcases h with h|⟨e,g,l⟩;exact s h;exact p e true g l,fun ⟨e,g,l⟩=>p e false g l⟩
def step (k:c.Ok) (I:c.Inv L a w m q) (hi:i<c.n) (B:L i≠true) (u: ∀j,c.pr i j->L j=true) (mI: ∀j,L' j=true↔(L j=true\/j=i)) {Q:Exit->Act->World->Prop} {U:Act->World->Prop}
 (Y: ∀a' w' Z q',c.Inv L' a' w' Z q'->U a' w'):wpOp c.P c.all.toArray Q i U a w:=by
 obtain ⟨o,p,D,hp,I3,s⟩:=k.run.get hi;have im:c.all.toArray[i]? =some o:=by simpa using D
 unfold wpOp;rw [im];simp only;obtain ⟨wt,wf⟩:=k.wants I hi B u D;obtain ⟨F,ρ,T,WE,M⟩:=k.view I hi B u D;have O:=agS k.env o.op;have ahw: ∀ {H:aP},H.t=(c.st q).h.t->Src c.E.gl m (aH (gM (fK c.all i) (c.st i).dA H)) F ρ:=fun ht=>
  ⟨fun t=>⟨(T.tmp t).1,rN (fun x hx=>(k.Wz I hi u ht x).2 hx) _ (T.tmp t).2⟩,T.const,T.global,T.func⟩
 cases l:c.K i with
 |skip=>
  rw [l] at s;simp only [tt] at s;rw [wf s.2.1];simp only [cI,if_false];refine Y _ _ m q ?_;have:=k.calm I hi B u mI D (by rw [l];simp) (by rw [l];simp) (by rw [s.1];exact trivial);rw [s.1] at this;exact this
 |pu=>
  rw [l] at s;simp only [tt] at s;rw [wt s.1];simp only [if_true];obtain ⟨f,y,A⟩:=s.2.1;rw [y] at O M;have R: ∀C b,o.op≠ .select C b:=fun C b e=>by rw [e,WD] at y;cases y;cases A
  obtain ⟨W,z⟩:=O m (c.DP q i) F ρ (c.v i) w o rfl T (by rw [<-(show f (c.st i).tm=f F from M)];exact A);left;unfold Oper.wp;rw [WE R,W];exact Y _ _ m q (k.calm I hi B u mI D (by rw [l];simp) (by rw [l];simp) z)
 |rd=>
  obtain ⟨f,H,y,hw,ht,ha,hn,N0,A⟩:=k.aqT I hi B u D l;rw [wt hw];simp only [if_true];rw [y] at O M;have R: ∀C b,o.op≠ .select C b:=fun C b e=>by rw [e,WD] at y;cases y
  obtain ⟨W,z⟩:=O _ m _ F ρ (c.v i) w o rfl (k.shown I hi u ht ha hn N0) (ahw ht) (by rw [<-(M: ∀h,f (c.st i).tm h=f F h)];exact A);left;unfold Oper.wp;rw [WE R,W];exact Y _ _ m q (k.calm I hi B u mI D (by rw [l];simp) (by rw [l];simp) (rN (fun x hx=>(k.Wz I hi u ht x).1 hx) _ z))
 |nw ob mk=>
  rw [l] at s;simp only [tt] at s;rw [wt s.1];simp only [if_true];obtain ⟨f,y,A⟩:=s.2.1;rw [y] at O M;have R: ∀C b,o.op≠ .select C b:=fun C b e=>by rw [e,WD] at y;cases y
  have wT: ¬c.DP q i (c.nm i):=fun h=>by
   rcases h with h|⟨p,jC,mk',W,z,N,X⟩
   ·exact I.GF i ob mk hi l B h
   ·have:=k.abz l N hi z X
    all_goals grind
  obtain ⟨cap,obj,W,z,N,X⟩:=O m (c.DP q i) F ρ ob mk w o rfl T (by rw [<-(show f (c.st i).tm=f F from M)];exact A) (c.nm i) wT;left;unfold Oper.wp;rw [WE R,W];have:=k.aqV I hi B u mI D l s.2.2.1 z N X;rw [show c.v i=mk.mk (c.nm i) from s.2.2.1] at this;exact Y _ _ _ q this
 |wr=>
  rw [l] at s;simp only [tt] at s;rw [wt s.1];simp only [if_true];obtain ⟨f,y,A⟩:=s.2.1;rw [y] at O M;have R: ∀C b,o.op≠ .select C b:=fun C b e=>by rw [e,WD] at y;cases y
  left;unfold Oper.wp;rw [WE R];have hq:q<=i:=by
   rcases I.qm with h0|⟨d,hd,ER⟩
   ·omega
   ·rcases b6 i d with h|h
    ·have kK:d<c.n:=by have:=I.qn;omega
     have RS:L d=true:=(I.qc d kK ER).2 (by omega);exact absurd (I.closed d i RS (k.run.ordered rfl h kK l ER)) B
    ·by_cases e:d=i
     ·subst e
      exact absurd ((I.qc d hi ER).2 (by omega)) B
     ·omega
  have ua:=k.run.quiet (i:=q) (j:=i) hq (aQ hi) fun x dT tu C'=>by
   have:=(I.qc x (by omega) C').1 (u x (k.run.ordered rfl tu hi C' l));omega
  have RU:=k.shown I hi u ua.1 ua.2.1 (fun x hx=>ax (I.rep.fresh x hx) (k.run.mono hq (aQ hi))) (fun p ob mk hp l=>k.EO l hp (aQ hi));have hg:=O _ m _ F ρ w o rfl RU (ahw ua.1);rw [<-(M: ∀h,f (c.st i).tm h=f F h)] at hg;rcases A with A|⟨g,args,A,hc⟩
  ·rw [A] at hg
   obtain ⟨m1,w1,r,z,N,X,h5,h6,h7⟩:=hg;rw [z];obtain ⟨Z,e1,J⟩:=k.aht I hi B u mI D l X h5 h7 h6;rcases N with rfl|⟨rfl,h8⟩
   ·rw [<-e1];exact Y _ _ Z _ J
   ·rw [h8] at J;exact Y _ _ Z _ J
  ·rw [A] at hg
   obtain ⟨z,N⟩:=hg;rw [z];obtain ⟨X,h5⟩:=k.aqL g args _ _ _ hc;show Calls c.P g ⟨aW m args⟩ w _;refine (h5 _ m w RU N (fun d hd=> ?_)).mono fun en w1 ⟨m1,he,r1,g1,bz⟩=> ?_
   ·rw [(Lv _ _ _).2.2,ua.2.2,I.df] at hd
    exact RN (fun p hp pj=>by
     obtain ⟨mk,W,z,N⟩:=(k.dA p (aQ hi)).1 hp;exact (I.fin p.ix p.ob mk (by omega) z (u _ pj)).2) ((I1 ua.1 d).2 (I.goes.old d (k.BQ d hd)))
   ·subst he
    obtain ⟨Z,e1,J⟩:=k.aht I hi B u mI D l r1 g1 X bz;show U (a.put o.dst (γ m1 (c.v i))) w1;rw [<-e1];exact Y _ _ Z _ J
end
def tw (l:Array Bool) (j:Nat):Bool:=l.getD j false
omit [aJ] in
def WG {l:Array Bool} (t:l.size=c.n) {i:Nat} :i∈Region.ready .any c.all.toArray l↔(i<c.n/\tw l i≠true/\ ∃o,c.all[i]? =some o/\ ∀e∈o.after.toList,ED e=true->tw l e.on=true):=by
 have x: ∀e:Edge,Region.binds .any e=ED e:=fun e=>by unfold Region.binds ED;cases e.ground<;>rfl
 unfold Region.ready;simp only [List.mem_filter,mO,List.size_toArray,aq,iX];constructor
 ·rintro ⟨b,p,d⟩
  have u:i<l.size:=by rw [t];exact b
  refine ⟨b,?_,?_⟩
  ·unfold tw
   all_goals grind
  ·have g:c.all[i]? =some c.all[i]:=aO b
   have j:c.all.toArray[i]? =some c.all[i]:=by simp
   refine ⟨_,g,fun e f k=> ?_⟩;rw [j] at d;simp only [dD,Option.getD_some,jk,cX,iX] at d;rcases d e (by simpa using f) with s|s
   ·simp_all
   ·exact s
 ·rintro ⟨b,p,o,g,d⟩
  have u:i<l.size:=by rw [t];exact b
  have j:c.all.toArray[i]? =some o:=by simpa using g
  refine ⟨b,?_,?_⟩
  ·unfold tw at p
   all_goals grind
  ·rw [j]
   simp only [dD,Option.getD_some,jk,cX,iX];intro e f;cases k:ED e with
   |false=>simp_all
   |true=>right;exact d e (by simpa using f) k
def aqZ (k:c.Ok) {Q:Exit->Act->World->Prop} (H: ∀L a w m q,(∀i,i<c.n->L i=true)->c.Inv L a w m q->Q .normal a w): ∀(b:Nat) (l:Array Bool) (a:Act) (w:World) (m:Mp) (q:Nat),
 l.size=c.n->c.n<=b+(l.toList.filter id).length->c.Inv (tw l) a w m q->wpAny c.P .any c.all.toArray Q b l a w:=by
 have done: ∀(l:Array Bool) (a:Act) (w:World) (m:Mp) (q:Nat),l.size=c.n->c.Inv (tw l) a w m q->Region.ready .any c.all.toArray l= []->Q .normal a w:=fun l a w m q f I y=>by
  refine H (tw l) a w m q (fun i s=> ?_) I;cases oK (∃j,j<c.n/\tw l j≠true) with
  |inr h=>simp_all
  |inl h=>
   obtain ⟨j,⟨g,d⟩,B⟩:=least h;have u:c.all[j]? =some c.all[j]:=aO g;have:j∈Region.ready .any c.all.toArray l:=(WG f).2 ⟨g,d,_,u,fun e z C=>by
    have R:Nat.testBit (fK c.all j) e.on=true:=(RK u e.on).2 ⟨e,z,C,.inl rfl⟩;have Z:e.on<j:=k.ord.lt j e.on R
    all_goals grind⟩
   all_goals grind
 intro b
 induction b with
 |zero=>
  intro l a w m q f N I;refine ⟨?_,?_⟩
  ·cases y:Region.ready .any c.all.toArray l with
   |nil=>rfl
   |cons i x=>
    have s:i∈Region.ready .any c.all.toArray l:=by rw [y];simp
    obtain ⟨g,d,_⟩:=(WG f).1 s;have A:(l.toList.filter id).length=l.toList.length:=by
     grind
    have p:=jq.1 A;have t:i<l.size:=by rw [f];exact g
    have:=p l[i] (by simp);unfold tw at d;simp [t] at d
    all_goals grind
  ·refine done l a w m q f I ?_
   cases y:Region.ready .any c.all.toArray l with
   |nil=>rfl
   |cons i x=>
    have s:i∈Region.ready .any c.all.toArray l:=by rw [y];simp
    obtain ⟨g,d,_⟩:=(WG f).1 s;have A:(l.toList.filter id).length=l.toList.length:=by
     grind
    have p:=jq.1 A;have t:i<l.size:=by rw [f];exact g
    have:=p l[i] (by simp);unfold tw at d;simp [t] at d
    all_goals grind
 |succ b T=>
  intro l a w m q f N I;refine ⟨done l a w m q f I,fun i s=> ?_⟩;obtain ⟨g,d,o,u,B⟩:=(WG f).1 s;have t:i<l.size:=by rw [f];exact g
  have F: ∀j,c.pr i j->tw l j=true:=fun j O=>by
   obtain ⟨e,z,M,h|⟨Y,h⟩⟩:=(RK u j).1 O
   ·grind
   ·exact I.closed e.on j (B e z M) h
  have W: ∀j,tw (l.setIfInBounds i true) j=true↔(tw l j=true\/j=i):=fun j=>by
   unfold tw;by_cases e:j=i
   ·subst e;simp [t]
   ·simp [bX (g9 e),e]
  refine k.step I g d F W fun E w' U X J=> ?_
  refine T _ E w' U X (by simpa using f) ?_ J;have:((l.setIfInBounds i true).toList.filter id).length=(l.toList.filter id).length+1:=by
   have D:l.toList[i]? =some false:=by
    unfold tw at d;simp [t] at d⊢;exact d
   rw [Array.toList_setIfInBounds];exact count_set _ _ D
  omega
end Cx.Ok
def GG {P:Program} {E:Env} (qx:P.follows .mixedOrders=true) (ok:eN P E):IY P E:=by
 intro nt id o cf kV tm h out bF h' e S m a w Q hr W hQ;unfold Rc at e;cases Oe:Gg o.toList o.toList (tk o.toList) 0 [] with
 |false=>rw [Oe] at e;cases e
 |true=>
  rw [Oe] at e;simp only at e;cases T:(EE E nt o.toList o.toList (tk o.toList) 0).f cf ⟨tm,h,[],0,[],[]⟩ with
  |none=>rw [T] at e;cases e
  |some sN=>
   rw [T] at e;simp only at e;rw [Wv] at e;cases e;obtain ⟨st,K,v,A⟩:=aqI T
   let w0:World:= {w with drawn:=w.drawn+1}
   let c:Cx:= {P,E,nt,all:=o.toList,cf,Ao:=tm,m0:=m,h0:=h,w0,S0:=S,sN,st,K,v}
   have qp:bV E.gl S m h w0:=hr.aa2 rfl;have g0:Goes m h w m h w0:=⟨rfl,rfl,rfl,ak _,fun _ _ _=>rfl,fun _ _=>⟨rfl,rfl⟩,ak _,fun _ h=> .inl h,fun _ a b=>absurd a b,fun _ h=>h,fun _ h=>h,fun _ _ h=>h⟩;have k:c.Ok:=⟨ok,kV,aqD Oe,A,qp,W.ins,W.BQ⟩;have O:c.st 0=⟨tm,h,[],0,[],[]⟩:=A.first;have aq0: ∀(j t:Nat),c.cur (Cx.Ok.tw (Array.replicate o.size false)) j t=ig t tm:=fun j t=>by
    induction j with
    |zero=>rfl
    |succ j ih=>
     rw [Cx.cur,if_neg,ih];rintro ⟨s,_⟩;simp [Cx.Ok.tw,cM,iK] at s
     all_goals grind
   have no: ∀j,Cx.Ok.tw (Array.replicate o.size false) j≠true:=fun j s=>by
    simp [Cx.Ok.tw,cM,iK] at s;split at s<;>simp at s
   have I:c.Inv (Cx.Ok.tw (Array.replicate o.size false)) a w0 m 0:=
    {qn:=bZ _
     qc:=fun i _ _=>⟨fun h=>absurd h (no i),fun h=>by omega⟩
     qm:= .inl rfl
     rep:=by
      rw [O];refine qp.shrink fun b H=> ?_
      rcases H with H|⟨p,_,_,_,_,h,_⟩
      all_goals grind
     goes:=by rw [O];exact Goes.refl m h w0
     df:=by rw [O]
     za:=fun p _ _ _ _ h=>absurd h (no p)
     fin:=fun p _ _ _ _ h=>absurd h (no p)
     GF:=fun p M mk y hk _ T=>by
      have s:aH h (c.nm p):=by simp_all
      have u:=qp.fresh _ s;have z:=A.mono (i:=0) (j:=p) (bZ _) (aQ y);rw [A.first] at z;exact absurd (ax u z) (bQ _)
     I2:=fun p M mk y hk id e=>by
      have s:aH h (c.nm p):=fun e'=>by simp_all
      have u:=qp.fresh _ s;have z:=A.mono (i:=0) (j:=p) (bZ _) (aQ y);rw [A.first] at z;exact absurd (ax u z) (bQ _)
     tv:=fun t=>by rw [aq0];exact W.val t
     RR:=fun j _ h=>absurd h (no j)
     sz:=W.size
     Wy:=W.defs
     closed:=fun i j h _=>absurd h (no i)}
   refine wp_region_any qx ?_;have key:=k.aqZ (Q:=Q) (fun L a' w' X q' N J=> ?_) o.size (Array.replicate o.size false) a w0 m 0 (by show _=o.toList.length;simp) (by show o.toList.length<=_;simp) I
   ·omega
   ·
    have D:c.st c.n=sN:=A.last;have C:=k.run.quiet (i:=q') (j:=c.n) J.qn (ak _) fun x dT tu C'=>by
     have:=(J.qc x tu C').1 (N x tu);omega
    have R:=k.run.mono (i:=q') (j:=c.n) J.qn (ak _);rw [D] at C R;have abI: ∀i,Nat.testBit (Nat.sub (Nat.pow 2 o.toList.length) 1) i=decide (i<o.toList.length):=fun i=>Nat.testBit_two_pow_sub_one ..
    have Z: ∀p∈sN.dA,Nat.testBit (Nat.sub (Nat.pow 2 o.toList.length) 1) p.ix=true->p.ob.pY=true:=fun p y _=>by
     rw [<-D] at y;obtain ⟨mk,s,u,z⟩:=(k.dA p (ak _)).1 y;exact (J.fin p.ix p.ob mk s u (N _ s)).2
    obtain ⟨lf1,lf2,lf3⟩:=Lv (Nat.sub (Nat.pow 2 o.toList.length) 1) sN.dA sN.h;have mY: ∀x,aH (gM (Nat.sub (Nat.pow 2 o.toList.length) 1) sN.dA sN.h) x↔Cx.Ok.Live c L q' x:=fun x=>by
     rw [ahi Z];constructor
     ·rintro (h|⟨p,y,H,rfl⟩)
      ·exact .inl ((I1 C.1 x).1 h)
      ·rw [<-D] at y
       obtain ⟨mk,s,u,z⟩:=(k.dA p (ak _)).1 y;exact .inr ⟨p.ix,p.ob,mk,s,u,N _ s,z⟩
     ·rintro (h|⟨p,M,mk,s,u,z,rfl⟩)
      ·exact .inl ((I1 C.1 x).2 h)
      ·refine .inr ⟨⟨p,c.nm p,M⟩,?_,?_,rfl⟩
       ·rw [<-D];exact (k.dA _ (ak _)).2 ⟨mk,s,u,rfl⟩
       ·rw [abI];exact decide_eq_true s
    have r1:bV E.gl (c.SS L X) X sN.h w':=J.rep.ext C.1 C.2.1 fun n hn=>ax (J.rep.fresh n hn) R
    have RX: ∀p M mk,p<c.n->c.K p= .nw M mk->(sN.h.at (c.nm p)).obj= .free->c.Wx L X q' w' p M:=fun p M mk s u z=>by
     rcases J.za p M mk s u (N p s) with h4|h4
     ·exact absurd z ((I1 C.1 _).2 h4)
     ·exact h4
    have r2:bV E.gl (c.SS L X) X (gM (Nat.sub (Nat.pow 2 o.toList.length) 1) sN.dA sN.h) w':=by
     refine r1.ahk Z (fun p y H hf=> ?_) (fun p y p' C7 H fV hf mq U=> ?_) (fun p y H hf=> ?_)
     ·rw [<-D] at y
      obtain ⟨mk,s,u,z⟩:=(k.dA p (ak _)).1 y;rw [z] at hf⊢;have F:=RX p.ix p.ob mk s u hf;refine ⟨F.blk,by rw [<-D];exact k.EO u s (ak _),fun x B=>F.apart x ((Lw C.1 x).1 B),?_,fun g l hg e=> ?_⟩
      ·exact yT (fun x B=>(mY x).2 (Cx.Ok.WB J (N _ s) B)) (J.fin p.ix p.ob mk s u (N _ s)).1
      ·have:=k.ahq hg
       have:=F.new;omega
     ·rw [<-D] at y C7
      obtain ⟨mk,s,u,z⟩:=(k.dA p (ak _)).1 y;obtain ⟨mk',h1',C8,C9⟩:=(k.dA p' (ak _)).1 C7;rw [z] at hf U⊢;rw [C9] at mq U⊢;exact (RX p'.ix p'.ob mk' h1' C8 mq).each p.ix p.ob mk s u (N _ s) (fun e=>U (by rw [e]))
     ·rw [<-D] at y
      obtain ⟨mk,s,u,z⟩:=(k.dA p (ak _)).1 y;exact .inr ⟨p.ix,p.ob,mk,s,u,N _ s,by rw [z]⟩
    have g2:Goes m h w0 X (gM (Nat.sub (Nat.pow 2 o.toList.length) 1) sN.dA sN.h) w':=by
     refine J.goes.lay (by rw [lf1];exact R) (fun x B=>(mY x).2 (.inl B)) (fun x B=> ?_) (fun x B=>ahj Z ((Lw C.1 x).2 B)) (fun x B=> ?_) fun x id B=>(Ww Z).2 (by rw [abv C.1];exact B)
     ·rcases (mY x).1 B with s|⟨p,M,mk,s,u,z,rfl⟩
      ·exact .inl s
      ·have:=A.mono (i:=0) (j:=p) (bZ _) (aQ s)
       rw [A.first] at this;exact .inr this
     ·rcases abw Z B with s|⟨s,p,y,H,rfl⟩
      ·exact .inl ((Lw C.1 x).1 s)
      ·rw [<-D] at y
       obtain ⟨mk,u,z,h4⟩:=(k.dA p (ak _)).1 y;rw [h4] at s⊢;exact .inr (RX p.ix p.ob mk u z s).new
    have g3:=Goes.trans hr qp g0 g2;refine hQ X a' w' (r2.shrink fun b H=> .inl H) ?_ g3;have zb:(gM (Nat.sub (Nat.pow 2 o.toList.length) 1) sN.dA sN.h).df=h.df:=by rw [lf3,C.2.2];exact J.df
    have Y: ∀t,c.cur L c.n t=ig t sN.tm:=fun t=>by
     rw [k.abB (ak _) t fun j hj _=>N j hj,D]
    refine ⟨J.sz,fun t=>by rw [J.tv,Y],fun t=> ?_,?_,fun d T=> ?_⟩
    ·rw [<-Y];exact rN (fun x B=>(mY x).2 B) _ (k.ahs J t)
    ·rw [J.Wy,zb]
     apply dy;intro d hm;simp only [collected];rw [(g3.agree d (hr.fresh d (W.BQ d hm))).1]
    ·rw [zb] at T;exact g3.old d (W.BQ d T)
def ahy {P:Program} (d:P.follows .mixedOrders=true) (G:gI) (b:G.len=fun _=>none) (n:Nat):tr P (Env.of P G) (vB (Env.of P G) n):=
 have ok:=Wo P G [] (fun _ h=>by cases h) (fun id a h=>by rw [b] at h;cases h)
 ag8 ok (GG d ok) n
end
section
def isTrue:VR->Bool
 | .ok (.bool b) _=>b
 |_=>false
instance aF0:aJ:=⟨fun _=>default⟩
def wV (n:Nat) (x:Pos): ¬aH (qs n) x:=fun h=>h (by
 show ((gz.leaf:gz Cell).get noCell x).obj= .free;rw [gz.EF];rfl)
def tz (n:Nat) (x:Pos): ¬bk (qs n) x:=fun h=>wV n x h.aH
def GH (n:Nat) (x:Pos):(qs n).at x=noCell:=gz.EF _
def aq1 {P:Program} (E:P.follows .mixedOrders=true) {G:gI} (x:G.len=fun _=>none) {n f:Nat} (h:isTrue (vB (Env.of P G) n f [] (qs 1))=true) {W:World}
 (B: ∀g l,G.g g=some l-> ∃o e t,W.heap[g]? =some (.cells ⟨l++o⟩ e t)):
 Calls P f #[] W fun e p=>e= .returned (.bool true)/\RowKit.Below W.heap.size W p:=by
 cases hc:vB (Env.of P G) n f [] (qs 1) with
 |fail=>rw [hc] at h;cases h
 |ok v u=>
  rw [hc] at h;have D:v= .bool true:=by
   cases v<;>first|(cases h;done)|(rename_i b;cases b<;>first|rfl|cases h)
  subst D
  let s:Mp:=⟨fun _=>0,fun _=>⟨0,default⟩⟩
  have F:bV (Env.of P G).gl (fun _=>False) s (qs 1) W:=
   {blk:=fun n j=>absurd j (tz 1 n)
    fresh:=fun n j=>absurd j (wV 1 n)
    apart:=fun n k j=>absurd j (tz 1 n)
    mem:=fun n k j=>absurd j (wV 1 n)
    mX:=fun n j=>absurd j (wV 1 n)
    ins:=fun n=>by rw [GH];exact trivial
    qN:=fun g l C=>⟨B g l C,fun n j=>absurd j (tz 1 n)⟩
    jt:=fun n id j=>by rw [GH] at j;cases j
    lim:=fun _ h=>h.elim}
  have:=(ahy E G x n f [] (qs 1) (.bool true) u hc).2 _ s W F trivial (fun d z=>by cases z);exact Calls.mono this fun e p ⟨H,A,_,g,_⟩=>⟨A,⟨g.os,g.tape,g.output,g.size,fun b y=>g.xZ b y fun n j=>absurd j (tz 1 n)⟩⟩
end
section
section
variable [aJ] {S:Nat->Prop} {P:Program} {G:gI} {m:Mp} {h:aP} {w w':World}
def bV.ahz (r:bV G S m h w) {n:Pos} (d:bk h n):m.b n<w.heap.size:=by
 obtain ⟨o,e,_⟩:=r.blk n d;exact (au.1 e).1
def bV.aq2 (r:bV G S m h w) {g:Nat} {l:List Value} (f:G.g g=some l):g<w.heap.size:=by
 obtain ⟨⟨b,e,j,d⟩,_⟩:=r.qN g l f;exact (au.1 d).1
def noS:Nat->Prop:=fun _=>False
structure abJ (G:gI) (B:Nat) (m:Mp) (h:aP) (w:World):Prop where
 rep:bV G noS m h w
 df:h.df= []
 from_: ∀n,bk h n->B<=m.b n
 tri: ∀i w v,G.jt i w v
 abK:G.len=fun _=>none
def mp0:Mp:=⟨fun _=>0,fun _=>⟨0,default⟩⟩
def zc (g:Nat->Option (List Value)):gI:=⟨g,fun _ _ _=>True,fun _=>none⟩
def ahA {g:Nat->Option (List Value)} {W:World} (hg: ∀k l,g k=some l-> ∃rest e fz,W.heap[k]? =some (.cells ⟨l++rest⟩ e fz)):abJ (zc g) W.heap.size mp0 (qs 1) W where
 rep:=
  {blk:=fun n hn=>absurd hn (tz 1 n)
   fresh:=fun n hn=>absurd hn (wV 1 n)
   apart:=fun n k hn=>absurd hn (tz 1 n)
   mem:=fun n k hn=>absurd hn (wV 1 n)
   mX:=fun n hn=>absurd hn (wV 1 n)
   ins:=fun n=>by rw [GH];exact trivial
   qN:=fun k l hl=>⟨hg k l hl,fun n hn=>absurd hn (tz 1 n)⟩
   jt:=fun _ _ _ _ _=>trivial
   lim:=fun _ h=>h.elim}
 df:=rfl
 from_:=fun n hn=>absurd hn (tz 1 n)
 tri:=fun _ _ _=>trivial
 abK:=rfl
def ahB (C:P.follows .mixedOrders=true) {n f:Nat} {args:List ai} {v:ai} {h':aP} (hc:vB (Env.of P G) n f args h= .ok v h') {B:Nat}
 (j:abJ G B m h w) (E:B<=w.heap.size) (y:jn (aH h) args):
 Calls P f ⟨aW m args⟩ w fun e w'=> ∃l,e= .returned (γ l v)/\abJ G B l h' w'/\In (aH h') v/\RowKit.Below B w w'/\Goes m h w l h' w':=by
 obtain ⟨z,p⟩:=ahy C G j.abK n f args h v h' hc;refine (p _ m w j.rep y (fun d u=>by rw [j.df] at u;cases u)).mono fun e w' ⟨l,o,r,g,A⟩=>⟨l,o,⟨r,z.trans j.df,fun x s=> ?_,j.tri,j.abK⟩,A,?_,g⟩
 ·by_cases t:bk h x
  ·rw [(g.agree x (j.rep.fresh x t.aH)).1];exact j.from_ x t
  ·rcases g.yU x s t with D|⟨k,p,o⟩
   ·omega
   ·rw [<-o];exact j.from_ k p
 ·exact ⟨g.os,g.tape,g.output,g.size,fun b F=>g.xZ b (by omega) fun x s e=>by have:=j.from_ x s;omega⟩
end
end
end Go.Ev
