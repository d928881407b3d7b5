/- refineCopies_proved. -/
import Derived.RangeFuncIn
import Derived.LoopN
import Derived.Scope
import Derived.Test.YthleenhngcdgkaaGreatDoorPmap
set_option maxRecDepth 100000
set_option maxHeartbeats 16000000
set_option linter.all false
noncomputable section
namespace Go.Ev
section
open Go
def Xn (f:FuncId):List FuncId->Bool
 | []=>false
 |g::l=>cond (Nat.beq g f) true (Xn f l)
def GZ (E:Env) (T:List rT) (I:List FuncId):Nat->(FuncId->List ai->aP->VR):=fun n=>Nat.rec (motive:=fun _=>(FuncId->List ai->aP->VR))
 (ES T) (fun _ b f args h=>cond (Xn f I) ((K6 E f).f b args h) (ES T f args h)) n
section
variable [aJ] {P:Program} {E:Env}
def aci (ok:eN P E) (i:IY P E) {T:List rT} (g:tr P E (ES T)) (I:List FuncId): ∀n,tr P E (GZ E T I n)
 |0=>g
 |n+1=>fun f args h v d e=>by
  have b:cond (Xn f I) ((K6 E f).f (GZ E T I n) args h) (ES T f args h)= .ok v d:=e;cases j:Xn f I with
  |true=>rw [j] at b;exact Wn ok i (aci ok i g I n) f args h v d b
  |false=>rw [j] at b;exact g f args h v d b
end
inductive Way where
 |l|r|k
 deriving DecidableEq
def ni:List Way->Code->Option Code
 | [],c=>some c
 | .l::p,.seq x _=>ni p x
 | .r::p,.seq _ y=>ni p y
 | .k::p,.block _ x=>ni p x
 |_,_=>none
def AU:List Way->Code->Code
 | .l::p,.seq x _=>AU p x
 | .r::p,.seq x y=> .seq x (AU p y)
 | .k::p,.block _ x=>AU p x
 |_,_=> .skip
def uh (b:Code):List Way->Code->Code
 | [],_=>b
 | .l::p,.seq x y=> .seq (uh b p x) y
 | .r::p,.seq _ y=>uh b p y
 | .k::p,.block id x=> .block id (uh b p x)
 |_,c=>c
def uR:Out->Code
 | .normal=> .skip
 | .ret=> .ret
 | .exit id=> .exit id
def sV (P:Program):List Way->Code->(Exit->Act->World->Prop)->(Exit->Act->World->Prop)
 | .l::p,.seq x y,Q=>sV P p x (Exit.then (y.wp P Q) Q)
 | .r::p,.seq _ y,Q=>sV P p y Q
 | .k::p,.block id x,Q=>sV P p x (Exit.inBlock id Q)
 |_,_,Q=>Q
def Xo {p:List Way} {c s:Code} (h:ni (.l::p) c=some s): ∃x y,c= .seq x y/\ni p x=some s:=by
 cases c<;>first|exact ⟨_,_,rfl,h⟩|(cases h;done)
def SL {p:List Way} {c s:Code} (h:ni (.r::p) c=some s): ∃x y,c= .seq x y/\ni p y=some s:=by
 cases c<;>first|exact ⟨_,_,rfl,h⟩|(cases h;done)
def Xp {p:List Way} {c s:Code} (h:ni (.k::p) c=some s): ∃id x,c= .block id x/\ni p x=some s:=by
 cases c<;>first|exact ⟨_,_,rfl,h⟩|(cases h;done)
def aiw (P:Program) (c:Code) (Q:Exit->Act->World->Prop):sV P [] c Q=Q:=by cases c<;>rfl
section
variable [aJ] {P:Program} {E:Env}
def aix (ok:eN P E) (R:IY P E) {cf:(FuncId->List ai->aP->VR)} (U:tr P E cf) (nt:Nat) {sub:Code} (p:List Way): ∀(c:Code) (i:Tm) (h:aP) (j:Tm) (d:aP),ni p c=some sub->
 (gA E nt (AU p c)).f cf i h= .ok .normal j d-> ∀(S:Nat->Prop) (m:Mp) (a:Act) (w:World) (Q:Exit->Act->World->Prop),bV E.gl S m h w->TR m h nt i a->
 (∀u B z,bV E.gl S u d z->TR u d nt j B->Goes m h w u d z->sub.wp P (sV P p c Q) B z)->c.wp P Q a w:=by
 induction p with
 |nil=>
  intro c i h j d hc e S m a w Q r t q;cases hc;have g:AU [] sub= .skip:=by cases sub<;>rfl
  rw [g] at e;have M:CR.ok .normal i h= .ok .normal j d:=by simpa only [gA] using e
  cases M;have:=q m a w r t (Goes.refl ..)
  rwa [aiw] at this
 |cons b p D=>
  intro c i h j d hc e S m a w Q r t q;cases b with
  |l=>
   obtain ⟨x,y,rfl,hc⟩:=Xo hc;exact wp_seq (D x i h j d hc e S m a w _ r t q)
  |r=>
   obtain ⟨x,y,rfl,hc⟩:=SL hc;have g:(gA E nt (.seq x (AU p y))).f cf i h= .ok .normal j d:=e;simp only [gA] at g;cases C:(gA E nt x).f cf i h with
   |fail=>rw [C] at g;cases g
   |ok o t1 h1=>
    rw [C] at g;refine wp_seq (Wi ok R U nt x _ _ _ _ _ C S m a w _ r t fun W J w1 H X O=> ?_);cases o with
    |normal=>exact D y _ _ _ _ hc g S W J w1 Q H X fun u B z Y t' N=>q u B z Y t' (Goes.trans r H O N)
    |ret=>cases g
    |exit id=>cases g
  |k=>
   obtain ⟨id,x,rfl,hc⟩:=Xp hc;exact wp_block (D x i h j d hc e S m a w _ r t q)
def aiy (ok:eN P E) (hD:IY P E) {cf:(FuncId->List ai->aP->VR)} (kV:tr P E cf) (nt:Nat) {sub:Code} {out:Out} (p:List Way): ∀(c:Code) (i:Tm) (h:aP) (d:Out) (B:Tm) (q:aP),ni p c=some sub->
 (gA E nt (uh (uR out) p c)).f cf i h= .ok d B q-> ∀(S:Nat->Prop) (m:Mp) (a:Act) (w:World) (Q:Exit->Act->World->Prop),bV E.gl S m h w->TR m h nt i a->
 (∀J N M,bV E.gl S J q M->TR J q nt B N->Goes m h w J q M->Q (vI d) N M)->sV P p c Q (vI out) a w:=by
 induction p with
 |nil=>
  intro c i h d B q hc e S m a w Q r t u;have g:uh (uR out) [] c=uR out:=by cases c<;>rfl
  rw [g] at e;have e':CR.ok out i h= .ok d B q:=by cases out<;>simpa only [uR,gA] using e
  cases e';rw [aiw];exact u m a w r t (Goes.refl ..)
 |cons b p R=>
  intro c i h d B q hc e S m a w Q r t u;cases b with
  |l=>
   obtain ⟨x,y,rfl,hc⟩:=Xo hc;have g:(gA E nt (.seq (uh (uR out) p x) y)).f cf i h= .ok d B q:=e;simp only [gA] at g;cases H:(gA E nt (uh (uR out) p x)).f cf i h with
   |fail=>rw [H] at g;cases g
   |ok o U O=>
    rw [H] at g;show sV P p x _ _ _ _;refine R x i h o U O hc H S m a w _ r t fun Y W w1 z D C=> ?_
    cases o with
    |normal=>exact Wi ok hD kV nt y _ _ _ _ _ g S Y W w1 Q z D fun J N M r' t' g'=>u J N M r' t' (Goes.trans r z C g')
    |ret=>cases g;exact u _ _ _ z D C
    |exit id=>cases g;exact u _ _ _ z D C
  |r=>
   obtain ⟨x,y,rfl,hc⟩:=SL hc;exact R y i h d B q hc e S m a w Q r t u
  |k=>
   obtain ⟨id,x,rfl,hc⟩:=Xp hc;have g:(gA E nt (.block id (uh (uR out) p x))).f cf i h= .ok d B q:=e;simp only [gA] at g;cases H:(gA E nt (uh (uR out) p x)).f cf i h with
   |fail=>rw [H] at g;cases g
   |ok o U O=>
    rw [H] at g;show sV P p x _ _ _ _;refine R x i h o U O hc H S m a w _ r t fun Y W w1 z D C=> ?_
    cases o with
    |normal=>cases g;exact u _ _ _ z D C
    |ret=>cases g;exact u _ _ _ z D C
    |exit j=>
     simp only at g;simp only [vI,Exit.inBlock];by_cases X:j=id
     ·subst X
      simp only [jA,cond_true] at g;cases g;rw [if_pos rfl];exact u _ _ _ z D C
     ·rw [if_neg X]
      have:Nat.beq j id=false:=by
       cases hb:Nat.beq j id with
       |false=>rfl
       |true=>simp_all
      rw [this,cond_false] at g;cases g;exact u _ _ _ z D C
end
end
section
open Go
structure FB where
 t:Nat
 e:TypeId
 s:Nat
 R:World->Value->Prop
structure Fr where
 bs:List FB
 ts:List (Nat×(World->Value->Prop))
structure PB where
 t:Nat
 e:TypeId
 s:Nat
 ps:List ai
structure Fp where
 bs:List PB
 ts:List (Nat×ai)
def wY (S:Nat->Prop) (B:List Nat):Nat->Prop:=fun b=>S b\/b∈B
def acj (w:World) (b:Nat) (e:TypeId) (s:Nat) (cs:List Value) (cap:Nat):Prop:=
 ∃d f,w.heap[b]? =some (.cells ⟨cs++d⟩ e f)/\(cs++d).length=cap*s/\ ∀j,j<(cs++d).length-> ¬(f.1<=j/\j<f.2)
def OD (t b cap:Nat):Value:=Nat.casesOn (t/1024) (.pointer (some ⟨b,0,none⟩)) (fun n=> .slice (some ⟨b,0,none⟩) n cap)
def G4 (t:Nat) (k:Pos):ai:=Nat.casesOn (t/1024) (.ptr k 0) (fun n=> .jm k 0 n (.rest 0))
def ack (v:ai):Option Pos:=match v with
 | .ptr n b=>cond (Nat.beq b 0) (some n) none
 |_=>none
def acm (l:Nat) (v:ai):Option Pos:=match v with
 | .jm n b len (.rest d)=>cond (Nat.beq b 0&&Nat.beq len l&&Nat.beq d 0) (some n) none
 |_=>none
def Xq (t:Nat) (v:ai):Option Pos:=Nat.casesOn (t/1024) (ack v) (fun n=>acm n v)
def asN {t:Nat} {v:ai} {n:Pos} (h:Xq t v=some n):v=G4 t n:=by
 unfold Xq at h;unfold G4;revert h;cases t/1024 with
 |zero=>
  intro h;have b:ack v=some n:=h;unfold ack at b;cases v<;>try (cases b;done)
  rename_i k e;simp only at b;cases hc:Nat.beq e 0<;>rw [hc] at b<;>cases b;have:=bE hc;subst this;rfl
 |succ l=>
  intro h;have b:acm l v=some n:=h;unfold acm at b;cases v<;>try (cases b;done)
  rename_i k e len cap;cases cap with
  |exact c=>cases b
  |rest d=>
   simp only at b;cases hc:(Nat.beq e 0&&Nat.beq len l&&Nat.beq d 0)<;>rw [hc] at b<;>cases b;simp only [aq] at hc;have f:=bE hc.1.1;have g:=bE hc.1.2;have i:=bE hc.2
   all_goals grind
def aiz [aJ] (m:Mp) (t:Nat) (k:Pos):γ m (G4 t k)=OD t (m.b k) (m.c k):=by
 unfold G4 OD;cases t/1024<;>rfl
def asO {D:Pos->Prop} (t:Nat) {k:Pos} (h:D k):In D (G4 t k):=by
 unfold G4;cases t/1024<;>exact h
def LS (Z:Nat->Prop) (a:Act) (w:World):List FB->List Nat->Prop
 | [],B=>B= []
 |f::l,B=> ∃b d,B=b::d/\(∃g cap,acj w b f.e f.s g cap/\(jw Z w fun i=>f.R i (.agg ⟨g⟩))/\a.tmps.getD (f.t % 1024) undef=OD f.t b cap)/\LS Z a w l d
def OE (Z:Nat->Prop) (a:Act) (w:World):List (Nat×(World->Value->Prop))->Prop
 | []=>True
 |x::l=>(jw Z w fun b=>x.2 b (a.tmps.getD x.1 undef))/\OE Z a w l
structure pn (A:World->Prop) (S:Nat->Prop) (base:Nat) (w0:World) (nt:Nat) (F:Fr) (a:Act) (w:World):Prop where
 Xr:RowKit.Below base w0 w
 size:nt<=a.tmps.size
 rest: ∀t,nt<=t->a.tmps.getD t undef=undef
 df:a.defers= []
 lim: ∀b,S b->b<base
 oy:base<=w.heap.size
 body: ∃B:List Nat,B.Nodup/\(∀b∈B,base<=b)/\jw (wY S B) w A/\LS (wY S B) a w F.bs B/\OE (wY S B) a w F.ts
def SM:List PB->Tm->aP->Tm×aP
 | [],d,h=>(d,h)
 |b::l,d,h=>SM l ((Ap (b.t % 1024)).f (G4 b.t (j9 b.ps h).2.nx) d) ((j9 b.ps h).2.new (.cells (j9 b.ps h).1 b.e b.s))
def Xs:List (Nat×ai)->Tm->aP->Tm×aP
 | [],b,h=>(b,h)
 |x::l,b,h=>Xs l ((Ap x.1).f (sP x.2 h).1 b) (sP x.2 h).2
def Xt (d:Nat->ai):Nat->Nat->List ai:=fun n=>Nat.rec (motive:=fun _=>Nat->List ai) (fun _=> []) (fun _ b k=>d k::b (Nat.succ k)) n
def SN (nt:Nat) (d:Nat->ai):Tm:=Gi (Xt d nt 0) 0 Ao
def xc (fp:Fp) (nt:Nat) (d:Nat->ai):Tm×aP:=Xs fp.ts (SM fp.bs (SN nt d) uO).1 (SM fp.bs (SN nt d) uO).2
def aiA (d:Nat->ai): ∀(n k t:Nat),(Xt d n k)[t]? =if t<n then some (d (k+t)) else none
 |0,k,t=>by show ([]:List ai)[t]? =_;simp
 |n+1,k,t=>by
  have e:Xt d (n+1) k=d k::Xt d n (k+1):=rfl;rw [e];cases t with
  |zero=>simp
  |succ t=>
   rw [eh,aiA d n (k+1) t]
   all_goals grind
def asP (nt:Nat) (d:Nat->ai) (t:Nat):ig t (SN nt d)=if t<nt then d t else oY:=by
 unfold SN;rw [Wl,Wm,aiA]
 all_goals grind
mutual
def tH:Value->ai
 | .agg ⟨cs⟩=> .agg (OG cs)
 | .tuple ⟨cs⟩=> .fm (OG cs)
 |v=> .yK v
def OG:List Value->List ai
 | []=> []
 |v::l=>tH v::OG l
end
mutual
theorem acn [aJ] (m:Mp) (D:Pos->Prop): ∀v:Value,γ m (tH v)=v/\In D (tH v)
 | .agg ⟨cs⟩=>by
  obtain ⟨b,d⟩:=aco m D cs;exact ⟨by simp only [tH,γ,b],by simp only [tH];exact d⟩
 | .tuple ⟨cs⟩=>by
  obtain ⟨b,d⟩:=aco m D cs;exact ⟨by simp only [tH,γ,b],by simp only [tH];exact d⟩
 | .bool _| .int .. | .string _| .pointer _| .slice .. | .map _| .nilFunc| .nilIface| .iface .. | .float .. | .complex .. | .func .. | .chan _=>⟨rfl,rfl⟩
theorem aco [aJ] (m:Mp) (D:Pos->Prop): ∀l:List Value,aW m (OG l)=l/\jn D (OG l)
 | []=>⟨rfl,trivial⟩
 |v::l=>by
  obtain ⟨b,d⟩:=acn m D v;obtain ⟨e,f⟩:=aco m D l;exact ⟨by simp only [OG,aW,b,e],d,f⟩
end
section
variable [aJ] {P:Program} {G:gI} {Z:Nat->Prop} {m:Mp} {h:aP} {w:World}
def bV.asQ (r:bV G Z m h w) (hg:G.g=fun _=>none) {ob:jR} {o:Obj} {b cap:Nat} (hZ:Z b) (hw:w.heap[b]? =some o) (X: ∀k,bk h k->m.b k≠b) (M:ob.pY=true)
 (hb:vD (m.set h.nx b cap) h.nx ob o) (hi:Az (aH h) ob):
 bV G Z (m.set h.nx b cap) (h.new ob) w/\aH (h.new ob) h.nx/\(∀k,aH h k->aH (h.new ob) k)/\(∀k,aH h k->(m.set h.nx b cap).b k=m.b k/\(m.set h.nx b cap).cv k=m.cv k)/\(m.set h.nx b cap).b h.nx=b/\(∀k,bk (h.new ob) k->k=h.nx\/(k≠h.nx/\bk h k)):=by
 have z:=aP.aaL h ob;have U: ∀k,aH h k->k≠h.nx:=fun k d e=>by have:=r.fresh k d;rw [e] at this;exact bQ _ this
 have p: ∀k,aH h k->(m.set h.nx b cap).b k=m.b k/\(m.set h.nx b cap).cv k=m.cv k:=fun k d=>Mp.BI m _ _ (U k d)
 have mc:bk (h.new ob) h.nx:=by unfold bk;rw [z,if_pos rfl];exact M
 have kK:aH (h.new ob) h.nx:=mc.aH;have N3: ∀k,bk h k->bk (h.new ob) k:=fun k d=>by unfold bk;rw [z,if_neg (fun e=>U k d.aH e.symm)];exact d
 have C: ∀k,bk (h.new ob) k->k=h.nx\/(k≠h.nx/\bk h k):=fun k d=>by
  by_cases e:k=h.nx
  ·exact .inl e
  ·refine .inr ⟨e,?_⟩;unfold bk at d;rw [z,if_neg (g9 e)] at d;exact d
 have Rk: ∀k id,((h.new ob).at k).obj= .gH id->k≠h.nx/\(h.at k).obj= .gH id:=fun k id d=>by
  by_cases e:h.nx=k
  ·simp_all
  all_goals grind
 have i: ∀k,aH h k->aH (h.new ob) k:=fun k d=>by unfold aH;rw [z,if_neg (fun e=>U k d e.symm)];exact d
 have J: ∀k,aH (h.new ob) k->k=h.nx\/(k≠h.nx/\aH h k):=fun k d=>by
  by_cases e:k=h.nx
  ·exact .inl e
  ·refine .inr ⟨e,?_⟩;unfold aH at d;rw [z,if_neg (g9 e)] at d;exact d
 have B:(h.new ob).at h.nx=⟨ob,h.nx⟩:=by rw [z,if_pos rfl]
 have t: ∀k,k≠h.nx->(h.new ob).at k=h.at k:=fun k d=>by grind
 have jL:(h.new ob).nx.n=h.nx.n+1:=Pos.IC _;refine ⟨⟨fun k d=> ?_,fun k d=> ?_,fun x y O R j=> ?_,fun x y O R j W=> ?_,fun k d=> ?_,fun k=> ?_,fun g l vL=>(by simp_all),fun n id hn w' N=> ?_,r.lim⟩,kK,i,p,Mp.qu ..,C⟩
 ·rcases C k d with rfl|⟨u,f⟩
  ·exact ⟨o,by rw [Mp.qu];exact hw,by rw [B];exact hb⟩
  ·obtain ⟨o',q,h3⟩:=r.blk k f
   refine ⟨o',by rw [(p k f.aH).1];exact q,?_⟩;rw [t k u];exact K8 p (r.ins k) (p k f.aH).2 h3
 ·rw [jL]
  rcases J k d with rfl|⟨_,f⟩
  ·omega
  ·have:=r.fresh k f;omega
 ·rcases C x O with rfl|⟨D,f⟩<;>rcases C y R with rfl|⟨H,q⟩
  ·exact absurd rfl j
  ·rw [Mp.qu,(p y q.aH).1];exact (X y q).symm
  ·rw [Mp.qu,(p x f.aH).1];exact X x f
  ·rw [(p x f.aH).1,(p y q.aH).1];rw [t x D,t y H] at j;exact r.apart x y f q j
 ·show x∈h.al.get [] _/\_
  rcases J x O with rfl|⟨D,f⟩<;>rcases J y R with rfl|⟨H,q⟩
  ·exact absurd rfl W
  ·rw [B,t y H] at j;have:=(r.mX y q).1;rw [<-j] at this;exact absurd this (bQ _)
  ·rw [B,t x D] at j;have:=(r.mX x f).1;rw [j] at this;exact absurd this (bQ _)
  ·rw [t x D] at j⊢;rw [t y H] at j;exact r.mem x y f q j W
 ·rw [jL]
  rcases J k d with rfl|⟨u,f⟩
  ·rw [B];exact ⟨ji _,kK⟩
  ·rw [t k u];have:=r.mX k f;exact ⟨gG this.1,i _ this.2⟩
 ·by_cases u:k=h.nx
  ·subst u;rw [B];exact yT i hi
  ·rw [t k u];exact yT i (r.ins k)
 ·obtain ⟨oW,tf⟩:=Rk n id hn
  have hd:aH h n:=by unfold aH;rw [tf];simp
  have e1:(m.set h.nx b cap).v n=m.v n:=by show (Mp.cv _ n).v=(m.cv n).v;rw [(p n hd).2]
  rw [e1];refine r.jt n id tf w' fun b' bP Y ke=>N b' bP Y fun k d=> ?_
  rcases C k d with rfl|⟨_,f⟩
  ·rw [Mp.qu];intro e;subst e;exact Y hZ
  ·rw [(p k f.aH).1];exact ke k f
def TI (m:Mp) (h:aP) (tm:Tm) (a:Act):Prop:= ∀t,a.tmps.getD t undef=γ m (ig t tm)/\In (aH h) (ig t tm)
def TI.step {e:Mp} {h':aP} {tm:Tm} {a:Act} (t:TI m h tm a) (f: ∀k,aH h k->e.b k=m.b k/\e.cv k=m.cv k) (d: ∀k,aH h k->aH h' k):TI e h' tm a:=fun x=>
 ⟨by rw [(t x).1,EH (D:=aH h) f _ (t x).2],rN d _ (t x).2⟩
def TI.set {tm:Tm} {a:Act} (t:TI m h tm a) {d:Nat} {v:ai} (b:a.tmps.getD d undef=γ m v) (hi:In (aH h) v):TI m h ((Ap d).f v tm) a:=fun x=>by
 rw [Ls];by_cases e:d=x
 ·simp_all
 ·rw [if_neg e];exact t x
structure Lf (G:gI) (Z:Nat->Prop) (base:Nat) (a:Act) (w:World) (m:Mp) (tm:Tm) (h:aP):Prop where
 rep:bV G Z m h w
 ti:TI m h tm a
 inz: ∀n,bk h n->Z (m.b n)
 low: ∀n,bk h n->base<=m.b n
 df:h.df= []
def Lf.keeps {base:Nat} {a:Act} {tm:Tm} {Φ:World->Prop} (l:Lf G Z base a w m tm h) (j:jw Z w Φ):ze Z m h w Φ:=fun o d=>j o fun b g f=>d b g f fun k i e=>f (e▸l.inz k i)
def AV [aJ] (G:gI):List FB->List PB->Prop
 | [],l=>l= []
 |f::l,q=> ∃p b,q=p::b/\f.t=p.t/\f.e=p.e/\f.s=p.s/\jo p.ps=true/\fq G f.R (.agg p.ps)/\AV G l b
def AW [aJ] (G:gI):List (Nat×(World->Value->Prop))->List (Nat×ai)->Prop
 | [],l=>l= []
 |f::l,q=> ∃p b,q=p::b/\f.1=p.1/\oN p.2=true/\fq G f.2 p.2/\AW G l b
def aiB (hg:G.g=fun _=>none) {base:Nat} {a:Act} : ∀(O:List FB) (M:List PB) (B:List Nat) (m:Mp) (C:Tm) (h:aP),Lf G Z base a w m C h->AV G O M->LS Z a w O B->B.Nodup->(∀b∈B,Z b/\base<=b)->(∀n,bk h n->m.b n∉B)->
 ∃m',Lf G Z base a w m' (SM M C h).1 (SM M C h).2
 | [],M,B,m,C,h,l,W,_,_,_,_=>by
  obtain rfl:M= []:=W;exact ⟨m,l⟩
 |f::O,q,B,m,C,h,l,W,hB,i,hz,RX=>by
  obtain ⟨p,q',rfl,e1,e2,e3,kU,bz,nK⟩:=W;obtain ⟨b,B',rfl,⟨cs,cap,vJ,eB,H⟩,Xw⟩:=hB;rw [e1] at H;rw [e2,e3] at vJ;obtain ⟨j,a1,a2,o⟩:=Lz p.ps cs m h l.rep kU (l.keeps fun w' Y=>by
   obtain ⟨vs,e,q⟩:=bz w' _ (eB w' Y);cases e;exact q)
  have SP: ∀k,aH h k->j.b k=m.b k/\j.cv k=m.cv k:=fun k X=>o.goes.agree k (l.rep.fresh k X)
  have U: ∀n,bk (j9 p.ps h).2 n->bk h n/\j.b n=m.b n:=fun n i=>⟨(o.GJ n).1 i,(SP n ((o.GJ n).1 i).aH).1⟩
  obtain ⟨N,fz,hw,hl,yV⟩:=vJ;have y:=hz b (aC ..);have R: ∀n,bk (j9 p.ps h).2 n->j.b n≠b:=fun n i e=>RX n (U n i).1 (by simp_all)
  have z:aW (j.set (j9 p.ps h).2.nx b cap) (j9 p.ps h).1=cs:=by
   rw [<-a1];exact BG (D:=aH (j9 p.ps h).2) (fun k X=>Mp.BI j _ _ (fun e=>by have:=o.rep.fresh k X;rw [e] at this;exact bQ _ this)) _ a2
  obtain ⟨r2,hd,J,fM,BH,o9⟩:=o.rep.asQ hg (ob:= .cells (j9 p.ps h).1 p.e p.s) (b:=b) (cap:=cap) y.1 hw R rfl
   ⟨N,fz,by rw [z],by rw [z,Mp.Lb];exact hl,by rw [z];exact yV⟩ a2
  have t1:TI j (j9 p.ps h).2 C a:=l.ti.step SP o.goes.old;have t2:=(t1.step fM J).set (d:=p.t % 1024) (v:=G4 p.t (j9 p.ps h).2.nx) (by rw [H,aiz,BH,Mp.Lb]) (asO _ hd);have dz: ∀n,bk ((j9 p.ps h).2.new (.cells (j9 p.ps h).1 p.e p.s)) n->(j.set (j9 p.ps h).2.nx b cap).b n=b\/((j.set (j9 p.ps h).2.nx b cap).b n=m.b n/\bk h n):=fun n i=>by
   rcases o9 n i with rfl|⟨_,u⟩
   ·exact .inl BH
   ·exact .inr ⟨(fM n u.aH).1.trans (U n u).2,(U n u).1⟩
  have l2:Lf G Z base a w (j.set (j9 p.ps h).2.nx b cap) ((Ap (p.t % 1024)).f (G4 p.t (j9 p.ps h).2.nx) C) ((j9 p.ps h).2.new (.cells (j9 p.ps h).1 p.e p.s)):=
   ⟨r2,t2,fun n i=>by rcases dz n i with e|⟨e,u⟩<;>rw [e];exact y.1;exact l.inz n u,
    fun n i=>by rcases dz n i with e|⟨e,u⟩<;>rw [e];exact y.2;exact l.low n u,by show (j9 p.ps h).2.df= [];rw [o.df,l.df]⟩
  exact aiB hg O q' B' _ _ _ l2 nK Xw (List.nodup_cons.1 i).2 (fun x hx=>hz x (aw _ hx)) fun n ql=>by
   grind
def aiD {base:Nat} {a:Act} : ∀(t:List (Nat×(World->Value->Prop))) (g:List (Nat×ai)) (m:Mp) (i:Tm) (h:aP),Lf G Z base a w m i h->AW G t g->OE Z a w t->
 ∃U,Lf G Z base a w U (Xs g i h).1 (Xs g i h).2
 | [],g,m,i,h,l,u,_=>by
  obtain rfl:g= []:=u;exact ⟨m,l⟩
 |f::t,q,m,i,h,l,u,N=>by
  obtain ⟨p,X,rfl,M,R,J,W⟩:=u;obtain ⟨z,C⟩:=N;rw [M] at z;obtain ⟨o,D,H,e⟩:=abL p.2 _ m h l.rep R (l.keeps fun B x=>J B _ (z B x));have y: ∀k,aH h k->o.b k=m.b k/\o.cv k=m.cv k:=fun k O=>e.goes.agree k (l.rep.fresh k O)
  have j: ∀n,bk (sP p.2 h).2 n->bk h n/\o.b n=m.b n:=fun n d=>⟨(e.GJ n).1 d,(y n ((e.GJ n).1 d).aH).1⟩
  exact aiD t X o _ _ ⟨e.rep,(l.ti.step y e.goes.old).set D.symm H,fun n d=>by rw [(j n d).2];exact l.inz n (j n d).1,fun n d=>by rw [(j n d).2];exact l.low n (j n d).1,by rw [e.df,l.df]⟩ W C
def asS (C:G.g=fun _=>none) {A:World->Prop} (O: ∀w v,A w->G.jt 0 w v) {S:Nat->Prop} {base nt:Nat} {F:Fr} {fp:Fp} {a:Act} {w0:World} (o:pn A S base w0 nt F a w) (e:AV G F.bs fp.bs) (U:AW G F.ts fp.ts):
 ∃B m,(∀b∈B,base<=b)/\Lf G (wY S B) base a w m (xc fp nt fun t=>tH (a.tmps.getD t undef)).1 (xc fp nt fun t=>tH (a.tmps.getD t undef)).2:=by
 obtain ⟨B,d,H,N,J,M⟩:=o.body;have u: ∀(Z:Nat->Prop) (j:List FB) (B:List Nat),LS Z a w j B-> ∀b∈B,b<w.heap.size:=by
  intro Z j
  induction j with
  |nil=>intro B h b e;obtain rfl:B= []:=h;cases e
  |cons f j ih=>
   intro B h b e;obtain ⟨c,B',rfl,⟨cs,_,⟨_,_,hw,_⟩,_⟩,h'⟩:=h
   all_goals grind
 have i: ∀b,wY S B b->b<w.heap.size:=fun b e=>e.elim (fun h=>ax (o.lim b h) o.oy) fun h=>u _ _ _ J b h
 have r0:bV G (wY S B) Og (qs 1) w:=
  {blk:=fun n d=>absurd d (tz 1 n)
   fresh:=fun n d=>absurd d (wV 1 n)
   apart:=fun n k d=>absurd d (tz 1 n)
   mem:=fun n k d=>absurd d (wV 1 n)
   mX:=fun n d=>absurd d (wV 1 n)
   ins:=fun n=>by rw [GH];exact trivial
   qN:=fun g l D=>by rw [C] at D;cases D
   jt:=fun n id d=>by rw [GH] at d;cases d
   lim:=i}
 obtain ⟨p,_,r1,g1,_,b1⟩:=r0.gH (id:=0) (x:= .nilFunc) rfl fun w' z=>O _ _ (N w' fun b e R=>z b e R fun k y=>absurd y (tz 1 k))
 have q: ∀k,¬bk uO k:=fun k y=>tz 1 k ((b1 k).1 y)
 have W:Lf G (wY S B) base a w p (SN nt fun t=>tH (a.tmps.getD t undef)) uO:=by
  refine ⟨r1,fun t=> ?_,fun n d=>absurd d (q n),fun n d=>absurd d (q n),rfl⟩;rw [asP];by_cases h:t<nt
  ·rw [if_pos h];exact ⟨(acn p (aH uO) (a.tmps.getD t undef)).1.symm,(acn p (aH uO) (a.tmps.getD t undef)).2⟩
  ·rw [if_neg h,o.rest t (by omega)];exact ⟨rfl,trivial⟩
 obtain ⟨m2,X⟩:=aiB C F.bs fp.bs B p _ _ W e J d (fun b e=>⟨.inr e,H b e⟩) fun n d=>absurd d (q n)
 obtain ⟨m3,Y⟩:=aiD F.ts fp.ts m2 _ _ X U M;exact ⟨B,m3,H,Y⟩
end
def OH (tm:Tm) (h:aP):List PB->Option (List Pos)
 | []=>some []
 |p::l=>match Xq p.t (ig (p.t % 1024) tm) with
  |some n=>match (h.at n).obj with
   | .cells b e s=>cond (Nat.beq e p.e&&Nat.beq s p.s&&(h.at n).rt.gU n) (cond (BR h p.ps b) (Option.casesOn (OH tm h l) none fun ns=>some (n::ns)) none) none
   |_=>none
  |none=>none
def Xx (tm:Tm) (h:aP):List (Nat×ai)->Bool
 | []=>true
 |x::l=>cond (fits h x.2 (ig x.1 tm)) (Xx tm h l) false
def OI (n:Pos):List Pos->Bool
 | []=>false
 |k::l=>cond (n.gU k) true (OI n l)
def SQ:List Pos->Bool
 | []=>true
 |n::l=>cond (OI n l) false (SQ l)
def Xy (fp:Fp) (tm:Tm) (h:aP):Bool:=
 List.casesOn h.df (Option.casesOn (OH tm h fp.bs) false fun ns=>cond (SQ ns) (Xx tm h fp.ts) false) (fun _ _=>false)
section
variable [aJ] {P:Program} {G:gI} {Z:Nat->Prop} {m:Mp} {h:aP} {w:World}
def E3 [aJ] (G:gI):List PB->List FB->Prop
 | [],l=>l= []
 |p::l,q=> ∃f b,q=f::b/\f.t=p.t/\f.e=p.e/\f.s=p.s/\jo p.ps=true/\fB G (.agg p.ps) f.R/\E3 G l b
def E4 [aJ] (G:gI):List (Nat×ai)->List (Nat×(World->Value->Prop))->Prop
 | [],l=>l= []
 |p::l,q=> ∃f b,q=f::b/\f.1=p.1/\oN p.2=true/\fB G p.2 f.2/\E4 G l b
omit [aJ] in
def aiE {n:Pos} : ∀ {l:List Pos},OI n l=false->n∉l
 | [],_,h=>by cases h
 |k::l,e,h=>by
  have b:cond (n.gU k) true (OI n l)=false:=e;cases d:n.gU k with
  |true=>rw [d] at b;cases b
  |false=>
   rw [d] at b;rcases bq.1 h with rfl|h
   ·rw [(Pos.pX _ _).2 rfl] at d;cases d
   ·exact aiE b h
def acp (r:bV G Z m h w) {tm:Tm} {a:Act} (R:TI m h tm a) {Z':Nat->Prop} (J: ∀Φ:World->Prop,ze Z m h w Φ->jw Z' w Φ): ∀(j:List PB) (d:List FB) (ns:List Pos),OH tm h j=some ns->E3 G j d->LS Z' a w d (ns.map m.b)/\ ∀n∈ns,bk h n/\(h.at n).rt=n
 | [],d,ns,e,z=>by
  obtain rfl:d= []:=z;cases e;exact ⟨rfl,fun n hn=>by cases hn⟩
 |p::j,d,ns,e,z=>by
  obtain ⟨f,x,rfl,e1,e2,e3,kU,qQ,mH⟩:=z;simp only [OH] at e;have H:=R (p.t % 1024);cases C:Xq p.t (ig (p.t % 1024) tm) with
  |none=>rw [C] at e;cases e
  |some n=>
  rw [C] at e;rw [asN C] at H;simp only at e;cases q:(h.at n).obj<;>rw [q] at e<;>try (cases e;done)
  rename_i u U s;simp only at e;cases hc:(Nat.beq U p.e&&Nat.beq s p.s&&(h.at n).rt.gU n)<;>rw [hc] at e<;>try (cases e;done)
  cases N:BR h p.ps u<;>rw [N] at e<;>try (cases e;done)
  simp only [cond_true] at e;cases B:OH tm h j with
  |none=>rw [B] at e;cases e
  |some i=>
   rw [B] at e;cases e;simp only [aq] at hc;obtain ⟨⟨X,Y⟩,c4⟩:=hc;have M:bk h n:=NZ q rfl;obtain ⟨o,hw,g⟩:=r.blk n M;rw [q] at g;obtain ⟨l,fz,rfl,q1,q2⟩:=g;have O:=r.ins n;rw [q] at O;obtain ⟨i1,i2⟩:=acp r R J j x i B mH;have hte:U=p.e:=bE X;have hs:s=p.s:=bE Y;refine ⟨⟨m.b n,i.map m.b,rfl,⟨aW m u,m.c n,⟨l,fz,by simp_all,by simp_all,q2⟩,J _ ?_,by rw [e1,H.1,aiz]⟩,i1⟩,fun k y=> ?_⟩
   ·exact fun W D=>qQ W _ ⟨_,rfl,Oh r p.ps u kU O N W D⟩
   ·rcases bq.1 y with rfl|y
    ·exact ⟨M,(Pos.pX _ _).1 c4⟩
    ·exact i2 k y
def aiF (r:bV G Z m h w) {tm:Tm} {a:Act} (l:TI m h tm a) {Z':Nat->Prop} (q: ∀Φ:World->Prop,ze Z m h w Φ->jw Z' w Φ): ∀(d:List (Nat×ai)) (b:List (Nat×(World->Value->Prop))),Xx tm h d=true->E4 G d b->OE Z' a w b
 | [],b,e,k=>by
  obtain rfl:b= []:=k;trivial
 |p::d,b,e,k=>by
  obtain ⟨f,i,rfl,u,x,z,y⟩:=k;have g:cond (fits h p.2 (ig p.1 tm)) (Xx tm h d) false=true:=e;cases j:fits h p.2 (ig p.1 tm) with
  |false=>rw [j] at g;cases g
  |true=>
   rw [j] at g;refine ⟨q _ fun t o=> ?_,aiF r l q d i g y⟩;rw [u,(l p.1).1];exact z t _ (R0 r p.2 _ x (l p.1).2 j t o)
def aiG (r:bV G Z m h w): ∀(ns:List Pos),SQ ns=true->(∀n∈ns,bk h n/\(h.at n).rt=n)->(ns.map m.b).Nodup
 | [],_,_=>j4
 |n::ns,e,i=>by
  have d:cond (OI n ns) false (SQ ns)=true:=e;cases g:OI n ns with
  |true=>rw [g] at d;cases d
  |false=>
   rw [g] at d;refine List.nodup_cons.2 ⟨fun o=> ?_,aiG r ns d fun k f=>i k (aw _ f)⟩;obtain ⟨k,f,l⟩:=kD.1 o;obtain ⟨b1,p⟩:=i n (aC ..);obtain ⟨j,q⟩:=i k (aw _ f);refine r.apart k n j b1 (fun e=> ?_) l;rw [p,q] at e;subst e;exact aiE g f
def acq {A:World->Prop} (N: ∀w v,G.jt 0 w v->A w) {S:Nat->Prop} {B:List Nat} {base nt:Nat} {a:Act} {tm:Tm} {fp:Fp} {F:Fr} {w0:World} (J:RowKit.Below base w0 w) (r:bV G (wY S B) m h w) (t:TR m h nt tm a)
 (p: ∀t,nt<=t->a.tmps.getD t undef=undef) (f: ∀b,S b->b<base) (R:base<=w.heap.size) (W: ∀n,bk h n->base<=m.b n) (D:(h.at (pos 1)).obj= .gH 0)
 (e:Xy fp tm h=true) (C:E3 G fp.bs F.bs) (O:E4 G fp.ts F.ts):pn A S base w0 nt F a w:=by
 unfold Xy at e;cases z:h.df with
 |cons x l=>rw [z] at e;cases e
 |nil=>
  rw [z] at e;simp only at e;cases k:OH tm h fp.bs with
  |none=>rw [k] at e;cases e
  |some ns=>
   rw [k] at e;simp only at e;cases u:SQ ns with
   |false=>rw [u] at e;cases e
   |true=>
    rw [u] at e;have o:TI m h tm a:=fun x=>⟨t.val x,t.ins x⟩
    have H: ∀n∈ns,bk h n/\(h.at n).rt=n:=(acp r o (Z':=fun _=>False) (fun Φ y g d=>y g fun b i _ _=>d b i id) fp.bs F.bs ns k C).2;have q: ∀Φ:World->Prop,ze (wY S B) m h w Φ->jw (wY S (ns.map m.b)) w Φ:=fun Φ y g d=>y g fun b i M U=>d b i fun j=>by
     rcases j with j|j
     ·exact M (.inl j)
     all_goals grind
    exact ⟨J,t.size,p,by rw [t.defs,z];rfl,f,R,ns.map m.b,aiG r ns u H,fun b i=>by
     grind,
     q _ fun g d=>N _ _ (r.jt _ _ D g d),(acp r o q fp.bs F.bs ns k C).1,aiF r o q fp.ts F.ts e O⟩
end
end
section
open Go
def Hi (nt:Nat) (tm b:Tm):Prop:= ∀t,nt<=t->ig t b=ig t tm
def Hi.refl (nt:Nat) (tm:Tm):Hi nt tm tm:=fun _ _=>rfl
def Hi.trans {nt:Nat} {a b c:Tm} (h:Hi nt a b) (g:Hi nt b c):Hi nt a c:=fun t d=>(g t d).trans (h t d)
def XA {nt:Nat} {d:Option Tmp} {p:CV} (e:yR nt d=some p) (v:ai) (tm:Tm):Hi nt tm (p.f v tm):=by
 cases d with
 |none=>cases e;exact Hi.refl nt tm
 |some d=>
  have b:cond (Nat.blt d nt) (some (Ap d)) none=some p:=e;cases g:Nat.blt d nt with
  |false=>rw [g] at b;cases b
  |true=>
   rw [g] at b;cases b;intro t j;have i:Nat.succ d<=nt:=aZ (show Nat.ble (Nat.succ d) nt=true from g);rw [Ls,if_neg]
   all_goals grind
def asV {k:o7} {cf:(FuncId->List ai->aP->VR)} {tm:Tm} {h:aP} {next:ai->aP->CR} {o:Out} {d:Tm} {h':aP} (e:carry k cf tm h next= .ok o d h'): ∃v i,next v i= .ok o d h':=by
 unfold carry at e;cases k with
 |pu f=>simp only at e;cases b:f tm<;>rw [b] at e;cases e;exact ⟨_,_,e⟩
 |rd f=>simp only at e;cases b:f tm h<;>rw [b] at e;cases e;exact ⟨_,_,e⟩
 |nw f=>simp only at e;cases b:f tm<;>rw [b] at e;cases e;exact ⟨_,_,e⟩
 |wr f=>
  simp only at e;cases b:f tm h with
  |ok v i=>rw [b] at e;exact ⟨_,_,e⟩
  |fail=>rw [b] at e;cases e
  |call g args=>
   rw [b] at e;simp only at e;cases hc:cf g args h<;>rw [hc] at e
   all_goals grind
def aiH {E:Env} {nt:Nat} {all:List Oper} {cf:(FuncId->List ai->aP->VR)} : ∀(l:List Oper) {d:Tm} {h:aP} {o:Out} {g:Tm} {j:aP},(BB E nt all l).f cf d h= .ok o g j->Hi nt d g
 | [],d,h,o,g,j,e=>by cases e;exact Hi.refl nt d
 |op::l,d,h,o,g,j,e=>by
  simp only [BB] at e;cases x:yR nt op.dst with
  |none=>rw [x] at e;cases e
  |some p=>
   rw [x] at e;simp only at e;have go: ∀v t,(BB E nt all l).f cf (p.f v d) t= .ok o g j->Hi nt d g:=fun v t i=>(XA x v d).trans (aiH l i)
   have q:carry (pW E op.op) cf d h (fun v h=>(BB E nt all l).f cf (p.f v d) h)= .ok o g j->Hi nt d g:=fun i=>by
    obtain ⟨v,t,B⟩:=asV i;exact go v t B
   cases z:uJ all op.guard with
   |some w=>
    rw [z] at e;have i:Option.casesOn (motive:=fun _=>CR) (w.f d) .fail (fun b=>cond b (carry (pW E op.op) cf d h fun v h=>(BB E nt all l).f cf (p.f v d) h) ((BB E nt all l).f cf (p.f oY d) h))= .ok o g j:=by
     cases k:pW E op.op<;>rw [k] at e<;>exact e
    cases y:w.f d with
    |none=>rw [y] at i;cases i
    |some b=>
     rw [y] at i
     all_goals grind
   |none=>
    rw [z] at e;cases k:pW E op.op with
    |pu f=>
     rw [k] at e;simp only [VK] at e;cases u:f d<;>rw [u] at e
     all_goals grind
    |rd f=>
     rw [k] at e;simp only [VK] at e;cases u:f d h<;>rw [u] at e
     all_goals grind
    |nw f=>rw [k] at e q;exact q e
    |wr f=>rw [k] at e q;exact q e
def XC {R:Type} (pre:Nat) (k:aP->R): ∀(l:List sL) (h:aP),∃b,Ax pre k l h=k b
 | [],h=>⟨h,rfl⟩
 |p::l,h=>by
  have e:Ax pre k (p::l) h=cond (Nat.testBit pre p.ix) (Ax pre k l (h.lay p)) (Ax pre k l h):=rfl;cases f:Nat.testBit pre p.ix
  ·obtain ⟨b,d⟩:=XC pre k l h;exact ⟨b,by rw [e,f];exact d⟩
  ·obtain ⟨b,d⟩:=XC pre k l (h.lay p);exact ⟨b,by rw [e,f];exact d⟩
def aiI {i pre:Nat} {k:o7} {p:CV} {cf:(FuncId->List ai->aP->VR)} {s s':DS} (e:Rb i pre k p cf s=some s'): ∃v,s'.tm=p.f v s.tm:=by
 unfold Rb at e;cases k with
 |pu f=>simp only at e;cases d:f s.tm<;>rw [d] at e<;>cases e;exact ⟨_,rfl⟩
 |nw f=>simp only at e;cases d:f s.tm<;>rw [d] at e<;>cases e;exact ⟨_,rfl⟩
 |rd f=>
  simp only at e;cases l:Ax pre (f s.tm) s.dA s.h with
  |none=>rw [l] at e;cases e
  |some v=>
   rw [l] at e
   all_goals grind
 |wr f=>
  simp only at e;cases t:Nat.beq (Nat.land s.chain pre) s.chain<;>rw [t] at e
  ·cases e
  ·simp only [cond_true] at e
   obtain ⟨j,q⟩:=XC (R:=Option DS) pre _ s.dA s.h;rw [q] at e;have next: ∀v b,cond (K5 pre b s.held&&Nat.ble j.nx.num b.nx.num) (some (⟨p.f v s.tm,b,(i,s.h)::s.qM,Nat.lor s.chain (Nat.pow 2 i),s.held,s.dA⟩:DS)) none=some s'-> ∃v,s'.tm=p.f v s.tm:=fun v b u=>by
    grind
   cases d:f s.tm j with
   |ok v b=>rw [d] at e;exact next v b e
   |fail=>rw [d] at e;cases e
   |call g args=>
    rw [d] at e;simp only at e;cases o:cf g args j with
    |ok v b=>rw [o] at e;exact next v b e
    |fail=>rw [o] at e;cases e
def aiJ {E:Env} {nt:Nat} {all:List Oper} {cf:(FuncId->List ai->aP->VR)} : ∀(l:List Oper) (t:List Nat) (i:Nat) {s g:DS},(EE E nt all l t i).f cf s=some g->Hi nt s.tm g.tm
 | [],[],i,s,g,e=>by cases e;exact Hi.refl _ _
 | [],_::_,i,s,g,e=>by cases e
 |_::_,[],i,s,g,e=>by cases e
 |o::l,q::t,i,s,g,e=>by
  simp only [EE] at e;cases j:yR nt o.dst with
  |none=>rw [j] at e;cases e
  |some p=>
   rw [j] at e;simp only at e;cases d:(NX i q (uJ all o.guard) (pW E o.op) p).f cf s with
   |none=>rw [d] at e;cases e
   |some z=>
    rw [d] at e;have y:Hi nt s.tm z.tm:=by
     unfold NX at d;cases x:uJ all o.guard with
     |none=>
      rw [x] at d;obtain ⟨v,k⟩:=aiI d;rw [k];exact XA j v s.tm
     |some w=>
      rw [x] at d;simp only at d;cases u:w.f s.tm with
      |none=>rw [u] at d;cases d
      |some b=>
       rw [u] at d;cases b with
       |false=>cases d;exact XA j _ s.tm
       |true=>
        obtain ⟨v,k⟩:=aiI d;rw [k];exact XA j v s.tm
    exact y.trans (aiJ l t (i+1) e)
def asW {E:Env} {nt:Nat} {all:List Oper} {cf:(FuncId->List ai->aP->VR)} {tm:Tm} {h:aP} {o:Out} {d:Tm} {h':aP} (e:(Rc E nt all).f cf tm h= .ok o d h'):Hi nt tm d:=by
 unfold Rc at e;cases g:Gg all all (tk all) 0 [] with
 |false=>rw [g] at e;cases e
 |true=>
  rw [g] at e;simp only at e;cases b:(EE E nt all all (tk all) 0).f cf ⟨tm,h,[],0,[],[]⟩ with
  |none=>rw [b] at e;cases e
  |some s=>
   rw [b] at e;simp only at e;obtain ⟨j,i⟩:=XC (Nat.sub (Nat.pow 2 all.length) 1) (fun h=>CR.ok .normal s.tm h) s.dA s.h;rw [i] at e;cases e;exact aiJ (s:=⟨tm,h,[],0,[],[]⟩) all (tk all) 0 b
def aiK {x:CK} {cf:(FuncId->List ai->aP->VR)} {nt:Nat} (k: ∀ {b h o d g},x.f cf b h= .ok o d g->Hi nt b d): ∀(n:Nat) {b:Tm} {h:aP} {o:Out} {d:Tm} {g:aP},loopGo x cf n b h= .ok o d g->Hi nt b d
 |0,_,_,_,_,_,e=>by cases e
 |n+1,b,h,o,d,g,e=>by
  have j:CR.casesOn (motive:=fun _=>CR) (x.f cf b h) (fun o b h=>Out.casesOn (motive:=fun _=>CR) o (loopGo x cf n b h) (.ok .ret b h) (fun id=> .ok (.exit id) b h)) .fail= .ok o d g:=e;cases i:x.f cf b h with
  |fail=>simp_all
  |ok l q p=>
   rw [i] at j;cases l with
   |normal=>exact (k i).trans (aiK k n j)
   |ret=>cases j;exact k i
   |exit id=>cases j;exact k i
def XD {E:Env} {nt:Nat} {cf:(FuncId->List ai->aP->VR)} (c:Code): ∀ {d:Tm} {h:aP} {o:Out} {i:Tm} {k:aP},(gA E nt c).f cf d h= .ok o i k->Hi nt d i:=by
 induction c with
 |skip=>intro d h o i k e;simp only [gA] at e;cases e;exact Hi.refl _ _
 |label l=>intro d h o i k e;simp only [gA] at e;cases e;exact Hi.refl _ _
 |ret=>intro d h o i k e;simp only [gA] at e;cases e;exact Hi.refl _ _
 |exit id=>intro d h o i k e;simp only [gA] at e;cases e;exact Hi.refl _ _
 |seq x y B C=>
  intro d h o i k e;simp only [gA] at e;cases p:(gA E nt x).f cf d h with
  |fail=>rw [p] at e;cases e
  |ok D Y O=>
   rw [p] at e;cases D with
   |normal=>exact (B p).trans (C e)
   |ret=>cases e;exact B p
   |exit id=>cases e;exact B p
 |cond x a b W X=>
  intro d h o i k e;simp only [gA] at e
  all_goals grind
 |block id x t=>
  intro d h o i k e;simp only [gA] at e;cases p:(gA E nt x).f cf d h with
  |fail=>rw [p] at e;cases e
  |ok D Y O=>
   rw [p] at e;cases D with
   |normal=>cases e;exact t p
   |ret=>cases e;exact t p
   |exit j=>
    grind
 |loop x t=>intro d h o i k e;simp only [gA] at e;exact aiK t 1000000 e
 |scope x t=>intro d h o i k e;simp only [gA] at e;exact t e
 |region id H z=>
  intro d h o i k e;cases z with
  |true=>simp only [gA] at e;exact asW e
  |false=>simp only [gA] at e;exact aiH H.toList e
 |rangeFunc g ps x y=>
  intro d h o i k e;simp only [gA] at e;generalize (bR E g).g d=u at e;cases u<;>try (cases e;done)
  rename_i M first q
  cases M<;>try (cases e;done)
  simp only at e;generalize (Gd E _).f _ _=J at e;cases J with
  |ok _ _=>cases e
  |fail=>cases e
  |call N args=>
   simp only at e;cases hc:cf N args ((h.new .uC).new .K3) with
   |fail=>rw [hc] at e;cases e
   |ok v R=>
    rw [hc] at e;simp only at e;cases U:(R.at (h.new .uC).nx).obj<;>rw [U] at e<;>try (cases e;done)
    cases e;exact Hi.refl _ _
 |_=>intro d h o i k e;simp only [gA] at e;cases e
end
section
open Go
def acr:Out->Out->Bool
 | .normal,o=>match o with
  | .normal=>true
  |_=>false
 | .ret,o=>match o with
  | .ret=>true
  |_=>false
 | .exit i,o=>match o with
  | .exit j=>Nat.beq i j
  |_=>false
def asX {x y:Out} (h:acr x y=true):x=y:=by
 cases x<;>cases y<;>first|rfl|(cases h;done)|(rw [bE h])
def E5 (E:Env) (T:List rT) (I:List FuncId) (dep nt:Nat) (c:Code) (out:Out) (fp uU:Fp) (d:Nat->ai):Bool:=
 CR.casesOn ((gA E nt c).f (GZ E T I dep) (xc fp nt d).1 (xc fp nt d).2) (fun o b h=>cond (acr o out) (cond (Ly h) (Xy uU b h) false) false) false
def aiL:Out->Bool
 | .exit _=>false
 |_=>true
def OJ (E:Env) (T:List rT) (I:List FuncId) (dep nt:Nat) (b:List ResultVar) (c:Code) (fp:Fp) (res:ai) (d:Nat->ai):Bool:=
 CR.casesOn ((gA E nt c).f (GZ E T I dep) (xc fp nt d).1 (xc fp nt d).2)
  (fun o e h=>cond (aiL o) (List.casesOn h.df (Option.casesOn ((xY E b).f e h) false fun l=>fits h res (Gh l)) (fun _ _=>false)) false) false
def LV (P:Program) (d:Func) (S:Nat->Prop) (base:Nat) (w0:World) (R:World->Value->Prop):Exit->Act->World->Prop:=fun b a w=>
 (b= .normal\/b= .ret)/\a.defers= []/\RowKit.Below base w0 w/\ ∃v,(results d a.tmps).run P w= .ok v w/\jw S w fun e=>R e v
structure Sy [aJ] (P:Program) (G:gI) (A:World->Prop) (F:List Fact) (T:List rT):Prop where
 mix:P.follows .mixedOrders=true
 hg:G.g=fun _=>none
 OK: ∀w v,G.jt 0 w v↔A w
 facts: ∀f∈F,mZ f
 len:N5 G
 calls: ∀e∈T,ub P G e/\jo e.args=true
section
variable [aJ] {P:Program} {G:gI} {A:World->Prop} {F:List Fact} {T:List rT} {S:Nat->Prop} {base nt:Nat} {w0:World}
def Sy.env (s:Sy P G A F T):eN P (Env.sy P G F):=Wo P G F s.facts s.len
def Sy.cf (s:Sy P G A F T) (I:List FuncId) (dep:Nat):tr P (Env.sy P G F) (GZ (Env.sy P G F) T I dep):=
 aci s.env (GG s.mix s.env) (abM (fun w v b h=>(s.OK w b).2 ((s.OK w v).1 h)) s.calls) I dep
def XE (s:Sy P G A F T) {fr:Fr} {fp:Fp} {a:Act} {w:World} (e:pn A S base w0 nt fr a w) (g:AV G fr.bs fp.bs) (i:AW G fr.ts fp.ts):
 ∃B m,bV G (wY S B) m (xc fp nt fun t=>tH (a.tmps.getD t undef)).2 w/\TR m (xc fp nt fun t=>tH (a.tmps.getD t undef)).2 nt (xc fp nt fun t=>tH (a.tmps.getD t undef)).1 a/\
  (∀n,bk (xc fp nt fun t=>tH (a.tmps.getD t undef)).2 n->base<=m.b n):=by
 obtain ⟨B,m,_,l⟩:=asS s.hg (fun w v h=>(s.OK w v).2 h) e g i;exact ⟨B,m,l.rep,⟨e.size,fun t=>(l.ti t).1,fun t=>(l.ti t).2,by rw [e.df,l.df];rfl,fun d f=>by rw [l.df] at f;cases f⟩,l.low⟩
def XF {fr:Fr} {a o:Act} {w w':World} {Z:Nat->Prop} {m j:Mp} {h h':aP} {tm p:Tm} (f:pn A S base w0 nt fr a w) (r:bV G Z m h w) (t:TR m h nt tm a) (y: ∀n,bk h n->base<=m.b n)
 (z:TR j h' nt p o) (g:Goes m h w j h' w') (hi:Hi nt tm p):
 RowKit.Below base w0 w'/\(∀t,nt<=t->o.tmps.getD t undef=undef)/\base<=w'.heap.size/\(∀n,bk h' n->base<=j.b n):=by
 have l: ∀n,bk h' n->base<=j.b n:=fun n i=>by
  by_cases d:bk h n
  ·rw [(g.agree n (r.fresh n d.aH)).1];exact y n d
  ·rcases g.yU n i d with q|⟨k,q,B⟩
   ·exact aL f.oy q
   all_goals grind
 refine ⟨f.Xr.trans ⟨g.os,g.tape,g.output,g.size,fun b d=>g.xZ b (ax d f.oy) fun n i e=> ?_⟩,fun x u=> ?_,aL f.oy g.size,l⟩
 ·grind
 ·rw [z.val x,hi x u,EH (D:=aH h) (fun n i=>g.agree n (r.fresh n i)) _ (t.ins x),<-t.val x]
  exact f.rest x u
omit [aJ] in
def acs {E:Env} {I:List FuncId} {dep:Nat} {c:Code} {out:Out} {fp uU:Fp} {d:Nat->ai} (e:E5 E T I dep nt c out fp uU d=true):
 ∃b h,(gA E nt c).f (GZ E T I dep) (xc fp nt d).1 (xc fp nt d).2= .ok out b h/\(h.at (pos 1)).obj= .gH 0/\Xy uU b h=true:=by
 unfold E5 at e;cases j:(gA E nt c).f (GZ E T I dep) (xc fp nt d).1 (xc fp nt d).2 with
 |fail=>rw [j] at e;cases e
 |ok o b h=>
  rw [j] at e;simp only at e;cases i:acr o out with
  |false=>rw [i] at e;cases e
  |true=>
   rw [i] at e;cases g:Ly h with
   |false=>rw [g] at e;cases e
   |true=>
    rw [g] at e;obtain rfl:=asX i;refine ⟨b,h,rfl,?_,e⟩;unfold Ly at g
    all_goals grind
section
variable (s:Sy P G A F T) {I:List FuncId} {dep:Nat} {fr se:Fr} {fp uU:Fp} {a:Act} {w:World} {Q:Exit->Act->World->Prop} {c:Code}
include s
def as0 {out:Out} (e: ∀d,E5 (Env.sy P G F) T I dep nt c out fp uU d=true) (g:pn A S base w0 nt fr a w) (u:AV G fr.bs fp.bs) (x:AW G fr.ts fp.ts) (o:E3 G uU.bs se.bs) (z:E4 G uU.ts se.ts)
 (q: ∀b f,pn A S base w0 nt se b f->Q (vI out) b f):c.wp P Q a w:=by
 obtain ⟨O,h,i,k,l⟩:=acs (e fun t=>tH (a.tmps.getD t undef));obtain ⟨B,m,r,t,y⟩:=XE s g u x;refine Wi s.env (GG s.mix s.env) (s.cf I dep) nt c _ _ _ _ _ i _ m a w _ r t fun N b f M j p=> ?_
 obtain ⟨C,D,H,J⟩:=XF g r t y j p (XD c i);exact q b f (acq (fun w v h=>(s.OK w v).1 h) C M j D g.lim H J k l o z)
def as1 {p:List Way} {sub:Code} (y:ni p c=some sub) (e: ∀d,E5 (Env.sy P G F) T I dep nt (AU p c) .normal fp uU d=true) (g:pn A S base w0 nt fr a w) (x:AV G fr.bs fp.bs) (z:AW G fr.ts fp.ts) (o:E3 G uU.bs se.bs) (D:E4 G uU.ts se.ts)
 (u: ∀b f,pn A S base w0 nt se b f->sub.wp P (sV P p c Q) b f):c.wp P Q a w:=by
 obtain ⟨U,h,i,k,l⟩:=acs (e fun t=>tH (a.tmps.getD t undef));obtain ⟨B,m,r,t,C⟩:=XE s g x z;refine aix s.env (GG s.mix s.env) (s.cf I dep) nt p c _ _ _ _ y i _ m a w _ r t fun R b f O j q=> ?_
 obtain ⟨H,J,M,N⟩:=XF g r t C j q (XD _ i);exact u b f (acq (fun w v h=>(s.OK w v).1 h) H O j J g.lim M N k l o D)
def as2 {p:List Way} {sub:Code} {out:Out} {j:Func} {res:ai} {R:World->Value->Prop} (W:ni p c=some sub) (e: ∀d,OJ (Env.sy P G F) T I dep nt j.results.toList (uh (uR out) p c) fp res d=true)
 (C:pn A S base w0 nt fr a w) (k:AV G fr.bs fp.bs) (X:AW G fr.ts fp.ts) (kU:oN res=true) (U:fB G res R):sV P p c (LV P j S base w0 R) (vI out) a w:=by
 have e:=e fun t=>tH (a.tmps.getD t undef)
 unfold OJ at e;cases g:(gA (Env.sy P G F) nt (uh (uR out) p c)).f (GZ (Env.sy P G F) T I dep) (xc fp nt fun t=>tH (a.tmps.getD t undef)).1 (xc fp nt fun t=>tH (a.tmps.getD t undef)).2 with
 |fail=>rw [g] at e;cases e
 |ok o tm h=>
  rw [g] at e;simp only at e;cases q:aiL o with
  |false=>rw [q] at e;cases e
  |true=>
   rw [q] at e;simp only [cond_true] at e;cases z:h.df with
   |cons x l=>rw [z] at e;cases e
   |nil=>
    rw [z] at e;simp only at e;cases y:(xY (Env.sy P G F) j.results.toList).f tm h with
    |none=>rw [y] at e;cases e
    |some l=>
     rw [y] at e;simp only at e;obtain ⟨B,m,r,t,ox⟩:=XE s C k X;refine aiy s.env (GG s.mix s.env) (s.cf I dep) nt p c _ _ _ _ _ W g _ m a w _ r t fun m' J w' D i M=> ?_
     obtain ⟨q1,q2,q3,q4⟩:=XF C r t ox i M (XD _ g);obtain ⟨z1,z2⟩:=ag6 s.env D (tmps:=J.tmps) (fun x=>⟨i.val x,i.ins x⟩) y;have u:vI o= .normal\/vI o= .ret:=by
      cases o with
      |normal=>exact .inl rfl
      |ret=>exact .inr rfl
      |exit id=>cases q
     exact ⟨u,by rw [i.defs,z];rfl,q1,_,z1,fun H Y=>U H _ (R0 D res _ kU z2 e H fun b k N h2=>Y b k fun O=>N (.inl O))⟩
end
def AX:List (World->Value->Prop)->Nat->List (Nat×(World->Value->Prop))
 | [],_=> []
 |R::l,k=>(k,R)::AX l (k+1)
omit [aJ] in
def aiM {Z:Nat->Prop} {a:Act} {w:World} : ∀(Rs:List (World->Value->Prop)) (dW:List Value) (k:Nat),jw Z w (fun d=>wW Rs d dW)->(∀j,j<dW.length->a.tmps.getD (k+j) undef=dW.getD j undef)->OE Z a w (AX Rs k)
 | [],dW,k,h,f=>trivial
 |R::Rs,dW,k,h,f=>by
  obtain ⟨v,l,rfl,_,_⟩:=h w fun _ _ _=>rfl
  refine ⟨fun d b=> ?_,aiM Rs l (k+1) (fun d b=> ?_) fun j q=> ?_⟩
  ·obtain ⟨i,g,e,o,_⟩:=h d b
   cases e;have:=f 0 (by simp)
   all_goals grind
  ·obtain ⟨i,g,e,_,p⟩:=h d b
   all_goals grind
  ·have:=f (j+1) (by simp;omega)
   all_goals grind
omit [aJ] in
def acu {f:FuncId} {d:Func} {c:Code} {Rs:List (World->Value->Prop)} {R:World->Value->Prop} (z:P.funcs[f]? =some d) (g:d.body=some c) (q:Rs.length<=d.ntmps)
 (h: ∀S base w0 a w,pn A S base w0 d.ntmps ⟨[],AX Rs 0⟩ a w->c.wp P (LV P d S base w0 R) a w):bH P A f Rs R:=fun S w dW i y u=>by
 have B: ∀(Rs:List (World->Value->Prop)) (dW:List Value),wW Rs w dW->dW.length=Rs.length:=by
  intro Rs
  induction Rs with
  |nil=>intro dW h;obtain rfl:dW= []:=h;rfl
  |cons R Rs J=>intro dW h;obtain ⟨v,Y,rfl,_,x⟩:=h;simp [J Y x]
 have C:=B Rs dW (u w fun _ _ _=>rfl);refine abj z g ?_;have p: ∀(Φ:World->Prop),jw S w Φ->jw (wY S []) w Φ:=fun Φ l o k=>l o fun b g H=>k b g fun h=>h.elim H fun h=>by cases h
 have M:pn A S w.heap.size w d.ntmps ⟨[],AX Rs 0⟩ {tmps:=(⟨dW⟩:Array Value)++Array.replicate (d.ntmps-(⟨dW⟩:Array Value).size) undef,defers:= []} w:=by
  refine ⟨RowKit.Below.refl _ _,?_,fun t ht=> ?_,rfl,i,ak _,[],j4,(fun b g=>by cases g),p _ y,rfl,aiM Rs dW 0 (p _ u) fun j hj=> ?_⟩
  ·simp;omega
  ·simp_all
  ·simp only [cM,gP,dr]
   all_goals grind
 refine wp_mono (h S w.heap.size w _ w M) fun e a' o D=> ?_
 obtain ⟨N,O,U,v,W,X⟩:=D;exact ⟨N,[],o,v,by rw [O];rfl,rfl,W,v,rfl,X,U⟩
end
end
section
open Go
section
variable {ri:aJ} {G:gI}
def as3 {t:Nat} {e:TypeId} {s:Nat} {R:World->Value->Prop} {ps:List ai} {l:List FB} {b:List PB} (f:jo ps=true) (h:fq G R (.agg ps)) (d:AV G l b):AV G (⟨t,e,s,R⟩::l) (⟨t,e,s,ps⟩::b):=
 ⟨_,_,rfl,rfl,rfl,rfl,f,h,d⟩
def as4 {t:Nat} {R:World->Value->Prop} {p:ai} {l:List (Nat×(World->Value->Prop))} {b:List (Nat×ai)} (e:oN p=true) (h:fq G R p) (d:AW G l b):AW G ((t,R)::l) ((t,p)::b):=
 ⟨_,_,rfl,rfl,e,h,d⟩
def as5 {t:Nat} {e:TypeId} {s:Nat} {R:World->Value->Prop} {ps:List ai} {l:List FB} {b:List PB} (f:jo ps=true) (h:fB G (.agg ps) R) (d:E3 G b l):E3 G (⟨t,e,s,ps⟩::b) (⟨t,e,s,R⟩::l):=
 ⟨_,_,rfl,rfl,rfl,rfl,f,h,d⟩
def as6 {t:Nat} {R:World->Value->Prop} {p:ai} {l:List (Nat×(World->Value->Prop))} {b:List (Nat×ai)} (e:oN p=true) (h:fB G p R) (d:E4 G b l):E4 G ((t,p)::b) ((t,R)::l):=
 ⟨_,_,rfl,rfl,e,h,d⟩
end
section
variable {P:Program} {A:World->Prop} {F:List Fact} {T:List rT} {S:Nat->Prop} {base nt:Nat} {w0:World} {I:List FuncId} {dep:Nat} {fr se:Fr} {fp uU:Fp} {a:Act} {w:World} {Q:Exit->Act->World->Prop} {c:Code}
def XG (L:List Slot) (g:P.follows .mixedOrders=true) (b: ∀f∈F,@mZ ⟨cP L⟩ f) (d: ∀e∈T,@ub ⟨cP L⟩ P (fC A L) e/\jo e.args=true): @Sy ⟨cP L⟩ P (fC A L) A F T:=
 @Sy.mk ⟨cP L⟩ _ _ _ _ _ g rfl (fun _ _=>jY) b abT d
def as7 (L:List Slot) (u:P.follows .mixedOrders=true) {out:Out} (e: ∀d,E5 (Env.sy P (fC A L) F) T I dep nt c out fp uU d=true) (j: ∀f∈F,@mZ ⟨cP L⟩ f) (l: ∀e∈T,@ub ⟨cP L⟩ P (fC A L) e/\jo e.args=true)
 (o: @AV ⟨cP L⟩ (fC A L) fr.bs fp.bs) (q: @AW ⟨cP L⟩ (fC A L) fr.ts fp.ts) (i: @E3 ⟨cP L⟩ (fC A L) uU.bs se.bs) (t: @E4 ⟨cP L⟩ (fC A L) uU.ts se.ts) (p:pn A S base w0 nt fr a w)
 (k: ∀b g,pn A S base w0 nt se b g->Q (vI out) b g):c.wp P Q a w:=
 @as0 ⟨cP L⟩ _ _ _ _ _ _ _ _ _ (XG L u j l) _ _ _ _ _ _ _ _ _ _ _ e p o q i t k
def as8 (L:List Slot) (y:P.follows .mixedOrders=true) {p:List Way} {sub:Code} (t:ni p c=some sub) (e: ∀d,E5 (Env.sy P (fC A L) F) T I dep nt (AU p c) .normal fp uU d=true) (j: ∀f∈F,@mZ ⟨cP L⟩ f) (l: ∀e∈T,@ub ⟨cP L⟩ P (fC A L) e/\jo e.args=true)
 (o: @AV ⟨cP L⟩ (fC A L) fr.bs fp.bs) (u: @AW ⟨cP L⟩ (fC A L) fr.ts fp.ts) (i: @E3 ⟨cP L⟩ (fC A L) uU.bs se.bs) (x: @E4 ⟨cP L⟩ (fC A L) uU.ts se.ts) (q:pn A S base w0 nt fr a w)
 (k: ∀b g,pn A S base w0 nt se b g->sub.wp P (sV P p c Q) b g):c.wp P Q a w:=
 @as1 ⟨cP L⟩ _ _ _ _ _ _ _ _ _ (XG L y j l) _ _ _ _ _ _ _ _ _ _ _ _ t e q o u i x k
def as9 (L:List Slot) (u:P.follows .mixedOrders=true) {p:List Way} {sub:Code} {out:Out} {b:Func} {res:ai} {R:World->Value->Prop} (o:ni p c=some sub) (e: ∀d,OJ (Env.sy P (fC A L) F) T I dep nt b.results.toList (uh (uR out) p c) fp res d=true) (t:oN res=true)
 (g: ∀f∈F,@mZ ⟨cP L⟩ f) (i: ∀e∈T,@ub ⟨cP L⟩ P (fC A L) e/\jo e.args=true) (j: @AV ⟨cP L⟩ (fC A L) fr.bs fp.bs) (q: @AW ⟨cP L⟩ (fC A L) fr.ts fp.ts) (l: @fB ⟨cP L⟩ (fC A L) res R)
 (k:pn A S base w0 nt fr a w):sV P p c (LV P b S base w0 R) (vI out) a w:=
 @as2 ⟨cP L⟩ _ _ _ _ _ _ _ _ _ (XG L u g i) _ _ _ _ _ _ _ _ _ _ _ _ _ o e k j q t l
end
end
section
open Go
def aiN (E:Env) (T:List rT) (I:List FuncId) (dep:Nat) (f:FuncId) (pats:List ai):VR:=(K6 E f).f (GZ E T I dep) (j9 pats uO).1 (j9 pats uO).2
def SU (E:Env) (T:List rT) (I:List FuncId) (dep:Nat) (f:FuncId) (pats:List ai) (res:ai):Bool:=VR.casesOn (aiN E T I dep f pats) (fun v h=>fits h res v) false
section
variable [aJ] {P:Program} {G:gI}
def ata (N:P.follows .mixedOrders=true) {F:List Fact} {T:List rT} (Y: ∀w v v',G.jt 0 w v->G.jt 0 w v') (hg:G.g=fun _=>none) (hF: ∀f∈F,mZ f) (hL:N5 G)
 (I:List FuncId) (dep:Nat) (hT: ∀e∈T,ub P G e/\jo e.args=true) {f:FuncId} {pats:List ai} {res:ai} (hp:jo pats=true) (hr:oN res=true)
 (h:SU (Env.sy P G F) T I dep f pats res=true):ub P G ⟨f,pats,res⟩:=by
 intro S w dW u O qT;have ok:=Wo P G F hF hL;have kV:tr P (Env.sy P G F) (ES T):=abM Y hT;have B:=Wn ok (GG N ok) (aci ok (GG N ok) kV I dep);unfold SU at h;cases D:aiN (Env.sy P G F) T I dep f pats with
 |fail=>rw [D] at h;cases h
 |ok v J=>
  rw [D] at h;have X:fits J res v=true:=h;have r0:bV G S Og (qs 1) w:=
   {blk:=fun n i=>absurd i (tz 1 n)
    fresh:=fun n i=>absurd i (wV 1 n)
    apart:=fun n k i=>absurd i (tz 1 n)
    mem:=fun n k i=>absurd i (wV 1 n)
    mX:=fun n i=>absurd i (wV 1 n)
    ins:=fun n=>by rw [GH];exact trivial
    qN:=fun g l M=>by rw [hg] at M;cases M
    jt:=fun n id i=>by rw [GH] at i;cases i
    lim:=u}
  obtain ⟨m1,_,r1,g1,_,b1⟩:=r0.gH (id:=0) (x:= .nilFunc) rfl fun y p=>O y (fun b j t=>p b j t fun k o=>absurd o (tz 1 k)) _
  have H: ∀k,¬bk uO k:=fun k o=>tz 1 k ((b1 k).1 o)
  obtain ⟨m2,R,U,z⟩:=Lz pats dW m1 uO r1 hp fun y p=>qT y fun b j t=>p b j t fun k o=>absurd o (H k)
  have C: ∀k,¬bk (j9 pats uO).2 k:=fun k o=>H k ((z.GJ k).1 o)
  have zb:(j9 pats uO).2.df= []:=z.df;have:=(B f _ _ v J D).2 S m2 w z.rep U (fun d hd=>by simp_all);rw [R] at this;refine this.mono fun en y ⟨m',he,r',q,W⟩=>⟨_,he,fun w2 i6=> ?_,⟨q.os,q.tape,q.output,q.size,fun b j=>q.xZ b j fun n i=>absurd i (C n)⟩⟩
  exact R0 r' res v hr W X w2 fun b j t _=>i6 b j t
end
section
variable {A:World->Prop} {P:Program}
def atb (L:List Slot) (C:P.follows .mixedOrders=true) (I:List FuncId) (dep:Nat) {F:List Fact} {T:List rT} {f:FuncId} {pats:List ai} {res:ai} {Rs:List (World->Value->Prop)} {R:World->Value->Prop}
 (h:SU (Env.sy P (fC A L) F) T I dep f pats res=true) (t: ∀f∈F,@mZ ⟨cP L⟩ f) (u: ∀e∈T,@ub ⟨cP L⟩ P (fC A L) e/\jo e.args=true) (i:(jo pats&&oN res)=true)
 (k: ∀w j,wW Rs w j-> @pZ ⟨cP L⟩ (fC A L) w pats j) (z: ∀w v,@Mt ⟨cP L⟩ (fC A L) w res v->R w v):bH P A f Rs R:=fun S w dW d q B=>by
 simp only [aq] at i;have e:= @ata ⟨cP L⟩ P (fC A L) C F T (fun _ _ _ h=>h) rfl t abT I dep u f pats res i.1 i.2 h;refine (e S w dW d (fun g b v=>q g b) fun g b=>k _ _ (B g b)).mono ?_;rintro H g ⟨x,l,o,p⟩;exact ⟨x,l,fun D y=>z _ _ (o D y),p⟩
end
end
end Go.Ev
namespace Go.Proofs.YthleenhngcdgkaaGreatDoor
section
open Go.RowKit Go.Ev
def OL (x y:Int):Int:=jB (decide (x<0) !=decide (y<0)) (GX (decide (x<0) !=decide (y<0)) x.natAbs y.natAbs)
end
section
open Go.RowKit Go.Ev
def atc (g h o p q s:World->Value->Prop):World->Value->Prop:=fun w v=> ∃a b c d e f,v= .agg #[a,b,c,d,e,f]/\(g w a/\h w b/\o w c)/\p w d/\q w e/\s w f
def atd {Q:aJ} {G:gI} {t u x y z B:ai} {g h o p q s:World->Value->Prop} (C:fq G g t) (D:fq G h u) (E:fq G o x) (F:fq G p y) (H:fq G q z) (I:fq G s B):fq G (atc g h o p q s) (.agg [t,u,x,y,z,B]):=by
 rintro w v ⟨a,b,c,d,e,f,rfl,⟨J,M,hc⟩,N,O,P⟩;exact ⟨[a,b,c,d,e,f],rfl,a,_,rfl,C w a J,b,_,rfl,D w b M,c,_,rfl,E w c hc,d,_,rfl,F w d N,e,_,rfl,H w e O,f,[],rfl,I w f P,rfl⟩
def nU (m e n f:Int):World->Value->Prop:=fun w x=> ∃a b,x= .agg #[.bool (decide (m<0)),a,.int .i64 e,.bool (decide (n<0)),b,.int .i64 f]/\eD w a m.natAbs/\eD w b n.natAbs
def vQ (i j k l:Nat):ai:= .agg [s0 i,sA i,s0 j,s0 k,sA k,s0 l]
section
variable {L:List Slot} {A:World->Prop} {i j k l:Nat} {m e n f:Int}
def aiO (h:kX L i=iS m) (h':(kX L j).v0.v= .int .i64 e) (d:kX L k=iS n) (g:(kX L l).v0.v= .int .i64 f): @fq ⟨cP L⟩ (fC A L) (nU m e n f) (vQ i j k l):=
 letI:aJ:=⟨cP L⟩
 (atd (iQ (x:= .bool (decide (m<0))) (by rw [h];rfl)) (j' h) (iQ h') (iQ (x:= .bool (decide (n<0))) (by rw [d];rfl)) (j' d) (iQ g)).of fun w v ⟨a,b,q,o,p⟩=>⟨_,a,_,_,b,_,q,⟨rfl,o,rfl⟩,rfl,p,rfl⟩
end
end
section
open Go.RowKit Go.Ev
section
variable {i j:Nat} {m e n f:Int}
def ate (k:Bz i m) (l:Bz j n) (hi:i<=400000:=by omega) (o:j<=400000:=by omega): ∃s:Int,s=(if m.sign≠n.sign then 0 else m.sign)/\bH Tryz.prog bw 287 [nU m e n f] (pF (bj (.int .i64 s)) (bj (.bool (decide (m.sign=n.sign))))):=by
 obtain ⟨s,g,b⟩:=OB (e:=e) k;obtain ⟨t,h,d⟩:=OB (e:=f) l;refine ⟨_,rfl,?_⟩;rw [<-g,<-h];by_cases a:s≠t
 ·rw [if_pos a,decide_eq_false a]
  have c1:=decide_eq_true a;exact jV [iS m,dF (dC .i64 e),iS n,dF (dC .i64 f),dF (dC .i64 s),dF (dC .i64 t)] mix (F:= [⟨.bin .neq,s0 4,s0 5,.bool true⟩]) (T:= [⟨79,[dQ 0 1],s0 4⟩,⟨79,[dQ 2 3],s0 5⟩]) (pats:= [vQ 0 1 2 3]) (res:= .fm [.int .i64 0,.bool false]) (by kernel_rfl)
   (eZ (BU (dp rfl) (dp rfl) c1) jT) (dh (di b (bN (nT rfl rfl) db) (iQ rfl)) rfl (dh (di d (bN (nT rfl rfl) db) (iQ rfl)) rfl jU)) rfl (fF (aiO rfl rfl rfl rfl) jN) (EU zf jS)
 ·rw [if_neg a,decide_eq_true (by omega:s=t)]
  have c1:=decide_eq_false a;exact jV [iS m,dF (dC .i64 e),iS n,dF (dC .i64 f),dF (dC .i64 s),dF (dC .i64 t)] mix (F:= [⟨.bin .neq,s0 4,s0 5,.bool false⟩]) (T:= [⟨79,[dQ 0 1],s0 4⟩,⟨79,[dQ 2 3],s0 5⟩]) (pats:= [vQ 0 1 2 3]) (res:= .fm [s0 4,.bool true]) (by kernel_rfl)
   (eZ (BU (dp rfl) (dp rfl) c1) jT) (dh (di b (bN (nT rfl rfl) db) (iQ rfl)) rfl (dh (di d (bN (nT rfl rfl) db) (iQ rfl)) rfl jU)) rfl (fF (aiO rfl rfl rfl rfl) jN) (EU (tA rfl) jS)
end
end
section
open Go.RowKit Go.Ev
def Zb (N:Nat) (z:Int):Prop:= ∃k,k<=N/\Bz k z
def Nb (N:Nat) (n:Nat):Prop:= ∃k,k<=N/\Bn k n
def Zb.mk {k N:Nat} {z:Int} (h:Bz k z) (g:k<=N):Zb N z:=⟨k,g,h⟩
def DV (m e:Int):Prop:= ∃k,k<=65536/\Bz k m/\EB e
def DT (t:Int×Int×Int):Prop:=DV t.1 t.2.1/\0<=t.2.2/\t.2.2<=3
def E6 (n:Nat):n<2^eW n:=by
 unfold eW;by_cases h:n=0
 ·simp_all
 ·rw [if_neg h];exact Nat.lt_log2_self
def DV.zero:DV 0 0:=⟨0,bZ _,by unfold Bz;decide,by unfold EB;decide⟩
def aiP {m e:Int} (h:E1 m e=true):DV m e:=by
 have i:=acg h;unfold E1 at h;by_cases g:m=0
 ·subst g
  exact ⟨0,bZ _,by unfold Bz;decide,i⟩
 ·rw [if_neg g] at h
  simp only [aq,decide_eq_true_eq] at h;exact ⟨eW m.natAbs,h.1.1.1,E6 _,i⟩
def DT.none {c:Int} (g:0<=c) (h:c<=3):DT (0,0,c):=⟨DV.zero,g,h⟩
def atf (m e:Int):DT (Dn m e):=by
 unfold Dn;split
 ·exact DT.none (by decide) (by decide)
 ·split
  ·exact DT.none (by decide) (by decide)
  ·split
   ·rename_i h
    exact ⟨aiP h,by simp_all,by simp_all⟩
   ·exact DT.none (by decide) (by decide)
def aiQ (n:Nat):decide ((m6 n:Int)≠0)=decide (n≠0):=by
 by_cases h:n=0
 ·subst h;rw [abV];rfl
 ·have:=abZ h (ab0 n)
  grind
def cG (lo hi:Int):World->Value->Prop:=fun w v=> ∃a b,v= .agg #[.bool (decide (lo<0)),a,.bool (decide (hi<0)),b]/\eD w a lo.natAbs/\eD w b hi.natAbs
section
variable {ri:aJ} {G:gI} {a b c d x y u:ai} {m e n f:Int} {q:Nat}
def SV (h:fq G (dU m) (.agg [a,b])) (o:fq G (bj (.int .i64 e)) x):fq G (i9 m e) (.agg [a,b,x]):=by
 rintro w v ⟨r,rfl,s⟩;obtain ⟨z,g,t,_,rfl,i,b1,_,rfl,l,rfl⟩:=h w (.agg #[.bool (decide (m<0)),r]) ⟨r,rfl,s⟩;cases g;exact ⟨_,rfl,_,_,rfl,i,_,_,rfl,l,_,_,rfl,o w _ rfl,rfl⟩
def SW (h:fB G (.agg [a,b]) (dU m)) (t:fB G x (bj (.int .i64 e))):fB G (.agg [a,b,x]) (i9 m e):=by
 rintro w v ⟨A,rfl,g,_,rfl,l,b1,_,rfl,o,c1,_,rfl,s,rfl⟩;obtain ⟨r,i,z⟩:=h w (.agg #[g,b1]) ⟨_,rfl,_,_,rfl,l,_,_,rfl,o,rfl⟩;cases i;have:=t w _ s;subst this;exact ⟨_,rfl,z⟩
def atg (h:fq G (dU m) (.agg [a,b])) (s:fq G (fD q) x):fq G (sU m q) (.agg [a,b,x]):=by
 rintro w v ⟨r,d,rfl,t,o⟩;obtain ⟨A,g,z,_,rfl,i,b1,_,rfl,l,rfl⟩:=h w (.agg #[.bool (decide (m<0)),r]) ⟨r,rfl,t⟩;cases g;exact ⟨_,rfl,_,_,rfl,i,_,_,rfl,l,_,_,rfl,s w _ o,rfl⟩
def ath (h:fB G (.agg [a,b]) (dU m)) (t:fB G x (fD q)):fB G (.agg [a,b,x]) (sU m q):=by
 rintro w v ⟨A,rfl,g,_,rfl,l,b1,_,rfl,o,c1,_,rfl,s,rfl⟩;obtain ⟨r,i,z⟩:=h w (.agg #[g,b1]) ⟨_,rfl,_,_,rfl,l,_,_,rfl,o,rfl⟩;cases i;exact ⟨_,c1,rfl,z,t w _ s⟩
def ati (h:fq G (dU m) (.agg [a,b])) (h':fq G (dU n) (.agg [c,d])):fq G (cG m n) (.agg [a,b,c,d]):=by
 rintro w v ⟨r,s,rfl,A,B⟩;obtain ⟨C,g,i,_,rfl,l,b1,_,rfl,o,rfl⟩:=h w (.agg #[.bool (decide (m<0)),r]) ⟨r,rfl,A⟩;cases g;obtain ⟨C,g,i,_,rfl,t,b1,_,rfl,z,rfl⟩:=h' w (.agg #[.bool (decide (n<0)),s]) ⟨s,rfl,B⟩;cases g;exact ⟨_,rfl,_,_,rfl,l,_,_,rfl,o,_,_,rfl,t,_,_,rfl,z,rfl⟩
def atj (h:fB G (.agg [a,b]) (dU m)) (h':fB G (.agg [c,d]) (dU n)):fB G (.agg [a,b,c,d]) (cG m n):=by
 rintro w v ⟨D,rfl,i,_,rfl,o,b1,_,rfl,t,c1,_,rfl,z,l,_,rfl,A,rfl⟩;obtain ⟨r,g,B⟩:=h w (.agg #[i,b1]) ⟨_,rfl,_,_,rfl,o,_,_,rfl,t,rfl⟩;cases g;obtain ⟨s,g,C⟩:=h' w (.agg #[c1,l]) ⟨_,rfl,_,_,rfl,z,_,_,rfl,A,rfl⟩;cases g;exact ⟨_,_,rfl,B,C⟩
def atk (h:fq G (i9 m e) (.agg [a,b,x])) (h':fq G (i9 n f) (.agg [c,d,y])):fq G (nU m e n f) (.agg [a,b,x,c,d,y]):=by
 rintro w v ⟨r,s,rfl,C,D⟩;obtain ⟨E,g,i,_,rfl,l,b1,_,rfl,o,F,_,rfl,A,rfl⟩:=h w (.agg #[.bool (decide (m<0)),r,.int .i64 e]) ⟨r,rfl,C⟩;cases g;obtain ⟨E,g,i,_,rfl,t,b1,_,rfl,z,F,_,rfl,B,rfl⟩:=h' w (.agg #[.bool (decide (n<0)),s,.int .i64 f]) ⟨s,rfl,D⟩;cases g;exact ⟨_,rfl,_,_,rfl,l,_,_,rfl,o,_,_,rfl,A,_,_,rfl,t,_,_,rfl,z,_,_,rfl,B,rfl⟩
def atl (h:fB G (.agg [a,b,x]) (i9 m e)) (h':fB G (.agg [c,d,y]) (i9 n f)):fB G (.agg [a,b,x,c,d,y]) (nU m e n f):=by
 rintro w v ⟨I,rfl,i,_,rfl,o,b1,_,rfl,t,F,_,rfl,B,c1,_,rfl,z,l,_,rfl,A,H,_,rfl,C,rfl⟩;obtain ⟨r,g,D⟩:=h w (.agg #[i,b1,F]) ⟨_,rfl,_,_,rfl,o,_,_,rfl,t,_,_,rfl,B,rfl⟩;cases g;obtain ⟨s,g,E⟩:=h' w (.agg #[c1,l,H]) ⟨_,rfl,_,_,rfl,z,_,_,rfl,A,_,_,rfl,C,rfl⟩;cases g;exact ⟨_,_,rfl,D,E⟩
def atm:fB G (.agg [.bool false,.j7]) (dU 0):=by
 rintro w v ⟨l,rfl,g,_,rfl,h,b1,_,rfl,i,rfl⟩;rw [show g= .bool false from h,show b1= .slice none 0 0 from i];exact ⟨_,rfl,(KP w 0).r⟩
def atn:fB G .j7 (fD 0):=by
 rintro w v h;rw [show v= .slice none 0 0 from h];exact (KP w 0).r
end
section
variable {k j:Nat} {m e n f p:Int}
def SX (l:Bz k m) (i:k<=1000000:=by omega): ∃t,DT t/\t=Dn m e/\bH Tryz.prog bw 86 [dU m,bj (.int .i64 e)] (pF (i9 t.1 t.2.1) (bj (.int .i64 t.2.2))):=by
 obtain ⟨t,_,g,h⟩:=asK (e:=e) l i;exact ⟨t,g▸atf m e,g,h⟩
def ato (h:DV m e):DV (-m) e/\bH Tryz.prog bw 133 [i9 m e] (i9 (-m) e):=by
 obtain ⟨i,t,g,s⟩:=h;obtain ⟨z,_,o,l⟩:=asL (e:=e) g;exact ⟨⟨i,t,g.neg,s⟩,o▸l⟩
def OP (h:DV m e) (h':DV n f): ∃c,c=ug m e n f/\bH Tryz.prog bw 46 [i9 m e,i9 n f] (bj (.int .i64 c)):=by
 obtain ⟨i,z,o,g⟩:=h;obtain ⟨j,A,s,l⟩:=h';obtain ⟨C,t⟩: ∃C:Nat,C=170000:=⟨_,rfl⟩;exact asM o s g l (C:=C)
def atp (h:DV m e): ∃c:Int,c=m.sign/\bH Tryz.prog bw 79 [i9 m e] (bj (.int .i64 c)):=by
 obtain ⟨i,o,g,l⟩:=h;exact OB g
def acv (h:DV m e): ∃t,t=kO m e/\bH Tryz.prog bw 80 [i9 m e] (bj (.int .i64 t)):=by
 obtain ⟨i,o,l,g⟩:=h;exact ach l g
def VT (t:(Int×Int)×(Int×Int)×Int):Prop:=DV t.1.1 t.1.2/\DV t.2.1.1 t.2.1.2/\0<=t.2.2/\t.2.2<=11
def aiR (h:DV m e) (h':DV n f): ∃s:Int,s=(if m.sign≠n.sign then 0 else m.sign)/\bH Tryz.prog bw 287 [nU m e n f] (pF (bj (.int .i64 s)) (bj (.bool (decide (m.sign=n.sign))))):=by
 obtain ⟨i,z,g,o⟩:=h;obtain ⟨j,A,l,t⟩:=h';exact ate g l
end
end
end Go.Proofs.YthleenhngcdgkaaGreatDoor
