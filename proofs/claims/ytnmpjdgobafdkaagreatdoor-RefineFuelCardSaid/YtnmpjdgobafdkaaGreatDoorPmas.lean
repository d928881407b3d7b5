/- refineFuel_proved. -/
import Derived.Test.YtnmpjdgobafdkaaGreatDoorPmao
import Derived.RangeFuncIn
import Derived.LoopN
import Derived.Scope
set_option maxRecDepth 100000
set_option maxHeartbeats 16000000
set_option linter.all false
noncomputable section
namespace Go.Ev
section
open Go
def Wm (f:FuncId):List FuncId->Bool
 | []=>false
 |g::l=>cond (Nat.beq g f) true (Wm f l)
def Gj (E:Env) (T:List rJ) (I:List FuncId):Nat->(FuncId->List aj->aP->VR):=fun n=>Nat.rec (motive:=fun _=>(FuncId->List aj->aP->VR))
 (Ed T) (fun _ b f args h=>cond (Wm f I) ((J' E f).f b args h) (Ed T f args h)) n
section
variable [aJ] {P:Program} {E:Env}
def abF (ok:eD P E) (i:H4 P E) {T:List rJ} (g:sZ P E (Ed T)) (I:List FuncId): ∀n,sZ P E (Gj E T I n)
 |0=>g
 |n+1=>fun f args h v d e=>by
  have b:cond (Wm f I) ((J' E f).f (Gj E T I n) args h) (Ed T f args h)= .ok v d:=e;cases j:Wm f I with
  |true=>rw [j] at b;exact Vr ok i (abF ok i g I n) f args h v d b
  |false=>rw [j] at b;exact g f args h v d b
end
inductive Way where
 |l|r|k
 deriving DecidableEq
def mJ:List Way->Code->Option Code
 | [],c=>some c
 | .l::p,.seq x _=>mJ p x
 | .r::p,.seq _ y=>mJ p y
 | .k::p,.block _ x=>mJ p x
 |_,_=>none
def Ac:List Way->Code->Code
 | .l::p,.seq x _=>Ac p x
 | .r::p,.seq x y=> .seq x (Ac p y)
 | .k::p,.block _ x=>Ac p x
 |_,_=> .skip
def tS (b:Code):List Way->Code->Code
 | [],_=>b
 | .l::p,.seq x y=> .seq (tS b p x) y
 | .r::p,.seq _ y=>tS b p y
 | .k::p,.block id x=> .block id (tS b p x)
 |_,c=>c
def uB:Out->Code
 | .normal=> .skip
 | .ret=> .ret
 | .exit id=> .exit id
def sJ (P:Program):List Way->Code->(Exit->Act->World->Prop)->(Exit->Act->World->Prop)
 | .l::p,.seq x y,Q=>sJ P p x (Exit.then (y.wp P Q) Q)
 | .r::p,.seq _ y,Q=>sJ P p y Q
 | .k::p,.block id x,Q=>sJ P p x (Exit.inBlock id Q)
 |_,_,Q=>Q
def Wn {p:List Way} {c s:Code} (h:mJ (.l::p) c=some s): ∃x y,c= .seq x y/\mJ p x=some s:=by
 cases c<;>first|exact ⟨_,_,rfl,h⟩|(cases h;done)
def RF {p:List Way} {c s:Code} (h:mJ (.r::p) c=some s): ∃x y,c= .seq x y/\mJ p y=some s:=by
 cases c<;>first|exact ⟨_,_,rfl,h⟩|(cases h;done)
def Wo {p:List Way} {c s:Code} (h:mJ (.k::p) c=some s): ∃id x,c= .block id x/\mJ p x=some s:=by
 cases c<;>first|exact ⟨_,_,rfl,h⟩|(cases h;done)
def ahD (P:Program) (c:Code) (Q:Exit->Act->World->Prop):sJ P [] c Q=Q:=by cases c<;>rfl
section
variable [aJ] {P:Program} {E:Env}
def ahE (ok:eD P E) (R:H4 P E) {cf:(FuncId->List aj->aP->VR)} (U:sZ P E cf) (nt:Nat) {sub:Code} (p:List Way): ∀(c:Code) (i:Tm) (h:aP) (j:Tm) (d:aP),mJ p c=some sub->
 (fY E nt (Ac p c)).f cf i h= .ok .normal j d-> ∀(S:Nat->Prop) (m:Mp) (a:Act) (w:World) (Q:Exit->Act->World->Prop),bR E.gl S m h w->TR m h nt i a->
 (∀u B z,bR E.gl S u d z->TR u d nt j B->Goes m h w u d z->sub.wp P (sJ P p c Q) B z)->c.wp P Q a w:=by
 induction p with
 |nil=>
  intro c i h j d hc e S m a w Q r t q;cases hc;have g:Ac [] sub= .skip:=by cases sub<;>rfl
  rw [g] at e;have M:CR.ok .normal i h= .ok .normal j d:=by simpa only [fY] using e
  cases M;have:=q m a w r t (Goes.refl ..)
  rwa [ahD] at this
 |cons b p D=>
  intro c i h j d hc e S m a w Q r t q;cases b with
  |l=>
   obtain ⟨x,y,rfl,hc⟩:=Wn hc;exact wp_seq (D x i h j d hc e S m a w _ r t q)
  |r=>
   obtain ⟨x,y,rfl,hc⟩:=RF hc;have g:(fY E nt (.seq x (Ac p y))).f cf i h= .ok .normal j d:=e;simp only [fY] at g;cases C:(fY E nt x).f cf i h with
   |fail=>rw [C] at g;cases g
   |ok o t1 h1=>
    rw [C] at g;refine wp_seq (Vm ok R U nt x _ _ _ _ _ C S m a w _ r t fun W J w1 H X O=> ?_);cases o with
    |normal=>exact D y _ _ _ _ hc g S W J w1 Q H X fun u B z Y t' N=>q u B z Y t' (Goes.trans r H O N)
    |ret=>cases g
    |exit id=>cases g
  |k=>
   obtain ⟨id,x,rfl,hc⟩:=Wo hc;exact wp_block (D x i h j d hc e S m a w _ r t q)
def ahF (ok:eD P E) (hD:H4 P E) {cf:(FuncId->List aj->aP->VR)} (kF:sZ P E cf) (nt:Nat) {sub:Code} {out:Out} (p:List Way): ∀(c:Code) (i:Tm) (h:aP) (d:Out) (B:Tm) (q:aP),mJ p c=some sub->
 (fY E nt (tS (uB out) p c)).f cf i h= .ok d B q-> ∀(S:Nat->Prop) (m:Mp) (a:Act) (w:World) (Q:Exit->Act->World->Prop),bR E.gl S m h w->TR m h nt i a->
 (∀J N M,bR E.gl S J q M->TR J q nt B N->Goes m h w J q M->Q (vf d) N M)->sJ P p c Q (vf out) a w:=by
 induction p with
 |nil=>
  intro c i h d B q hc e S m a w Q r t u;have g:tS (uB out) [] c=uB out:=by cases c<;>rfl
  rw [g] at e;have e':CR.ok out i h= .ok d B q:=by cases out<;>simpa only [uB,fY] using e
  cases e';rw [ahD];exact u m a w r t (Goes.refl ..)
 |cons b p R=>
  intro c i h d B q hc e S m a w Q r t u;cases b with
  |l=>
   obtain ⟨x,y,rfl,hc⟩:=Wn hc;have g:(fY E nt (.seq (tS (uB out) p x) y)).f cf i h= .ok d B q:=e;simp only [fY] at g;cases H:(fY E nt (tS (uB out) p x)).f cf i h with
   |fail=>rw [H] at g;cases g
   |ok o U O=>
    rw [H] at g;show sJ P p x _ _ _ _;refine R x i h o U O hc H S m a w _ r t fun Y W w1 z D C=> ?_
    cases o with
    |normal=>exact Vm ok hD kF nt y _ _ _ _ _ g S Y W w1 Q z D fun J N M r' t' g'=>u J N M r' t' (Goes.trans r z C g')
    |ret=>cases g;exact u _ _ _ z D C
    |exit id=>cases g;exact u _ _ _ z D C
  |r=>
   obtain ⟨x,y,rfl,hc⟩:=RF hc;exact R y i h d B q hc e S m a w Q r t u
  |k=>
   obtain ⟨id,x,rfl,hc⟩:=Wo hc;have g:(fY E nt (.block id (tS (uB out) p x))).f cf i h= .ok d B q:=e;simp only [fY] at g;cases H:(fY E nt (tS (uB out) p x)).f cf i h with
   |fail=>rw [H] at g;cases g
   |ok o U O=>
    rw [H] at g;show sJ P p x _ _ _ _;refine R x i h o U O hc H S m a w _ r t fun Y W w1 z D C=> ?_
    cases o with
    |normal=>cases g;exact u _ _ _ z D C
    |ret=>cases g;exact u _ _ _ z D C
    |exit j=>
     simp only at g;simp only [vf,Exit.inBlock];by_cases X:j=id
     ·subst X
      simp only [jA,cond_true] at g;cases g;rw [if_pos rfl];exact u _ _ _ z D C
     ·rw [if_neg X]
      have:Nat.beq j id=false:=by
       cases hb:Nat.beq j id with
       |false=>rfl
       |true=>simp_all
      rw [this,cond_false] at g;cases g;exact u _ _ _ z D C
end
end
section
open Go
structure FB where
 t:Nat
 e:TypeId
 s:Nat
 R:World->Value->Prop
structure Fr where
 bs:List FB
 ts:List (Nat×(World->Value->Prop))
structure PB where
 t:Nat
 e:TypeId
 s:Nat
 ps:List aj
structure Fp where
 bs:List PB
 ts:List (Nat×aj)
def vY (S:Nat->Prop) (B:List Nat):Nat->Prop:=fun b=>S b\/b∈B
def abG (w:World) (b:Nat) (e:TypeId) (s:Nat) (cs:List Value) (cap:Nat):Prop:=
 ∃d f,w.heap[b]? =some (.cells ⟨cs++d⟩ e f)/\(cs++d).length=cap*s/\ ∀j,j<(cs++d).length-> ¬(f.1<=j/\j<f.2)
def Nv (t b cap:Nat):Value:=Nat.casesOn (t/1024) (.pointer (some ⟨b,0,none⟩)) (fun n=> .slice (some ⟨b,0,none⟩) n cap)
def Gk (t:Nat) (k:Pos):aj:=Nat.casesOn (t/1024) (.ptr k 0) (fun n=> .i7 k 0 n (.rest 0))
def abH (v:aj):Option Pos:=match v with
 | .ptr n off=>cond (Nat.beq off 0) (some n) none
 |_=>none
def abI (l:Nat) (v:aj):Option Pos:=match v with
 | .i7 n off len (.rest d)=>cond (Nat.beq off 0&&Nat.beq len l&&Nat.beq d 0) (some n) none
 |_=>none
def Wp (t:Nat) (v:aj):Option Pos:=Nat.casesOn (t/1024) (abH v) (fun n=>abI n v)
def arK {t:Nat} {v:aj} {n:Pos} (h:Wp t v=some n):v=Gk t n:=by
 unfold Wp at h;unfold Gk;revert h;cases t/1024 with
 |zero=>
  intro h;have b:abH v=some n:=h;unfold abH at b;cases v<;>try (cases b;done)
  rename_i k off;simp only at b;cases hc:Nat.beq off 0<;>rw [hc] at b<;>cases b;have:=bD hc;subst this;rfl
 |succ l=>
  intro h;have b:abI l v=some n:=h;unfold abI at b;cases v<;>try (cases b;done)
  rename_i k off len cap;cases cap with
  |exact c=>cases b
  |rest d=>
   simp only at b;cases hc:(Nat.beq off 0&&Nat.beq len l&&Nat.beq d 0)<;>rw [hc] at b<;>cases b;simp only [au] at hc;have e:=bD hc.1.1;have f:=bD hc.1.2;have g:=bD hc.2
   all_goals grind
def ahG [aJ] (m:Mp) (t:Nat) (k:Pos):γ m (Gk t k)=Nv t (m.b k) (m.c k):=by
 unfold Gk Nv;cases t/1024<;>rfl
def arL {D:Pos->Prop} (t:Nat) {k:Pos} (h:D k):In D (Gk t k):=by
 unfold Gk;cases t/1024<;>exact h
def K0 (Z:Nat->Prop) (a:Act) (w:World):List FB->List Nat->Prop
 | [],B=>B= []
 |f::l,B=> ∃b d,B=b::d/\(∃g cap,abG w b f.e f.s g cap/\(jh Z w fun i=>f.R i (.agg ⟨g⟩))/\a.tmps.getD (f.t % 1024) undef=Nv f.t b cap)/\K0 Z a w l d
def Nw (Z:Nat->Prop) (a:Act) (w:World):List (Nat×(World->Value->Prop))->Prop
 | []=>True
 |x::l=>(jh Z w fun b=>x.2 b (a.tmps.getD x.1 undef))/\Nw Z a w l
structure oP (A:World->Prop) (S:Nat->Prop) (base:Nat) (w0:World) (nt:Nat) (F:Fr) (a:Act) (w:World):Prop where
 Wq:RowKit.Below base w0 w
 size:nt<=a.tmps.size
 rest: ∀t,nt<=t->a.tmps.getD t undef=undef
 df:a.defers= []
 lim: ∀b,S b->b<base
 mR:base<=w.heap.size
 body: ∃B:List Nat,B.Nodup/\(∀b∈B,base<=b)/\jh (vY S B) w A/\K0 (vY S B) a w F.bs B/\Nw (vY S B) a w F.ts
def RG:List PB->Tm->aP->Tm×aP
 | [],d,h=>(d,h)
 |b::l,d,h=>RG l ((zB (b.t % 1024)).f (Gk b.t (jQ b.ps h).2.nx) d) ((jQ b.ps h).2.new (.cells (jQ b.ps h).1 b.e b.s))
def Ws:List (Nat×aj)->Tm->aP->Tm×aP
 | [],b,h=>(b,h)
 |x::l,b,h=>Ws l ((zB x.1).f (sC x.2 h).1 b) (sC x.2 h).2
def Wu (d:Nat->aj):Nat->Nat->List aj:=fun n=>Nat.rec (motive:=fun _=>Nat->List aj) (fun _=> []) (fun _ b k=>d k::b (Nat.succ k)) n
def RH (nt:Nat) (d:Nat->aj):Tm:=FA (Wu d nt 0) 0 zA
def wh (fp:Fp) (nt:Nat) (d:Nat->aj):Tm×aP:=Ws fp.ts (RG fp.bs (RH nt d) uw).1 (RG fp.bs (RH nt d) uw).2
def ahH (d:Nat->aj): ∀(n k t:Nat),(Wu d n k)[t]? =if t<n then some (d (k+t)) else none
 |0,k,t=>by show ([]:List aj)[t]? =_;simp
 |n+1,k,t=>by
  have e:Wu d (n+1) k=d k::Wu d n (k+1):=rfl;rw [e];cases t with
  |zero=>simp
  |succ t=>
   rw [fG,ahH d n (k+1) t]
   all_goals grind
def arM (nt:Nat) (d:Nat->aj) (t:Nat):gW t (RH nt d)=if t<nt then d t else oG:=by
 unfold RH;rw [Vp,Vq,ahH]
 all_goals grind
mutual
def tj:Value->aj
 | .agg ⟨cs⟩=> .agg (Ny cs)
 | .tuple ⟨cs⟩=> .fh (Ny cs)
 |v=> .x9 v
def Ny:List Value->List aj
 | []=> []
 |v::l=>tj v::Ny l
end
mutual
theorem abJ [aJ] (m:Mp) (D:Pos->Prop): ∀v:Value,γ m (tj v)=v/\In D (tj v)
 | .agg ⟨cs⟩=>by
  obtain ⟨b,d⟩:=abK m D cs;exact ⟨by simp only [tj,γ,b],by simp only [tj];exact d⟩
 | .tuple ⟨cs⟩=>by
  obtain ⟨b,d⟩:=abK m D cs;exact ⟨by simp only [tj,γ,b],by simp only [tj];exact d⟩
 | .bool _| .int .. | .string _| .pointer _| .slice .. | .map _| .nilFunc| .nilIface| .iface .. | .float .. | .complex .. | .func .. | .chan _=>⟨rfl,rfl⟩
theorem abK [aJ] (m:Mp) (D:Pos->Prop): ∀l:List Value,aV m (Ny l)=l/\i9 D (Ny l)
 | []=>⟨rfl,trivial⟩
 |v::l=>by
  obtain ⟨b,d⟩:=abJ m D v;obtain ⟨e,f⟩:=abK m D l;exact ⟨by simp only [Ny,aV,b,e],d,f⟩
end
section
variable [aJ] {P:Program} {G:gb} {Z:Nat->Prop} {m:Mp} {h:aP} {w:World}
def bR.arN (r:bR G Z m h w) (hg:G.g=fun _=>none) {ob:jG} {o:Obj} {b cap:Nat} (hZ:Z b) (hw:w.heap[b]? =some o) (X: ∀k,bk h k->m.b k≠b) (M:ob.pI=true)
 (hb:vb (m.set h.nx b cap) h.nx ob o) (hi:zK (aF h) ob):
 bR G Z (m.set h.nx b cap) (h.new ob) w/\aF (h.new ob) h.nx/\(∀k,aF h k->aF (h.new ob) k)/\(∀k,aF h k->(m.set h.nx b cap).b k=m.b k/\(m.set h.nx b cap).cv k=m.cv k)/\(m.set h.nx b cap).b h.nx=b/\(∀k,bk (h.new ob) k->k=h.nx\/(k≠h.nx/\bk h k)):=by
 have u:=aP.Z3 h ob;have U: ∀k,aF h k->k≠h.nx:=fun k d e=>by have:=r.fresh k d;rw [e] at this;exact bO _ this
 have p: ∀k,aF h k->(m.set h.nx b cap).b k=m.b k/\(m.set h.nx b cap).cv k=m.cv k:=fun k d=>Mp.A0 m _ _ (U k d)
 have lA:bk (h.new ob) h.nx:=by unfold bk;rw [u,if_pos rfl];exact M
 have mU:aF (h.new ob) h.nx:=lA.aF;have MU: ∀k,bk h k->bk (h.new ob) k:=fun k d=>by unfold bk;rw [u,if_neg (fun e=>U k d.aF e.symm)];exact d
 have C: ∀k,bk (h.new ob) k->k=h.nx\/(k≠h.nx/\bk h k):=fun k d=>by
  by_cases e:k=h.nx
  ·exact .inl e
  ·refine .inr ⟨e,?_⟩;unfold bk at d;rw [u,if_neg (ij e)] at d;exact d
 have Ql: ∀k id,((h.new ob).at k).obj= .ga id->k≠h.nx/\(h.at k).obj= .ga id:=fun k id d=>by
  by_cases e:h.nx=k
  ·simp_all
  all_goals grind
 have i: ∀k,aF h k->aF (h.new ob) k:=fun k d=>by unfold aF;rw [u,if_neg (fun e=>U k d e.symm)];exact d
 have J: ∀k,aF (h.new ob) k->k=h.nx\/(k≠h.nx/\aF h k):=fun k d=>by
  by_cases e:k=h.nx
  ·exact .inl e
  ·refine .inr ⟨e,?_⟩;unfold aF at d;rw [u,if_neg (ij e)] at d;exact d
 have B:(h.new ob).at h.nx=⟨ob,h.nx⟩:=by rw [u,if_pos rfl]
 have t: ∀k,k≠h.nx->(h.new ob).at k=h.at k:=fun k d=>by grind
 have jz:(h.new ob).nx.n=h.nx.n+1:=Pos.Hl _;refine ⟨⟨fun k d=> ?_,fun k d=> ?_,fun x y O R j=> ?_,fun x y O R j W=> ?_,fun k d=> ?_,fun k=> ?_,fun g l yu=>(by simp_all),fun n id hn w' N=> ?_,r.lim⟩,mU,i,p,Mp.p8 ..,C⟩
 ·rcases C k d with rfl|⟨z,f⟩
  ·exact ⟨o,by rw [Mp.p8];exact hw,by rw [B];exact hb⟩
  ·obtain ⟨o',q,h3⟩:=r.blk k f
   refine ⟨o',by rw [(p k f.aF).1];exact q,?_⟩;rw [t k z];exact Kb p (r.ins k) (p k f.aF).2 h3
 ·rw [jz]
  rcases J k d with rfl|⟨_,f⟩
  ·omega
  ·have:=r.fresh k f;omega
 ·rcases C x O with rfl|⟨D,f⟩<;>rcases C y R with rfl|⟨H,q⟩
  ·exact absurd rfl j
  ·rw [Mp.p8,(p y q.aF).1];exact (X y q).symm
  ·rw [Mp.p8,(p x f.aF).1];exact X x f
  ·rw [(p x f.aF).1,(p y q.aF).1];rw [t x D,t y H] at j;exact r.apart x y f q j
 ·show x∈h.al.get [] _/\_
  rcases J x O with rfl|⟨D,f⟩<;>rcases J y R with rfl|⟨H,q⟩
  ·exact absurd rfl W
  ·rw [B,t y H] at j;have:=(r.mq y q).1;rw [<-j] at this;exact absurd this (bO _)
  ·rw [B,t x D] at j;have:=(r.mq x f).1;rw [j] at this;exact absurd this (bO _)
  ·rw [t x D] at j⊢;rw [t y H] at j;exact r.mem x y f q j W
 ·rw [jz]
  rcases J k d with rfl|⟨z,f⟩
  ·rw [B];exact ⟨jl _,mU⟩
  ·rw [t k z];have:=r.mq k f;exact ⟨gO this.1,i _ this.2⟩
 ·by_cases z:k=h.nx
  ·subst z;rw [B];exact yi i hi
  ·rw [t k z];exact yi i (r.ins k)
 ·obtain ⟨oC,sU⟩:=Ql n id hn
  have hd:aF h n:=by unfold aF;rw [sU];simp
  have e1:(m.set h.nx b cap).v n=m.v n:=by show (Mp.cv _ n).v=(m.cv n).v;rw [(p n hd).2]
  rw [e1];refine r.jf n id sU w' fun b' bW Y lg=>N b' bW Y fun k d=> ?_
  rcases C k d with rfl|⟨_,f⟩
  ·rw [Mp.p8];intro e;subst e;exact Y hZ
  ·rw [(p k f.aF).1];exact lg k f
def TI (m:Mp) (h:aP) (tm:Tm) (a:Act):Prop:= ∀t,a.tmps.getD t undef=γ m (gW t tm)/\In (aF h) (gW t tm)
def TI.step {e:Mp} {h':aP} {tm:Tm} {a:Act} (t:TI m h tm a) (f: ∀k,aF h k->e.b k=m.b k/\e.cv k=m.cv k) (d: ∀k,aF h k->aF h' k):TI e h' tm a:=fun x=>
 ⟨by rw [(t x).1,D1 (D:=aF h) f _ (t x).2],rD d _ (t x).2⟩
def TI.set {tm:Tm} {a:Act} (t:TI m h tm a) {d:Nat} {v:aj} (b:a.tmps.getD d undef=γ m v) (hi:In (aF h) v):TI m h ((zB d).f v tm) a:=fun x=>by
 rw [Ku];by_cases e:d=x
 ·simp_all
 ·rw [if_neg e];exact t x
structure Lf (G:gb) (Z:Nat->Prop) (base:Nat) (a:Act) (w:World) (m:Mp) (tm:Tm) (h:aP):Prop where
 rep:bR G Z m h w
 ti:TI m h tm a
 inz: ∀n,bk h n->Z (m.b n)
 low: ∀n,bk h n->base<=m.b n
 df:h.df= []
def Lf.keeps {base:Nat} {a:Act} {tm:Tm} {Φ:World->Prop} (l:Lf G Z base a w m tm h) (j:jh Z w Φ):yr Z m h w Φ:=fun o d=>j o fun b g f=>d b g f fun k i e=>f (e▸l.inz k i)
def Ad [aJ] (G:gb):List FB->List PB->Prop
 | [],l=>l= []
 |f::l,q=> ∃p b,q=p::b/\f.t=p.t/\f.e=p.e/\f.s=p.s/\ja p.ps=true/\fm G f.R (.agg p.ps)/\Ad G l b
def Ae [aJ] (G:gb):List (Nat×(World->Value->Prop))->List (Nat×aj)->Prop
 | [],l=>l= []
 |f::l,q=> ∃p b,q=p::b/\f.1=p.1/\ou p.2=true/\fm G f.2 p.2/\Ae G l b
def ahI (hg:G.g=fun _=>none) {base:Nat} {a:Act} : ∀(O:List FB) (M:List PB) (B:List Nat) (m:Mp) (C:Tm) (h:aP),Lf G Z base a w m C h->Ad G O M->K0 Z a w O B->B.Nodup->(∀b∈B,Z b/\base<=b)->(∀n,bk h n->m.b n∉B)->
 ∃m',Lf G Z base a w m' (RG M C h).1 (RG M C h).2
 | [],M,B,m,C,h,l,W,_,_,_,_=>by
  obtain rfl:M= []:=W;exact ⟨m,l⟩
 |f::O,q,B,m,C,h,l,W,hB,i,hz,QT=>by
  obtain ⟨p,q',rfl,e1,e2,e3,j6,bz,m8⟩:=W;obtain ⟨b,B',rfl,⟨cs,cap,xC,eX,H⟩,Wx⟩:=hB;rw [e1] at H;rw [e2,e3] at xC;obtain ⟨j,a1,a2,o⟩:=KD p.ps cs m h l.rep j6 (l.keeps fun w' Y=>by
   obtain ⟨vs,e,q⟩:=bz w' _ (eX w' Y);cases e;exact q)
  have RI: ∀k,aF h k->j.b k=m.b k/\j.cv k=m.cv k:=fun k X=>o.goes.agree k (l.rep.fresh k X)
  have U: ∀n,bk (jQ p.ps h).2 n->bk h n/\j.b n=m.b n:=fun n i=>⟨(o.F3 n).1 i,(RI n ((o.F3 n).1 i).aF).1⟩
  obtain ⟨N,fz,hw,hl,FH⟩:=xC;have y:=hz b (aE ..);have R: ∀n,bk (jQ p.ps h).2 n->j.b n≠b:=fun n i e=>QT n (U n i).1 (by simp_all)
  have z:aV (j.set (jQ p.ps h).2.nx b cap) (jQ p.ps h).1=cs:=by
   rw [<-a1];exact AY (D:=aF (jQ p.ps h).2) (fun k X=>Mp.A0 j _ _ (fun e=>by have:=o.rep.fresh k X;rw [e] at this;exact bO _ this)) _ a2
  obtain ⟨r2,hd,J,fT,AZ,oK⟩:=o.rep.arN hg (ob:= .cells (jQ p.ps h).1 p.e p.s) (b:=b) (cap:=cap) y.1 hw R rfl
   ⟨N,fz,by rw [z],by rw [z,Mp.Kg];exact hl,by rw [z];exact FH⟩ a2
  have t1:TI j (jQ p.ps h).2 C a:=l.ti.step RI o.goes.old;have t2:=(t1.step fT J).set (d:=p.t % 1024) (v:=Gk p.t (jQ p.ps h).2.nx) (by rw [H,ahG,AZ,Mp.Kg]) (arL _ hd);have fM: ∀n,bk ((jQ p.ps h).2.new (.cells (jQ p.ps h).1 p.e p.s)) n->(j.set (jQ p.ps h).2.nx b cap).b n=b\/((j.set (jQ p.ps h).2.nx b cap).b n=m.b n/\bk h n):=fun n i=>by
   rcases oK n i with rfl|⟨_,u⟩
   ·exact .inl AZ
   ·exact .inr ⟨(fT n u.aF).1.trans (U n u).2,(U n u).1⟩
  have l2:Lf G Z base a w (j.set (jQ p.ps h).2.nx b cap) ((zB (p.t % 1024)).f (Gk p.t (jQ p.ps h).2.nx) C) ((jQ p.ps h).2.new (.cells (jQ p.ps h).1 p.e p.s)):=
   ⟨r2,t2,fun n i=>by rcases fM n i with e|⟨e,u⟩<;>rw [e];exact y.1;exact l.inz n u,
    fun n i=>by rcases fM n i with e|⟨e,u⟩<;>rw [e];exact y.2;exact l.low n u,by show (jQ p.ps h).2.df= [];rw [o.df,l.df]⟩
  exact ahI hg O q' B' _ _ _ l2 m8 Wx (List.nodup_cons.1 i).2 (fun x hx=>hz x (aw _ hx)) fun n pW=>by
   grind
def ahK {base:Nat} {a:Act} : ∀(t:List (Nat×(World->Value->Prop))) (g:List (Nat×aj)) (m:Mp) (i:Tm) (h:aP),Lf G Z base a w m i h->Ae G t g->Nw Z a w t->
 ∃R,Lf G Z base a w R (Ws g i h).1 (Ws g i h).2
 | [],g,m,i,h,l,u,_=>by
  obtain rfl:g= []:=u;exact ⟨m,l⟩
 |f::t,q,m,i,h,l,u,M=>by
  obtain ⟨p,W,rfl,J,O,H,U⟩:=u;obtain ⟨z,X⟩:=M;rw [J] at z;obtain ⟨o,C,D,e⟩:=aa8 p.2 _ m h l.rep O (l.keeps fun B x=>H B _ (z B x));have y: ∀k,aF h k->o.b k=m.b k/\o.cv k=m.cv k:=fun k N=>e.goes.agree k (l.rep.fresh k N)
  have j: ∀n,bk (sC p.2 h).2 n->bk h n/\o.b n=m.b n:=fun n d=>⟨(e.F3 n).1 d,(y n ((e.F3 n).1 d).aF).1⟩
  exact ahK t W o _ _ ⟨e.rep,(l.ti.step y e.goes.old).set C.symm D,fun n d=>by rw [(j n d).2];exact l.inz n (j n d).1,fun n d=>by rw [(j n d).2];exact l.low n (j n d).1,by rw [e.df,l.df]⟩ U X
def arQ (C:G.g=fun _=>none) {A:World->Prop} (O: ∀w v,A w->G.jf 0 w v) {S:Nat->Prop} {base nt:Nat} {F:Fr} {fp:Fp} {a:Act} {w0:World} (o:oP A S base w0 nt F a w) (e:Ad G F.bs fp.bs) (U:Ae G F.ts fp.ts):
 ∃B m,(∀b∈B,base<=b)/\Lf G (vY S B) base a w m (wh fp nt fun t=>tj (a.tmps.getD t undef)).1 (wh fp nt fun t=>tj (a.tmps.getD t undef)).2:=by
 obtain ⟨B,d,H,N,J,M⟩:=o.body;have u: ∀(Z:Nat->Prop) (j:List FB) (B:List Nat),K0 Z a w j B-> ∀b∈B,b<w.heap.size:=by
  intro Z j
  induction j with
  |nil=>intro B h b e;obtain rfl:B= []:=h;cases e
  |cons f j ih=>
   intro B h b e;obtain ⟨c,B',rfl,⟨cs,_,⟨_,_,hw,_⟩,_⟩,h'⟩:=h
   all_goals grind
 have i: ∀b,vY S B b->b<w.heap.size:=fun b e=>e.elim (fun h=>az (o.lim b h) o.mR) fun h=>u _ _ _ J b h
 have r0:bR G (vY S B) M7 (sY 1) w:=
  {blk:=fun n d=>absurd d (tb 1 n)
   fresh:=fun n d=>absurd d (vV 1 n)
   apart:=fun n k d=>absurd d (tb 1 n)
   mem:=fun n k d=>absurd d (vV 1 n)
   mq:=fun n d=>absurd d (vV 1 n)
   ins:=fun n=>by rw [F2];exact trivial
   qF:=fun g l D=>by rw [C] at D;cases D
   jf:=fun n id d=>by rw [F2] at d;cases d
   lim:=i}
 obtain ⟨p,_,r1,g1,_,b1⟩:=r0.ga (id:=0) (x:= .nilFunc) rfl fun w' z=>O _ _ (N w' fun b e R=>z b e R fun k y=>absurd y (tb 1 k))
 have q: ∀k,¬bk uw k:=fun k y=>tb 1 k ((b1 k).1 y)
 have W:Lf G (vY S B) base a w p (RH nt fun t=>tj (a.tmps.getD t undef)) uw:=by
  refine ⟨r1,fun t=> ?_,fun n d=>absurd d (q n),fun n d=>absurd d (q n),rfl⟩;rw [arM];by_cases h:t<nt
  ·rw [if_pos h];exact ⟨(abJ p (aF uw) (a.tmps.getD t undef)).1.symm,(abJ p (aF uw) (a.tmps.getD t undef)).2⟩
  ·rw [if_neg h,o.rest t (by omega)];exact ⟨rfl,trivial⟩
 obtain ⟨m2,X⟩:=ahI C F.bs fp.bs B p _ _ W e J d (fun b e=>⟨.inr e,H b e⟩) fun n d=>absurd d (q n)
 obtain ⟨m3,Y⟩:=ahK F.ts fp.ts m2 _ _ X U M;exact ⟨B,m3,H,Y⟩
end
def Nz (tm:Tm) (h:aP):List PB->Option (List Pos)
 | []=>some []
 |p::l=>match Wp p.t (gW (p.t % 1024) tm) with
  |some n=>match (h.at n).obj with
   | .cells b e s=>cond (Nat.beq e p.e&&Nat.beq s p.s&&(h.at n).rt.gL n) (cond (Bb h p.ps b) (Option.casesOn (Nz tm h l) none fun ns=>some (n::ns)) none) none
   |_=>none
  |none=>none
def Wy (tm:Tm) (h:aP):List (Nat×aj)->Bool
 | []=>true
 |x::l=>cond (fits h x.2 (gW x.1 tm)) (Wy tm h l) false
def NA (n:Pos):List Pos->Bool
 | []=>false
 |k::l=>cond (n.gL k) true (NA n l)
def RJ:List Pos->Bool
 | []=>true
 |n::l=>cond (NA n l) false (RJ l)
def Wz (fp:Fp) (tm:Tm) (h:aP):Bool:=
 List.casesOn h.df (Option.casesOn (Nz tm h fp.bs) false fun ns=>cond (RJ ns) (Wy tm h fp.ts) false) (fun _ _=>false)
section
variable [aJ] {P:Program} {G:gb} {Z:Nat->Prop} {m:Mp} {h:aP} {w:World}
def Ep [aJ] (G:gb):List PB->List FB->Prop
 | [],l=>l= []
 |p::l,q=> ∃f b,q=f::b/\f.t=p.t/\f.e=p.e/\f.s=p.s/\ja p.ps=true/\ft G (.agg p.ps) f.R/\Ep G l b
def Er [aJ] (G:gb):List (Nat×aj)->List (Nat×(World->Value->Prop))->Prop
 | [],l=>l= []
 |p::l,q=> ∃f b,q=f::b/\f.1=p.1/\ou p.2=true/\ft G p.2 f.2/\Er G l b
omit [aJ] in
def ahL {n:Pos} : ∀ {l:List Pos},NA n l=false->n∉l
 | [],_,h=>by cases h
 |k::l,e,h=>by
  have b:cond (n.gL k) true (NA n l)=false:=e;cases d:n.gL k with
  |true=>rw [d] at b;cases b
  |false=>
   rw [d] at b;rcases bu.1 h with rfl|h
   ·rw [(Pos.pH _ _).2 rfl] at d;cases d
   ·exact ahL b h
def abL (r:bR G Z m h w) {tm:Tm} {a:Act} (R:TI m h tm a) {Z':Nat->Prop} (J: ∀Φ:World->Prop,yr Z m h w Φ->jh Z' w Φ): ∀(j:List PB) (d:List FB) (ns:List Pos),Nz tm h j=some ns->Ep G j d->K0 Z' a w d (ns.map m.b)/\ ∀n∈ns,bk h n/\(h.at n).rt=n
 | [],d,ns,e,z=>by
  obtain rfl:d= []:=z;cases e;exact ⟨rfl,fun n hn=>by cases hn⟩
 |p::j,d,ns,e,z=>by
  obtain ⟨f,x,rfl,e1,e2,e3,j6,qI,lX⟩:=z;simp only [Nz] at e;have H:=R (p.t % 1024);cases C:Wp p.t (gW (p.t % 1024) tm) with
  |none=>rw [C] at e;cases e
  |some n=>
  rw [C] at e;rw [arK C] at H;simp only at e;cases q:(h.at n).obj<;>rw [q] at e<;>try (cases e;done)
  rename_i u U s;simp only at e;cases hc:(Nat.beq U p.e&&Nat.beq s p.s&&(h.at n).rt.gL n)<;>rw [hc] at e<;>try (cases e;done)
  cases N:Bb h p.ps u<;>rw [N] at e<;>try (cases e;done)
  simp only [cond_true] at e;cases B:Nz tm h j with
  |none=>rw [B] at e;cases e
  |some i=>
   rw [B] at e;cases e;simp only [au] at hc;obtain ⟨⟨X,Y⟩,c4⟩:=hc;have M:bk h n:=MS q rfl;obtain ⟨o,hw,g⟩:=r.blk n M;rw [q] at g;obtain ⟨l,fz,rfl,q1,q2⟩:=g;have O:=r.ins n;rw [q] at O;obtain ⟨i1,i2⟩:=abL r R J j x i B lX;have hte:U=p.e:=bD X;have hs:s=p.s:=bD Y;refine ⟨⟨m.b n,i.map m.b,rfl,⟨aV m u,m.c n,⟨l,fz,by simp_all,by simp_all,q2⟩,J _ ?_,by rw [e1,H.1,ahG]⟩,i1⟩,fun k y=> ?_⟩
   ·exact fun W D=>qI W _ ⟨_,rfl,M8 r p.ps u j6 O N W D⟩
   ·rcases bu.1 y with rfl|y
    ·exact ⟨M,(Pos.pH _ _).1 c4⟩
    ·exact i2 k y
def ahM (r:bR G Z m h w) {tm:Tm} {a:Act} (l:TI m h tm a) {Z':Nat->Prop} (q: ∀Φ:World->Prop,yr Z m h w Φ->jh Z' w Φ): ∀(d:List (Nat×aj)) (b:List (Nat×(World->Value->Prop))),Wy tm h d=true->Er G d b->Nw Z' a w b
 | [],b,e,k=>by
  obtain rfl:b= []:=k;trivial
 |p::d,b,e,k=>by
  obtain ⟨f,i,rfl,u,x,z,y⟩:=k;have g:cond (fits h p.2 (gW p.1 tm)) (Wy tm h d) false=true:=e;cases j:fits h p.2 (gW p.1 tm) with
  |false=>rw [j] at g;cases g
  |true=>
   rw [j] at g;refine ⟨q _ fun t o=> ?_,ahM r l q d i g y⟩;rw [u,(l p.1).1];exact z t _ (QW r p.2 _ x (l p.1).2 j t o)
def ahN (r:bR G Z m h w): ∀(ns:List Pos),RJ ns=true->(∀n∈ns,bk h n/\(h.at n).rt=n)->(ns.map m.b).Nodup
 | [],_,_=>jZ
 |n::ns,e,i=>by
  have d:cond (NA n ns) false (RJ ns)=true:=e;cases g:NA n ns with
  |true=>rw [g] at d;cases d
  |false=>
   rw [g] at d;refine List.nodup_cons.2 ⟨fun o=> ?_,ahN r ns d fun k f=>i k (aw _ f)⟩;obtain ⟨k,f,l⟩:=kI.1 o;obtain ⟨b1,p⟩:=i n (aE ..);obtain ⟨j,q⟩:=i k (aw _ f);refine r.apart k n j b1 (fun e=> ?_) l;rw [p,q] at e;subst e;exact ahL g f
def abM {A:World->Prop} (M: ∀w v,G.jf 0 w v->A w) {S:Nat->Prop} {B:List Nat} {base nt:Nat} {a:Act} {tm:Tm} {fp:Fp} {F:Fr} {w0:World} (H:RowKit.Below base w0 w) (r:bR G (vY S B) m h w) (t:TR m h nt tm a)
 (p: ∀t,nt<=t->a.tmps.getD t undef=undef) (f: ∀b,S b->b<base) (O:base<=w.heap.size) (W: ∀n,bk h n->base<=m.b n) (R:(h.at (pos 1)).obj= .ga 0)
 (e:Wz fp tm h=true) (C:Ep G fp.bs F.bs) (N:Er G fp.ts F.ts):oP A S base w0 nt F a w:=by
 unfold Wz at e;cases z:h.df with
 |cons x l=>rw [z] at e;cases e
 |nil=>
  rw [z] at e;simp only at e;cases k:Nz tm h fp.bs with
  |none=>rw [k] at e;cases e
  |some ns=>
   rw [k] at e;simp only at e;cases u:RJ ns with
   |false=>rw [u] at e;cases e
   |true=>
    rw [u] at e;have o:TI m h tm a:=fun x=>⟨t.val x,t.ins x⟩
    have D: ∀n∈ns,bk h n/\(h.at n).rt=n:=(abL r o (Z':=fun _=>False) (fun Φ y g d=>y g fun b i _ _=>d b i id) fp.bs F.bs ns k C).2;have q: ∀Φ:World->Prop,yr (vY S B) m h w Φ->jh (vY S (ns.map m.b)) w Φ:=fun Φ y g d=>y g fun b i J U=>d b i fun j=>by
     rcases j with j|j
     ·exact J (.inl j)
     all_goals grind
    exact ⟨H,t.size,p,by rw [t.defs,z];rfl,f,O,ns.map m.b,ahN r ns u D,fun b i=>by
     grind,
     q _ fun g d=>M _ _ (r.jf _ _ R g d),(abL r o q fp.bs F.bs ns k C).1,ahM r o q fp.ts F.ts e N⟩
end
end
section
open Go
def Hi (nt:Nat) (tm b:Tm):Prop:= ∀t,nt<=t->gW t b=gW t tm
def Hi.refl (nt:Nat) (tm:Tm):Hi nt tm tm:=fun _ _=>rfl
def Hi.trans {nt:Nat} {a b c:Tm} (h:Hi nt a b) (g:Hi nt b c):Hi nt a c:=fun t d=>(g t d).trans (h t d)
def WB {nt:Nat} {d:Option Tmp} {p:Cg} (e:yg nt d=some p) (v:aj) (tm:Tm):Hi nt tm (p.f v tm):=by
 cases d with
 |none=>cases e;exact Hi.refl nt tm
 |some d=>
  have b:cond (Nat.blt d nt) (some (zB d)) none=some p:=e;cases g:Nat.blt d nt with
  |false=>rw [g] at b;cases b
  |true=>
   rw [g] at b;cases b;intro t j;have i:Nat.succ d<=nt:=bq (show Nat.ble (Nat.succ d) nt=true from g);rw [Ku,if_neg]
   all_goals grind
def arT {k:oI} {cf:(FuncId->List aj->aP->VR)} {tm:Tm} {h:aP} {next:aj->aP->CR} {o:Out} {d:Tm} {h':aP} (e:carry k cf tm h next= .ok o d h'): ∃v i,next v i= .ok o d h':=by
 unfold carry at e;cases k with
 |pu f=>simp only at e;cases b:f tm<;>rw [b] at e;cases e;exact ⟨_,_,e⟩
 |rd f=>simp only at e;cases b:f tm h<;>rw [b] at e;cases e;exact ⟨_,_,e⟩
 |nw f=>simp only at e;cases b:f tm<;>rw [b] at e;cases e;exact ⟨_,_,e⟩
 |wr f=>
  simp only at e;cases b:f tm h with
  |ok v i=>rw [b] at e;exact ⟨_,_,e⟩
  |fail=>rw [b] at e;cases e
  |call g args=>
   rw [b] at e;simp only at e;cases hc:cf g args h<;>rw [hc] at e
   all_goals grind
def ahO {E:Env} {nt:Nat} {all:List Oper} {cf:(FuncId->List aj->aP->VR)} : ∀(l:List Oper) {d:Tm} {h:aP} {o:Out} {g:Tm} {j:aP},(AV E nt all l).f cf d h= .ok o g j->Hi nt d g
 | [],d,h,o,g,j,e=>by cases e;exact Hi.refl nt d
 |op::l,d,h,o,g,j,e=>by
  simp only [AV] at e;cases x:yg nt op.dst with
  |none=>rw [x] at e;cases e
  |some p=>
   rw [x] at e;simp only at e;have go: ∀v t,(AV E nt all l).f cf (p.f v d) t= .ok o g j->Hi nt d g:=fun v t i=>(WB x v d).trans (ahO l i)
   have q:carry (pG E op.op) cf d h (fun v h=>(AV E nt all l).f cf (p.f v d) h)= .ok o g j->Hi nt d g:=fun i=>by
    obtain ⟨v,t,B⟩:=arT i;exact go v t B
   cases z:um all op.guard with
   |some w=>
    rw [z] at e;have i:Option.casesOn (motive:=fun _=>CR) (w.f d) .fail (fun b=>cond b (carry (pG E op.op) cf d h fun v h=>(AV E nt all l).f cf (p.f v d) h) ((AV E nt all l).f cf (p.f oG d) h))= .ok o g j:=by
     cases k:pG E op.op<;>rw [k] at e<;>exact e
    cases y:w.f d with
    |none=>rw [y] at i;cases i
    |some b=>
     rw [y] at i
     all_goals grind
   |none=>
    rw [z] at e;cases k:pG E op.op with
    |pu f=>
     rw [k] at e;simp only [UO] at e;cases u:f d<;>rw [u] at e
     all_goals grind
    |rd f=>
     rw [k] at e;simp only [UO] at e;cases u:f d h<;>rw [u] at e
     all_goals grind
    |nw f=>rw [k] at e q;exact q e
    |wr f=>rw [k] at e q;exact q e
def WD {R:Type} (pre:Nat) (k:aP->R): ∀(l:List su) (h:aP),∃b,zH pre k l h=k b
 | [],h=>⟨h,rfl⟩
 |p::l,h=>by
  have e:zH pre k (p::l) h=cond (Nat.testBit pre p.ix) (zH pre k l (h.lay p)) (zH pre k l h):=rfl;cases f:Nat.testBit pre p.ix
  ·obtain ⟨b,d⟩:=WD pre k l h;exact ⟨b,by rw [e,f];exact d⟩
  ·obtain ⟨b,d⟩:=WD pre k l (h.lay p);exact ⟨b,by rw [e,f];exact d⟩
def ahP {i pre:Nat} {k:oI} {p:Cg} {cf:(FuncId->List aj->aP->VR)} {s s':DS} (e:Qd i pre k p cf s=some s'): ∃v,s'.tm=p.f v s.tm:=by
 unfold Qd at e;cases k with
 |pu f=>simp only at e;cases d:f s.tm<;>rw [d] at e<;>cases e;exact ⟨_,rfl⟩
 |nw f=>simp only at e;cases d:f s.tm<;>rw [d] at e<;>cases e;exact ⟨_,rfl⟩
 |rd f=>
  simp only at e;cases l:zH pre (f s.tm) s.dz s.h with
  |none=>rw [l] at e;cases e
  |some v=>
   rw [l] at e
   all_goals grind
 |wr f=>
  simp only at e;cases t:Nat.beq (Nat.land s.chain pre) s.chain<;>rw [t] at e
  ·cases e
  ·simp only [cond_true] at e
   obtain ⟨j,q⟩:=WD (R:=Option DS) pre _ s.dz s.h;rw [q] at e;have next: ∀v b,cond (J9 pre b s.held&&Nat.ble j.nx.num b.nx.num) (some (⟨p.f v s.tm,b,(i,s.h)::s.qE,Nat.lor s.chain (Nat.pow 2 i),s.held,s.dz⟩:DS)) none=some s'-> ∃v,s'.tm=p.f v s.tm:=fun v b u=>by
    grind
   cases d:f s.tm j with
   |ok v b=>rw [d] at e;exact next v b e
   |fail=>rw [d] at e;cases e
   |call g args=>
    rw [d] at e;simp only at e;cases o:cf g args j with
    |ok v b=>rw [o] at e;exact next v b e
    |fail=>rw [o] at e;cases e
def ahQ {E:Env} {nt:Nat} {all:List Oper} {cf:(FuncId->List aj->aP->VR)} : ∀(l:List Oper) (t:List Nat) (i:Nat) {s g:DS},(DX E nt all l t i).f cf s=some g->Hi nt s.tm g.tm
 | [],[],i,s,g,e=>by cases e;exact Hi.refl _ _
 | [],_::_,i,s,g,e=>by cases e
 |_::_,[],i,s,g,e=>by cases e
 |o::l,q::t,i,s,g,e=>by
  simp only [DX] at e;cases j:yg nt o.dst with
  |none=>rw [j] at e;cases e
  |some p=>
   rw [j] at e;simp only at e;cases d:(MQ i q (um all o.guard) (pG E o.op) p).f cf s with
   |none=>rw [d] at e;cases e
   |some z=>
    rw [d] at e;have y:Hi nt s.tm z.tm:=by
     unfold MQ at d;cases x:um all o.guard with
     |none=>
      rw [x] at d;obtain ⟨v,k⟩:=ahP d;rw [k];exact WB j v s.tm
     |some w=>
      rw [x] at d;simp only at d;cases u:w.f s.tm with
      |none=>rw [u] at d;cases d
      |some b=>
       rw [u] at d;cases b with
       |false=>cases d;exact WB j _ s.tm
       |true=>
        obtain ⟨v,k⟩:=ahP d;rw [k];exact WB j v s.tm
    exact y.trans (ahQ l t (i+1) e)
def arU {E:Env} {nt:Nat} {all:List Oper} {cf:(FuncId->List aj->aP->VR)} {tm:Tm} {h:aP} {o:Out} {d:Tm} {h':aP} (e:(Qe E nt all).f cf tm h= .ok o d h'):Hi nt tm d:=by
 unfold Qe at e;cases g:Fy all all (sX all) 0 [] with
 |false=>rw [g] at e;cases e
 |true=>
  rw [g] at e;simp only at e;cases b:(DX E nt all all (sX all) 0).f cf ⟨tm,h,[],0,[],[]⟩ with
  |none=>rw [b] at e;cases e
  |some s=>
   rw [b] at e;simp only at e;obtain ⟨j,i⟩:=WD (Nat.sub (Nat.pow 2 all.length) 1) (fun h=>CR.ok .normal s.tm h) s.dz s.h;rw [i] at e;cases e;exact ahQ (s:=⟨tm,h,[],0,[],[]⟩) all (sX all) 0 b
def ahR {x:CK} {cf:(FuncId->List aj->aP->VR)} {nt:Nat} (k: ∀ {b h o d g},x.f cf b h= .ok o d g->Hi nt b d): ∀(n:Nat) {b:Tm} {h:aP} {o:Out} {d:Tm} {g:aP},loopGo x cf n b h= .ok o d g->Hi nt b d
 |0,_,_,_,_,_,e=>by cases e
 |n+1,b,h,o,d,g,e=>by
  have j:CR.casesOn (motive:=fun _=>CR) (x.f cf b h) (fun o b h=>Out.casesOn (motive:=fun _=>CR) o (loopGo x cf n b h) (.ok .ret b h) (fun id=> .ok (.exit id) b h)) .fail= .ok o d g:=e;cases i:x.f cf b h with
  |fail=>simp_all
  |ok l q p=>
   rw [i] at j;cases l with
   |normal=>exact (k i).trans (ahR k n j)
   |ret=>cases j;exact k i
   |exit id=>cases j;exact k i
def WE {E:Env} {nt:Nat} {cf:(FuncId->List aj->aP->VR)} (c:Code): ∀ {d:Tm} {h:aP} {o:Out} {i:Tm} {k:aP},(fY E nt c).f cf d h= .ok o i k->Hi nt d i:=by
 induction c with
 |skip=>intro d h o i k e;simp only [fY] at e;cases e;exact Hi.refl _ _
 |label l=>intro d h o i k e;simp only [fY] at e;cases e;exact Hi.refl _ _
 |ret=>intro d h o i k e;simp only [fY] at e;cases e;exact Hi.refl _ _
 |exit id=>intro d h o i k e;simp only [fY] at e;cases e;exact Hi.refl _ _
 |seq x y B C=>
  intro d h o i k e;simp only [fY] at e;cases p:(fY E nt x).f cf d h with
  |fail=>rw [p] at e;cases e
  |ok D Y O=>
   rw [p] at e;cases D with
   |normal=>exact (B p).trans (C e)
   |ret=>cases e;exact B p
   |exit id=>cases e;exact B p
 |cond x a b W X=>
  intro d h o i k e;simp only [fY] at e
  all_goals grind
 |block id x t=>
  intro d h o i k e;simp only [fY] at e;cases p:(fY E nt x).f cf d h with
  |fail=>rw [p] at e;cases e
  |ok D Y O=>
   rw [p] at e;cases D with
   |normal=>cases e;exact t p
   |ret=>cases e;exact t p
   |exit j=>
    grind
 |loop x t=>intro d h o i k e;simp only [fY] at e;exact ahR t 1000000 e
 |scope x t=>intro d h o i k e;simp only [fY] at e;exact t e
 |region id H z=>
  intro d h o i k e;cases z with
  |true=>simp only [fY] at e;exact arU e
  |false=>simp only [fY] at e;exact ahO H.toList e
 |rangeFunc g ps x y=>
  intro d h o i k e;simp only [fY] at e;generalize (bP E g).g d=u at e;cases u<;>try (cases e;done)
  rename_i M first q
  cases M<;>try (cases e;done)
  simp only at e;generalize (Fx E _).f _ _=J at e;cases J with
  |ok _ _=>cases e
  |fail=>cases e
  |call N args=>
   simp only at e;cases hc:cf N args ((h.new .uf).new .J7) with
   |fail=>rw [hc] at e;cases e
   |ok v R=>
    rw [hc] at e;simp only at e;cases U:(R.at (h.new .uf).nx).obj<;>rw [U] at e<;>try (cases e;done)
    cases e;exact Hi.refl _ _
 |_=>intro d h o i k e;simp only [fY] at e;cases e
end
section
open Go
def abN:Out->Out->Bool
 | .normal,o=>match o with
  | .normal=>true
  |_=>false
 | .ret,o=>match o with
  | .ret=>true
  |_=>false
 | .exit i,o=>match o with
  | .exit j=>Nat.beq i j
  |_=>false
def arV {x y:Out} (h:abN x y=true):x=y:=by
 cases x<;>cases y<;>first|rfl|(cases h;done)|(rw [bD h])
def Es (E:Env) (T:List rJ) (I:List FuncId) (dep nt:Nat) (c:Code) (out:Out) (fp uD:Fp) (d:Nat->aj):Bool:=
 CR.casesOn ((fY E nt c).f (Gj E T I dep) (wh fp nt d).1 (wh fp nt d).2) (fun o b h=>cond (abN o out) (cond (KC h) (Wz uD b h) false) false) false
def ahS:Out->Bool
 | .exit _=>false
 |_=>true
def NB (E:Env) (T:List rJ) (I:List FuncId) (dep nt:Nat) (b:List ResultVar) (c:Code) (fp:Fp) (res:aj) (d:Nat->aj):Bool:=
 CR.casesOn ((fY E nt c).f (Gj E T I dep) (wh fp nt d).1 (wh fp nt d).2)
  (fun o e h=>cond (ahS o) (List.casesOn h.df (Option.casesOn ((xg E b).f e h) false fun l=>fits h res (Fz l)) (fun _ _=>false)) false) false
def K2 (P:Program) (d:Func) (S:Nat->Prop) (base:Nat) (w0:World) (R:World->Value->Prop):Exit->Act->World->Prop:=fun b a w=>
 (b= .normal\/b= .ret)/\a.defers= []/\RowKit.Below base w0 w/\ ∃v,(results d a.tmps).run P w= .ok v w/\jh S w fun e=>R e v
structure Sy [aJ] (P:Program) (G:gb) (A:World->Prop) (F:List Fact) (T:List rJ):Prop where
 mix:P.follows .mixedOrders=true
 hg:G.g=fun _=>none
 NC: ∀w v,G.jf 0 w v↔A w
 facts: ∀f∈F,my f
 len:MW G
 calls: ∀e∈T,tL P G e/\ja e.args=true
section
variable [aJ] {P:Program} {G:gb} {A:World->Prop} {F:List Fact} {T:List rJ} {S:Nat->Prop} {base nt:Nat} {w0:World}
def Sy.env (s:Sy P G A F T):eD P (Env.sy P G F):=Vs P G F s.facts s.len
def Sy.cf (s:Sy P G A F T) (I:List FuncId) (dep:Nat):sZ P (Env.sy P G F) (Gj (Env.sy P G F) T I dep):=
 abF s.env (F1 s.mix s.env) (aa9 (fun w v b h=>(s.NC w b).2 ((s.NC w v).1 h)) s.calls) I dep
def WG (s:Sy P G A F T) {fr:Fr} {fp:Fp} {a:Act} {w:World} (e:oP A S base w0 nt fr a w) (g:Ad G fr.bs fp.bs) (i:Ae G fr.ts fp.ts):
 ∃B m,bR G (vY S B) m (wh fp nt fun t=>tj (a.tmps.getD t undef)).2 w/\TR m (wh fp nt fun t=>tj (a.tmps.getD t undef)).2 nt (wh fp nt fun t=>tj (a.tmps.getD t undef)).1 a/\
  (∀n,bk (wh fp nt fun t=>tj (a.tmps.getD t undef)).2 n->base<=m.b n):=by
 obtain ⟨B,m,_,l⟩:=arQ s.hg (fun w v h=>(s.NC w v).2 h) e g i;exact ⟨B,m,l.rep,⟨e.size,fun t=>(l.ti t).1,fun t=>(l.ti t).2,by rw [e.df,l.df];rfl,fun d f=>by rw [l.df] at f;cases f⟩,l.low⟩
def WH {fr:Fr} {a o:Act} {w w':World} {Z:Nat->Prop} {m j:Mp} {h h':aP} {tm p:Tm} (f:oP A S base w0 nt fr a w) (r:bR G Z m h w) (t:TR m h nt tm a) (y: ∀n,bk h n->base<=m.b n)
 (z:TR j h' nt p o) (g:Goes m h w j h' w') (hi:Hi nt tm p):
 RowKit.Below base w0 w'/\(∀t,nt<=t->o.tmps.getD t undef=undef)/\base<=w'.heap.size/\(∀n,bk h' n->base<=j.b n):=by
 have l: ∀n,bk h' n->base<=j.b n:=fun n i=>by
  by_cases d:bk h n
  ·rw [(g.agree n (r.fresh n d.aF)).1];exact y n d
  ·rcases g.yj n i d with q|⟨k,q,B⟩
   ·exact aK f.mR q
   all_goals grind
 refine ⟨f.Wq.trans ⟨g.os,g.tape,g.output,g.size,fun b d=>g.xj b (az d f.mR) fun n i e=> ?_⟩,fun x u=> ?_,aK f.mR g.size,l⟩
 ·grind
 ·rw [z.val x,hi x u,D1 (D:=aF h) (fun n i=>g.agree n (r.fresh n i)) _ (t.ins x),<-t.val x]
  exact f.rest x u
omit [aJ] in
def abO {E:Env} {I:List FuncId} {dep:Nat} {c:Code} {out:Out} {fp uD:Fp} {d:Nat->aj} (e:Es E T I dep nt c out fp uD d=true):
 ∃b h,(fY E nt c).f (Gj E T I dep) (wh fp nt d).1 (wh fp nt d).2= .ok out b h/\(h.at (pos 1)).obj= .ga 0/\Wz uD b h=true:=by
 unfold Es at e;cases j:(fY E nt c).f (Gj E T I dep) (wh fp nt d).1 (wh fp nt d).2 with
 |fail=>rw [j] at e;cases e
 |ok o b h=>
  rw [j] at e;simp only at e;cases i:abN o out with
  |false=>rw [i] at e;cases e
  |true=>
   rw [i] at e;cases g:KC h with
   |false=>rw [g] at e;cases e
   |true=>
    rw [g] at e;obtain rfl:=arV i;refine ⟨b,h,rfl,?_,e⟩;unfold KC at g
    all_goals grind
section
variable (s:Sy P G A F T) {I:List FuncId} {dep:Nat} {fr rN:Fr} {fp uD:Fp} {a:Act} {w:World} {Q:Exit->Act->World->Prop} {c:Code}
include s
def arX {out:Out} (e: ∀d,Es (Env.sy P G F) T I dep nt c out fp uD d=true) (g:oP A S base w0 nt fr a w) (q:Ad G fr.bs fp.bs) (u:Ae G fr.ts fp.ts) (o:Ep G uD.bs rN.bs) (y:Er G uD.ts rN.ts)
 (p: ∀b f,oP A S base w0 nt rN b f->Q (vf out) b f):c.wp P Q a w:=by
 obtain ⟨O,h,i,M,k⟩:=abO (e fun t=>tj (a.tmps.getD t undef));obtain ⟨B,m,r,t,x⟩:=WG s g q u;refine Vm s.env (F1 s.mix s.env) (s.cf I dep) nt c _ _ _ _ _ i _ m a w _ r t fun N b f J j l=> ?_
 obtain ⟨z,C,D,H⟩:=WH g r t x j l (WE c i);exact p b f (abM (fun w v h=>(s.NC w v).1 h) z J j C g.lim D H M k o y)
def arY {p:List Way} {sub:Code} (x:mJ p c=some sub) (e: ∀d,Es (Env.sy P G F) T I dep nt (Ac p c) .normal fp uD d=true) (g:oP A S base w0 nt fr a w) (u:Ad G fr.bs fp.bs) (y:Ae G fr.ts fp.ts) (o:Ep G uD.bs rN.bs) (C:Er G uD.ts rN.ts)
 (q: ∀b f,oP A S base w0 nt rN b f->sub.wp P (sJ P p c Q) b f):c.wp P Q a w:=by
 obtain ⟨U,h,i,O,k⟩:=abO (e fun t=>tj (a.tmps.getD t undef));obtain ⟨B,m,r,t,z⟩:=WG s g u y;refine ahE s.env (F1 s.mix s.env) (s.cf I dep) nt p c _ _ _ _ x i _ m a w _ r t fun R b f N j l=> ?_
 obtain ⟨D,H,J,M⟩:=WH g r t z j l (WE _ i);exact q b f (abM (fun w v h=>(s.NC w v).1 h) D N j H g.lim J M O k o C)
def arZ {p:List Way} {sub:Code} {out:Out} {j:Func} {res:aj} {R:World->Value->Prop} (W:mJ p c=some sub) (e: ∀d,NB (Env.sy P G F) T I dep nt j.results.toList (tS (uB out) p c) fp res d=true)
 (C:oP A S base w0 nt fr a w) (k:Ad G fr.bs fp.bs) (X:Ae G fr.ts fp.ts) (j6:ou res=true) (U:ft G res R):sJ P p c (K2 P j S base w0 R) (vf out) a w:=by
 have e:=e fun t=>tj (a.tmps.getD t undef)
 unfold NB at e;cases g:(fY (Env.sy P G F) nt (tS (uB out) p c)).f (Gj (Env.sy P G F) T I dep) (wh fp nt fun t=>tj (a.tmps.getD t undef)).1 (wh fp nt fun t=>tj (a.tmps.getD t undef)).2 with
 |fail=>rw [g] at e;cases e
 |ok o tm h=>
  rw [g] at e;simp only at e;cases q:ahS o with
  |false=>rw [q] at e;cases e
  |true=>
   rw [q] at e;simp only [cond_true] at e;cases z:h.df with
   |cons x l=>rw [z] at e;cases e
   |nil=>
    rw [z] at e;simp only at e;cases y:(xg (Env.sy P G F) j.results.toList).f tm h with
    |none=>rw [y] at e;cases e
    |some l=>
     rw [y] at e;simp only at e;obtain ⟨B,m,r,t,nO⟩:=WG s C k X;refine ahF s.env (F1 s.mix s.env) (s.cf I dep) nt p c _ _ _ _ _ W g _ m a w _ r t fun m' J w' D i M=> ?_
     obtain ⟨q1,q2,q3,q4⟩:=WH C r t nO i M (WE _ g);obtain ⟨z1,z2⟩:=age s.env D (tmps:=J.tmps) (fun x=>⟨i.val x,i.ins x⟩) y;have u:vf o= .normal\/vf o= .ret:=by
      cases o with
      |normal=>exact .inl rfl
      |ret=>exact .inr rfl
      |exit id=>cases q
     exact ⟨u,by rw [i.defs,z];rfl,q1,_,z1,fun H Y=>U H _ (QW D res _ j6 z2 e H fun b k N h2=>Y b k fun O=>N (.inl O))⟩
end
def Af:List (World->Value->Prop)->Nat->List (Nat×(World->Value->Prop))
 | [],_=> []
 |R::l,k=>(k,R)::Af l (k+1)
omit [aJ] in
def ahT {Z:Nat->Prop} {a:Act} {w:World} : ∀(Rs:List (World->Value->Prop)) (dS:List Value) (k:Nat),jh Z w (fun d=>vW Rs d dS)->(∀j,j<dS.length->a.tmps.getD (k+j) undef=dS.getD j undef)->Nw Z a w (Af Rs k)
 | [],dS,k,h,f=>trivial
 |R::Rs,dS,k,h,f=>by
  obtain ⟨v,l,rfl,_,_⟩:=h w fun _ _ _=>rfl
  refine ⟨fun d b=> ?_,ahT Rs l (k+1) (fun d b=> ?_) fun j q=> ?_⟩
  ·obtain ⟨i,g,e,o,_⟩:=h d b
   cases e;have:=f 0 (by simp)
   all_goals grind
  ·obtain ⟨i,g,e,_,p⟩:=h d b
   all_goals grind
  ·have:=f (j+1) (by simp;omega)
   all_goals grind
omit [aJ] in
def abP {f:FuncId} {d:Func} {c:Code} {Rs:List (World->Value->Prop)} {R:World->Value->Prop} (z:P.funcs[f]? =some d) (g:d.body=some c) (q:Rs.length<=d.ntmps)
 (h: ∀S base w0 a w,oP A S base w0 d.ntmps ⟨[],Af Rs 0⟩ a w->c.wp P (K2 P d S base w0 R) a w):bJ P A f Rs R:=fun S w dS i y u=>by
 have B: ∀(Rs:List (World->Value->Prop)) (dS:List Value),vW Rs w dS->dS.length=Rs.length:=by
  intro Rs
  induction Rs with
  |nil=>intro dS h;obtain rfl:dS= []:=h;rfl
  |cons R Rs J=>intro dS h;obtain ⟨v,Y,rfl,_,x⟩:=h;simp [J Y x]
 have C:=B Rs dS (u w fun _ _ _=>rfl);refine aaG z g ?_;have p: ∀(Φ:World->Prop),jh S w Φ->jh (vY S []) w Φ:=fun Φ l o k=>l o fun b g H=>k b g fun h=>h.elim H fun h=>by cases h
 have M:oP A S w.heap.size w d.ntmps ⟨[],Af Rs 0⟩ {tmps:=(⟨dS⟩:Array Value)++Array.replicate (d.ntmps-(⟨dS⟩:Array Value).size) undef,defers:= []} w:=by
  refine ⟨RowKit.Below.refl _ _,?_,fun t ht=> ?_,rfl,i,aq _,[],jZ,(fun b g=>by cases g),p _ y,rfl,ahT Rs dS 0 (p _ u) fun j hj=> ?_⟩
  ·simp;omega
  ·simp_all
  ·simp only [cR,gS,cV]
   all_goals grind
 refine wp_mono (h S w.heap.size w _ w M) fun e a' o D=> ?_
 obtain ⟨N,O,U,v,W,X⟩:=D;exact ⟨N,[],o,v,by rw [O];rfl,rfl,W,v,rfl,X,U⟩
end
end
section
open Go
section
variable {ri:aJ} {G:gb}
def ar8 {t:Nat} {e:TypeId} {s:Nat} {R:World->Value->Prop} {ps:List aj} {l:List FB} {b:List PB} (f:ja ps=true) (h:fm G R (.agg ps)) (d:Ad G l b):Ad G (⟨t,e,s,R⟩::l) (⟨t,e,s,ps⟩::b):=
 ⟨_,_,rfl,rfl,rfl,rfl,f,h,d⟩
def ar9 {t:Nat} {R:World->Value->Prop} {p:aj} {l:List (Nat×(World->Value->Prop))} {b:List (Nat×aj)} (e:ou p=true) (h:fm G R p) (d:Ae G l b):Ae G ((t,R)::l) ((t,p)::b):=
 ⟨_,_,rfl,rfl,e,h,d⟩
def asa {t:Nat} {e:TypeId} {s:Nat} {R:World->Value->Prop} {ps:List aj} {l:List FB} {b:List PB} (f:ja ps=true) (h:ft G (.agg ps) R) (d:Ep G b l):Ep G (⟨t,e,s,ps⟩::b) (⟨t,e,s,R⟩::l):=
 ⟨_,_,rfl,rfl,rfl,rfl,f,h,d⟩
def asb {t:Nat} {R:World->Value->Prop} {p:aj} {l:List (Nat×(World->Value->Prop))} {b:List (Nat×aj)} (e:ou p=true) (h:ft G p R) (d:Er G b l):Er G ((t,p)::b) ((t,R)::l):=
 ⟨_,_,rfl,rfl,e,h,d⟩
end
section
variable {P:Program} {A:World->Prop} {F:List Fact} {T:List rJ} {S:Nat->Prop} {base nt:Nat} {w0:World} {I:List FuncId} {dep:Nat} {fr rN:Fr} {fp uD:Fp} {a:Act} {w:World} {Q:Exit->Act->World->Prop} {c:Code}
def WI (L:List Slot) (g:P.follows .mixedOrders=true) (b: ∀f∈F,@my ⟨cL L⟩ f) (d: ∀e∈T,@tL ⟨cL L⟩ P (fv A L) e/\ja e.args=true): @Sy ⟨cL L⟩ P (fv A L) A F T:=
 @Sy.mk ⟨cL L⟩ _ _ _ _ _ g rfl (fun _ _=>jY) b abg d
def asc (L:List Slot) (u:P.follows .mixedOrders=true) {out:Out} (e: ∀d,Es (Env.sy P (fv A L) F) T I dep nt c out fp uD d=true) (j: ∀f∈F,@my ⟨cL L⟩ f) (l: ∀e∈T,@tL ⟨cL L⟩ P (fv A L) e/\ja e.args=true)
 (o: @Ad ⟨cL L⟩ (fv A L) fr.bs fp.bs) (q: @Ae ⟨cL L⟩ (fv A L) fr.ts fp.ts) (i: @Ep ⟨cL L⟩ (fv A L) uD.bs rN.bs) (t: @Er ⟨cL L⟩ (fv A L) uD.ts rN.ts) (p:oP A S base w0 nt fr a w)
 (k: ∀b g,oP A S base w0 nt rN b g->Q (vf out) b g):c.wp P Q a w:=
 @arX ⟨cL L⟩ _ _ _ _ _ _ _ _ _ (WI L u j l) _ _ _ _ _ _ _ _ _ _ _ e p o q i t k
def ase (L:List Slot) (y:P.follows .mixedOrders=true) {p:List Way} {sub:Code} (t:mJ p c=some sub) (e: ∀d,Es (Env.sy P (fv A L) F) T I dep nt (Ac p c) .normal fp uD d=true) (j: ∀f∈F,@my ⟨cL L⟩ f) (l: ∀e∈T,@tL ⟨cL L⟩ P (fv A L) e/\ja e.args=true)
 (o: @Ad ⟨cL L⟩ (fv A L) fr.bs fp.bs) (u: @Ae ⟨cL L⟩ (fv A L) fr.ts fp.ts) (i: @Ep ⟨cL L⟩ (fv A L) uD.bs rN.bs) (x: @Er ⟨cL L⟩ (fv A L) uD.ts rN.ts) (q:oP A S base w0 nt fr a w)
 (k: ∀b g,oP A S base w0 nt rN b g->sub.wp P (sJ P p c Q) b g):c.wp P Q a w:=
 @arY ⟨cL L⟩ _ _ _ _ _ _ _ _ _ (WI L y j l) _ _ _ _ _ _ _ _ _ _ _ _ t e q o u i x k
def asf (L:List Slot) (u:P.follows .mixedOrders=true) {p:List Way} {sub:Code} {out:Out} {b:Func} {res:aj} {R:World->Value->Prop} (o:mJ p c=some sub) (e: ∀d,NB (Env.sy P (fv A L) F) T I dep nt b.results.toList (tS (uB out) p c) fp res d=true) (t:ou res=true)
 (g: ∀f∈F,@my ⟨cL L⟩ f) (i: ∀e∈T,@tL ⟨cL L⟩ P (fv A L) e/\ja e.args=true) (j: @Ad ⟨cL L⟩ (fv A L) fr.bs fp.bs) (q: @Ae ⟨cL L⟩ (fv A L) fr.ts fp.ts) (l: @ft ⟨cL L⟩ (fv A L) res R)
 (k:oP A S base w0 nt fr a w):sJ P p c (K2 P b S base w0 R) (vf out) a w:=
 @arZ ⟨cL L⟩ _ _ _ _ _ _ _ _ _ (WI L u g i) _ _ _ _ _ _ _ _ _ _ _ _ _ o e k j q t l
end
end
section
open Go
def ahU (E:Env) (T:List rJ) (I:List FuncId) (dep:Nat) (f:FuncId) (pats:List aj):VR:=(J' E f).f (Gj E T I dep) (jQ pats uw).1 (jQ pats uw).2
def RL (E:Env) (T:List rJ) (I:List FuncId) (dep:Nat) (f:FuncId) (pats:List aj) (res:aj):Bool:=VR.casesOn (ahU E T I dep f pats) (fun v h=>fits h res v) false
section
variable [aJ] {P:Program} {G:gb}
def asg (N:P.follows .mixedOrders=true) {F:List Fact} {T:List rJ} (X: ∀w v v',G.jf 0 w v->G.jf 0 w v') (hg:G.g=fun _=>none) (Y: ∀f∈F,my f) (hL:MW G)
 (I:List FuncId) (dep:Nat) (hT: ∀e∈T,tL P G e/\ja e.args=true) {f:FuncId} {pats:List aj} {res:aj} (hp:ja pats=true) (hr:ou res=true)
 (h:RL (Env.sy P G F) T I dep f pats res=true):tL P G ⟨f,pats,res⟩:=by
 intro S w dS u zU qJ;have ok:=Vs P G F Y hL;have kF:sZ P (Env.sy P G F) (Ed T):=aa9 X hT;have B:=Vr ok (F1 N ok) (abF ok (F1 N ok) kF I dep);unfold RL at h;cases D:ahU (Env.sy P G F) T I dep f pats with
 |fail=>rw [D] at h;cases h
 |ok v J=>
  rw [D] at h;have W:fits J res v=true:=h;have r0:bR G S M7 (sY 1) w:=
   {blk:=fun n i=>absurd i (tb 1 n)
    fresh:=fun n i=>absurd i (vV 1 n)
    apart:=fun n k i=>absurd i (tb 1 n)
    mem:=fun n k i=>absurd i (vV 1 n)
    mq:=fun n i=>absurd i (vV 1 n)
    ins:=fun n=>by rw [F2];exact trivial
    qF:=fun g l M=>by rw [hg] at M;cases M
    jf:=fun n id i=>by rw [F2] at i;cases i
    lim:=u}
  obtain ⟨m1,_,r1,g1,_,b1⟩:=r0.ga (id:=0) (x:= .nilFunc) rfl fun y p=>zU y (fun b j t=>p b j t fun k o=>absurd o (tb 1 k)) _
  have H: ∀k,¬bk uw k:=fun k o=>tb 1 k ((b1 k).1 o)
  obtain ⟨m2,O,R,z⟩:=KD pats dS m1 uw r1 hp fun y p=>qJ y fun b j t=>p b j t fun k o=>absurd o (H k)
  have C: ∀k,¬bk (jQ pats uw).2 k:=fun k o=>H k ((z.F3 k).1 o)
  have yq:(jQ pats uw).2.df= []:=z.df;have:=(B f _ _ v J D).2 S m2 w z.rep R (fun d hd=>by simp_all);rw [O] at this;refine this.mono fun en y ⟨m',he,r',q,U⟩=>⟨_,he,fun w2 iM=> ?_,⟨q.os,q.tape,q.output,q.size,fun b j=>q.xj b j fun n i=>absurd i (C n)⟩⟩
  exact QW r' res v hr U W w2 fun b j t _=>iM b j t
end
section
variable {A:World->Prop} {P:Program}
def ash (L:List Slot) (C:P.follows .mixedOrders=true) (I:List FuncId) (dep:Nat) {F:List Fact} {T:List rJ} {f:FuncId} {pats:List aj} {res:aj} {Rs:List (World->Value->Prop)} {R:World->Value->Prop}
 (h:RL (Env.sy P (fv A L) F) T I dep f pats res=true) (t: ∀f∈F,@my ⟨cL L⟩ f) (u: ∀e∈T,@tL ⟨cL L⟩ P (fv A L) e/\ja e.args=true) (i:(ja pats&&ou res)=true)
 (k: ∀w j,vW Rs w j-> @pJ ⟨cL L⟩ (fv A L) w pats j) (z: ∀w v,@Mt ⟨cL L⟩ (fv A L) w res v->R w v):bJ P A f Rs R:=fun S w dS d q B=>by
 simp only [au] at i;have e:= @asg ⟨cL L⟩ P (fv A L) C F T (fun _ _ _ h=>h) rfl t abg I dep u f pats res i.1 i.2 h;refine (e S w dS d (fun g b v=>q g b) fun g b=>k _ _ (B g b)).mono ?_;rintro H g ⟨x,l,o,p⟩;exact ⟨x,l,fun D y=>z _ _ (o D y),p⟩
end
end
end Go.Ev
