/- refineCopies_proved. -/
import Derived.Test.YthleenhngcdgkaaGreatDoorPmam
import Derived.Test.YthleenhngcdgkaaGreatDoorPmae
import Derived.KernelRfl
set_option maxRecDepth 100000
set_option maxHeartbeats 16000000
set_option linter.all false
noncomputable section
namespace Go.Ev
section
variable [aJ]
omit [aJ] in
def RY (a b:Fn) (x y:List ai):Bool:=match a,b,x,y with
 | .func f,.func g,[],[]=>Nat.beq f g
 |_,_,_,_=>false
omit [aJ] in
def RZ (a:Fn) (x:List ai):Bool:=match a,x with
 | .func _,[]=>true
 |_,_=>false
omit [aJ] in
def aq3 {a b:Fn} {x y:List ai} (h:RY a b x y=true):a=b/\x= []/\y= []:=by
 unfold RY at h;split at h
 ·simp_all
 ·cases h
omit [aJ] in
def aq4 {a:Fn} {x:List ai} (h:RZ a x=true):x= []:=by
 unfold RZ at h
 all_goals grind
mutual
def fits (h:aP):ai->ai->Bool
 | .atom p,v=>match v with
  | .atom n=>match (h.at n).obj with
   | .gH id=>Nat.beq id p.num
   |_=>false
  |_=>false
 | .agg l,v=>match v with
  | .agg d=>BR h l d
  |_=>false
 | .fm l,v=>match v with
  | .fm d=>BR h l d
  |_=>false
 | .func a b l,v=>match v with
  | .func e f d=>cond (RY a e b f) (BR h l d) false
  |_=>false
 |p,v=>p.gU v
def BR (h:aP):List ai->List ai->Bool
 | [],l=>match l with
  | []=>true
  |_::_=>false
 |p::l,d=>match d with
  | []=>false
  |v::d=>cond (fits h p v) (BR h l d) false
end
mutual
def sP:ai->aP->ai×aP
 | .atom p,h=>(.atom h.nx,h.new (.gH p.num))
 | .agg l,h=>(.agg (j9 l h).1,(j9 l h).2)
 | .fm l,h=>(.fm (j9 l h).1,(j9 l h).2)
 | .func a b l,h=>(.func a b (j9 l h).1,(j9 l h).2)
 |v,h=>(v,h)
def j9:List ai->aP->List ai×aP
 | [],h=>([],h)
 |p::l,h=>((sP p h).1::(j9 l (sP p h).2).1,(j9 l (sP p h).2).2)
end
mutual
def oN:ai->Bool
 | .atom _=>true
 | .sym _=>true
 | .int _ _=>true
 | .bool _=>true
 | .str _=>true
 | .j7=>true
 | .wK=>true
 | .nilFunc=>true
 | .agg l=>jo l
 | .fm l=>jo l
 | .func a b l=>RZ a b&&jo l
 |_=>false
def jo:List ai->Bool
 | []=>true
 |p::l=>oN p&&jo l
end
def Og:Mp:=⟨fun _=>0,fun _=>⟨0,default⟩⟩
mutual
def Mt (G:gI) (w:World):ai->Value->Prop
 | .atom p,v=>v.oneCell'=true/\G.jt p.num w v
 | .agg l,v=> ∃vs,v= .agg ⟨vs⟩/\pZ G w l vs
 | .fm l,v=> ∃vs,v= .tuple ⟨vs⟩/\pZ G w l vs
 | .func a _ l,v=> ∃vs,v= .func a #[] ⟨vs⟩/\pZ G w l vs
 |p,v=>v=γ Og p
def pZ (G:gI) (w:World):List ai->List Value->Prop
 | [],vs=>vs= []
 |p::l,vs=> ∃v d,vs=v::d/\Mt G w p v/\pZ G w l d
end
def jw (S:Nat->Prop) (w:World) (Φ:World->Prop):Prop:= ∀w',(∀b,b<w.heap.size-> ¬S b->w'.heap[b]? =w.heap[b]?)->Φ w'
structure rT where
 f:FuncId
 args:List ai
 res:ai
def ub (P:Program) (G:gI) (e:rT):Prop:= ∀(S:Nat->Prop) (w:World) (dW:List Value),(∀b,S b->b<w.heap.size)->jw S w (fun w'=> ∀v,G.jt 0 w' v)->jw S w (fun w'=>pZ G w' e.args dW)->
 Calls P e.f ⟨dW⟩ w fun d w'=> ∃x,d= .returned x/\jw S w' (fun g=>Mt G g e.res x)/\RowKit.Below w.heap.size w w'
def Ly (h:aP):Bool:=match (h.at (pos 1)).obj with
 | .gH 0=>true
 |_=>false
def ES (T:List rT):(FuncId->List ai->aP->VR):=fun f args h=>List.rec VR.fail (fun e _ d=>cond (Nat.beq e.f f) (cond (BR h e.args args) (cond (Ly h&&oN e.res) (VR.ok (sP e.res h).1 (sP e.res h).2) .fail) d) d) T
section
variable {P:Program} {G:gI} {S:Nat->Prop} {m:Mp} {h:aP} {w w':World}
def ze (S:Nat->Prop) (m:Mp) (h:aP) (w:World) (Φ:World->Prop):Prop:= ∀w',(∀b,b<w.heap.size-> ¬S b->(∀k,bk h k->m.b k≠b)->w'.heap[b]? =w.heap[b]?)->Φ w'
def bV.stays (r:bV G S m h w) (hb:RowKit.Below w.heap.size w w'):bV G S m h w' where
 blk:=fun n hn=>by
  obtain ⟨o,ho,fV⟩:=r.blk n hn;exact ⟨o,(hb.block _ (r.ahz hn)).trans ho,fV⟩
 fresh:=r.fresh
 apart:=r.apart
 mem:=r.mem
 mX:=r.mX
 ins:=r.ins
 qN:=fun g l vL=>by
  obtain ⟨⟨rest,e,fz,h1⟩,h2⟩:=r.qN g l vL;exact ⟨⟨rest,e,fz,(hb.block _ (r.aq2 vL)).trans h1⟩,h2⟩
 jt:=fun n id hn w2 i6=>r.jt n id hn w2 fun b fV hS hk=>(i6 b (ax fV hb.size) hS hk).trans (hb.block b fV)
 lim:=fun b fV=>ax (r.lim b fV) hb.size
omit [aJ] in
def aq5 (d:RowKit.Below w.heap.size w w'):Goes m h w m h w':=
 ⟨d.tape,d.os,d.output,d.size,fun b e _=>d.block b e,fun _ _=>⟨rfl,rfl⟩,ak _,fun _ h=> .inl h,fun _ a b=>absurd a b,fun _ h=>h,fun _ h=>h,fun _ _ h=>h⟩
def bV.gH (r:bV G S m h w) {id:Nat} {x:Value} (U:x.oneCell'=true) (hs:ze S m h w fun w'=>G.jt id w' x):
 ∃p,γ p (.atom h.nx)=x/\bV G S p (h.new (.gH id)) w/\Goes m h w p (h.new (.gH id)) w/\aH (h.new (.gH id)) h.nx/\(∀n,bk (h.new (.gH id)) n↔bk h n):=by
 have im:=aP.aaL h (.gH id);have D: ∀k,aH h k->k≠h.nx:=fun k d e=>by have:=r.fresh k d;rw [e] at this;exact bQ _ this
 let p:Mp:=⟨m.b,fun k=>if k=h.nx then ⟨0,⟨x,U⟩⟩ else m.cv k⟩
 have I: ∀k,k≠h.nx->p.b k=m.b k/\p.cv k=m.cv k:=fun k d=>⟨rfl,by simp [p,d]⟩
 have Q:p.v h.nx=⟨x,U⟩:=by simp [p,Mp.v]
 have f: ∀k,k≠h.nx->(h.new (.gH id)).at k=h.at k:=fun k d=>by grind
 have F:(h.new (.gH id)).at h.nx=⟨.gH id,h.nx⟩:=by rw [im,if_pos rfl]
 have t: ∀n,bk (h.new (.gH id)) n↔bk h n:=fun n=>by
  unfold bk;by_cases e:n=h.nx
  ·subst e;rw [F]
   refine ⟨fun h=>(by cases h),fun s=> ?_⟩;exact absurd rfl (D _ (bk.aH s))
  ·rw [f n e]
 have kK:aH (h.new (.gH id)) h.nx:=by unfold aH;rw [F];simp
 have u: ∀k,aH h k->aH (h.new (.gH id)) k:=fun k d=>by unfold aH;rw [f k (D k d)];exact d
 have J: ∀k,aH (h.new (.gH id)) k->k=h.nx\/(k≠h.nx/\aH h k):=fun k d=>by
  by_cases e:k=h.nx
  ·exact .inl e
  ·refine .inr ⟨e,?_⟩;unfold aH at d;rw [f k e] at d;exact d
 have O:(h.new (.gH id)).nx.n=h.nx.n+1:=Pos.IC _;have Rj: ∀n i,(h.at n).obj= .gH i->((h.new (.gH id)).at n).obj= .gH i:=fun n i j=>by
  rw [f n (D n fun e=>by rw [e] at j;cases j)];exact j
 refine ⟨p,by simp [γ,Q],⟨fun k d=> ?_,fun k d=> ?_,fun a b N s B=> ?_,fun a b N s B mn=> ?_,fun k d=> ?_,fun k=> ?_,fun g l hg=> ?_,fun n i j w2 W=> ?_,r.lim⟩,
  ⟨rfl,rfl,rfl,ak _,fun _ _ _=>rfl,fun k d=>I k (fun e=>by simp_all),by rw [O];omega,
   fun k d=>by grind,
   fun k d H=>absurd ((t k).1 d) H,u,fun k d=>(t k).2 d,Rj⟩,kK,t⟩
 ·have Y:=(t k).1 d
  have C:=D k Y.aH;obtain ⟨o,q,E⟩:=r.blk k Y;refine ⟨o,q,?_⟩;rw [f k C];exact K8 (fun n j=>I n (D n j)) (r.ins k) (I k C).2 E
 ·rw [O]
  rcases J k d with rfl|⟨_,q⟩
  ·omega
  ·have:=r.fresh k q;omega
 ·have T:=(t a).1 N
  have oI:=(t b).1 s;rw [f a (D a T.aH),f b (D b oI.aH)] at B;exact r.apart a b T oI B
 ·show a∈h.al.get [] _/\_
  rcases J a N with rfl|⟨X,q⟩<;>rcases J b s with rfl|⟨Z,E⟩
  ·exact absurd rfl mn
  ·rw [F,f b Z] at B;have:=(r.mX b E).1
   all_goals grind
  ·rw [F,f a X] at B;have:=(r.mX a q).1
   all_goals grind
  ·rw [f a X] at B⊢;rw [f b Z] at B;exact r.mem a b q E B mn
 ·rw [O]
  rcases J k d with rfl|⟨C,q⟩
  ·simp_all
  ·rw [f k C];have:=r.mX k q
   all_goals grind
 ·by_cases C:k=h.nx
  ·subst C;rw [F];exact trivial
  ·rw [f k C];exact yT u (r.ins k)
 ·obtain ⟨q,E⟩:=r.qN g l hg
  exact ⟨q,fun n j=>E n ((t n).1 j)⟩
 ·by_cases e:n=h.nx
  ·subst e
   rw [F] at j;cases j;rw [Q];exact hs w2 fun b s M d=>W b s M fun k H=>d k ((t k).1 H)
  ·rw [f n e] at j
   have:p.v n=m.v n:=by unfold Mp.v;rw [(I n e).2]
   rw [this];exact r.jt n i j w2 fun b s M d=>W b s M fun k H=>d k ((t k).1 H)
omit [aJ] in
def ze.mono {f:Mp} {e:aP} {Φ:World->Prop} (j:ze S m h w Φ) (l: ∀n,bk e n↔bk h n) (o: ∀n,bk h n->f.b n=m.b n):ze S f e w Φ:=fun w' d=>j w' fun b g i p=>d b g i fun k q=>by simp_all
structure Laid (G:gI) (S:Nat->Prop) (m:Mp) (h:aP) (w:World) (m':Mp) (h':aP):Prop where
 rep:bV G S m' h' w
 goes:Goes m h w m' h' w
 GJ: ∀n,bk h' n↔bk h n
 df:h'.df=h.df
def Laid.refl (r:bV G S m h w):Laid G S m h w m h:=⟨r,Goes.refl ..,fun _=>jY,rfl⟩
def Laid.trans {f g:Mp} {d e:aP} (r:bV G S m h w) (a:Laid G S m h w f d) (b:Laid G S f d w g e):Laid G S m h w g e:=
 ⟨b.rep,Goes.trans r a.rep a.goes b.goes,fun n=>(b.GJ n).trans (a.GJ n),b.df.trans a.df⟩
def Laid.keeps {e:Mp} {d:aP} {Φ:World->Prop} (r:bV G S m h w) (a:Laid G S m h w e d) (f:ze S m h w Φ):ze S e d w Φ:=
 f.mono a.GJ fun n g=>(a.goes.agree n (r.fresh n g.aH)).1
mutual
theorem abL: ∀(p:ai) (x:Value) (m:Mp) (h:aP) (_:bV G S m h w),oN p=true->ze S m h w (fun w'=>Mt G w' p x)-> ∃i,γ i (sP p h).1=x/\In (aH (sP p h).2) (sP p h).1/\Laid G S m h w i (sP p h).2
 | .atom q,x,m,h,r,_,d=>by
  have E:x.oneCell'=true:=(d w fun _ _ _ _=>rfl).1;obtain ⟨i,a1,a2,j,u,B⟩:=r.gH E (id:=q.num) fun w' f=>(d w' f).2
  exact ⟨i,a1,u,a2,j,B,rfl⟩
 | .agg l,x,m,h,r,g,d=>by
  obtain ⟨vs,rfl,_⟩: ∃vs,x= .agg ⟨vs⟩/\pZ G w l vs:=d w fun _ _ _ _=>rfl
  obtain ⟨i,a1,a2,j⟩:=Lz l vs m h r g fun w' f=>by
   obtain ⟨s,e,q⟩:=d w' f;cases e;exact q
  exact ⟨i,by simp only [sP,γ,a1],a2,j⟩
 | .fm l,x,m,h,r,g,d=>by
  obtain ⟨vs,rfl,_⟩: ∃vs,x= .tuple ⟨vs⟩/\pZ G w l vs:=d w fun _ _ _ _=>rfl
  obtain ⟨i,a1,a2,j⟩:=Lz l vs m h r g fun w' f=>by
   obtain ⟨s,e,q⟩:=d w' f;cases e;exact q
  exact ⟨i,by simp only [sP,γ,a1],a2,j⟩
 | .sym _,x,m,h,r,g,d=>⟨m,(d w fun _ _ _ _=>rfl).symm,trivial,.refl r⟩
 | .int _ _,x,m,h,r,g,d=>⟨m,(d w fun _ _ _ _=>rfl).symm,trivial,.refl r⟩
 | .bool _,x,m,h,r,g,d=>⟨m,(d w fun _ _ _ _=>rfl).symm,trivial,.refl r⟩
 | .str _,x,m,h,r,g,d=>⟨m,(d w fun _ _ _ _=>rfl).symm,trivial,.refl r⟩
 | .j7,x,m,h,r,g,d=>⟨m,(d w fun _ _ _ _=>rfl).symm,trivial,.refl r⟩
 | .wK,x,m,h,r,g,d=>⟨m,(d w fun _ _ _ _=>rfl).symm,trivial,.refl r⟩
 | .nilFunc,x,m,h,r,g,d=>⟨m,(d w fun _ _ _ _=>rfl).symm,trivial,.refl r⟩
 | .ptr _ _,_,_,_,_,h,_=>by cases h
 | .jm _ _ _ _,_,_,_,_,h,_=>by cases h
 | .vu,_,_,_,_,h,_=>by cases h
 | .map _,_,_,_,_,h,_=>by cases h
 | .func a b l,x,m,h,r,g,d=>by
  obtain ⟨vs,rfl,_⟩: ∃vs,x= .func a #[] ⟨vs⟩/\pZ G w l vs:=d w fun _ _ _ _=>rfl
  have o:RZ a b=true/\jo l=true:=by simpa [oN] using g
  obtain ⟨i,a1,a2,j⟩:=Lz l vs m h r o.2 fun w' f=>by
   obtain ⟨s,e,q⟩:=d w' f;cases e;exact q
  have F:=aq4 o.1;subst F;exact ⟨i,by simp only [sP,γ,aW,a1],⟨trivial,a2⟩,j⟩
 | .iface _ _,_,_,_,_,h,_=>by cases h
 | .nilIface,_,_,_,_,h,_=>by cases h
 | .CT _,_,_,_,_,h,_=>by cases h
 | .yK _,_,_,_,_,h,_=>by cases h
theorem Lz: ∀(l:List ai) (vs:List Value) (m:Mp) (h:aP) (_:bV G S m h w),jo l=true->ze S m h w (fun w'=>pZ G w' l vs)-> ∃i,aW i (j9 l h).1=vs/\jn (aH (j9 l h).2) (j9 l h).1/\Laid G S m h w i (j9 l h).2
 | [],vs,m,h,r,_,d=>by
  have e:vs= []:=d w fun _ _ _ _=>rfl
  subst e;exact ⟨m,rfl,trivial,.refl r⟩
 |p::l,vs,m,h,r,g,d=>by
  have o:oN p=true/\jo l=true:=by simpa [jo] using g
  obtain ⟨v,s,rfl,_,_⟩:=d w fun _ _ _ _=>rfl
  obtain ⟨I,a1,a2,j⟩:=abL p v m h r o.1 fun w' f=>by
   obtain ⟨_,_,e,q,_⟩:=d w' f;cases e;exact q
  obtain ⟨J,b1,C,t⟩:=Lz l s I (sP p h).2 j.rep o.2 (j.keeps r fun w' f=>by
   obtain ⟨_,_,e,_,q⟩:=d w' f;cases e;exact q)
  refine ⟨J,?_,⟨rN t.goes.old _ a2,C⟩,j.trans r t⟩;simp only [j9,aW];rw [b1,EH (D:=aH (sP p h).2) (fun n H=>t.goes.agree n (j.rep.fresh n H)) _ a2,a1]
end
mutual
theorem R0 (r:bV G S m h w): ∀(p v:ai),oN p=true->In (aH h) v->fits h p v=true->ze S m h w fun w'=>Mt G w' p (γ m v)
 | .atom q,v,_,hi,d=>by
  cases v<;>try (cases d;done)
  rename_i n;have j:(match (h.at n).obj with| .gH id=>Nat.beq id q.num|_=>false)=true:=d;cases o:(h.at n).obj<;>rw [o] at j<;>try (cases j;done)
  rename_i id;have e:=Nat.eq_of_beq_eq_true j;intro w' f;exact ⟨(m.v n).one,by rw [<-e];exact r.jt n id o w' f⟩
 | .agg l,v,o,hi,d=>by
  cases v<;>try (cases d;done)
  rename_i g;intro w' f;exact ⟨_,rfl,Oh r l g o hi d w' f⟩
 | .fm l,v,o,hi,d=>by
  cases v<;>try (cases d;done)
  rename_i g;intro w' f;exact ⟨_,rfl,Oh r l g o hi d w' f⟩
 | .sym i,v,_,_,d=>fun _ _=>by have:=ai.pX (.sym i) v d;subst this;rfl
 | .int k z,v,_,_,d=>fun _ _=>by have:=ai.pX (.int k z) v d;subst this;rfl
 | .bool b,v,_,_,d=>fun _ _=>by have:=ai.pX (.bool b) v d;subst this;rfl
 | .str s,v,_,_,d=>fun _ _=>by have:=ai.pX (.str s) v d;subst this;rfl
 | .j7,v,_,_,d=>fun _ _=>by have:=ai.pX .j7 v d;subst this;rfl
 | .wK,v,_,_,d=>fun _ _=>by have:=ai.pX .wK v d;subst this;rfl
 | .nilFunc,v,_,_,d=>fun _ _=>by have:=ai.pX .nilFunc v d;subst this;rfl
 | .ptr _ _,_,h,_,_=>by cases h
 | .jm _ _ _ _,_,h,_,_=>by cases h
 | .vu,_,h,_,_=>by cases h
 | .map _,_,h,_,_=>by cases h
 | .func a b l,v,o,hi,d=>by
  cases v<;>try (cases d;done)
  rename_i C D g;have j:cond (RY a C b D) (BR h l g) false=true:=d;cases u:RY a C b D with
  |false=>rw [u] at j;cases j
  |true=>
   rw [u] at j;obtain ⟨rfl,rfl,rfl⟩:=aq3 u;have t:RZ a []=true/\jo l=true:=by simpa [oN] using o
   intro w' f;exact ⟨_,by simp only [γ,aW],Oh r l g t.2 hi.2 j w' f⟩
 | .iface _ _,_,h,_,_=>by cases h
 | .nilIface,_,h,_,_=>by cases h
 | .CT _,_,h,_,_=>by cases h
 | .yK _,_,h,_,_=>by cases h
theorem Oh (r:bV G S m h w): ∀(l g:List ai),jo l=true->jn (aH h) g->BR h l g=true->ze S m h w fun w'=>pZ G w' l (aW m g)
 | [],g,_,_,d=>by
  cases g with
  |nil=>exact fun _ _=>rfl
  |cons _ _=>cases d
 |p::l,g,o,hi,d=>by
  cases g with
  |nil=>cases d
  |cons v g=>
   have t:oN p=true/\jo l=true:=by simpa [jo] using o
   have j:cond (fits h p v) (BR h l g) false=true:=d;cases B:fits h p v with
   |false=>rw [B] at j;cases j
   |true=>
    rw [B] at j;exact fun w' f=>⟨_,_,rfl,R0 r p v t.1 hi.1 B w' f,Oh r l g t.2 hi.2 j w' f⟩
end
def abM {E:Env} {T:List rT} (hA: ∀w v v',E.gl.jt 0 w v->E.gl.jt 0 w v') (J: ∀e∈T,ub P E.gl e/\jo e.args=true):tr P E (ES T):=by
 have t: ∀p h,(sP p h).2.df=h.df:=by
  intro p;exact ai.rec (motive_1:=fun p=> ∀h,(sP p h).2.df=h.df) (motive_2:=fun l=> ∀h,(j9 l h).2.df=h.df)
   (fun _ _ _=>rfl) (fun _ _=>rfl) (fun _ _ _=>rfl) (fun _ _ _ _ _=>rfl) (fun _ _=>rfl) (fun l j h=>j h) (fun l j h=>j h) (fun _=>rfl) (fun _=>rfl) (fun _=>rfl) (fun _ _=>rfl)
   (fun _ _ _ _ j h=>j h) (fun _=>rfl) (fun _ _ _ _=>rfl) (fun _=>rfl) (fun _ _=>rfl) (fun _ _=>rfl) (fun _ _=>rfl) (fun _ _=>rfl)
   (fun _=>rfl) (fun p l D C h=>(C _).trans (D h)) p
 intro f args h v h' e
 induction T with
 |nil=>cases e
 |cons d T j=>
  have i:cond (Nat.beq d.f f) (cond (BR h d.args args) (cond (Ly h&&oN d.res) (VR.ok (sP d.res h).1 (sP d.res h).2) .fail) (ES T f args h)) (ES T f args h)= .ok v h':=e;have AH: ∀e∈T,ub P E.gl e/\jo e.args=true:=fun x B=>J x (aw _ B)
  cases M:Nat.beq d.f f with
  |false=>simp_all
  |true=>
   rw [M] at i;cases H:BR h d.args args with
   |false=>simp_all
   |true=>
    rw [H] at i;simp only [cond_true] at i;cases q:(Ly h&&oN d.res) with
    |false=>simp_all
    |true=>
     rw [q] at i;simp only [cond_true] at i;cases i;have mq:=bE M;subst mq;obtain ⟨kU,rQ⟩:=J d (aC ..);simp only [aq] at q;refine ⟨t _ _,fun S m w r Y hdd=> ?_⟩;have U:(h.at (pos 1)).obj= .gH 0:=by
      have:=q.1;unfold Ly at this
      all_goals grind
     have s: ∀k,bk h k->m.b k<w.heap.size:=fun k o=>r.ahz o
     have hS: ∀b,¬(b<w.heap.size/\(S b\/ ∃k,bk h k/\m.b k=b))->b<w.heap.size-> ¬S b/\ ∀k,bk h k->m.b k≠b:=fun b g s=>
      ⟨fun h=>g ⟨s,.inl h⟩,fun k o e=>g ⟨s,.inr ⟨k,o,e⟩⟩⟩
     refine (kU (fun b=>b<w.heap.size/\(S b\/ ∃k,bk h k/\m.b k=b)) w (aW m args) (fun b g=>g.1) (fun w' u v=>hA _ _ _ (r.jt _ _ U w' fun b g h1 h2=> ?_)) (fun w' u=>Oh r _ _ rQ Y H w' fun b g h1 h2=> ?_)).mono fun ex w' ⟨x,B,Z,F⟩=> ?_
     ·simp_all
     ·simp_all
     ·have Q:=r.stays F
      obtain ⟨m',W,X,I⟩:=abL d.res x m h Q q.2 fun w2 i6=>Z w2 fun b g N=>i6 b g
       (fun O=>N ⟨r.lim b O,.inl O⟩) fun k o e=>N ⟨by grind,.inr ⟨k,o,e⟩⟩
      exact ⟨m',by rw [W];exact B,I.rep,Goes.trans r Q (aq5 F) I.goes,X⟩
def uO:aP:=(qs 1).new (.gH 0)
def ahC (E:Env) (T:List rT) (f:FuncId) (pats:List ai):VR:=(K6 E f).f (ES T) (j9 pats uO).1 (j9 pats uO).2
def abN (E:Env) (T:List rT) (f:FuncId) (pats:List ai) (res:ai):Bool:=VR.casesOn (ahC E T f pats) (fun v h=>fits h res v) false
def aq6 (qx:P.follows .mixedOrders=true) {F:List Fact} {T:List rT} (U: ∀w v v',G.jt 0 w v->G.jt 0 w v') (hg:G.g=fun _=>none) (W: ∀f∈F,mZ f) (X:N5 G)
 (Y: ∀e∈T,ub P G e/\jo e.args=true) {f:FuncId} {pats:List ai} {res:ai} (hp:jo pats=true) (hr:oN res=true)
 (h:abN (Env.sy P G F) T f pats res=true):ub P G ⟨f,pats,res⟩:=by
 intro S w dW t J qT;have ok:=Wo P G F W X;have kV:tr P (Env.sy P G F) (ES T):=abM U Y;have B:=Wn ok (GG qx ok) kV;unfold abN at h;cases D:ahC (Env.sy P G F) T f pats with
 |fail=>rw [D] at h;cases h
 |ok v H=>
  rw [D] at h;have Q:fits H res v=true:=h;have r0:bV G S Og (qs 1) w:=
   {blk:=fun n i=>absurd i (tz 1 n)
    fresh:=fun n i=>absurd i (wV 1 n)
    apart:=fun n k i=>absurd i (tz 1 n)
    mem:=fun n k i=>absurd i (wV 1 n)
    mX:=fun n i=>absurd i (wV 1 n)
    ins:=fun n=>by rw [GH];exact trivial
    qN:=fun g l I=>by rw [hg] at I;cases I
    jt:=fun n id i=>by rw [GH] at i;cases i
    lim:=t}
  obtain ⟨m1,_,r1,g1,_,b1⟩:=r0.gH (id:=0) (x:= .nilFunc) rfl fun w' p=>J w' (fun b j s=>p b j s fun k o=>absurd o (tz 1 k)) _
  have E: ∀k,¬bk uO k:=fun k o=>tz 1 k ((b1 k).1 o)
  obtain ⟨m2,M,N,u⟩:=Lz pats dW m1 uO r1 hp fun w' p=>qT w' fun b j s=>p b j s fun k o=>absurd o (E k)
  have C: ∀k,¬bk (j9 pats uO).2 k:=fun k o=>E k ((u.GJ k).1 o)
  have zb:(j9 pats uO).2.df= []:=u.df;have:=(B f _ _ v H D).2 S m2 w u.rep N (fun d hd=>by simp_all);rw [M] at this;refine this.mono fun en w' ⟨m',Z,r',q,O⟩=>⟨_,Z,fun w2 i6=> ?_,⟨q.os,q.tape,q.output,q.size,fun b j=>q.xZ b j fun n i=>absurd i (C n)⟩⟩
  exact R0 r' res v hr O Q w2 fun b j s _=>i6 b j s
end
end
section
variable {ri:aJ}
def Own (base:Nat) (w:World) (Φ:World->Prop):Prop:= ∀w',(∀b,base<=b->b<w.heap.size->w'.heap[b]? =w.heap[b]?)->Φ w'
def wW:List (World->Value->Prop)->World->List Value->Prop
 | [],_,d=>d= []
 |R::Rs,w,d=> ∃v e,d=v::e/\R w v/\wW Rs w e
def bH (P:Program) (A:World->Prop) (f:FuncId) (Rs:List (World->Value->Prop)) (R:World->Value->Prop):Prop:=
 ∀(S:Nat->Prop) (w:World) (dW:List Value),(∀b,S b->b<w.heap.size)->jw S w A->jw S w (fun w'=>wW Rs w' dW)->
  Calls P f ⟨dW⟩ w fun d w'=> ∃x,d= .returned x/\jw S w' (fun e=>R e x)/\RowKit.Below w.heap.size w w'
section
variable {P:Program} {A:World->Prop} {aF1:List (World->Value->Prop)} {lens:List (Option ai)}
def ahD {S:Nat->Prop} {w:World} {Φ:World->Prop} (h:jw S w Φ):Φ w:=h w fun _ _ _=>rfl
def abQ {f:FuncId} {Rs:List (World->Value->Prop)} {R:World->Value->Prop}
 (h: ∀w dW,wW Rs w dW->A w->Calls P f ⟨dW⟩ w fun g w'=> ∃x,g= .returned x/\Own w.heap.size w' (fun e=>R e x)/\RowKit.Below w.heap.size w w'):bH P A f Rs R:=fun S w dW d p u=>by
 refine (h w dW (ahD u) (ahD p)).mono ?_;rintro g w' ⟨x,j,l,o⟩;exact ⟨x,j,fun e t=>l e fun b q i=>t b i fun s=>bQ _ (ax (d b s) q),o⟩
variable {G:gI} {p1 p2 p3 p4:ai} {R1 R2 R3 R4:World->Value->Prop}
def fq [aJ] (G:gI) (R:World->Value->Prop) (p:ai):Prop:= ∀w v,R w v->Mt G w p v
def fB [aJ] (G:gI) (p:ai) (R:World->Value->Prop):Prop:= ∀w v,Mt G w p v->R w v
def jN: ∀w d,wW [] w d->pZ G w [] d:=fun _ _ h=>h
def fF {p:ai} {R:World->Value->Prop} {ps:List ai} {Rs:List (World->Value->Prop)} (h:fq G R p) (i: ∀w d,wW Rs w d->pZ G w ps d): ∀w d,wW (R::Rs) w d->pZ G w (p::ps) d:=by
 rintro w d ⟨v,e,rfl,f,g⟩;exact ⟨v,e,rfl,h w v f,i w e g⟩
def db: ∀w d,pZ G w [] d->wW [] w d:=fun _ _ h=>h
def bN {p:ai} {R:World->Value->Prop} {ps:List ai} {Rs:List (World->Value->Prop)} (h:fB G p R) (i: ∀w d,pZ G w ps d->wW Rs w d): ∀w d,pZ G w (p::ps) d->wW (R::Rs) w d:=by
 rintro w d ⟨v,e,rfl,f,g⟩;exact ⟨v,e,rfl,h w v f,i w e g⟩
def bj (x:Value):World->Value->Prop:=fun _ v=>v=x
def zf {k:IntKind} {z:Int} :fB G (.int k z) (bj (.int k z)):=fun _ _ e=>e
def pk {b:Bool} :fq G (bj (.bool b)) (.bool b):=fun _ _ e=>e
def jS {b:Bool} :fB G (.bool b) (bj (.bool b)):=fun _ _ e=>e
def pF (R1 R2:World->Value->Prop):World->Value->Prop:=fun w v=> ∃a b,v= .tuple #[a,b]/\R1 w a/\R2 w b
def R8 (d:fq G R1 p1) (e:fq G R2 p2):fq G (pF R1 R2) (.fm [p1,p2]):=by
 rintro w v ⟨a,b,rfl,f,g⟩;exact ⟨[a,b],rfl,a,[b],rfl,d w a f,b,[],rfl,e w b g,rfl⟩
def EU (d:fB G p1 R1) (e:fB G p2 R2):fB G (.fm [p1,p2]) (pF R1 R2):=by
 rintro w v ⟨l,rfl,a,j,rfl,f,b,i,rfl,g,rfl⟩;exact ⟨a,b,rfl,d w a f,e w b g⟩
def EV (R1 R2 R3:World->Value->Prop):World->Value->Prop:=fun w v=> ∃a b c,v= .tuple #[a,b,c]/\R1 w a/\R2 w b/\R3 w c
def BS (d:fq G R1 p1) (e:fq G R2 p2) (f:fq G R3 p3):fq G (EV R1 R2 R3) (.fm [p1,p2,p3]):=by
 rintro w v ⟨a,b,c,rfl,g,i,hc⟩;exact ⟨[a,b,c],rfl,a,[b,c],rfl,d w a g,b,[c],rfl,e w b i,c,[],rfl,f w c hc,rfl⟩
def EW (d:fB G p1 R1) (e:fB G p2 R2) (f:fB G p3 R3):fB G (.fm [p1,p2,p3]) (EV R1 R2 R3):=by
 rintro w v ⟨p,rfl,a,o,rfl,g,b,l,rfl,i,c,j,rfl,hc,rfl⟩;exact ⟨a,b,c,rfl,d w a g,e w b i,f w c hc⟩
variable {a b c:ai} {x y z:Int} {k:IntKind}
def LB (k:IntKind) (n:Int):oZ k n=some (.int k n):=by
 cases n with
 |ofNat m=>cases m<;>rfl
 |negSucc m=>cases m<;>rfl
def R9 {d:BinOp} (hc:x9 c=true) (e: ∀m,γ m a= .int k x) (f: ∀m,γ m b= .int k y) (i: ∀m,γ m c= .int k z) (g:sO (.bin d) k k x y=some (.int k z)):mZ ⟨.bin d,a,b,c⟩:=
 ⟨hc,k,k,x,y,_,e,f,g,i⟩
def AL (k:IntKind):nM k k=true:=(BC k k).2 rfl
def Oj (hc:x9 c=true) (d: ∀m,γ m a= .int k x) (e: ∀m,γ m b= .int k y) (g: ∀m,γ m c= .int k z) (f:k.wrap (x+y)=z):mZ ⟨.bin .add,a,b,c⟩:=
 R9 hc d e g (by simp only [sO,AL,cond_true,vy];rw [LB,yb,afZ,f])
def abR (hc:x9 c=true) (d: ∀m,γ m a= .int k x) (e: ∀m,γ m b= .int k y) (g: ∀m,γ m c= .int k z) (f:k.wrap (x-y)=z):mZ ⟨.bin .sub,a,b,c⟩:=
 R9 hc d e g (by simp only [sO,AL,cond_true,vy];rw [LB,yb,Rm,f])
def aq7 (hc:x9 c=true) (d: ∀m,γ m a= .int k x) (e: ∀m,γ m b= .int k y) (g: ∀m,γ m c= .int k z) (f:k.wrap (x*y)=z):mZ ⟨.bin .mul,a,b,c⟩:=
 R9 hc d e g (by simp only [sO,AL,cond_true,vy];rw [LB,yb,aaO,f])
def aq8 (hc:x9 c=true) (e: ∀m,γ m a= .int k x) (f: ∀m,γ m b= .int k y) (i: ∀m,γ m c= .int k z) (d:y≠0) (g:x.tmod y=z):mZ ⟨.bin .rem,a,b,c⟩:=
 R9 hc e f i (by simp only [sO,AL,cond_true,vy];rw [BF,decide_eq_false d,cond_false,LB,af1,g])
def aq9 (hc:x9 c=true) (e: ∀m,γ m a= .int k x) (f: ∀m,γ m b= .int k y) (i: ∀m,γ m c= .int k z) (d:y≠0) (g:k.wrap (x.tdiv y)=z):mZ ⟨.bin .quo,a,b,c⟩:=
 R9 hc e f i (by simp only [sO,AL,cond_true,vy];rw [BF,decide_eq_false d,cond_false,LB,yb,af0,g])
def WI (hc:x9 c=true) (d: ∀m,γ m a= .int k x) (f: ∀m,γ m c= .int k z) (e:k.wrap (-x)=z):mZ ⟨.neg,a,a,c⟩:=
 ⟨hc,k,k,x,x,.int k z,d,d,by simp only [sO];rw [LB,yb,Rm,Int.zero_sub,e],f⟩
def WJ {j:IntKind} (hc:x9 c=true) (d: ∀m,γ m a= .int k x) (f: ∀m,γ m c= .int j z) (e:j.wrap x=z):mZ ⟨.conv j,a,a,c⟩:=
 ⟨hc,k,k,x,x,.int j z,d,d,by simp only [sO];rw [LB,yb,e],f⟩
def ara (hc:x9 c=true) (d: ∀m,γ m a= .int k x) (e: ∀m,γ m b= .int k y) (f: ∀m,γ m c= .int k z) (g:max x y=z):mZ ⟨.mx true,a,b,c⟩:=
 ⟨hc,k,k,x,y,.int k z,d,e,by
  simp only [sO,AL,cond_true,BJ]
  all_goals grind,f⟩
def ahE (hc:x9 c=true) (d: ∀m,γ m a= .int k x) (e: ∀m,γ m b= .int k y) (f: ∀m,γ m c= .int k z) (g:min x y=z):mZ ⟨.mx false,a,b,c⟩:=
 ⟨hc,k,k,x,y,.int k z,d,e,by
  simp only [sO,AL,cond_true,cond_false,BJ]
  all_goals grind,f⟩
variable {r:Bool}
def BT (d: ∀m,γ m a= .int k x) (e: ∀m,γ m b= .int k y) (f:decide (x<y)=r):mZ ⟨.bin .lss,a,b,.bool r⟩:=
 ⟨rfl,k,k,x,y,.bool r,d,e,by simp only [sO,AL,cond_true,vy];rw [BJ,f],fun _=>rfl⟩
def GL (d: ∀m,γ m a= .int k x) (e: ∀m,γ m b= .int k y) (f:decide (y<x)=r):mZ ⟨.bin .gtr,a,b,.bool r⟩:=
 ⟨rfl,k,k,x,y,.bool r,d,e,by simp only [sO,AL,cond_true,vy];rw [BJ,f],fun _=>rfl⟩
def EX (d: ∀m,γ m a= .int k x) (e: ∀m,γ m b= .int k y) (f:decide (x<=y)=r):mZ ⟨.bin .leq,a,b,.bool r⟩:=
 ⟨rfl,k,k,x,y,.bool r,d,e,by
  simp only [sO,AL,cond_true,vy];rw [BJ,<-f]
  all_goals grind,fun _=>rfl⟩
def Sa (d: ∀m,γ m a= .int k x) (e: ∀m,γ m b= .int k y) (f:decide (y<=x)=r):mZ ⟨.bin .geq,a,b,.bool r⟩:=
 ⟨rfl,k,k,x,y,.bool r,d,e,by
  simp only [sO,AL,cond_true,vy];rw [BJ,<-f]
  all_goals grind,fun _=>rfl⟩
def ud (d: ∀m,γ m a= .int k x) (e: ∀m,γ m b= .int k y) (f:decide (x=y)=r):mZ ⟨.bin .eql,a,b,.bool r⟩:=
 ⟨rfl,k,k,x,y,.bool r,d,e,by simp only [sO,AL,cond_true,vy];rw [BF,f],fun _=>rfl⟩
def BU (d: ∀m,γ m a= .int k x) (e: ∀m,γ m b= .int k y) (f:decide (x≠y)=r):mZ ⟨.bin .neq,a,b,.bool r⟩:=
 ⟨rfl,k,k,x,y,.bool r,d,e,by
  simp only [sO,AL,cond_true,vy];rw [BF,<-f]
  all_goals grind,fun _=>rfl⟩
def jT: ∀f∈([]:List Fact),mZ f:=fun _ h=>by cases h
def eZ {f:Fact} {l:List Fact} (h:mZ f) (e: ∀f∈l,mZ f): ∀g∈f::l,mZ g:=fun g d=>by
 grind
def jU: ∀e∈([]:List rT),ub P G e/\jo e.args=true:=fun _ h=>by cases h
def dh {e:rT} {l:List rT} (h:ub P G e) (i:jo e.args=true) (f: ∀e∈l,ub P G e/\jo e.args=true): ∀g∈e::l,ub P G g/\jo g.args=true:=fun g d=>by
 grind
end
structure Slot where
 jt:World->Value->Prop
 one: ∀w v,jt w v->v.oneCell'=true
 v0:vC
 v1:vC
 v2:vC
 len:Bool
 hl:len=true-> ∀w v,jt w v-> ∃ad k c,v= .slice ad k c/\v2.v= .int .i64 (k:Nat)
def ahF:Slot:=⟨fun _ _=>False,fun _ _ h=>h.elim,default,default,default,false,fun h=>by cases h⟩
def kX:List Slot->Nat->Slot
 | [],_=>ahF
 |s::_,0=>s
 |_::l,n+1=>kX l n
def cP (L:List Slot):Nat->vC:=fun i=>match i % 3 with
 |0=>(kX L (i/3)).v0
 |1=>(kX L (i/3)).v1
 |_=>(kX L (i/3)).v2
def arb (A:World->Prop) (L:List Slot):Nat->World->Value->Prop
 |0=>fun w _=>A w
 |k+1=>(kX L k).jt
def arc (L:List Slot):Nat->Option ai
 |0=>none
 |k+1=>cond (kX L k).len (some (.sym (3*k+2))) none
def fC (A:World->Prop) (L:List Slot):gI:=⟨fun _=>none,arb A L,arc L⟩
def sA (j:Nat):ai:= .atom (pos j)
def s0 (j:Nat):ai:= .sym (3*j)
def s2 (j:Nat):ai:= .sym (3*j+2)
def ard (j:Nat):(pos j).num=j+1:=by rw [RM,afK]
section
variable {L:List Slot} {A:World->Prop} {P:Program}
def abS (j:Nat):cP L (3*j)=(kX L j).v0:=by
 unfold cP
 all_goals grind
def ahG (j:Nat):cP L (3*j+2)=(kX L j).v2:=by
 unfold cP
 all_goals grind
def ahH (j:Nat):(fC A L).jt (pos j).num=(kX L j).jt:=by rw [ard];rfl
def abT: @N5 ⟨cP L⟩ (fC A L):=fun id a h=>by
 cases id with
 |zero=>cases h
 |succ k=>
  have d:cond (kX L k).len (some (ai.sym (3*k+2))) none=some a:=h;cases e:(kX L k).len with
  |false=>rw [e] at d;cases d
  |true=>
   rw [e] at d;cases d;refine ⟨rfl,fun w v j=> ?_⟩;obtain ⟨f,n,c,g,i⟩:=(kX L k).hl e w v j;exact ⟨f,n,c,g,fun m=>by show (cP L (3*k+2)).v=_;rw [ahG];exact i⟩
def jV (L:List Slot) (E:P.follows .mixedOrders=true) {F:List Fact} {T:List rT} {f:FuncId} {pats:List ai} {res:ai} {Rs:List (World->Value->Prop)} {R:World->Value->Prop}
 (h:abN (Env.sy P (fC A L) F) T f pats res=true) (t: ∀f∈F,@mZ ⟨cP L⟩ f) (u: ∀e∈T,@ub ⟨cP L⟩ P (fC A L) e/\jo e.args=true) (i:(jo pats&&oN res)=true)
 (l: ∀w j,wW Rs w j-> @pZ ⟨cP L⟩ (fC A L) w pats j) (C: ∀w v,@Mt ⟨cP L⟩ (fC A L) w res v->R w v):bH P A f Rs R:=fun S w dW g s D=>by
 simp only [aq] at i;have e:= @aq6 ⟨cP L⟩ P (fC A L) E F T (fun _ _ _ h=>h) rfl t abT u f pats res i.1 i.2 h;refine (e S w dW g (fun w' d v=>s w' d) fun w' d=>l _ _ (D w' d)).mono ?_;rintro I w' ⟨x,o,p,q⟩;exact ⟨x,o,fun H B=>C _ _ (p H B),q⟩
def di {f:FuncId} {pats:List ai} {res:ai} {Rs:List (World->Value->Prop)} {R:World->Value->Prop} (h:bH P A f Rs R)
 (i: ∀w g,@pZ ⟨cP L⟩ (fC A L) w pats g->wW Rs w g) (s: ∀w v,R w v-> @Mt ⟨cP L⟩ (fC A L) w res v): @ub ⟨cP L⟩ P (fC A L) ⟨f,pats,res⟩:=fun S w dW e p t=>by
 refine (h S w dW e (fun w' d=>p w' d .nilFunc) fun w' d=>i _ _ (t w' d)).mono ?_;rintro B w' ⟨x,j,l,o⟩;exact ⟨x,j,fun u q=>s _ _ (l u q),o⟩
def dF (v:vC):Slot:=⟨fun _ _=>False,fun _ _ h=>h.elim,v,default,default,false,fun h=>by cases h⟩
def dC (k:IntKind) (z:Int):vC:=⟨.int k z,rfl⟩
def ahI (b:Bool):vC:=⟨.bool b,rfl⟩
def dp {j:Nat} {x:Value} (h:(kX L j).v0.v=x): ∀m:Mp,@γ ⟨cP L⟩ m (s0 j)=x:=fun m=>by
 show (cP L (3*j)).v=x;rw [abS];exact h
def BV {j:Nat} {x:Value} (h:(kX L j).v2.v=x): ∀m:Mp,@γ ⟨cP L⟩ m (s2 j)=x:=fun m=>by
 show (cP L (3*j+2)).v=x;rw [ahG];exact h
def iQ {j:Nat} {x:Value} (h:(kX L j).v0.v=x): @fq ⟨cP L⟩ (fC A L) (bj x) (s0 j):=fun w v e=>by
 show v=(cP L (3*j)).v;rw [abS,h];exact e
def tA {j:Nat} {x:Value} (h:(kX L j).v0.v=x): @fB ⟨cP L⟩ (fC A L) (s0 j) (bj x):=fun w v e=>by
 have d:v=(cP L (3*j)).v:=e;rw [abS,h] at d;exact d
def ahJ {j:Nat} {R:World->Value->Prop} (h:(kX L j).jt=R): @fq ⟨cP L⟩ (fC A L) R (sA j):=fun w v e=>
 ⟨(kX L j).one w v (by rw [h];exact e),by rw [ahH,h];exact e⟩
def ahK {j:Nat} {R:World->Value->Prop} (h:(kX L j).jt=R): @fB ⟨cP L⟩ (fC A L) (sA j) R:=fun w v e=>by
 have:=e.2;rw [ahH,h] at this;exact this
def ahL (R1 R2:World->Value->Prop):World->Value->Prop:=fun w v=> ∃a b,v= .agg #[a,b]/\R1 w a/\R2 w b
def ahM (R1 R2 R3:World->Value->Prop):World->Value->Prop:=fun w v=> ∃a b c,v= .agg #[a,b,c]/\R1 w a/\R2 w b/\R3 w c
variable {ri:aJ} {G:gI} {p1 p2 p3:ai} {R1 R2 R3 R R':World->Value->Prop}
def ahN (d:fq G R1 p1) (e:fq G R2 p2):fq G (ahL R1 R2) (.agg [p1,p2]):=by
 rintro w v ⟨a,b,rfl,f,g⟩;exact ⟨[a,b],rfl,a,[b],rfl,d w a f,b,[],rfl,e w b g,rfl⟩
def ahO (d:fB G p1 R1) (e:fB G p2 R2):fB G (.agg [p1,p2]) (ahL R1 R2):=by
 rintro w v ⟨l,rfl,a,j,rfl,f,b,i,rfl,g,rfl⟩;exact ⟨a,b,rfl,d w a f,e w b g⟩
def arf (d:fq G R1 p1) (e:fq G R2 p2) (f:fq G R3 p3):fq G (ahM R1 R2 R3) (.agg [p1,p2,p3]):=by
 rintro w v ⟨a,b,c,rfl,g,i,hc⟩;exact ⟨[a,b,c],rfl,a,[b,c],rfl,d w a g,b,[c],rfl,e w b i,c,[],rfl,f w c hc,rfl⟩
def ahP (d:fB G p1 R1) (e:fB G p2 R2) (f:fB G p3 R3):fB G (.agg [p1,p2,p3]) (ahM R1 R2 R3):=by
 rintro w v ⟨p,rfl,a,o,rfl,g,b,l,rfl,i,c,j,rfl,hc,rfl⟩;exact ⟨a,b,c,rfl,d w a g,e w b i,f w c hc⟩
def fq.of {p:ai} (h:fq G R p) (d: ∀w v,R' w v->R w v):fq G R' p:=fun w v e=>h w v (d w v e)
def fB.to {p:ai} (h:fB G p R) (d: ∀w v,R w v->R' w v):fB G p R':=fun w v e=>d w v (h w v e)
end
end
end Go.Ev
namespace Go.Proofs.YthleenhngcdgkaaGreatDoor
section
open Go.RowKit Go.Ev
def arh {w w':World} {base:Nat} {e:TypeId} {i n:Nat} {v:Value} {xs:List Value} (h:w.ownsRow base e i v n xs) (l: ∀b,base<=b->b<w.heap.size->w'.heap[b]? =w.heap[b]?):w'.ownsRow base e i v n xs:=by
 refine ⟨h.1,?_⟩;rcases h.2 with k|⟨g,cap,cur,rfl,a,d,r⟩
 ·exact .inl k
 ·exact .inr ⟨g,cap,cur,rfl,a,(l g a (au.1 d).1).trans d,r⟩
def I6 {w:World} {base:Nat} {v:Value} {n:Nat} (h:nr w base v n):Own base w fun a=>eD a v n:=fun a g=>by
 obtain ⟨l,⟨b,d⟩,e⟩:=h;exact nr.r (base:=base) ⟨l,⟨arh b g,d⟩,e⟩
open Classical in
def m6 (n:Nat):Nat:=if h: ∃l,kT l/\cS l=l.length/\val l=n then (Classical.choose h).length else 0
def ari {l m:List Nat} (a:kT l) (b:kT m) (d:cS l=l.length) (e:cS m=m.length) (g:val l=val m):l.length=m.length:=by
 rcases fS l.length m.length with h|h|h
 ·have:=NA (m:=m) a (by omega);omega
 ·exact h
 ·have:=NA (m:=l) b (by omega);omega
def abU {l:List Nat} (e:kT l) (d:cS l=l.length):m6 (val l)=l.length:=by
 have h: ∃m,kT m/\cS m=m.length/\val m=val l:=⟨l,e,d,rfl⟩;unfold m6;rw [dif_pos h];obtain ⟨a,b,c⟩:=ju h;exact ari a e b d c
def abV:m6 0=0:=abU (l:= []) (fun x a=>by simp at a) rfl
def arj {n:Nat} (h:m6 n=0) (d: ∃l,kT l/\cS l=l.length/\val l=n):n=0:=by
 obtain ⟨l,a,b,rfl⟩:=d;rw [abU a b] at h;rw [b7 h];rfl
def fD (n:Nat):World->Value->Prop:=fun w v=>eD w v n
def ahQ {n:Nat} {w:World} {v:Value} (h:fD n w v): ∃a c,v= .slice a (m6 n) c:=by
 obtain ⟨l,b,d,rfl⟩:=h;obtain ⟨a,c,x,rfl,_⟩:=b.form;exact ⟨a,c,by rw [abU b.2 d]⟩
def ark {n:Nat} (w:World) (v:Value) (h:fD n w v):v.oneCell'=true:=by
 obtain ⟨a,c,rfl⟩:=ahQ h;rfl
def arl {n:Nat} (w:World) (v:Value) (h:fD n w v): ∃b k c,v= .slice b k c/\(dC .i64 (m6 n:Nat)).v= .int .i64 (k:Nat):=by
 obtain ⟨a,c,rfl⟩:=ahQ h;exact ⟨a,_,c,rfl,rfl⟩
def GM (n:Nat) (a b:vC):Slot:=⟨fD n,ark,a,b,dC .i64 (m6 n:Nat),true,fun _=>arl⟩
def nS (n:Nat):Slot:=GM n default default
def iS (z:Int):Slot:=GM z.natAbs (ahI (decide (z<0))) default
def dU (z:Int):World->Value->Prop:=fun w v=>Ew w v z
def iP (j:Nat):ai:= .agg [s0 j,sA j]
def nC (b:Bool) (j:Nat):ai:= .agg [.bool b,sA j]
section
variable {L:List Slot} {A:World->Prop} {j:Nat}
def j' {n:Nat} {a b:vC} (h:kX L j=GM n a b): @fq ⟨cP L⟩ (fC A L) (fD n) (sA j):=ahJ (by rw [h];rfl)
def eC {n:Nat} {a b:vC} (h:kX L j=GM n a b): @fB ⟨cP L⟩ (fC A L) (sA j) (fD n):=ahK (by rw [h];rfl)
def kN {z:Int} (h:kX L j=iS z): @fq ⟨cP L⟩ (fC A L) (dU z) (iP j):=
 letI:aJ:=⟨cP L⟩
 (ahN (iQ (x:= .bool (decide (z<0))) (by rw [h];rfl)) (j' h)).of fun w v ⟨u,e,a⟩=>⟨_,u,e,rfl,a⟩
def jW {z:Int} (h:kX L j=iS z): @fB ⟨cP L⟩ (fC A L) (iP j) (dU z):=
 letI:aJ:=⟨cP L⟩
 (ahO (tA (x:= .bool (decide (z<0))) (by rw [h];rfl)) (eC h)).to fun w v ⟨b,u,e,a,d⟩=>⟨u,by rw [e,show b=_ from a],d⟩
def oB {z:Int} {b:Bool} {x y:vC} (a:decide (z<0)=b) (h:kX L j=GM z.natAbs x y): @fq ⟨cP L⟩ (fC A L) (dU z) (nC b j):=
 letI:aJ:=⟨cP L⟩
 (ahN pk (j' h)).of fun w v ⟨u,e,d⟩=>⟨_,u,e,by rw [<-a];rfl,d⟩
def ahR {z:Int} {b:Bool} {x y:vC} (a:decide (z<0)=b) (h:kX L j=GM z.natAbs x y): @fB ⟨cP L⟩ (fC A L) (nC b j) (dU z):=
 letI:aJ:=⟨cP L⟩
 (ahO jS (eC h)).to fun w v ⟨c,u,e,hc,d⟩=>⟨u,by rw [e,show c=_ from hc,a],d⟩
end
variable {f:FuncId}
def EY {a R:World->Value->Prop} (h: ∀w x,a w x->bw w->Calls Tryz.prog f #[x] w fun g b=> ∃y,g= .returned y/\Own w.heap.size b (fun i=>R i y)/\Below w.heap.size w b):bH Tryz.prog bw f [a] R:=
 abQ fun w dW ⟨x,_,e,l,d⟩ k=>by subst d;simp_all
def vM {a b R:World->Value->Prop} (h: ∀w x y,a w x->b w y->bw w->Calls Tryz.prog f #[x,y] w fun i d=> ∃z,i= .returned z/\Own w.heap.size d (fun k=>R k z)/\Below w.heap.size w d):bH Tryz.prog bw f [a,b] R:=
 abQ fun w dW ⟨x,_,e,o,y,_,l,p,g⟩ m=>by subst g;simp_all
def arn {a b d R:World->Value->Prop} (h: ∀w x y z,a w x->b w y->d w z->bw w->Calls Tryz.prog f #[x,y,z] w fun k g=> ∃u,k= .returned u/\Own w.heap.size g (fun l=>R l u)/\Below w.heap.size w g):bH Tryz.prog bw f [a,b,d] R:=
 abQ fun w dW ⟨x,_,e,q,y,_,m,s,z,_,o,t,i⟩ p=>by subst i;simp_all
def Dd {n:Nat} {w:World} {a:Ending} {w':World} (h:rE n w a w'): ∃y,a= .returned y/\Own w.heap.size w' (fun g=>fD n g y)/\Below w.heap.size w w':=by
 obtain ⟨v,e,b,d⟩:=h;exact ⟨v,e,I6 b,d⟩
def Ol {z:Int} {w:World} {b:Ending} {w':World} (h:F1 z w b w'): ∃y,b= .returned y/\Own w.heap.size w' (fun a=>dU z a y)/\Below w.heap.size w w':=by
 obtain ⟨v,e,⟨u,d,g⟩,i⟩:=h;exact ⟨v,e,fun a k=>⟨u,d,I6 g a k⟩,i⟩
def abW {v:Value} {w:World} {a:Ending} {w':World} (h:Quiet v w a w'): ∃y,a= .returned y/\Own w.heap.size w' (fun b=>bj v b y)/\Below w.heap.size w w':=
 ⟨v,h.1,fun _ _=>rfl,h.2⟩
def abX {v:Value} {w:World} {a:Ending} {w':World} (h:wG v w a w'): ∃y,a= .returned y/\Own w.heap.size w' (fun b=>bj v b y)/\Below w.heap.size w w':=by
 obtain ⟨e,rfl⟩:=h;exact ⟨v,e,fun _ _=>rfl,aG _ _⟩
def mix:Tryz.prog.follows .mixedOrders=true:=by kernel_rfl
def abY {w:World} {x:Value} {n:Nat} (h:fD n w x) (a:Sm n): ∃l,jj w x l/\cS l=l.length/\val l=n/\l.length<=1000000:=eD.lim h a
section
variable {n:Nat}
def abZ (a:n≠0) (h: ∃l,kT l/\cS l=l.length/\val l=n):0<m6 n:=gp fun e=>a (arj e h)
def ab0: ∀n:Nat,∃l,kT l/\cS l=l.length/\val l=n:=by
 intro n
 induction n using Nat.strongRecOn with
 |_ n o=>
  by_cases h:n=0
  ·exact ⟨[],fun x a=>by simp at a,rfl,h.symm⟩
  ·obtain ⟨l,i,p,b⟩:=o (n/4294967296) (by omega)
   refine ⟨n % 4294967296::l,fun x a=> ?_,?_,?_⟩
   ·rcases bq.1 a with rfl|a
    ·omega
    ·exact i x a
   ·have k:=vg (n % 4294967296::l)
    refine Nat.le_antisymm k (dH fun g=> ?_);have q:=NA (l:=n % 4294967296::l) (m:=n % 4294967296::l);by_cases d:l= []
    ·subst d
     have:n/4294967296=0:=b.symm;have t:n % 4294967296≠0:=by omega
     simp [cS] at g;omega
    ·have:l.length≠0:=fun e=>d (b7 e)
     have s:cS (n % 4294967296::l)=cS l+1:=by
      simp only [cS];simp_all
     simp_all
   ·simp only [val];rw [b];omega
def aro (a:n≠0):decide (0<(m6 n:Int))=true:=by
 have:=abZ a (ab0 n);simp_all
def Sb (n:Nat):decide ((m6 n:Int)=0)=decide (n=0):=by
 by_cases h:n=0
 ·subst h;rw [abV];rfl
 ·have:=abZ h (ab0 n)
  grind
def I7 (n:Nat):decide (0<(m6 n:Int))=decide (n≠0):=by
 by_cases h:n=0
 ·subst h;rw [abV];rfl
 ·rw [aro h];simp_all
end
end
section
open Go.Proofs.Tryz Go.RowKit Go.Ev
def Bn (k n:Nat):Prop:=n<2^k
def Bz (k:Nat) (z:Int):Prop:=z.natAbs<2^k
def Bn.sm {k n:Nat} (h:Bn k n) (a:k<=20000000):Sm n:=Bu h
def Bz.sm {k:Nat} {z:Int} (h:Bz k z) (a:k<=20000000):Sm z.natAbs:=Bu h
def Bn.mono {k j n:Nat} (h:Bn k n) (a:k<=j):Bn j n:=ax h (aF (by decide) a)
def Bz.mono {k j:Nat} {z:Int} (h:Bz k z) (a:k<=j):Bz j z:=ax h (aF (by decide) a)
def Bz.abs {k:Nat} {z:Int} (h:Bz k z):Bn k z.natAbs:=h
def Bz.neg {k:Nat} {z:Int} (h:Bz k z):Bz k (-z):=by unfold Bz;rw [iM];exact h
def ahS (i j:Nat):2^i<=2^(max i j)/\2^j<=2^(max i j):=⟨aF (by decide) (Nat.le_max_left ..),aF (by decide) (Nat.le_max_right ..)⟩
def Bz.add {i j:Nat} {x y:Int} (a:Bz i x) (d:Bz j y):Bz (max i j+1) (x+y):=by
 unfold Bz at*;have:=ahS i j;omega
def Bn.add {i j x y:Nat} (a:Bn i x) (d:Bn j y):Bn (max i j+1) (x+y):=by
 unfold Bn at*;have:=ahS i j;omega
def wX (b:Bool) (n:Nat):(jB b n).natAbs=n:=by unfold jB;split<;>simp
def arp (x:Int) (n:Nat):(x/2^n).natAbs<=x.natAbs:=by
 have a:(0:Int)<2^n:=eE (by decide);rcases (show x<0\/0<=x by omega) with h|h
 ·have e:x<=x/2^n:=by
   rw [fH a];have:(1:Int)<=2^n:=a;have d:x*2^n<=x*1:=gF (by omega) this;omega
  have d:x/2^n<0:=g8 h a;omega
 ·have e:x/2^n<=x:=Int.ediv_le_self _ h
  have d:0<=x/2^n:=jD h (by omega);omega
def Bz.shr {k n:Nat} {x:Int} (h:Bz k x):Bz k (x/2^n):=bg (arp x n) h
def Bn.shl {k n x:Nat} (h:Bn k x):Bn (k+n) (x*2^n):=by
 unfold Bn at*;rw [bC];exact fJ h (aM (by decide))
def Bz.shl {k n:Nat} {x:Int} (h:Bz k x):Bz (k+n) (x*2^n):=by
 unfold Bz;rw [dK,mQ];exact Bn.shl (k:=k) (n:=n) h
def Om {k n:Nat} (h:Bn k n):eW n<=k:=by
 unfold eW;by_cases a:n=0
 ·simp_all
 ·rw [if_neg a]
  exact (pK a).2 h
section
variable {n k i j:Nat}
def LC (a:n<18446744073709551616:=by decide): ∃m,Bn 64 m/\m=n/\bH prog bw 68 [bj (.int .u64 (n:Int))] (fD m):=
 ⟨n,by unfold Bn;omega,rfl,EY fun w x h _=>by
  obtain rfl:x=_:=h;exact (Nz n a).mono fun _ _ h=>Dd h⟩
def Sc {s c:Nat} {z:Int} (a:Bn k n) (f:z=(s:Int)) (g:s<=c:=by omega) (hc:c<=1048576:=by omega) (e:k<=20000000:=by omega): ∃m,Bn (k+c) m/\m=n*2^s/\bH prog bw 153 [fD n,bj (.int .i64 z)] (fD m):=
 ⟨_,(Bn.shl (n:=s) a).mono (by omega),rfl,vM fun w x y h d _=>by
  obtain rfl:y=_:=d;subst f;exact (aai h (a.sm e)).mono fun _ _ h=>Dd h⟩
def ahT {s:Nat} {z:Int} (a:Bn k n) (g:z=(s:Int)) (f:s<=1048576:=by omega) (e:k<=20000000:=by omega): ∃m,Bn k m/\m=n/2^s/\bH prog bw 142 [fD n,bj (.int .i64 z)] (fD m):=
 ⟨_,bg (bW _ _) a,rfl,vM fun w x y h d _=>by
  obtain rfl:y=_:=d;subst g;exact (afo h (a.sm e) f).mono fun _ _ h=>Dd h⟩
def arq {s:Nat} {z:Int} (a:Bn k n) (g:z=(s:Int)) (f:s<=1048576) (e:k<=20000000): ∃m,Bn k m/\m=n % 2^s/\bH prog bw 145 [fD n,bj (.int .i64 z)] (fD m):=
 ⟨_,bg (Nat.mod_le _ _) a,rfl,vM fun w x y h d _=>by
  obtain rfl:y=_:=d;subst g;exact (afp h (a.sm e) f).mono fun _ _ h=>Dd h⟩
def Sd {m:Nat} (a:Bn i n) (d:Bn j m) (hi:i<=20000000:=by omega) (f:j<=20000000:=by omega): ∃s,Bn (max i j+1) s/\s=n+m/\bH prog bw 143 [fD n,fD m] (fD s):=
 ⟨_,Bn.add a d,rfl,vM fun w x y h e _=>(Vp h e (a.sm hi) (d.sm f)).mono fun _ _ h=>Dd h⟩
def GN (a:Bn k n) (d:k<=20000000:=by omega): ∃b:Nat,b<=k/\b=eW n/\bH prog bw 135 [fD n] (bj (.int .i64 (b:Int))):=
 ⟨_,Om a,rfl,EY fun e f h _=>(Vo h (a.sm d)).mono fun _ _ h=>abX h⟩
def GO {d:Nat} (e:Bn k n) (s:k<=20000000:=by omega) (f:0<d:=by omega) (a:d<4294967296:=by omega): ∃q r,Bn k q/\q=n/d/\r=n % d/\r<4294967296/\bH prog bw 120 [fD n,bj (.int .u32 (d:Int))] (EV (fD q) (bj (.int .u32 (r:Int))) (bj (.bool true))):=
 ⟨_,_,bg (bW _ _) e,rfl,rfl,oM (cZ _ f) a,vM fun w x y h g _=>by
  obtain rfl:y=_:=g;obtain ⟨l,m,A,rfl,B⟩:=abY h (e.sm s);refine (aaj m (by omega) d f a).mono ?_;rintro z C ⟨v,rfl,o,p⟩;exact ⟨_,rfl,fun u t=>⟨_,_,_,rfl,I6 o u t,rfl,rfl⟩,p⟩⟩
end
section
variable {x y:Int} {n k i j:Nat} {b:Bool}
def nR (a:Bn k n) (e:k<=20000000:=by omega): ∃z,Bz k z/\z=jB b n/\bH prog bw 141 [bj (.bool b),fD n] (dU z):=
 ⟨_,by unfold Bz;rw [wX];exact a,rfl,vM fun w u v h d _=>by
  obtain rfl:u=_:=h;exact (F2 b d (a.sm e)).mono fun _ _ h=>Ol h⟩
def GP (a:n<9223372036854775808:=by decide): ∃z,Bz 63 z/\z=(n:Int)/\bH prog bw 37 [bj (.int .i64 (n:Int))] (dU z):=
 ⟨_,by unfold Bz;omega,rfl,EY fun w x h _=>by
  obtain rfl:x=_:=h;exact (aol n a).mono fun _ _ h=>Ol h⟩
def BW (a:Bz k x) (d:k<=20000000:=by omega): ∃z,Bz k z/\z= -x/\bH prog bw 155 [dU x] (dU z):=
 ⟨_,a.neg,rfl,EY fun w v h _=>(aoe h (a.sm d)).mono fun _ _ h=>Ol h⟩
def yf (a:Bz i x) (d:Bz j y) (hi:i<=10000000:=by omega) (f:j<=10000000:=by omega): ∃z,Bz (max i j+1) z/\z=x+y/\bH prog bw 89 [dU x,dU y] (dU z):=
 ⟨_,Bz.add a d,rfl,vM fun w u v h e _=>(aot h e ((Bn.add a.abs d.abs).sm (by omega))).mono fun _ _ h=>Ol h⟩
def AM {s c:Nat} {z:Int} (a:Bz k x) (e:z=(s:Int):=by omega) (g:s<=c:=by omega) (hc:c<=1048576:=by omega) (f:k<=10000000:=by omega): ∃u,Bz (k+c) u/\u=x*2^s/\bH prog bw 136 [dU x,bj (.int .i64 z)] (dU u):=
 ⟨_,(Bz.shl (n:=s) a).mono (by omega),rfl,vM fun w u v h d _=>by
  obtain rfl:v=_:=d;subst e;exact (aof h (a.sm (by omega)) (by omega) ((Bn.shl (n:=s) a.abs).sm (by omega))).mono fun _ _ h=>Ol h⟩
def Oo {s:Nat} {z:Int} (a:Bz k x) (f:z=(s:Int)) (e:s<=1048576:=by omega) (g:k<=10000000:=by omega): ∃u,Bz k u/\u=x/2^s/\bH prog bw 91 [dU x,bj (.int .i64 z)] (dU u):=
 ⟨_,a.shr,rfl,vM fun w u v h d _=>by
  obtain rfl:v=_:=d;subst f;exact (aop h (a.sm (by omega)) ((Bn.add a.abs (show Bn 1 1 by unfold Bn;decide)).sm (by omega)) e).mono fun _ _ h=>Ol h⟩
def ab1 (d:Bz k x) (a:k<=20000000:=by omega): ∃c:Int,c=x.sign/\bH prog bw 134 [dU x] (bj (.int .i64 c)):=
 ⟨_,rfl,EY fun f e h _=>(aob h (d.sm a)).mono fun _ _ h=>abW h⟩
def I8: ∃c:Int,c=wJ x y/\bH prog bw 82 [dU x,dU y] (bj (.int .i64 c)):=
 ⟨_,rfl,vM fun f d e h a _=>(aom h a).mono fun _ _ h=>abW h⟩
end
end
section
open Go.RowKit
def ars {P Q B s s0 c e x y v t:Nat} (b:P=Q*v) (d:t=c+x*y+e) (w:Nat) (h:s+P*c=s0+Q*(x*w)):
 s+P*(t % B)+P*B*(t/B)=s0+P*e+Q*(x*(w+v*y)):=by
 have a:P*(t % B)+P*B*(t/B)=P*t:=by
  rw [bD,<-fA,Nat.mod_add_div]
 grind
def ahU {x y e c:Nat} (b:x<4294967296) (d:y<4294967296) (a:e<4294967296) (hc:c<4294967296):c+x*y+e<18446744073709551616/\x*y<=18446744065119617025:=by
 have:x*y<=4294967295*4294967295:=bJ (by omega) (by omega);omega
def WM (x y:Nat):(x:Int)*(y:Int)=((x*y:Nat):Int):=by rw [eA]
section
variable {w:World}
def LD (w wr:World) (g M:Nat) (a:List Nat) (b:List Nat) (i x k c:Nat) (o:List Nat):Prop:=
 c<4294967296/\o.length=M/\gy wr g (.slice (some ⟨g,0,none⟩) M M) o/\
  bK (el o) (i+k)+4294967296^(i+k)*c=bK (el a) (i+k)+4294967296^i*(x*bK (el b) k)/\(∀j,i+k<=j->el o j=el a j)/\Below w.heap.size w wr
def LD.next {w wr w':World} {g M:Nat} {a b o:List Nat} {i x k c y e d l:Nat} (h:LD w wr g M a b i x k c o) (D:x<4294967296) (R:el b k=y) (m:y<4294967296) (z:el o (i+k)=e)
 (A:(c+x*y+e) % 4294967296=d) (E:(c+x*y+e)/4294967296=l) (G:i+k<M) (C:gy w' g (.slice (some ⟨g,0,none⟩) M M) (o.set (i+k) d)) (u:Below w.heap.size w w'):LD w w' g M a b i x (k+1) l (o.set (i+k) d):=by
 obtain ⟨p,H,q,s,I,J⟩:=h;have f:e<4294967296:=by
  rw [<-z];rcases b6 (i+k) o.length with h|h
  ·exact nf q.2 _
  omega
 have O:=(ahU D m f p).1;refine ⟨by omega,by simp_all,C,?_,fun j N=> ?_,u⟩
 ·have F:i+k<o.length:=by omega
  rw [<-ft,xQ F,bL];have:=ars (P:=4294967296^(i+k)) (Q:=4294967296^i) (B:=4294967296) (v:=4294967296^k) (y:=y) (t:=c+x*y+e) (e:=e) (by grind) rfl (bK (el b) k) s;rw [A,E] at this;rw [this];show _=bK (el a) (i+k)+4294967296^(i+k)*el a (i+k)+4294967296^i*(x*(bK (el b) k+4294967296^k*el b k));simp_all
 ·rw [uA d (by omega),if_neg (by omega)]
  grind
def Oq (w wr:World) (g M m:Nat) (a b:List Nat) (i:Nat) (o:List Nat):Prop:=
 o.length=M/\gy wr g (.slice (some ⟨g,0,none⟩) M M) o/\bK (el o) (i+m)=bK (el a) i*bK (el b) m/\(∀j,i+m<=j->el o j=0)/\Below w.heap.size w wr
def Oq.start {w wr:World} {g M m i x:Nat} {a b o:List Nat} (h:Oq w wr g M m a b i o):LD w wr g M o b i x 0 0 o:=by
 obtain ⟨d,e,j,k,f⟩:=h;exact ⟨by decide,d,e,by simp [bK],fun _ _=>rfl,f⟩
def LD.done {w wr w0 w':World} {g M m:Nat} {a b d o:List Nat} {i x c:Nat} (h:LD w wr g M d b i x m c o) (f:Oq w w0 g M m a b i d) (C:el a i=x) (t:i+m<M)
 (q:gy w' g (.slice (some ⟨g,0,none⟩) M M) (o.set (i+m) c)) (p:Below w.heap.size w w'):Oq w w' g M m a b (i+1) (o.set (i+m) c):=by
 obtain ⟨u,y,z,k,l,A⟩:=h;obtain ⟨D,E,s,F,G⟩:=f;have e:i+m<o.length:=by omega
 refine ⟨by simp_all,q,?_,fun j B=> ?_,p⟩
 ·rw [show i+1+m=i+m+1 by omega,xQ e,k,s]
  show _=(bK (el a) i+4294967296^i*el a i)*bK (el b) m;grind
 ·rw [uA c e,if_neg (by omega),l j (by omega)]
  grind
def art {v u:Value} {l m:List Nat} (h:jj w v l) (h':jj w u m) (hn:l.length<=100000000) (ql:m.length<=100000000):Calls Tryz.prog 354 #[v,u] w (rE (val l*val m) w):=by
 have HL:=ae h.2;have HM:=ae h'.2;obtain ⟨a,c,x,rfl,ha,hc,hm,b⟩:=h.form;obtain ⟨a',c',x',rfl,Q,vh,vj,tX⟩:=h'.form;have HC:=ae (fun I (hb:Below w.heap.size w I) i (s:i<l.length)=>(hb.cell (aj w _ (b i s))).trans (b i s));have Er:=ae (fun I (hb:Below w.heap.size w I) i (s:i<m.length)=>(hb.cell (aj w _ (tX i s))).trans (tX i s));have HA:=ae ha;have Es:=ae Q;unfold maxLen at hm vj;clear h h' b tX ha Q;obtain ⟨n,rI⟩:=pS l.length;obtain ⟨p,Y⟩:=pS m.length;obtain ⟨M,hM⟩:=pS (n+p);have eM:(n:Int)+(p:Int)=(M:Int):=by omega
 rw [rI] at hn hc hm HA HC;rw [Y] at ql vh vj Es Er;have hMb:M<=200000000:=by omega
 have N:=ae (af rI (af Y hM));obtain ⟨i0,eT,fL,gd,fG⟩:=info_parts CO;rw [rI,Y];clear rI Y hM;go_enter Tryz.func354,Tryz.ntmps354;go_wp2_with (refine wpList_make_full w rfl (.tmp 15) (.tmp 15) 35 rfl w.heap.size 193 i0 _ 1 Tryz.underlying35 eT fL gd _ _ _ _ M rfl rfl (by first|rfl|omega) (by first|rfl|omega) (by rw [fG];omega) (by unfold maxLen;omega) (ak _) ?_;intro w1 ho hg);have bP:Below w.heap.size w w1:=(aG _ _).grown hg (ak _) (by intro k T;cases T);rw [FO] at ho;have hO:gy w1 w.heap.size (.slice (some ⟨w.heap.size,0,none⟩) M M) (List.replicate M 0):=⟨by rw [aV];exact ho,FP _⟩;obtain ⟨g,W⟩:=pS w.heap.size;have HS:Oq w w1 g M p l m 0 (List.replicate M 0):=⟨aV,W▸hO,by rw [Br (g:=fun _=>0) (fun j _=>by unfold el;rw [aD];rcases b6 j M with h|h;rw [aO (by rw [aV];exact h),lX];rfl;rw [bS (by rw [aV];exact h)];rfl)];simp [bK];exact KH (k:=0) (bZ _) fun _ _ _=>rfl,fun j _=>by unfold el;rw [aD];rcases b6 j M with h|h;rw [aO (by rw [aV];exact h),lX];rfl;rw [bS (by rw [aV];exact h)];rfl,bP⟩;have Ah:=ae HS;have Sh:=ae W;rw [W];clear ho hg bP hO eT fL gd fG HS W;go_wp2_with fail
 go_loopg [19] n (fun gh iv wr=> ∃(i:Nat) (o:List Nat),gh+i=n/\iv= .int .i64 i/\Oq w wr g M p l m i o)
 case atStart=>exact ⟨0,_,rfl,rfl,Ah.out⟩
 case round=>
  obtain ⟨i,o0,s,rfl,t⟩:=hrel;have HI:=ae s;have P:=ae t;have ahW:(i:Int)<=100000000:=by omega
  have eT:(0:Int)<=i:=by omega
  by_cases bA:i<n
  ·obtain rfl:=HA.out (by omega)
   have q1:=HC.out _ t.2.2.2.2 i bA;obtain ⟨F,Z⟩:=pS (l.getD i 0);rw [Z] at q1;have bx:F<4294967296:=by rw [<-Z];exact nf HL.out i
   have qH:=ae (show el l i=F from Z);have zX:(i:Int)<n:=by omega
   clear Z s t;go_wp2_with fail
   go_loopg [8,26] p (fun gh cv kv wr=> ∃(k f:Nat) (o:List Nat),gh+k=p/\kv= .int .i64 k/\cv= .int .u64 f/\LD w wr g M o0 m i F k f o)
   case atStart=>exact ⟨0,0,_,rfl,rfl,rfl,P.out.start⟩
   case round=>
    obtain ⟨k,f,o,T,rfl,rfl,q⟩:=hrel;have HK:=ae T;have H:=ae q;have KL:(k:Int)<=100000000:=by omega
    have jG:(0:Int)<=k:=by omega
    have E:=q.2.2.1.1;rw [q.2.1] at E;have bc:f<4294967296:=q.1;by_cases hlk:k<p
    ·obtain rfl:=Es.out (by omega)
     have q2:=Er.out _ q.2.2.2.2.2 k hlk;obtain ⟨J,qo⟩:=pS (m.getD k 0);rw [qo] at q2;have Ii:J<4294967296:=by rw [<-qo];exact nf HM.out k
     have vk:=ae (show el m k=J from qo);obtain ⟨j,S⟩:=pS (i+k);have ej:(i:Int)+(k:Int)=(j:Int):=by omega
     have O:j<M:=by have:=N.out.2.2;omega
     have l9:=E.frozenAt j;obtain ⟨D,wL⟩:=pS (el o j);have WN:wr.cell? ⟨g,j,none⟩=some (.int .u32 (D:Int)):=by rw [<-wL];exact rC E (rD (by rw [q.2.1];exact O))
     have be:D<4294967296:=by rw [<-wL];exact nf q.2.2.1.2 j
     have Sj:=ae wL;have G:=ae S;have hjm:(j:Int)<(M:Int):=by omega
     have yH:(0:Int)<=j:=by omega
     have aF2:(k:Int)<p:=by omega
     obtain ⟨z,hz⟩:=pS (F*J);have A:=ahU bx Ii be bc;rw [hz] at A;obtain ⟨U,nh⟩:=pS (z+D);obtain ⟨C,ht1⟩:=pS (f+U);have ez:IntKind.u64.wrap ((F:Int)*(J:Int))=(z:Int):=by rw [WM,hz];exact wraps_u64 _ (by omega) (by omega)
     have es:(z:Int)+(D:Int)=(U:Int):=by omega
     have et:(f:Int)+(U:Int)=(C:Int):=by omega
     obtain ⟨d,hd⟩:=pS (C % 4294967296);obtain ⟨c1,Eo⟩:=pS (C/4294967296);have ed:(C:Int) % 4294967296=(d:Int):=by omega
     have ec:(C:Int)/4294967296=(c1:Int):=by omega
     have HD:=ae (show d<4294967296 by omega);have X:=ae (show (f+F*J+D) % 4294967296=d/\(f+F*J+D)/4294967296=c1 by rw [hz,show f+z+D=C by omega];exact ⟨hd,Eo⟩);have aF3:(U:Int)<=18446744073709551615:=by omega
     have aF4:(C:Int)<=18446744073709551615:=by omega
     have aF5:(0:Int)<=U:=by omega
     have aF6:(0:Int)<=C:=by omega
     clear qo T q E S wL hz nh ht1 hd Eo A;go_wp2_with fail
     go_roundg (p-(k+1))
     case measure=>have:=HK.out;omega
     case rel=>
      have jL:gy (wr.setCell ⟨g,j,none⟩ (.int .u32 (d:Int))) g (.slice (some ⟨g,0,none⟩) M M) (o.set (i+k) d):=by rw [G.out];exact H.out.2.2.1.set HD.out
      exact ⟨k+1,c1,_,by have:=HK.out;omega,by go_num,rfl,H.out.next bx vk.out Ii (by rw [G.out];exact Sj.out) X.out.1 X.out.2 (by rw [G.out];exact O) jL (H.out.2.2.2.2.2.setCell (by rw [Sh.out];exact ak _) _)⟩
    ·obtain rfl:k=p:=by omega
     obtain ⟨j,S⟩:=pS (i+k);have ej:(i:Int)+(k:Int)=(j:Int):=by omega
     have O:j<M:=by have:=N.out.2.2;omega
     have l9:=E.frozenAt j;obtain ⟨cu,FW⟩: ∃cu,wr.cell? ⟨g,j,none⟩=some cu:=⟨_,rC E (rD (by rw [q.2.1];exact O))⟩;have G:=ae S;have hjm:(j:Int)<(M:Int):=by omega
     have yH:(0:Int)<=j:=by omega
     have ecr:(f:Int) % 4294967296=(f:Int):=by omega
     clear T q E S;go_wp2_with fail
     go_roundg (n-(i+1))
     case measure=>have:=HI.out;omega
     case rel=>
      have jL:gy (wr.setCell ⟨g,j,none⟩ (.int .u32 (f:Int))) g (.slice (some ⟨g,0,none⟩) M M) (o.set (i+k) f):=by rw [G.out];exact H.out.2.2.1.set bc
      exact ⟨i+1,_,by have:=HI.out;omega,by go_num,H.out.done P.out qH.out (by rw [G.out];exact O) jL (H.out.2.2.2.2.2.setCell (by rw [Sh.out];exact ak _) _)⟩
  ·obtain rfl:i=n:=by omega
   have B:val o0=val l*val m:=by
    rw [lM o0,t.1,<-N.out.2.2,t.2.2.1,lM l,lM m,N.out.1,N.out.2.1]
   have HV:=ae B;have X:=ae (xM (w:=wr) (v:= .slice (some ⟨g,0,none⟩) M M) t.2.1.sl (by rw [t.1];omega));have HB:=ae t.2.2.2.2;clear s t B;go_wp2_with fail;refine X.out.mono ?_;rintro e I ⟨y,rfl,h5,h6⟩;have R:=ae (show nr I w.heap.size y (val l*val m)/\Below w.heap.size w I from ⟨HV.out▸h5.base HB.out.size,HB.out.trans (h6.mono HB.out.size)⟩);clear h5 h6;go_wp2_with fail;go_ret;exact ⟨_,rfl,R.out.1,R.out.2⟩
def Sk {u v:Value} {a b:Nat} (h:eD w u a) (h':eD w v b) (f:Sm a) (d:Sm b):Calls Tryz.prog 354 #[u,v] w (rE (a*b) w):=by
 obtain ⟨l,e,i,rfl,j⟩:=h.lim f;obtain ⟨m,g,k,rfl,o⟩:=h'.lim d;exact art e g (by omega) (by omega)
end
end
section
open Go.RowKit
section
variable {U V B R top v1 v2 u2 vl ul q g rest:Nat}
def ab2 (a:u2<B) (b:ul<R):u2*R+ul<B*R:=by
 have:(u2+1)*R<=B*R:=aN _ a;grind
def aru (k:U=top*(B*R)+(u2*R+ul)) (e:V=v1*(B*R)+(v2*R+vl)) (a:u2<B) (b:ul<R) (h:0<v1) (f:q*V<=U):q<=top/v1:=by
 have i:=ab2 a b;have d:q*v1*(B*R)<(top+1)*(B*R):=by
  rw [e,fA,<-bD] at f;grind
 have j:=fQ d;rw [cK h];omega
def arv (k:U=top*(B*R)+(u2*R+ul)) (l:V=v1*(B*R)+(v2*R+vl)) (i:ul<R) (f:g*v1+rest=top) (h:rest*B+u2<g*v2) (m:q*V<=U) (d:q<=g):q<=g-1:=by
 by_cases e:q=g
 ·exfalso
  subst e;have a:(q*v1*B+q*v2)*R<(top*B+u2+1)*R:=by
   have j:q*V=(q*v1*B+q*v2)*R+q*vl:=by
    grind
   grind
  have b:=fQ a;rw [<-f,dE] at b;omega
 omega
def arw (m:U=top*(B*R)+(u2*R+ul)) (o:V=v1*(B*R)+(v2*R+vl)) (f:vl<R) (e:0<v1) (d:g*v1+rest=top) (b:g*v2<=rest*B+u2) (a:g<=B:=by omega):g*V<=U+V:=by
 have h:g*V=(g*v1*B+g*v2)*R+g*vl:=by
  grind
 have i:(g*v1*B+g*v2)*R<=(top*B+u2)*R:=by
  apply aN;rw [<-d,dE];omega
 have j:(top*B+u2)*R=top*(B*R)+u2*R:=by grind
 have k:g*vl<=B*R:=bJ a (by omega);have l:B*R<=v1*(B*R):=Nat.le_mul_of_pos_left _ e;omega
def ahX (l:U=top*(B*R)+(u2*R+ul)) (m:V=v1*(B*R)+(v2*R+vl)) (e:v2<B) (a:vl<R) (o:g*v1+rest=top) (d:B<=rest) (b:g<=B:=by omega):g*V<=U:=by
 have k:=ab2 e a;have f:g*V=g*v1*(B*R)+g*(v2*R+vl):=by grind
 have h:g*(v2*R+vl)<=B*(B*R):=bJ b (by omega);have i:top*(B*R)=g*v1*(B*R)+rest*(B*R):=by grind
 have j:B*(B*R)<=rest*(B*R):=aN _ d;omega
end
structure rU (g:Nat) (w w':World):Prop where
 tape:w'.tape=w.tape
 os:w'.os=w.os
 output:w'.output=w.output
 size:w'.heap.size=w.heap.size
 block: ∀b,b≠g->w'.heap[b]? =w.heap[b]?
def rU.refl (g:Nat) (w:World):rU g w w:=⟨rfl,rfl,rfl,rfl,fun _ _=>rfl⟩
def rU.set {g:Nat} {w w':World} (h:rU g w w') (j:Nat) (v:Value):rU g w (w'.setCell ⟨g,j,none⟩ v):=by
 refine ⟨h.tape,h.os,h.output,by rw [<-h.size];simp_all,fun b a=> ?_⟩;rw [<-h.block b a];simp only [World.setCell,eL];grind
def rU.cell {g:Nat} {w w':World} (h:rU g w w') {p:Addr} (a:p.block≠g):w'.cell? p=w.cell? p:=by unfold World.cell?;rw [h.block _ a]
def rU.below {g:Nat} {w w':World} (h:rU g w w') {B:Nat} (a:B<=g):Below B w w':=⟨h.os,h.tape,h.output,by rw [h.size];omega,fun b d=>h.block b (by omega)⟩
def rU.of {B g:Nat} {w w' e:World} (h:rU g w w') (a:Below B w' e) (i:e.heap.size=w'.heap.size) (j:w'.heap.size<=B):rU g w e:=by
 refine ⟨a.tape.trans h.tape,a.os.trans h.os,a.output.trans h.output,i.trans h.size,fun b d=> ?_⟩;rw [<-h.block b d];rcases b6 b B with f|f
 ·exact a.block b f
 grind
def mJ (L:List Nat) (k j:Nat):Nat:=el L (k+j)
def WO {L:List Nat} {k i d:Nat} (h:k+i<L.length:=by omega):bK (mJ (L.set (k+i) d) k) (i+1)=bK (mJ L k) i+4294967296^i*d:=by
 show bK (mJ (L.set (k+i) d) k) i+4294967296^i*el (L.set (k+i) d) (k+i)=_;rw [uA d h (k+i),if_pos rfl,Br (f:=mJ (L.set (k+i) d) k) (g:=mJ L k) fun j a=>by show el _ _=_;rw [uA d h,if_neg (by omega)];rfl]
def vN {L:List Nat} (h:kT L) (i:Nat):el L i<4294967296:=nf h i
def ahY {x y b:Nat} (d:x<4294967296) (e:y<4294967296) (a:b<=1):sI x y b+y+b=x+4294967296*xS x y b/\sI x y b<4294967296/\xS x y b<=1:=by
 unfold sI xS;grind
def Sl (w wr:World) (g N C base k a:Nat) (L vs:List Nat) (i c b:Nat) (o:List Nat):Prop:=
 c<4294967296/\b<=1/\o.length=N/\gy wr base (.slice (some ⟨g,0,none⟩) N C) o/\
  bK (mJ o k) i+a*bK (el vs) i=bK (mJ L k) i+4294967296^i*(c+b)/\(∀j,j<k\/k+i<=j->el o j=el L j)/\rU g w wr
def arx {P s g V U c b d x u t l e a:Nat} (h:s+g*V=U+P*(c+b)) (j:t=c+g*x) (f:d+l+b=u+4294967296*a) (i:t=l+4294967296*e):
 (s+P*d)+g*(V+P*x)=(U+P*u)+P*4294967296*(e+a):=by
 grind
def ary {P s e U c b d u a:Nat} (h:s+e=U+P*(c+b)) (f:d+c+b=u+4294967296*a):(s+P*d)+e=(U+P*u)+P*4294967296*a:=by
 grind
def Sl.next {w wr w':World} {g N C base k a:Nat} {L vs:List Nat} {i c b x u d f e t l:Nat} {o:List Nat} (h:Sl w wr g N C base k a L vs i c b o) (S:el vs i=x) (Q:el L (k+i)=u) (O:k+i<N) (E:f<4294967296) (m:e<=1)
 (A:t=c+a*x) (y:t=l+4294967296*f) (s:d+l+b=u+4294967296*e) (D:gy w' base (.slice (some ⟨g,0,none⟩) N C) (o.set (k+i) d)) (z:rU g w w'):Sl w w' g N C base k a L vs (i+1) f e (o.set (k+i) d):=by
 obtain ⟨F,G,H,I,p,J,M⟩:=h;refine ⟨E,m,by simp_all,D,?_,fun j P=> ?_,z⟩
 ·rw [WO,bL]
  have:=arx p A s y;show _+a*(bK (el vs) i+4294967296^i*el vs i)=bK (mJ L k) i+4294967296^i*el L (k+i)+_;simp_all
 ·rw [uA d (by omega),if_neg (by omega)]
  grind
def WQ (w wr:World) (g N C base k:Nat) (S vs:List Nat) (i a:Nat) (o:List Nat):Prop:=
 a<=1/\o.length=N/\gy wr base (.slice (some ⟨g,0,none⟩) N C) o/\
  bK (mJ o k) i+4294967296^i*a=bK (mJ S k) i+bK (el vs) i/\(∀j,j<k\/k+i<=j->el o j=el S j)/\rU g w wr
def WQ.next {w wr w':World} {g N C base k:Nat} {S vs:List Nat} {i a x u d b:Nat} {o:List Nat} (h:WQ w wr g N C base k S vs i a o) (G:el vs i=x) (F:el S (k+i)=u) (A:k+i<N) (e:b<=1)
 (D:d+4294967296*b=u+x+a) (l:gy w' base (.slice (some ⟨g,0,none⟩) N C) (o.set (k+i) d)) (f:rU g w w'):WQ w w' g N C base k S vs (i+1) b (o.set (k+i) d):=by
 obtain ⟨m,p,s,t,y,z⟩:=h;refine ⟨e,by simp_all,l,?_,fun j E=> ?_,f⟩
 ·rw [WO,bL]
  show _=(bK (mJ S k) i+4294967296^i*el S (k+i))+(bK (el vs) i+4294967296^i*el vs i);grind
 ·rw [uA d (by omega),if_neg (by omega)]
  grind
def arz {U V S a:Nat} (h:S+a*V=U) (f:U/V<=a) (d:0<V):U/V=a/\U % V=S:=by
 have e:a<=U/V:=by rw [cK d];omega
 have b:U/V=a:=by omega
 refine ⟨b,?_⟩;have:=du U V;grind
def arA {U V S a M:Nat} (f:S+a*V=U+M) (h:S<M) (b:a*V<=U+V):0<a/\U/V=a-1/\S+V=M+U % V:=by
 have d:0<a:=by
  grind
 obtain ⟨q,rfl⟩: ∃q,a=q+1:=⟨a-1,by omega⟩;rw [dE,j6] at f b;have e:U/V=q:=by
  apply oD
  all_goals grind
 refine ⟨d,e,?_⟩;have:=du U V;grind
def arC {P T a b u V R d:Nat} (h:T+P*a=b+V) (j:b+P*u+V=P*4294967296+R) (i:R<P) (k:T<P) (l:a<=1) (o:u<4294967296) (m:d=(u+a) % 4294967296):T+P*d=R:=by
 have f:T+P*(a+u)=P*4294967296+R:=by grind
 rcases b6 (a+u) 4294967296 with e|e
 ·exfalso
  have:P*(a+u+1)<=P*4294967296:=aR _ e;grind
 ·have:a+u=4294967296:=by omega
  rw [this] at f;have:d=0:=by omega
  grind
section
variable {w:World}
def arD (x y b:Nat) (o:x<4294967296) (p:y<4294967296) (m:b<=1):Calls Tryz.prog 312 #[.int .u32 (x:Int),.int .u32 (y:Int),.int .u32 (b:Int)] w (wG (.tuple #[.int .u32 (((x+y+b) % 4294967296:Nat):Int),.int .u32 (((x+y+b)/4294967296:Nat):Int)]) w):=by
 obtain ⟨s,e⟩:=pS (x+y+b);obtain ⟨d,a⟩:=pS (s % 4294967296);obtain ⟨c,hc⟩:=pS (s/4294967296);rw [e,a,hc];have h:(x:Int)+(y:Int)+(b:Int)=(s:Int):=by omega
 have f:(s:Int) % 4294967296=(d:Int):=by omega
 have i:(s:Int)/4294967296=(c:Int):=by omega
 have j:(x:Int)+(y:Int)<=8589934591:=by omega
 have k:(s:Int)<=8589934592:=by omega
 have l:(c:Int)<=2:=by omega
 clear e a hc;go_enter Tryz.func312,Tryz.ntmps312;go_wp2_with fail;go_ret2;rw [<-f];exact zW rfl
end
end
end Go.Proofs.YthleenhngcdgkaaGreatDoor
