/- refineFuel_proved. -/
import Derived.Test.YtnmpjdgobafdkaaGreatDoorPman
import Derived.Test.YtnmpjdgobafdkaaGreatDoorPmae
import Derived.Test.YtnmpjdgobafdkaaGreatDoorPmaf
import Derived.KernelRfl
set_option maxRecDepth 100000
set_option maxHeartbeats 16000000
set_option linter.all false
noncomputable section
namespace Go.Ev
section
variable [aJ]
omit [aJ] in
def QU (a b:Fn) (x y:List aj):Bool:=match a,b,x,y with
 | .func f,.func g,[],[]=>Nat.beq f g
 |_,_,_,_=>false
omit [aJ] in
def QV (a:Fn) (x:List aj):Bool:=match a,x with
 | .func _,[]=>true
 |_,_=>false
omit [aJ] in
def aqb {a b:Fn} {x y:List aj} (h:QU a b x y=true):a=b/\x= []/\y= []:=by
 unfold QU at h;split at h
 ·simp_all
 ·cases h
omit [aJ] in
def aqc {a:Fn} {x:List aj} (h:QV a x=true):x= []:=by
 unfold QV at h
 all_goals grind
mutual
def fits (h:aP):aj->aj->Bool
 | .atom p,v=>match v with
  | .atom n=>match (h.at n).obj with
   | .ga id=>Nat.beq id p.num
   |_=>false
  |_=>false
 | .agg l,v=>match v with
  | .agg d=>Bb h l d
  |_=>false
 | .fh l,v=>match v with
  | .fh d=>Bb h l d
  |_=>false
 | .func a b l,v=>match v with
  | .func e f d=>cond (QU a e b f) (Bb h l d) false
  |_=>false
 |p,v=>p.gL v
def Bb (h:aP):List aj->List aj->Bool
 | [],l=>match l with
  | []=>true
  |_::_=>false
 |p::l,d=>match d with
  | []=>false
  |v::d=>cond (fits h p v) (Bb h l d) false
end
mutual
def sC:aj->aP->aj×aP
 | .atom p,h=>(.atom h.nx,h.new (.ga p.num))
 | .agg l,h=>(.agg (jQ l h).1,(jQ l h).2)
 | .fh l,h=>(.fh (jQ l h).1,(jQ l h).2)
 | .func a b l,h=>(.func a b (jQ l h).1,(jQ l h).2)
 |v,h=>(v,h)
def jQ:List aj->aP->List aj×aP
 | [],h=>([],h)
 |p::l,h=>((sC p h).1::(jQ l (sC p h).2).1,(jQ l (sC p h).2).2)
end
mutual
def ou:aj->Bool
 | .atom _=>true
 | .sym _=>true
 | .int _ _=>true
 | .bool _=>true
 | .str _=>true
 | .jP=>true
 | .vM=>true
 | .nilFunc=>true
 | .agg l=>ja l
 | .fh l=>ja l
 | .func a b l=>QV a b&&ja l
 |_=>false
def ja:List aj->Bool
 | []=>true
 |p::l=>ou p&&ja l
end
def M7:Mp:=⟨fun _=>0,fun _=>⟨0,default⟩⟩
mutual
def Mt (G:gb) (w:World):aj->Value->Prop
 | .atom p,v=>v.oneCell'=true/\G.jf p.num w v
 | .agg l,v=> ∃vs,v= .agg ⟨vs⟩/\pJ G w l vs
 | .fh l,v=> ∃vs,v= .tuple ⟨vs⟩/\pJ G w l vs
 | .func a _ l,v=> ∃vs,v= .func a #[] ⟨vs⟩/\pJ G w l vs
 |p,v=>v=γ M7 p
def pJ (G:gb) (w:World):List aj->List Value->Prop
 | [],vs=>vs= []
 |p::l,vs=> ∃v d,vs=v::d/\Mt G w p v/\pJ G w l d
end
def jh (S:Nat->Prop) (w:World) (Φ:World->Prop):Prop:= ∀w',(∀b,b<w.heap.size-> ¬S b->w'.heap[b]? =w.heap[b]?)->Φ w'
structure rJ where
 f:FuncId
 args:List aj
 res:aj
def tL (P:Program) (G:gb) (e:rJ):Prop:= ∀(S:Nat->Prop) (w:World) (dS:List Value),(∀b,S b->b<w.heap.size)->jh S w (fun w'=> ∀v,G.jf 0 w' v)->jh S w (fun w'=>pJ G w' e.args dS)->
 Calls P e.f ⟨dS⟩ w fun d w'=> ∃x,d= .returned x/\jh S w' (fun g=>Mt G g e.res x)/\RowKit.Below w.heap.size w w'
def KC (h:aP):Bool:=match (h.at (pos 1)).obj with
 | .ga 0=>true
 |_=>false
def Ed (T:List rJ):(FuncId->List aj->aP->VR):=fun f args h=>List.rec VR.fail (fun e _ d=>cond (Nat.beq e.f f) (cond (Bb h e.args args) (cond (KC h&&ou e.res) (VR.ok (sC e.res h).1 (sC e.res h).2) .fail) d) d) T
section
variable {P:Program} {G:gb} {S:Nat->Prop} {m:Mp} {h:aP} {w w':World}
def yr (S:Nat->Prop) (m:Mp) (h:aP) (w:World) (Φ:World->Prop):Prop:= ∀w',(∀b,b<w.heap.size-> ¬S b->(∀k,bk h k->m.b k≠b)->w'.heap[b]? =w.heap[b]?)->Φ w'
def bR.stays (r:bR G S m h w) (hb:RowKit.Below w.heap.size w w'):bR G S m h w' where
 blk:=fun n hn=>by
  obtain ⟨o,ho,gd⟩:=r.blk n hn;exact ⟨o,(hb.block _ (r.agI hn)).trans ho,gd⟩
 fresh:=r.fresh
 apart:=r.apart
 mem:=r.mem
 mq:=r.mq
 ins:=r.ins
 qF:=fun g l yu=>by
  obtain ⟨⟨rest,e,fz,h1⟩,h2⟩:=r.qF g l yu;exact ⟨⟨rest,e,fz,(hb.block _ (r.aqa yu)).trans h1⟩,h2⟩
 jf:=fun n id hn w2 iM=>r.jf n id hn w2 fun b gd hS hk=>(iM b (az gd hb.size) hS hk).trans (hb.block b gd)
 lim:=fun b gd=>az (r.lim b gd) hb.size
omit [aJ] in
def aqd (d:RowKit.Below w.heap.size w w'):Goes m h w m h w':=
 ⟨d.tape,d.os,d.output,d.size,fun b e _=>d.block b e,fun _ _=>⟨rfl,rfl⟩,aq _,fun _ h=> .inl h,fun _ a b=>absurd a b,fun _ h=>h,fun _ h=>h,fun _ _ h=>h⟩
def bR.ga (r:bR G S m h w) {id:Nat} {x:Value} (U:x.oneCell'=true) (hs:yr S m h w fun w'=>G.jf id w' x):
 ∃p,γ p (.atom h.nx)=x/\bR G S p (h.new (.ga id)) w/\Goes m h w p (h.new (.ga id)) w/\aF (h.new (.ga id)) h.nx/\(∀n,bk (h.new (.ga id)) n↔bk h n):=by
 have g9:=aP.Z3 h (.ga id);have D: ∀k,aF h k->k≠h.nx:=fun k d e=>by have:=r.fresh k d;rw [e] at this;exact bO _ this
 let p:Mp:=⟨m.b,fun k=>if k=h.nx then ⟨0,⟨x,U⟩⟩ else m.cv k⟩
 have I: ∀k,k≠h.nx->p.b k=m.b k/\p.cv k=m.cv k:=fun k d=>⟨rfl,by simp [p,d]⟩
 have Q:p.v h.nx=⟨x,U⟩:=by simp [p,Mp.v]
 have f: ∀k,k≠h.nx->(h.new (.ga id)).at k=h.at k:=fun k d=>by grind
 have F:(h.new (.ga id)).at h.nx=⟨.ga id,h.nx⟩:=by rw [g9,if_pos rfl]
 have t: ∀n,bk (h.new (.ga id)) n↔bk h n:=fun n=>by
  unfold bk;by_cases e:n=h.nx
  ·subst e;rw [F]
   refine ⟨fun h=>(by cases h),fun s=> ?_⟩;exact absurd rfl (D _ (bk.aF s))
  ·rw [f n e]
 have mU:aF (h.new (.ga id)) h.nx:=by unfold aF;rw [F];simp
 have u: ∀k,aF h k->aF (h.new (.ga id)) k:=fun k d=>by unfold aF;rw [f k (D k d)];exact d
 have J: ∀k,aF (h.new (.ga id)) k->k=h.nx\/(k≠h.nx/\aF h k):=fun k d=>by
  by_cases e:k=h.nx
  ·exact .inl e
  ·refine .inr ⟨e,?_⟩;unfold aF at d;rw [f k e] at d;exact d
 have O:(h.new (.ga id)).nx.n=h.nx.n+1:=Pos.Hl _;have Qk: ∀n i,(h.at n).obj= .ga i->((h.new (.ga id)).at n).obj= .ga i:=fun n i j=>by
  rw [f n (D n fun e=>by rw [e] at j;cases j)];exact j
 refine ⟨p,by simp [γ,Q],⟨fun k d=> ?_,fun k d=> ?_,fun a b N s B=> ?_,fun a b N s B om=> ?_,fun k d=> ?_,fun k=> ?_,fun g l hg=> ?_,fun n i j w2 W=> ?_,r.lim⟩,
  ⟨rfl,rfl,rfl,aq _,fun _ _ _=>rfl,fun k d=>I k (fun e=>by simp_all),by rw [O];omega,
   fun k d=>by grind,
   fun k d H=>absurd ((t k).1 d) H,u,fun k d=>(t k).2 d,Qk⟩,mU,t⟩
 ·have X:=(t k).1 d
  have C:=D k X.aF;obtain ⟨o,q,E⟩:=r.blk k X;refine ⟨o,q,?_⟩;rw [f k C];exact Kb (fun n j=>I n (D n j)) (r.ins k) (I k C).2 E
 ·rw [O]
  rcases J k d with rfl|⟨_,q⟩
  ·omega
  ·have:=r.fresh k q;omega
 ·have T:=(t a).1 N
  have vK:=(t b).1 s;rw [f a (D a T.aF),f b (D b vK.aF)] at B;exact r.apart a b T vK B
 ·show a∈h.al.get [] _/\_
  rcases J a N with rfl|⟨Y,q⟩<;>rcases J b s with rfl|⟨Z,E⟩
  ·exact absurd rfl om
  ·rw [F,f b Z] at B;have:=(r.mq b E).1
   all_goals grind
  ·rw [F,f a Y] at B;have:=(r.mq a q).1
   all_goals grind
  ·rw [f a Y] at B⊢;rw [f b Z] at B;exact r.mem a b q E B om
 ·rw [O]
  rcases J k d with rfl|⟨C,q⟩
  ·simp_all
  ·rw [f k C];have:=r.mq k q
   all_goals grind
 ·by_cases C:k=h.nx
  ·subst C;rw [F];exact trivial
  ·rw [f k C];exact yi u (r.ins k)
 ·obtain ⟨q,E⟩:=r.qF g l hg
  exact ⟨q,fun n j=>E n ((t n).1 j)⟩
 ·by_cases e:n=h.nx
  ·subst e
   rw [F] at j;cases j;rw [Q];exact hs w2 fun b s M d=>W b s M fun k H=>d k ((t k).1 H)
  ·rw [f n e] at j
   have:p.v n=m.v n:=by unfold Mp.v;rw [(I n e).2]
   rw [this];exact r.jf n i j w2 fun b s M d=>W b s M fun k H=>d k ((t k).1 H)
omit [aJ] in
def yr.mono {f:Mp} {e:aP} {Φ:World->Prop} (j:yr S m h w Φ) (l: ∀n,bk e n↔bk h n) (o: ∀n,bk h n->f.b n=m.b n):yr S f e w Φ:=fun w' d=>j w' fun b g i p=>d b g i fun k q=>by simp_all
structure Laid (G:gb) (S:Nat->Prop) (m:Mp) (h:aP) (w:World) (m':Mp) (h':aP):Prop where
 rep:bR G S m' h' w
 goes:Goes m h w m' h' w
 F3: ∀n,bk h' n↔bk h n
 df:h'.df=h.df
def Laid.refl (r:bR G S m h w):Laid G S m h w m h:=⟨r,Goes.refl ..,fun _=>jY,rfl⟩
def Laid.trans {f g:Mp} {d e:aP} (r:bR G S m h w) (a:Laid G S m h w f d) (b:Laid G S f d w g e):Laid G S m h w g e:=
 ⟨b.rep,Goes.trans r a.rep a.goes b.goes,fun n=>(b.F3 n).trans (a.F3 n),b.df.trans a.df⟩
def Laid.keeps {e:Mp} {d:aP} {Φ:World->Prop} (r:bR G S m h w) (a:Laid G S m h w e d) (f:yr S m h w Φ):yr S e d w Φ:=
 f.mono a.F3 fun n g=>(a.goes.agree n (r.fresh n g.aF)).1
mutual
theorem aa8: ∀(p:aj) (x:Value) (m:Mp) (h:aP) (_:bR G S m h w),ou p=true->yr S m h w (fun w'=>Mt G w' p x)-> ∃i,γ i (sC p h).1=x/\In (aF (sC p h).2) (sC p h).1/\Laid G S m h w i (sC p h).2
 | .atom q,x,m,h,r,_,d=>by
  have E:x.oneCell'=true:=(d w fun _ _ _ _=>rfl).1;obtain ⟨i,a1,a2,j,u,B⟩:=r.ga E (id:=q.num) fun w' f=>(d w' f).2
  exact ⟨i,a1,u,a2,j,B,rfl⟩
 | .agg l,x,m,h,r,g,d=>by
  obtain ⟨vs,rfl,_⟩: ∃vs,x= .agg ⟨vs⟩/\pJ G w l vs:=d w fun _ _ _ _=>rfl
  obtain ⟨i,a1,a2,j⟩:=KD l vs m h r g fun w' f=>by
   obtain ⟨s,e,q⟩:=d w' f;cases e;exact q
  exact ⟨i,by simp only [sC,γ,a1],a2,j⟩
 | .fh l,x,m,h,r,g,d=>by
  obtain ⟨vs,rfl,_⟩: ∃vs,x= .tuple ⟨vs⟩/\pJ G w l vs:=d w fun _ _ _ _=>rfl
  obtain ⟨i,a1,a2,j⟩:=KD l vs m h r g fun w' f=>by
   obtain ⟨s,e,q⟩:=d w' f;cases e;exact q
  exact ⟨i,by simp only [sC,γ,a1],a2,j⟩
 | .sym _,x,m,h,r,g,d=>⟨m,(d w fun _ _ _ _=>rfl).symm,trivial,.refl r⟩
 | .int _ _,x,m,h,r,g,d=>⟨m,(d w fun _ _ _ _=>rfl).symm,trivial,.refl r⟩
 | .bool _,x,m,h,r,g,d=>⟨m,(d w fun _ _ _ _=>rfl).symm,trivial,.refl r⟩
 | .str _,x,m,h,r,g,d=>⟨m,(d w fun _ _ _ _=>rfl).symm,trivial,.refl r⟩
 | .jP,x,m,h,r,g,d=>⟨m,(d w fun _ _ _ _=>rfl).symm,trivial,.refl r⟩
 | .vM,x,m,h,r,g,d=>⟨m,(d w fun _ _ _ _=>rfl).symm,trivial,.refl r⟩
 | .nilFunc,x,m,h,r,g,d=>⟨m,(d w fun _ _ _ _=>rfl).symm,trivial,.refl r⟩
 | .ptr _ _,_,_,_,_,h,_=>by cases h
 | .i7 _ _ _ _,_,_,_,_,h,_=>by cases h
 | .u4,_,_,_,_,h,_=>by cases h
 | .map _,_,_,_,_,h,_=>by cases h
 | .func a b l,x,m,h,r,g,d=>by
  obtain ⟨vs,rfl,_⟩: ∃vs,x= .func a #[] ⟨vs⟩/\pJ G w l vs:=d w fun _ _ _ _=>rfl
  have o:QV a b=true/\ja l=true:=by simpa [ou] using g
  obtain ⟨i,a1,a2,j⟩:=KD l vs m h r o.2 fun w' f=>by
   obtain ⟨s,e,q⟩:=d w' f;cases e;exact q
  have F:=aqc o.1;subst F;exact ⟨i,by simp only [sC,γ,aV,a1],⟨trivial,a2⟩,j⟩
 | .iface _ _,_,_,_,_,h,_=>by cases h
 | .nilIface,_,_,_,_,h,_=>by cases h
 | .Ce _,_,_,_,_,h,_=>by cases h
 | .x9 _,_,_,_,_,h,_=>by cases h
theorem KD: ∀(l:List aj) (vs:List Value) (m:Mp) (h:aP) (_:bR G S m h w),ja l=true->yr S m h w (fun w'=>pJ G w' l vs)-> ∃i,aV i (jQ l h).1=vs/\i9 (aF (jQ l h).2) (jQ l h).1/\Laid G S m h w i (jQ l h).2
 | [],vs,m,h,r,_,d=>by
  have e:vs= []:=d w fun _ _ _ _=>rfl
  subst e;exact ⟨m,rfl,trivial,.refl r⟩
 |p::l,vs,m,h,r,g,d=>by
  have o:ou p=true/\ja l=true:=by simpa [ja] using g
  obtain ⟨v,s,rfl,_,_⟩:=d w fun _ _ _ _=>rfl
  obtain ⟨I,a1,a2,j⟩:=aa8 p v m h r o.1 fun w' f=>by
   obtain ⟨_,_,e,q,_⟩:=d w' f;cases e;exact q
  obtain ⟨J,b1,C,t⟩:=KD l s I (sC p h).2 j.rep o.2 (j.keeps r fun w' f=>by
   obtain ⟨_,_,e,_,q⟩:=d w' f;cases e;exact q)
  refine ⟨J,?_,⟨rD t.goes.old _ a2,C⟩,j.trans r t⟩;simp only [jQ,aV];rw [b1,D1 (D:=aF (sC p h).2) (fun n H=>t.goes.agree n (j.rep.fresh n H)) _ a2,a1]
end
mutual
theorem QW (r:bR G S m h w): ∀(p v:aj),ou p=true->In (aF h) v->fits h p v=true->yr S m h w fun w'=>Mt G w' p (γ m v)
 | .atom q,v,_,hi,d=>by
  cases v<;>try (cases d;done)
  rename_i n;have j:(match (h.at n).obj with| .ga id=>Nat.beq id q.num|_=>false)=true:=d;cases o:(h.at n).obj<;>rw [o] at j<;>try (cases j;done)
  rename_i id;have e:=Nat.eq_of_beq_eq_true j;intro w' f;exact ⟨(m.v n).one,by rw [<-e];exact r.jf n id o w' f⟩
 | .agg l,v,o,hi,d=>by
  cases v<;>try (cases d;done)
  rename_i g;intro w' f;exact ⟨_,rfl,M8 r l g o hi d w' f⟩
 | .fh l,v,o,hi,d=>by
  cases v<;>try (cases d;done)
  rename_i g;intro w' f;exact ⟨_,rfl,M8 r l g o hi d w' f⟩
 | .sym i,v,_,_,d=>fun _ _=>by have:=aj.pH (.sym i) v d;subst this;rfl
 | .int k z,v,_,_,d=>fun _ _=>by have:=aj.pH (.int k z) v d;subst this;rfl
 | .bool b,v,_,_,d=>fun _ _=>by have:=aj.pH (.bool b) v d;subst this;rfl
 | .str s,v,_,_,d=>fun _ _=>by have:=aj.pH (.str s) v d;subst this;rfl
 | .jP,v,_,_,d=>fun _ _=>by have:=aj.pH .jP v d;subst this;rfl
 | .vM,v,_,_,d=>fun _ _=>by have:=aj.pH .vM v d;subst this;rfl
 | .nilFunc,v,_,_,d=>fun _ _=>by have:=aj.pH .nilFunc v d;subst this;rfl
 | .ptr _ _,_,h,_,_=>by cases h
 | .i7 _ _ _ _,_,h,_,_=>by cases h
 | .u4,_,h,_,_=>by cases h
 | .map _,_,h,_,_=>by cases h
 | .func a b l,v,o,hi,d=>by
  cases v<;>try (cases d;done)
  rename_i C D g;have j:cond (QU a C b D) (Bb h l g) false=true:=d;cases u:QU a C b D with
  |false=>rw [u] at j;cases j
  |true=>
   rw [u] at j;obtain ⟨rfl,rfl,rfl⟩:=aqb u;have t:QV a []=true/\ja l=true:=by simpa [ou] using o
   intro w' f;exact ⟨_,by simp only [γ,aV],M8 r l g t.2 hi.2 j w' f⟩
 | .iface _ _,_,h,_,_=>by cases h
 | .nilIface,_,h,_,_=>by cases h
 | .Ce _,_,h,_,_=>by cases h
 | .x9 _,_,h,_,_=>by cases h
theorem M8 (r:bR G S m h w): ∀(l g:List aj),ja l=true->i9 (aF h) g->Bb h l g=true->yr S m h w fun w'=>pJ G w' l (aV m g)
 | [],g,_,_,d=>by
  cases g with
  |nil=>exact fun _ _=>rfl
  |cons _ _=>cases d
 |p::l,g,o,hi,d=>by
  cases g with
  |nil=>cases d
  |cons v g=>
   have t:ou p=true/\ja l=true:=by simpa [ja] using o
   have j:cond (fits h p v) (Bb h l g) false=true:=d;cases B:fits h p v with
   |false=>rw [B] at j;cases j
   |true=>
    rw [B] at j;exact fun w' f=>⟨_,_,rfl,QW r p v t.1 hi.1 B w' f,M8 r l g t.2 hi.2 j w' f⟩
end
def aa9 {E:Env} {T:List rJ} (hA: ∀w v v',E.gl.jf 0 w v->E.gl.jf 0 w v') (J: ∀e∈T,tL P E.gl e/\ja e.args=true):sZ P E (Ed T):=by
 have t: ∀p h,(sC p h).2.df=h.df:=by
  intro p;exact aj.rec (motive_1:=fun p=> ∀h,(sC p h).2.df=h.df) (motive_2:=fun l=> ∀h,(jQ l h).2.df=h.df)
   (fun _ _ _=>rfl) (fun _ _=>rfl) (fun _ _ _=>rfl) (fun _ _ _ _ _=>rfl) (fun _ _=>rfl) (fun l j h=>j h) (fun l j h=>j h) (fun _=>rfl) (fun _=>rfl) (fun _=>rfl) (fun _ _=>rfl)
   (fun _ _ _ _ j h=>j h) (fun _=>rfl) (fun _ _ _ _=>rfl) (fun _=>rfl) (fun _ _=>rfl) (fun _ _=>rfl) (fun _ _=>rfl) (fun _ _=>rfl)
   (fun _=>rfl) (fun p l D C h=>(C _).trans (D h)) p
 intro f args h v Z e
 induction T with
 |nil=>cases e
 |cons d T j=>
  have i:cond (Nat.beq d.f f) (cond (Bb h d.args args) (cond (KC h&&ou d.res) (VR.ok (sC d.res h).1 (sC d.res h).2) .fail) (Ed T f args h)) (Ed T f args h)= .ok v Z:=e;have zT: ∀e∈T,tL P E.gl e/\ja e.args=true:=fun x B=>J x (aw _ B)
  cases M:Nat.beq d.f f with
  |false=>simp_all
  |true=>
   rw [M] at i;cases H:Bb h d.args args with
   |false=>simp_all
   |true=>
    rw [H] at i;simp only [cond_true] at i;cases q:(KC h&&ou d.res) with
    |false=>simp_all
    |true=>
     rw [q] at i;simp only [cond_true] at i;cases i;have lL:=bD M;subst lL;obtain ⟨j6,rF⟩:=J d (aE ..);simp only [au] at q;refine ⟨t _ _,fun S m w r X hdd=> ?_⟩;have zU:(h.at (pos 1)).obj= .ga 0:=by
      have:=q.1;unfold KC at this
      all_goals grind
     have s: ∀k,bk h k->m.b k<w.heap.size:=fun k o=>r.agI o
     have hS: ∀b,¬(b<w.heap.size/\(S b\/ ∃k,bk h k/\m.b k=b))->b<w.heap.size-> ¬S b/\ ∀k,bk h k->m.b k≠b:=fun b g s=>
      ⟨fun h=>g ⟨s,.inl h⟩,fun k o e=>g ⟨s,.inr ⟨k,o,e⟩⟩⟩
     refine (j6 (fun b=>b<w.heap.size/\(S b\/ ∃k,bk h k/\m.b k=b)) w (aV m args) (fun b g=>g.1) (fun w' u v=>hA _ _ _ (r.jf _ _ zU w' fun b g h1 h2=> ?_)) (fun w' u=>M8 r _ _ rF X H w' fun b g h1 h2=> ?_)).mono fun ex w' ⟨x,B,Y,F⟩=> ?_
     ·simp_all
     ·simp_all
     ·have Q:=r.stays F
      obtain ⟨m',U,W,I⟩:=aa8 d.res x m h Q q.2 fun w2 iM=>Y w2 fun b g N=>iM b g
       (fun O=>N ⟨r.lim b O,.inl O⟩) fun k o e=>N ⟨by grind,.inr ⟨k,o,e⟩⟩
      exact ⟨m',by rw [U];exact B,I.rep,Goes.trans r Q (aqd F) I.goes,W⟩
def uw:aP:=(sY 1).new (.ga 0)
def agL (E:Env) (T:List rJ) (f:FuncId) (pats:List aj):VR:=(J' E f).f (Ed T) (jQ pats uw).1 (jQ pats uw).2
def aba (E:Env) (T:List rJ) (f:FuncId) (pats:List aj) (res:aj):Bool:=VR.casesOn (agL E T f pats) (fun v h=>fits h res v) false
def aqe (qg:P.follows .mixedOrders=true) {F:List Fact} {T:List rJ} (Q: ∀w v v',G.jf 0 w v->G.jf 0 w v') (Z:G.g=fun _=>none) (U: ∀f∈F,my f) (W:MW G)
 (X: ∀e∈T,tL P G e/\ja e.args=true) {f:FuncId} {pats:List aj} {res:aj} (hp:ja pats=true) (hr:ou res=true)
 (h:aba (Env.sy P G F) T f pats res=true):tL P G ⟨f,pats,res⟩:=by
 intro S w dS t zU qJ;have ok:=Vs P G F U W;have kF:sZ P (Env.sy P G F) (Ed T):=aa9 Q X;have B:=Vr ok (F1 qg ok) kF;unfold aba at h;cases D:agL (Env.sy P G F) T f pats with
 |fail=>rw [D] at h;cases h
 |ok v H=>
  rw [D] at h;have O:fits H res v=true:=h;have r0:bR G S M7 (sY 1) w:=
   {blk:=fun n i=>absurd i (tb 1 n)
    fresh:=fun n i=>absurd i (vV 1 n)
    apart:=fun n k i=>absurd i (tb 1 n)
    mem:=fun n k i=>absurd i (vV 1 n)
    mq:=fun n i=>absurd i (vV 1 n)
    ins:=fun n=>by rw [F2];exact trivial
    qF:=fun g l I=>by rw [Z] at I;cases I
    jf:=fun n id i=>by rw [F2] at i;cases i
    lim:=t}
  obtain ⟨m1,_,r1,g1,_,b1⟩:=r0.ga (id:=0) (x:= .nilFunc) rfl fun w' p=>zU w' (fun b j s=>p b j s fun k o=>absurd o (tb 1 k)) _
  have E: ∀k,¬bk uw k:=fun k o=>tb 1 k ((b1 k).1 o)
  obtain ⟨m2,J,M,u⟩:=KD pats dS m1 uw r1 hp fun w' p=>qJ w' fun b j s=>p b j s fun k o=>absurd o (E k)
  have C: ∀k,¬bk (jQ pats uw).2 k:=fun k o=>E k ((u.F3 k).1 o)
  have yq:(jQ pats uw).2.df= []:=u.df;have:=(B f _ _ v H D).2 S m2 w u.rep M (fun d hd=>by simp_all);rw [J] at this;refine this.mono fun en w' ⟨m',Y,r',q,N⟩=>⟨_,Y,fun w2 iM=> ?_,⟨q.os,q.tape,q.output,q.size,fun b j=>q.xj b j fun n i=>absurd i (C n)⟩⟩
  exact QW r' res v hr N O w2 fun b j s _=>iM b j s
end
end
section
variable {ri:aJ}
def Own (base:Nat) (w:World) (Φ:World->Prop):Prop:= ∀w',(∀b,base<=b->b<w.heap.size->w'.heap[b]? =w.heap[b]?)->Φ w'
def vW:List (World->Value->Prop)->World->List Value->Prop
 | [],_,d=>d= []
 |R::Rs,w,d=> ∃v e,d=v::e/\R w v/\vW Rs w e
def bJ (P:Program) (A:World->Prop) (f:FuncId) (Rs:List (World->Value->Prop)) (R:World->Value->Prop):Prop:=
 ∀(S:Nat->Prop) (w:World) (dS:List Value),(∀b,S b->b<w.heap.size)->jh S w A->jh S w (fun w'=>vW Rs w' dS)->
  Calls P f ⟨dS⟩ w fun d w'=> ∃x,d= .returned x/\jh S w' (fun e=>R e x)/\RowKit.Below w.heap.size w w'
section
variable {P:Program} {A:World->Prop} {aET:List (World->Value->Prop)} {lens:List (Option aj)}
def agM {S:Nat->Prop} {w:World} {Φ:World->Prop} (h:jh S w Φ):Φ w:=h w fun _ _ _=>rfl
def abd {f:FuncId} {Rs:List (World->Value->Prop)} {R:World->Value->Prop}
 (h: ∀w dS,vW Rs w dS->A w->Calls P f ⟨dS⟩ w fun g w'=> ∃x,g= .returned x/\Own w.heap.size w' (fun e=>R e x)/\RowKit.Below w.heap.size w w'):bJ P A f Rs R:=fun S w dS d p u=>by
 refine (h w dS (agM u) (agM p)).mono ?_;rintro g w' ⟨x,j,l,o⟩;exact ⟨x,j,fun e t=>l e fun b q i=>t b i fun s=>bO _ (az (d b s) q),o⟩
variable {G:gb} {p1 p2 p3 p4:aj} {R1 R2 R3 R4:World->Value->Prop}
def fm [aJ] (G:gb) (R:World->Value->Prop) (p:aj):Prop:= ∀w v,R w v->Mt G w p v
def ft [aJ] (G:gb) (p:aj) (R:World->Value->Prop):Prop:= ∀w v,Mt G w p v->R w v
def jB: ∀w d,vW [] w d->pJ G w [] d:=fun _ _ h=>h
def fD {p:aj} {R:World->Value->Prop} {ps:List aj} {Rs:List (World->Value->Prop)} (h:fm G R p) (i: ∀w d,vW Rs w d->pJ G w ps d): ∀w d,vW (R::Rs) w d->pJ G w (p::ps) d:=by
 rintro w d ⟨v,e,rfl,f,g⟩;exact ⟨v,e,rfl,h w v f,i w e g⟩
def cY: ∀w d,pJ G w [] d->vW [] w d:=fun _ _ h=>h
def bL {p:aj} {R:World->Value->Prop} {ps:List aj} {Rs:List (World->Value->Prop)} (h:ft G p R) (i: ∀w d,pJ G w ps d->vW Rs w d): ∀w d,pJ G w (p::ps) d->vW (R::Rs) w d:=by
 rintro w d ⟨v,e,rfl,f,g⟩;exact ⟨v,e,rfl,h w v f,i w e g⟩
def bj (x:Value):World->Value->Prop:=fun _ v=>v=x
def yv {k:IntKind} {z:Int} :ft G (.int k z) (bj (.int k z)):=fun _ _ e=>e
def oO {b:Bool} :fm G (bj (.bool b)) (.bool b):=fun _ _ e=>e
def jH {b:Bool} :ft G (.bool b) (bj (.bool b)):=fun _ _ e=>e
def o9 (R1 R2:World->Value->Prop):World->Value->Prop:=fun w v=> ∃a b,v= .tuple #[a,b]/\R1 w a/\R2 w b
def QY (d:fm G R1 p1) (e:fm G R2 p2):fm G (o9 R1 R2) (.fh [p1,p2]):=by
 rintro w v ⟨a,b,rfl,f,g⟩;exact ⟨[a,b],rfl,a,[b],rfl,d w a f,b,[],rfl,e w b g,rfl⟩
def Ee (d:ft G p1 R1) (e:ft G p2 R2):ft G (.fh [p1,p2]) (o9 R1 R2):=by
 rintro w v ⟨l,rfl,a,j,rfl,f,b,i,rfl,g,rfl⟩;exact ⟨a,b,rfl,d w a f,e w b g⟩
def Ef (R1 R2 R3:World->Value->Prop):World->Value->Prop:=fun w v=> ∃a b c,v= .tuple #[a,b,c]/\R1 w a/\R2 w b/\R3 w c
def Bc (d:fm G R1 p1) (e:fm G R2 p2) (f:fm G R3 p3):fm G (Ef R1 R2 R3) (.fh [p1,p2,p3]):=by
 rintro w v ⟨a,b,c,rfl,g,i,hc⟩;exact ⟨[a,b,c],rfl,a,[b,c],rfl,d w a g,b,[c],rfl,e w b i,c,[],rfl,f w c hc,rfl⟩
def Eg (d:ft G p1 R1) (e:ft G p2 R2) (f:ft G p3 R3):ft G (.fh [p1,p2,p3]) (Ef R1 R2 R3):=by
 rintro w v ⟨p,rfl,a,o,rfl,g,b,l,rfl,i,c,j,rfl,hc,rfl⟩;exact ⟨a,b,c,rfl,d w a g,e w b i,f w c hc⟩
variable {a b c:aj} {x y z:Int} {k:IntKind}
def KH (k:IntKind) (n:Int):oH k n=some (.int k n):=by
 cases n with
 |ofNat m=>cases m<;>rfl
 |negSucc m=>cases m<;>rfl
def QZ {d:BinOp} (hc:xm c=true) (e: ∀m,γ m a= .int k x) (f: ∀m,γ m b= .int k y) (i: ∀m,γ m c= .int k z) (g:sB (.bin d) k k x y=some (.int k z)):my ⟨.bin d,a,b,c⟩:=
 ⟨hc,k,k,x,y,_,e,f,g,i⟩
def zV (k:IntKind):nh k k=true:=(AW k k).2 rfl
def Na (hc:xm c=true) (d: ∀m,γ m a= .int k x) (e: ∀m,γ m b= .int k y) (g: ∀m,γ m c= .int k z) (f:k.wrap (x+y)=z):my ⟨.bin .add,a,b,c⟩:=
 QZ hc d e g (by simp only [sB,zV,cond_true,u6];rw [KH,xv,ae8,f])
def abe (hc:xm c=true) (d: ∀m,γ m a= .int k x) (e: ∀m,γ m b= .int k y) (g: ∀m,γ m c= .int k z) (f:k.wrap (x-y)=z):my ⟨.bin .sub,a,b,c⟩:=
 QZ hc d e g (by simp only [sB,zV,cond_true,u6];rw [KH,xv,Qn,f])
def aqf (hc:xm c=true) (d: ∀m,γ m a= .int k x) (e: ∀m,γ m b= .int k y) (g: ∀m,γ m c= .int k z) (f:k.wrap (x*y)=z):my ⟨.bin .mul,a,b,c⟩:=
 QZ hc d e g (by simp only [sB,zV,cond_true,u6];rw [KH,xv,aab,f])
def aqg (hc:xm c=true) (e: ∀m,γ m a= .int k x) (f: ∀m,γ m b= .int k y) (i: ∀m,γ m c= .int k z) (d:y≠0) (g:x.tmod y=z):my ⟨.bin .rem,a,b,c⟩:=
 QZ hc e f i (by simp only [sB,zV,cond_true,u6];rw [AX,decide_eq_false d,cond_false,KH,afa,g])
def aqh (hc:xm c=true) (e: ∀m,γ m a= .int k x) (f: ∀m,γ m b= .int k y) (i: ∀m,γ m c= .int k z) (d:y≠0) (g:k.wrap (x.tdiv y)=z):my ⟨.bin .quo,a,b,c⟩:=
 QZ hc e f i (by simp only [sB,zV,cond_true,u6];rw [AX,decide_eq_false d,cond_false,KH,xv,ae9,g])
def VK (hc:xm c=true) (d: ∀m,γ m a= .int k x) (f: ∀m,γ m c= .int k z) (e:k.wrap (-x)=z):my ⟨.neg,a,a,c⟩:=
 ⟨hc,k,k,x,x,.int k z,d,d,by simp only [sB];rw [KH,xv,Qn,Int.zero_sub,e],f⟩
def VL {j:IntKind} (hc:xm c=true) (d: ∀m,γ m a= .int k x) (f: ∀m,γ m c= .int j z) (e:j.wrap x=z):my ⟨.conv j,a,a,c⟩:=
 ⟨hc,k,k,x,x,.int j z,d,d,by simp only [sB];rw [KH,xv,e],f⟩
def aqi (hc:xm c=true) (d: ∀m,γ m a= .int k x) (e: ∀m,γ m b= .int k y) (f: ∀m,γ m c= .int k z) (g:max x y=z):my ⟨.mx true,a,b,c⟩:=
 ⟨hc,k,k,x,y,.int k z,d,e,by
  simp only [sB,zV,cond_true,A2]
  all_goals grind,f⟩
def agN (hc:xm c=true) (d: ∀m,γ m a= .int k x) (e: ∀m,γ m b= .int k y) (f: ∀m,γ m c= .int k z) (g:min x y=z):my ⟨.mx false,a,b,c⟩:=
 ⟨hc,k,k,x,y,.int k z,d,e,by
  simp only [sB,zV,cond_true,cond_false,A2]
  all_goals grind,f⟩
variable {r:Bool}
def Bd (d: ∀m,γ m a= .int k x) (e: ∀m,γ m b= .int k y) (f:decide (x<y)=r):my ⟨.bin .lss,a,b,.bool r⟩:=
 ⟨rfl,k,k,x,y,.bool r,d,e,by simp only [sB,zV,cond_true,u6];rw [A2,f],fun _=>rfl⟩
def F5 (d: ∀m,γ m a= .int k x) (e: ∀m,γ m b= .int k y) (f:decide (y<x)=r):my ⟨.bin .gtr,a,b,.bool r⟩:=
 ⟨rfl,k,k,x,y,.bool r,d,e,by simp only [sB,zV,cond_true,u6];rw [A2,f],fun _=>rfl⟩
def Eh (d: ∀m,γ m a= .int k x) (e: ∀m,γ m b= .int k y) (f:decide (x<=y)=r):my ⟨.bin .leq,a,b,.bool r⟩:=
 ⟨rfl,k,k,x,y,.bool r,d,e,by
  simp only [sB,zV,cond_true,u6];rw [A2,<-f]
  all_goals grind,fun _=>rfl⟩
def Q4 (d: ∀m,γ m a= .int k x) (e: ∀m,γ m b= .int k y) (f:decide (y<=x)=r):my ⟨.bin .geq,a,b,.bool r⟩:=
 ⟨rfl,k,k,x,y,.bool r,d,e,by
  simp only [sB,zV,cond_true,u6];rw [A2,<-f]
  all_goals grind,fun _=>rfl⟩
def tN (d: ∀m,γ m a= .int k x) (e: ∀m,γ m b= .int k y) (f:decide (x=y)=r):my ⟨.bin .eql,a,b,.bool r⟩:=
 ⟨rfl,k,k,x,y,.bool r,d,e,by simp only [sB,zV,cond_true,u6];rw [AX,f],fun _=>rfl⟩
def Be (d: ∀m,γ m a= .int k x) (e: ∀m,γ m b= .int k y) (f:decide (x≠y)=r):my ⟨.bin .neq,a,b,.bool r⟩:=
 ⟨rfl,k,k,x,y,.bool r,d,e,by
  simp only [sB,zV,cond_true,u6];rw [AX,<-f]
  all_goals grind,fun _=>rfl⟩
def jI: ∀f∈([]:List Fact),my f:=fun _ h=>by cases h
def eS {f:Fact} {l:List Fact} (h:my f) (e: ∀f∈l,my f): ∀g∈f::l,my g:=fun g d=>by
 grind
def jJ: ∀e∈([]:List rJ),tL P G e/\ja e.args=true:=fun _ h=>by cases h
def cZ {e:rJ} {l:List rJ} (h:tL P G e) (i:ja e.args=true) (f: ∀e∈l,tL P G e/\ja e.args=true): ∀g∈e::l,tL P G g/\ja g.args=true:=fun g d=>by
 grind
end
structure Slot where
 jf:World->Value->Prop
 one: ∀w v,jf w v->v.oneCell'=true
 v0:u9
 v1:u9
 v2:u9
 len:Bool
 hl:len=true-> ∀w v,jf w v-> ∃ad k c,v= .slice ad k c/\v2.v= .int .i64 (k:Nat)
def agO:Slot:=⟨fun _ _=>False,fun _ _ h=>h.elim,default,default,default,false,fun h=>by cases h⟩
def kH:List Slot->Nat->Slot
 | [],_=>agO
 |s::_,0=>s
 |_::l,n+1=>kH l n
def cL (L:List Slot):Nat->u9:=fun i=>match i % 3 with
 |0=>(kH L (i/3)).v0
 |1=>(kH L (i/3)).v1
 |_=>(kH L (i/3)).v2
def aqj (A:World->Prop) (L:List Slot):Nat->World->Value->Prop
 |0=>fun w _=>A w
 |k+1=>(kH L k).jf
def aqk (L:List Slot):Nat->Option aj
 |0=>none
 |k+1=>cond (kH L k).len (some (.sym (3*k+2))) none
def fv (A:World->Prop) (L:List Slot):gb:=⟨fun _=>none,aqj A L,aqk L⟩
def sA (j:Nat):aj:= .atom (pos j)
def s0 (j:Nat):aj:= .sym (3*j)
def s2 (j:Nat):aj:= .sym (3*j+2)
def aql (j:Nat):(pos j).num=j+1:=by rw [QK,aeT]
section
variable {L:List Slot} {A:World->Prop} {P:Program}
def abf (j:Nat):cL L (3*j)=(kH L j).v0:=by
 unfold cL
 all_goals grind
def agP (j:Nat):cL L (3*j+2)=(kH L j).v2:=by
 unfold cL
 all_goals grind
def agQ (j:Nat):(fv A L).jf (pos j).num=(kH L j).jf:=by rw [aql];rfl
def abg: @MW ⟨cL L⟩ (fv A L):=fun id a h=>by
 cases id with
 |zero=>cases h
 |succ k=>
  have d:cond (kH L k).len (some (aj.sym (3*k+2))) none=some a:=h;cases e:(kH L k).len with
  |false=>rw [e] at d;cases d
  |true=>
   rw [e] at d;cases d;refine ⟨rfl,fun w v j=> ?_⟩;obtain ⟨f,n,c,g,i⟩:=(kH L k).hl e w v j;exact ⟨f,n,c,g,fun m=>by show (cL L (3*k+2)).v=_;rw [agP];exact i⟩
def jK (L:List Slot) (E:P.follows .mixedOrders=true) {F:List Fact} {T:List rJ} {f:FuncId} {pats:List aj} {res:aj} {Rs:List (World->Value->Prop)} {R:World->Value->Prop}
 (h:aba (Env.sy P (fv A L) F) T f pats res=true) (t: ∀f∈F,@my ⟨cL L⟩ f) (u: ∀e∈T,@tL ⟨cL L⟩ P (fv A L) e/\ja e.args=true) (i:(ja pats&&ou res)=true)
 (l: ∀w j,vW Rs w j-> @pJ ⟨cL L⟩ (fv A L) w pats j) (C: ∀w v,@Mt ⟨cL L⟩ (fv A L) w res v->R w v):bJ P A f Rs R:=fun S w dS g s D=>by
 simp only [au] at i;have e:= @aqe ⟨cL L⟩ P (fv A L) E F T (fun _ _ _ h=>h) rfl t abg u f pats res i.1 i.2 h;refine (e S w dS g (fun w' d v=>s w' d) fun w' d=>l _ _ (D w' d)).mono ?_;rintro I w' ⟨x,o,p,q⟩;exact ⟨x,o,fun H B=>C _ _ (p H B),q⟩
def db {f:FuncId} {pats:List aj} {res:aj} {Rs:List (World->Value->Prop)} {R:World->Value->Prop} (h:bJ P A f Rs R)
 (i: ∀w g,@pJ ⟨cL L⟩ (fv A L) w pats g->vW Rs w g) (s: ∀w v,R w v-> @Mt ⟨cL L⟩ (fv A L) w res v): @tL ⟨cL L⟩ P (fv A L) ⟨f,pats,res⟩:=fun S w dS e p t=>by
 refine (h S w dS e (fun w' d=>p w' d .nilFunc) fun w' d=>i _ _ (t w' d)).mono ?_;rintro B w' ⟨x,j,l,o⟩;exact ⟨x,j,fun u q=>s _ _ (l u q),o⟩
def dE (v:u9):Slot:=⟨fun _ _=>False,fun _ _ h=>h.elim,v,default,default,false,fun h=>by cases h⟩
def dB (k:IntKind) (z:Int):u9:=⟨.int k z,rfl⟩
def agR (b:Bool):u9:=⟨.bool b,rfl⟩
def dm {j:Nat} {x:Value} (h:(kH L j).v0.v=x): ∀m:Mp,@γ ⟨cL L⟩ m (s0 j)=x:=fun m=>by
 show (cL L (3*j)).v=x;rw [abf];exact h
def Bf {j:Nat} {x:Value} (h:(kH L j).v2.v=x): ∀m:Mp,@γ ⟨cL L⟩ m (s2 j)=x:=fun m=>by
 show (cL L (3*j+2)).v=x;rw [agP];exact h
def iB {j:Nat} {x:Value} (h:(kH L j).v0.v=x): @fm ⟨cL L⟩ (fv A L) (bj x) (s0 j):=fun w v e=>by
 show v=(cL L (3*j)).v;rw [abf,h];exact e
def tc {j:Nat} {x:Value} (h:(kH L j).v0.v=x): @ft ⟨cL L⟩ (fv A L) (s0 j) (bj x):=fun w v e=>by
 have d:v=(cL L (3*j)).v:=e;rw [abf,h] at d;exact d
def agS {j:Nat} {R:World->Value->Prop} (h:(kH L j).jf=R): @fm ⟨cL L⟩ (fv A L) R (sA j):=fun w v e=>
 ⟨(kH L j).one w v (by rw [h];exact e),by rw [agQ,h];exact e⟩
def agT {j:Nat} {R:World->Value->Prop} (h:(kH L j).jf=R): @ft ⟨cL L⟩ (fv A L) (sA j) R:=fun w v e=>by
 have:=e.2;rw [agQ,h] at this;exact this
def agU (R1 R2:World->Value->Prop):World->Value->Prop:=fun w v=> ∃a b,v= .agg #[a,b]/\R1 w a/\R2 w b
def agV (R1 R2 R3:World->Value->Prop):World->Value->Prop:=fun w v=> ∃a b c,v= .agg #[a,b,c]/\R1 w a/\R2 w b/\R3 w c
variable {ri:aJ} {G:gb} {p1 p2 p3:aj} {R1 R2 R3 R R':World->Value->Prop}
def agW (d:fm G R1 p1) (e:fm G R2 p2):fm G (agU R1 R2) (.agg [p1,p2]):=by
 rintro w v ⟨a,b,rfl,f,g⟩;exact ⟨[a,b],rfl,a,[b],rfl,d w a f,b,[],rfl,e w b g,rfl⟩
def agX (d:ft G p1 R1) (e:ft G p2 R2):ft G (.agg [p1,p2]) (agU R1 R2):=by
 rintro w v ⟨l,rfl,a,j,rfl,f,b,i,rfl,g,rfl⟩;exact ⟨a,b,rfl,d w a f,e w b g⟩
def aqm (d:fm G R1 p1) (e:fm G R2 p2) (f:fm G R3 p3):fm G (agV R1 R2 R3) (.agg [p1,p2,p3]):=by
 rintro w v ⟨a,b,c,rfl,g,i,hc⟩;exact ⟨[a,b,c],rfl,a,[b,c],rfl,d w a g,b,[c],rfl,e w b i,c,[],rfl,f w c hc,rfl⟩
def agY (d:ft G p1 R1) (e:ft G p2 R2) (f:ft G p3 R3):ft G (.agg [p1,p2,p3]) (agV R1 R2 R3):=by
 rintro w v ⟨p,rfl,a,o,rfl,g,b,l,rfl,i,c,j,rfl,hc,rfl⟩;exact ⟨a,b,c,rfl,d w a g,e w b i,f w c hc⟩
def fm.of {p:aj} (h:fm G R p) (d: ∀w v,R' w v->R w v):fm G R' p:=fun w v e=>h w v (d w v e)
def ft.to {p:aj} (h:ft G p R) (d: ∀w v,R w v->R' w v):ft G p R':=fun w v e=>d w v (h w v e)
end
end
end Go.Ev
namespace Go.Proofs.YtnmpjdgobafdkaaGreatDoor
section
open Go.RowKit Go.Ev
def aqn {w w':World} {base:Nat} {e:TypeId} {i n:Nat} {v:Value} {xs:List Value} (h:w.ownsRow base e i v n xs) (l: ∀b,base<=b->b<w.heap.size->w'.heap[b]? =w.heap[b]?):w'.ownsRow base e i v n xs:=by
 refine ⟨h.1,?_⟩;rcases h.2 with k|⟨g,cap,cur,rfl,a,d,r⟩
 ·exact .inl k
 ·exact .inr ⟨g,cap,cur,rfl,a,(l g a (ax.1 d).1).trans d,r⟩
def Ie {w:World} {base:Nat} {v:Value} {n:Nat} (h:mP w base v n):Own base w fun a=>dL a v n:=fun a g=>by
 obtain ⟨l,⟨b,d⟩,e⟩:=h;exact mP.r (base:=base) ⟨l,⟨aqn b g,d⟩,e⟩
open Classical in
def mB (n:Nat):Nat:=if h: ∃l,j5 l/\cP l=l.length/\val l=n then (Classical.choose h).length else 0
def aqo {l m:List Nat} (a:j5 l) (b:j5 m) (d:cP l=l.length) (e:cP m=m.length) (g:val l=val m):l.length=m.length:=by
 rcases gj l.length m.length with h|h|h
 ·have:=Mu (m:=m) a (by omega);omega
 ·exact h
 ·have:=Mu (m:=l) b (by omega);omega
def abh {l:List Nat} (e:j5 l) (d:cP l=l.length):mB (val l)=l.length:=by
 have h: ∃m,j5 m/\cP m=m.length/\val m=val l:=⟨l,e,d,rfl⟩;unfold mB;rw [dif_pos h];obtain ⟨a,b,c⟩:=eY h;exact aqo a e b d c
def abi:mB 0=0:=abh (l:= []) (fun x a=>by simp at a) rfl
def aqp {n:Nat} (h:mB n=0) (d: ∃l,j5 l/\cP l=l.length/\val l=n):n=0:=by
 obtain ⟨l,a,b,rfl⟩:=d;rw [abh a b] at h;rw [cJ h];rfl
def fw (n:Nat):World->Value->Prop:=fun w v=>dL w v n
def agZ {n:Nat} {w:World} {v:Value} (h:fw n w v): ∃a c,v= .slice a (mB n) c:=by
 obtain ⟨l,b,d,rfl⟩:=h;obtain ⟨a,c,x,rfl,_⟩:=b.form;exact ⟨a,c,by rw [abh b.2 d]⟩
def aqq {n:Nat} (w:World) (v:Value) (h:fw n w v):v.oneCell'=true:=by
 obtain ⟨a,c,rfl⟩:=agZ h;rfl
def aqr {n:Nat} (w:World) (v:Value) (h:fw n w v): ∃b k c,v= .slice b k c/\(dB .i64 (mB n:Nat)).v= .int .i64 (k:Nat):=by
 obtain ⟨a,c,rfl⟩:=agZ h;exact ⟨a,_,c,rfl,rfl⟩
def F6 (n:Nat) (a b:u9):Slot:=⟨fw n,aqq,a,b,dB .i64 (mB n:Nat),true,fun _=>aqr⟩
def nS (n:Nat):Slot:=F6 n default default
def iS (z:Int):Slot:=F6 z.natAbs (agR (decide (z<0))) default
def dN (z:Int):World->Value->Prop:=fun w v=>DI w v z
def iP (j:Nat):aj:= .agg [s0 j,sA j]
def mW (b:Bool) (j:Nat):aj:= .agg [.bool b,sA j]
section
variable {L:List Slot} {A:World->Prop} {j:Nat}
def jR {n:Nat} {a b:u9} (h:kH L j=F6 n a b): @fm ⟨cL L⟩ (fv A L) (fw n) (sA j):=agS (by rw [h];rfl)
def eA {n:Nat} {a b:u9} (h:kH L j=F6 n a b): @ft ⟨cL L⟩ (fv A L) (sA j) (fw n):=agT (by rw [h];rfl)
def kj {z:Int} (h:kH L j=iS z): @fm ⟨cL L⟩ (fv A L) (dN z) (iP j):=
 letI:aJ:=⟨cL L⟩
 (agW (iB (x:= .bool (decide (z<0))) (by rw [h];rfl)) (jR h)).of fun w v ⟨u,e,a⟩=>⟨_,u,e,rfl,a⟩
def jL {z:Int} (h:kH L j=iS z): @ft ⟨cL L⟩ (fv A L) (iP j) (dN z):=
 letI:aJ:=⟨cL L⟩
 (agX (tc (x:= .bool (decide (z<0))) (by rw [h];rfl)) (eA h)).to fun w v ⟨b,u,e,a,d⟩=>⟨u,by rw [e,show b=_ from a],d⟩
def nT {z:Int} {b:Bool} {x y:u9} (a:decide (z<0)=b) (h:kH L j=F6 z.natAbs x y): @fm ⟨cL L⟩ (fv A L) (dN z) (mW b j):=
 letI:aJ:=⟨cL L⟩
 (agW oO (jR h)).of fun w v ⟨u,e,d⟩=>⟨_,u,e,by rw [<-a];rfl,d⟩
def ag0 {z:Int} {b:Bool} {x y:u9} (a:decide (z<0)=b) (h:kH L j=F6 z.natAbs x y): @ft ⟨cL L⟩ (fv A L) (mW b j) (dN z):=
 letI:aJ:=⟨cL L⟩
 (agX jH (eA h)).to fun w v ⟨c,u,e,hc,d⟩=>⟨u,by rw [e,show c=_ from hc,a],d⟩
end
variable {f:FuncId}
def Ei {a R:World->Value->Prop} (h: ∀w x,a w x->bw w->Calls Tryz.prog f #[x] w fun g b=> ∃y,g= .returned y/\Own w.heap.size b (fun i=>R i y)/\Below w.heap.size w b):bJ Tryz.prog bw f [a] R:=
 abd fun w dS ⟨x,_,e,l,d⟩ k=>by subst d;simp_all
def vh {a b R:World->Value->Prop} (h: ∀w x y,a w x->b w y->bw w->Calls Tryz.prog f #[x,y] w fun i d=> ∃z,i= .returned z/\Own w.heap.size d (fun k=>R k z)/\Below w.heap.size w d):bJ Tryz.prog bw f [a,b] R:=
 abd fun w dS ⟨x,_,e,o,y,_,l,p,g⟩ m=>by subst g;simp_all
def aqs {a b d R:World->Value->Prop} (h: ∀w x y z,a w x->b w y->d w z->bw w->Calls Tryz.prog f #[x,y,z] w fun k g=> ∃u,k= .returned u/\Own w.heap.size g (fun l=>R l u)/\Below w.heap.size w g):bJ Tryz.prog bw f [a,b,d] R:=
 abd fun w dS ⟨x,_,e,q,y,_,m,s,z,_,o,t,i⟩ p=>by subst i;simp_all
def CD {n:Nat} {w:World} {a:Ending} {w':World} (h:rj n w a w'): ∃y,a= .returned y/\Own w.heap.size w' (fun g=>fw n g y)/\Below w.heap.size w w':=by
 obtain ⟨v,e,b,d⟩:=h;exact ⟨v,e,Ie b,d⟩
def Nc {z:Int} {w:World} {b:Ending} {w':World} (h:Fi z w b w'): ∃y,b= .returned y/\Own w.heap.size w' (fun a=>dN z a y)/\Below w.heap.size w w':=by
 obtain ⟨v,e,⟨u,d,g⟩,i⟩:=h;exact ⟨v,e,fun a k=>⟨u,d,Ie g a k⟩,i⟩
def abj {v:Value} {w:World} {a:Ending} {w':World} (h:Quiet v w a w'): ∃y,a= .returned y/\Own w.heap.size w' (fun b=>bj v b y)/\Below w.heap.size w w':=
 ⟨v,h.1,fun _ _=>rfl,h.2⟩
def abk {v:Value} {w:World} {a:Ending} {w':World} (h:vF v w a w'): ∃y,a= .returned y/\Own w.heap.size w' (fun b=>bj v b y)/\Below w.heap.size w w':=by
 obtain ⟨e,rfl⟩:=h;exact ⟨v,e,fun _ _=>rfl,aH _ _⟩
def mix:Tryz.prog.follows .mixedOrders=true:=by kernel_rfl
def abl {w:World} {x:Value} {n:Nat} (h:fw n w x) (a:Sm n): ∃l,g7 w x l/\cP l=l.length/\val l=n/\l.length<=1000000:=dL.lim h a
section
variable {n:Nat}
def abm (a:n≠0) (h: ∃l,j5 l/\cP l=l.length/\val l=n):0<mB n:=gF fun e=>a (aqp e h)
def abn: ∀n:Nat,∃l,j5 l/\cP l=l.length/\val l=n:=by
 intro n
 induction n using Nat.strongRecOn with
 |_ n o=>
  by_cases h:n=0
  ·exact ⟨[],fun x a=>by simp at a,rfl,h.symm⟩
  ·obtain ⟨l,i,p,b⟩:=o (n/4294967296) (by omega)
   refine ⟨n % 4294967296::l,fun x a=> ?_,?_,?_⟩
   ·rcases bu.1 a with rfl|a
    ·omega
    ·exact i x a
   ·have k:=uW (n % 4294967296::l)
    refine Nat.le_antisymm k (dG fun g=> ?_);have q:=Mu (l:=n % 4294967296::l) (m:=n % 4294967296::l);by_cases d:l= []
    ·subst d
     have:n/4294967296=0:=b.symm;have t:n % 4294967296≠0:=by omega
     simp [cP] at g;omega
    ·have:l.length≠0:=fun e=>d (cJ e)
     have s:cP (n % 4294967296::l)=cP l+1:=by
      simp only [cP];simp_all
     simp_all
   ·simp only [val];rw [b];omega
def aqt (a:n≠0):decide (0<(mB n:Int))=true:=by
 have:=abm a (abn n);simp_all
def Q5 (n:Nat):decide ((mB n:Int)=0)=decide (n=0):=by
 by_cases h:n=0
 ·subst h;rw [abi];rfl
 ·have:=abm h (abn n)
  grind
def Ig (n:Nat):decide (0<(mB n:Int))=decide (n≠0):=by
 by_cases h:n=0
 ·subst h;rw [abi];rfl
 ·rw [aqt h];simp_all
end
end
section
open Go.Proofs.Tryz Go.RowKit Go.Ev
def Bn (k n:Nat):Prop:=n<2^k
def Bz (k:Nat) (z:Int):Prop:=z.natAbs<2^k
def Bn.sm {k n:Nat} (h:Bn k n) (a:k<=20000000):Sm n:=AM h
def Bz.sm {k:Nat} {z:Int} (h:Bz k z) (a:k<=20000000):Sm z.natAbs:=AM h
def Bn.mono {k j n:Nat} (h:Bn k n) (a:k<=j):Bn j n:=az h (aG (by decide) a)
def Bz.mono {k j:Nat} {z:Int} (h:Bz k z) (a:k<=j):Bz j z:=az h (aG (by decide) a)
def Bz.abs {k:Nat} {z:Int} (h:Bz k z):Bn k z.natAbs:=h
def Bz.neg {k:Nat} {z:Int} (h:Bz k z):Bz k (-z):=by unfold Bz;rw [iL];exact h
def ag1 (i j:Nat):2^i<=2^(max i j)/\2^j<=2^(max i j):=⟨aG (by decide) (Nat.le_max_left ..),aG (by decide) (Nat.le_max_right ..)⟩
def Bz.add {i j:Nat} {x y:Int} (a:Bz i x) (d:Bz j y):Bz (max i j+1) (x+y):=by
 unfold Bz at*;have:=ag1 i j;omega
def Bn.add {i j x y:Nat} (a:Bn i x) (d:Bn j y):Bn (max i j+1) (x+y):=by
 unfold Bn at*;have:=ag1 i j;omega
def vX (b:Bool) (n:Nat):(jm b n).natAbs=n:=by unfold jm;split<;>simp
def aqu (x:Int) (n:Nat):(x/2^n).natAbs<=x.natAbs:=by
 have a:(0:Int)<2^n:=eC (by decide);rcases (show x<0\/0<=x by omega) with h|h
 ·have e:x<=x/2^n:=by
   rw [fL a];have:(1:Int)<=2^n:=a;have d:x*2^n<=x*1:=gN (by omega) this;omega
  have d:x/2^n<0:=g8 h a;omega
 ·have e:x/2^n<=x:=Int.ediv_le_self _ h
  have d:0<=x/2^n:=jC h (by omega);omega
def Bz.shr {k n:Nat} {x:Int} (h:Bz k x):Bz k (x/2^n):=bh (aqu x n) h
def Bn.shl {k n x:Nat} (h:Bn k x):Bn (k+n) (x*2^n):=by
 unfold Bn at*;rw [bC];exact fO h (aO (by decide))
def Bz.shl {k n:Nat} {x:Int} (h:Bz k x):Bz (k+n) (x*2^n):=by
 unfold Bz;rw [dP,ni];exact Bn.shl (k:=k) (n:=n) h
def Nf {k n:Nat} (h:Bn k n):eN n<=k:=by
 unfold eN;by_cases a:n=0
 ·simp_all
 ·rw [if_neg a]
  exact (pM a).2 h
section
variable {n k i j:Nat}
def KJ (a:n<18446744073709551616:=by decide): ∃m,Bn 64 m/\m=n/\bJ prog bw 60 [bj (.int .u64 (n:Int))] (fw m):=
 ⟨n,by unfold Bn;omega,rfl,Ei fun w x h _=>by
  obtain rfl:x=_:=h;exact (Ms n a).mono fun _ _ h=>CD h⟩
def Q6 {s c:Nat} {z:Int} (a:Bn k n) (f:z=(s:Int)) (g:s<=c:=by omega) (hc:c<=1048576:=by omega) (e:k<=20000000:=by omega): ∃m,Bn (k+c) m/\m=n*2^s/\bJ prog bw 144 [fw n,bj (.int .i64 z)] (fw m):=
 ⟨_,(Bn.shl (n:=s) a).mono (by omega),rfl,vh fun w x y h d _=>by
  obtain rfl:y=_:=d;subst f;exact (Zv h (a.sm e)).mono fun _ _ h=>CD h⟩
def ag2 {s:Nat} {z:Int} (a:Bn k n) (g:z=(s:Int)) (f:s<=1048576:=by omega) (e:k<=20000000:=by omega): ∃m,Bn k m/\m=n/2^s/\bJ prog bw 133 [fw n,bj (.int .i64 z)] (fw m):=
 ⟨_,bh (bT _ _) a,rfl,vh fun w x y h d _=>by
  obtain rfl:y=_:=d;subst g;exact (aex h (a.sm e) f).mono fun _ _ h=>CD h⟩
def aqv {s:Nat} {z:Int} (a:Bn k n) (g:z=(s:Int)) (f:s<=1048576) (e:k<=20000000): ∃m,Bn k m/\m=n % 2^s/\bJ prog bw 136 [fw n,bj (.int .i64 z)] (fw m):=
 ⟨_,bh (Nat.mod_le _ _) a,rfl,vh fun w x y h d _=>by
  obtain rfl:y=_:=d;subst g;exact (aey h (a.sm e) f).mono fun _ _ h=>CD h⟩
def Q7 {m:Nat} (a:Bn i n) (d:Bn j m) (hi:i<=20000000:=by omega) (f:j<=20000000:=by omega): ∃s,Bn (max i j+1) s/\s=n+m/\bJ prog bw 134 [fw n,fw m] (fw s):=
 ⟨_,Bn.add a d,rfl,vh fun w x y h e _=>(Ut h e (a.sm hi) (d.sm f)).mono fun _ _ h=>CD h⟩
def F7 (a:Bn k n) (d:k<=20000000:=by omega): ∃b:Nat,b<=k/\b=eN n/\bJ prog bw 127 [fw n] (bj (.int .i64 (b:Int))):=
 ⟨_,Nf a,rfl,Ei fun e f h _=>(Us h (a.sm d)).mono fun _ _ h=>abk h⟩
def F8 {d:Nat} (e:Bn k n) (s:k<=20000000:=by omega) (f:0<d:=by omega) (a:d<4294967296:=by omega): ∃q r,Bn k q/\q=n/d/\r=n % d/\r<4294967296/\bJ prog bw 108 [fw n,bj (.int .u32 (d:Int))] (Ef (fw q) (bj (.int .u32 (r:Int))) (bj (.bool true))):=
 ⟨_,_,bh (bT _ _) e,rfl,rfl,oV (dj _ f) a,vh fun w x y h g _=>by
  obtain rfl:y=_:=g;obtain ⟨l,m,A,rfl,B⟩:=abl h (e.sm s);refine (Zx m (by omega) d f a).mono ?_;rintro z C ⟨v,rfl,o,p⟩;exact ⟨_,rfl,fun u t=>⟨_,_,_,rfl,Ie o u t,rfl,rfl⟩,p⟩⟩
end
section
variable {x y:Int} {n k i j:Nat} {b:Bool}
def nu (a:Bn k n) (e:k<=20000000:=by omega): ∃z,Bz k z/\z=jm b n/\bJ prog bw 116 [bj (.bool b),fw n] (dN z):=
 ⟨_,by unfold Bz;rw [vX];exact a,rfl,vh fun w u v h d _=>by
  obtain rfl:u=_:=h;exact (Fj b d (a.sm e)).mono fun _ _ h=>Nc h⟩
def F9 (a:n<9223372036854775808:=by decide): ∃z,Bz 63 z/\z=(n:Int)/\bJ prog bw 31 [bj (.int .i64 (n:Int))] (dN z):=
 ⟨_,by unfold Bz;omega,rfl,Ei fun w x h _=>by
  obtain rfl:x=_:=h;exact (anr n a).mono fun _ _ h=>Nc h⟩
def Bg (a:Bz k x) (d:k<=20000000:=by omega): ∃z,Bz k z/\z= -x/\bJ prog bw 146 [dN x] (dN z):=
 ⟨_,a.neg,rfl,Ei fun w v h _=>(ank h (a.sm d)).mono fun _ _ h=>Nc h⟩
def xD (a:Bz i x) (d:Bz j y) (hi:i<=10000000:=by omega) (f:j<=10000000:=by omega): ∃z,Bz (max i j+1) z/\z=x+y/\bJ prog bw 83 [dN x,dN y] (dN z):=
 ⟨_,Bz.add a d,rfl,vh fun w u v h e _=>(anA h e ((Bn.add a.abs d.abs).sm (by omega))).mono fun _ _ h=>Nc h⟩
def zW {s c:Nat} {z:Int} (a:Bz k x) (e:z=(s:Int):=by omega) (g:s<=c:=by omega) (hc:c<=1048576:=by omega) (f:k<=10000000:=by omega): ∃u,Bz (k+c) u/\u=x*2^s/\bJ prog bw 128 [dN x,bj (.int .i64 z)] (dN u):=
 ⟨_,(Bz.shl (n:=s) a).mono (by omega),rfl,vh fun w u v h d _=>by
  obtain rfl:v=_:=d;subst e;exact (anl h (a.sm (by omega)) (by omega) ((Bn.shl (n:=s) a.abs).sm (by omega))).mono fun _ _ h=>Nc h⟩
def Nh {s:Nat} {z:Int} (a:Bz k x) (f:z=(s:Int)) (e:s<=1048576:=by omega) (g:k<=10000000:=by omega): ∃u,Bz k u/\u=x/2^s/\bJ prog bw 85 [dN x,bj (.int .i64 z)] (dN u):=
 ⟨_,a.shr,rfl,vh fun w u v h d _=>by
  obtain rfl:v=_:=d;subst f;exact (anv h (a.sm (by omega)) ((Bn.add a.abs (show Bn 1 1 by unfold Bn;decide)).sm (by omega)) e).mono fun _ _ h=>Nc h⟩
def abo (d:Bz k x) (a:k<=20000000:=by omega): ∃c:Int,c=x.sign/\bJ prog bw 126 [dN x] (bj (.int .i64 c)):=
 ⟨_,rfl,Ei fun f e h _=>(anh h (d.sm a)).mono fun _ _ h=>abj h⟩
def Ih: ∃c:Int,c=vL x y/\bJ prog bw 76 [dN x,dN y] (bj (.int .i64 c)):=
 ⟨_,rfl,vh fun f d e h a _=>(ans h a).mono fun _ _ h=>abj h⟩
end
end
end Go.Proofs.YtnmpjdgobafdkaaGreatDoor
