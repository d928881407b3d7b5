/- refineFuel_proved. -/
import Derived.Test.YtnmpjdgobafdkaaGreatDoorPmai
set_option maxRecDepth 100000
set_option maxHeartbeats 16000000
set_option linter.all false
noncomputable section
namespace Go.Ev
section
variable [aJ] {S:Nat->Prop}
section
variable {P:Program} {E:Env}
def aol {a:List Field} (ok:eD P E): ∀(i:Nat) (p:Nat×Nat),placeOf E a i=some p-> ∃f,a[i]? =some f/\ ∃inf,P.info? f.type=some inf/\p=(f.offset,inf.size):=by
 intro i p h;unfold placeOf at h;cases d:a[i]? with
 |none=>rw [d] at h;cases h
 |some f=>
  rw [d] at h;simp only at h;cases b:E.size f.type with
  |none=>rw [b] at h;cases h
  |some s=>
   rw [b] at h;cases h;obtain ⟨inf,e,g⟩:=ok.size b
   all_goals grind
omit [aJ] in
def afl {g d:Nat->Option (Nat×Nat)} (h: ∀i p,g i=some p->d i=some p): ∀(a:List (Nat×Value)) (c r:Array Value),Instr.fill g c a=some r->Instr.fill d c a=some r
 | [],c,r,b=>b
 |(i,v)::e,c,r,b=>by
  simp only [Instr.fill] at b⊢;cases f:g i with
  |none=>rw [f] at b;cases b
  |some p=>
   rw [f] at b;rw [h i p f];obtain ⟨off,size⟩:=p;simp only at b⊢;split at b
   ·cases b
   ·rename_i hc
    rw [if_neg hc];exact afl h e _ r b
def aom (ok:eD P E) (t:TypeId) (a:Array (Nat×Operand)):gZ P E (.build t a) (lh E (.build t a)):=fun m D B ρ v w o W X b=>by
 have O: ∀x:Operand,In D ((bP E x).g B):=fun x=>(iV (E:=E) X x).2
 have N:(a.map fun (i,x)=>(i,ρ x)).toList=a.toList.map fun p=>(p.1,γ m ((bP E p.2).g B)):=by
  simp only [lC];apply dy;intro p _;rw [(iV (E:=E) X p.2).1]
 change (MJ E t a).f B=some v at b;unfold MJ at b;cases J:E.zero t with
 |none=>rw [J] at b;cases b
 |some z=>
  obtain ⟨it,zv,y,A,rfl⟩:=ok.zero J;rw [J] at b;have k:=zJ D zv;have M:zv.cells=⟨aV m (aj.ofValue zv).cells⟩:=by rw [<-Hn m k,FD]
  cases I:E.cQ t with
  |none=>rw [I] at b;cases b
  |some d=>
   rw [I] at b;have R:=ok.cQ I;cases d<;>try (cases b;done)
   case array n e=>
    simp only at b;cases Q:E.size e with
    |none=>simp_all
    |some s=>
     rw [Q] at b;simp only at b;obtain ⟨ie,vO,Y⟩:=ok.size Q;cases j:zD (fun i=>some (Nat.mul i s,s)) (Fv E a) B (aj.ofValue zv).cells with
     |none=>rw [j] at b;cases b
     |some l=>
      rw [j] at b;cases b;obtain ⟨C,F,_⟩:=U6 O a.toList _ _ j (Ho k);refine ⟨?_,F⟩;have G:P.built t (a.map fun (i,x)=>(i,ρ x)).toList=some ⟨aV m l⟩:=by
       unfold Program.built;rw [y,R];simp only [A,vO,M,N,Y];exact C
      refine FK (s:=Instr.build t (a.map fun (i,x)=>(i,ρ x))) (by simp only [execOp,W]) ?_;exact run_build w t _ _ G
   case struct q=>
    simp only at b;cases u:(q.toList.all fun f=>(E.size f.type).isSome) with
    |false=>simp_all
    |true=>
    rw [u] at b;simp only [cond_true] at b;cases j:zD (placeOf E q.toList) (Fv E a) B (aj.ofValue zv).cells with
    |none=>rw [j] at b;cases b
    |some l=>
     rw [j] at b;cases b;obtain ⟨C,F,_⟩:=U6 O a.toList _ _ j (Ho k);refine ⟨?_,F⟩;have Z: ∃h:List (Nat×Nat),q.toList.mapM (fun f=>(P.info? f.type).map fun i=>(f.offset,i.size))=some h/\ ∀(i:Nat) (f:Field),q.toList[i]? =some f-> ∀inf,P.info? f.type=some inf->h[i]? =some (f.offset,inf.size):=by
      have u: ∀f∈q.toList,(P.info? f.type).isSome=true:=fun f j=>by
       have:=ef.1 u f j;obtain ⟨s,H⟩:=lD.1 this;obtain ⟨i,U,_⟩:=ok.size H;rw [U];rfl
      generalize q.toList=l at u
      induction l with
      |nil=>simp_all
      |cons f l ih=>
       obtain ⟨pl,h1,h2⟩:=ih (fun g T=>u g (aw _ T));obtain ⟨inf,aEO⟩:=lD.1 (u f (aE ..));refine ⟨(f.offset,inf.size)::pl,by simp_all,fun i g T aEP U=> ?_⟩
       all_goals grind
     obtain ⟨h,p1,p2⟩:=Z;have G:P.built t (a.map fun (i,x)=>(i,ρ x)).toList=some ⟨aV m l⟩:=by
      unfold Program.built;rw [y,R];simp only [A,p1,M,N];refine afl (fun i p hp=> ?_) _ _ _ C;obtain ⟨f,q1,inf,q2,rfl⟩:=aol ok i p hp
      all_goals grind
     refine FK (s:=Instr.build t (a.map fun (i,x)=>(i,ρ x))) (by simp only [execOp,W]) ?_;exact run_build w t _ _ G
omit [aJ] in
def MX {v:aj} {k:Nat->Option aj} {r:aj} (h:yb v none k=some r): ∃kd n,v= .int kd (.ofNat n)/\k n=some r:=by
 unfold yb at h;cases v<;>try (cases h;done)
 rename_i kd n;cases n with
 |negSucc n=>cases h
 |ofNat n=>grind
def aon {f:Field} {s:Nat} (ok:eD P E) (h:E.size f.type=some (s+1)) (b off:Nat) (w:World):(fieldPlace ⟨b,off,none⟩ f).run P w= .ok ⟨b,off+f.offset,none⟩ w:=by
 have a:=ok.yl h w;simp [fieldPlace,a,FG]
def aoo (ok:eD P E) (t:TypeId) (x:Operand) (f:Nat):gZ P E (.fieldAddr t x f) (lh E (.fieldAddr t x f)):=
 Kk (fun a=>Instr.fieldAt t a f) (fun ρ o k=>by simp only [execOp,k]) fun m D u v w p b=>by
  unfold aeN at b;cases g:E.cQ t with
  |none=>rw [g] at b;cases b
  |some d=>
   rw [g] at b;have l:=ok.nj g w;cases d<;>try (cases b;done)
   rename_i i;simp only at b;cases j:i.toList[f]? with
   |none=>rw [j] at b;cases b
   |some h=>
    rw [j] at b;simp only at b;cases e:E.size h.type with
    |none=>rw [e] at b;cases b
    |some s=>
     rw [e] at b;cases s with
     |zero=>cases b
     |succ s=>
      simp only at b;cases u<;>try (cases b;done)
      rename_i n off;simp only [yh,aW] at b;subst b;have q:i[f]? =some h:=by simp_all
      exact ⟨by simp [Instr.fieldAt,l,q,γ,Instr.sureAddr,aon ok e],p⟩
def aop (ok:eD P E) (t:TypeId) (x:Operand) (f:Nat):gZ P E (.field t x f) (lh E (.field t x f)):=
 Kk (fun a=>Instr.field t a f) (fun ρ o j=>by simp only [execOp,j]) fun m D u v w p b=>by
  unfold aeO at b;cases e:E.cQ t with
  |none=>rw [e] at b;cases b
  |some d=>
   rw [e] at b;have k:=ok.nj e w;cases d<;>try (cases b;done)
   rename_i g;simp only at b;cases h:g.toList[f]? with
   |none=>rw [h] at b;cases b
   |some i=>
    rw [h] at b;simp only at b;cases u<;>try (cases b;done)
    rename_i l;have q:g[f]? =some i:=by simp_all
    obtain ⟨s,y⟩:=afj (m:=m) ok b p w;exact ⟨by simp [Instr.field,k,q,γ,asAgg,s],y⟩
def aoq (ok:eD P E) (t:TypeId) (x y:Operand):gZ P E (.indexAddr t x y) (lh E (.indexAddr t x y)):=
 afi (fun a b=>Instr.indexAt t a b) (fun ρ o A=>by simp only [execOp,A]) fun m D a b v w z C f=>by
  unfold aeK at f;cases s:E.cQ t with
  |none=>rw [s] at f;cases f
  |some d=>
   rw [s] at f;have q:=ok.nj s w;cases d<;>try (cases f;done)
   case slice e=>
    simp only at f;cases j:E.size e with
    |none=>rw [j] at f;cases f
    |some B=>
     rw [j] at f;simp only at f;have l:=ok.yl j w;replace f:=MX f;obtain ⟨kd,i,rfl,f⟩:=f;cases a<;>try (cases f;done)
     rename_i n off len cap;simp only at f;cases h:Nat.blt i len with
     |false=>simp_all
     |true=>
      rw [h] at f;simp only [cond_true,yh,aW] at f;subst f;have k:i<len:=sw.1 h;refine ⟨?_,z⟩;cases cap<;>simp [Instr.indexAt,asIntOf,q,γ,l,k,FG]<;>rfl
   case array len e=>
    simp only at f;cases j:E.size e with
    |none=>rw [j] at f;cases f
    |some B=>
     rw [j] at f;simp only at f;have l:=ok.yl j w;replace f:=MX f;obtain ⟨kd,i,rfl,f⟩:=f;cases a<;>try (cases f;done)
     ·rename_i n off
      simp only at f;cases h:Nat.blt i len with
      |false=>rw [h] at f;cases f
      |true=>
       rw [h] at f;simp only [cond_true,yh,aW] at f;subst f;have k:i<len:=sw.1 h;refine ⟨?_,z⟩;simp [Instr.indexAt,asIntOf,q,γ,l,k,FG,Instr.sureAddr]<;>rfl
     ·rename_i u
      split at f<;>try (cases f;done)
      ·rename_i p;cases p
      ·rename_i g off p
       cases p;cases h:Nat.blt i len with
       |false=>rw [h] at f;cases f
       |true=>
        rw [h] at f;simp only [cond_true,yh,aW] at f;subst f;have k:i<len:=sw.1 h;refine ⟨?_,by show Value.oneCell' _=true;rfl⟩;simp [Instr.indexAt,asIntOf,q,γ,l,k,FG,Instr.sureAddr]<;>rfl
def aor (ok:eD P E) (t:TypeId) (x y:Operand):gZ P E (.index t x y) (lh E (.index t x y)):=
 afi (fun a b=>Instr.index t a b) (fun ρ o A=>by simp only [execOp,A]) fun m D a b v w u H f=>by
  unfold aeM at f;cases p:E.cQ t with
  |none=>rw [p] at f;cases f
  |some d=>
   rw [p] at f;have s:=ok.nj p w;cases d<;>try (cases f;done)
   case string=>
    simp only at f;replace f:=MX f;obtain ⟨kd,i,rfl,f⟩:=f;cases a<;>try (cases f;done)
    rename_i l;simp only [anV] at f;cases h:l[i]? with
    |none=>rw [h] at f;cases f
    |some b=>
     rw [h] at f;simp only [yh,aW] at f;subst f;refine ⟨?_,trivial⟩;have g:=(fg.1 h).1;have e:(⟨⟨l⟩⟩:ByteArray)[i]? =some b:=by
      have k:i<(⟨⟨l⟩⟩:ByteArray).size:=g;rw [getElem?_pos (⟨⟨l⟩⟩:ByteArray) i k];have:=(fg.1 h).2;exact congrArg some this
     simp [Instr.index,asIntOf,s,γ,e]
   case array len e=>
    simp only at f;cases j:E.size e with
    |none=>rw [j] at f;cases f
    |some G=>
     rw [j] at f;simp only at f;have B:=ok.yl j w;replace f:=MX f;obtain ⟨kd,i,rfl,f⟩:=f;cases a<;>try (cases f;done)
     rename_i l;simp only at f;cases g:Nat.blt i len with
     |false=>simp_all
     |true=>
      rw [g] at f;simp only [cond_true] at f;have z:i<len:=sw.1 g;obtain ⟨C,F⟩:=afj (m:=m) ok f u w;refine ⟨?_,F⟩;have q:(part e ⟨aV m l⟩ (i*G)).run P w= .ok (γ m v) w:=C;simp [Instr.index,asIntOf,s,γ,B,z,q]
def aos (ok:eD P E) (x:Operand) (y t:TypeId) (c:Bool):gZ P E (.typeAssert x y t c) (lh E (.typeAssert x y t c)):=
 Kk (fun a=>Instr.typeAssert a y t c) (fun ρ o C=>by simp only [execOp,C]) fun m D u v w A b=>by
  unfold aeQ at b;cases l:E.cQ t with
  |none=>rw [l] at b;cases b
  |some d=>
   rw [l] at b;have k:=ok.nj l w;have h:(match E.zero t with
    |some z=>(⟨fun x=>match x with
     | .iface u v=>cond (Nat.beq u t) (some (cond c (.fh [v,.bool true]) v)) (cond c (some (.fh [z,.bool false])) none)
     |_=>none⟩:P7)
    |none=>⟨fun _=>none⟩).f u=some v/\(∀F,d≠ .interface F):=by
    grind
   obtain ⟨b,i⟩:=h;cases p:E.zero t with
   |none=>rw [p] at b;cases b
   |some z=>
    rw [p] at b;obtain ⟨I,zv,G,H,rfl⟩:=ok.zero p;have B:=UZ G H w;simp only at b;obtain ⟨s,q,rfl⟩: ∃s q,u= .iface s q:=by grind
    simp only at b;cases g:Nat.beq s t with
    |true=>
     rw [g] at b;simp only [cond_true,aW] at b;subst b;have:=beq_iff.1 g;subst this;cases c with
     |true=>exact ⟨by cases d<;>first|exact absurd rfl (i _)|simp [Instr.typeAssert,k,γ,aV],⟨A,trivial,trivial⟩⟩
     |false=>exact ⟨by cases d<;>first|exact absurd rfl (i _)|simp [Instr.typeAssert,k,γ],A⟩
    |false=>
     rw [g] at b;have j:s≠t:=fun e=>by subst e;rw [jA] at g;cases g
     cases c with
     |false=>cases b
     |true=>
      simp only [cond_true,cond_false,aW] at b;subst b;exact ⟨by cases d<;>first|exact absurd rfl (i _)|simp [Instr.typeAssert,k,γ,aV,j,B,FD],⟨zJ D zv,trivial,trivial⟩⟩
end
end
section
variable [aJ] {S:Nat->Prop}
section
variable {P:Program} {E:Env}
omit [aJ] in
def Km {ρ:Operand->Value} {o:Oper} {c:Call} {b:Builtin} (a:o.op= .call c) (hc:c.callee= .builtin b):
 execOp ρ o=builtin b c.argTypes o.type (c.args.map fun| .const _=>true|_=>false) (c.args.map ρ):=by
 simp only [execOp,a,resolve,hc];rfl
omit [aJ] in
def Kn {ρ:Operand->Value} {c:Call} {l:List Operand} (h:c.args.toList=l):c.args.map ρ=⟨l.map ρ⟩:=by
 grind
omit [aJ] in
def U8 {c:Call} {l:List TypeId} (h:c.argTypes.toList=l):c.argTypes=⟨l⟩:=by subst h;rfl
def afm {c:Call} {b:Builtin} {f:aj->Option aj} {x:Operand} {t:TypeId} {a:List TypeId} (hc:c.callee= .builtin b) (e:c.args.toList= [x]) (j:c.argTypes.toList=t::a)
 (s:Value->Sem Value) (g: ∀ty d u,builtin b ⟨t::a⟩ ty d #[u]=(do pure (.value (<-s u))))
 (h: ∀(m:Mp) (D:Pos->Prop) u v w,In D u->f u=some v->(s (γ m u)).run P w= .ok (γ m v) w/\In D v):gZ P E (.call c) (xf E f x):=
 Kk s (fun ρ o i=>by rw [Km i hc,Kn e,U8 j];exact g _ _ _) h
def aou (ok:eD P E) {c:Call} {x:Operand} {t:TypeId} {b:List TypeId} (hc:c.callee= .builtin .len) (d:c.args.toList= [x]) (e:c.argTypes.toList=t::b) (f:E.cQ t=some .string):
 gZ P E (.call c) (xf E (fun v=>match v with| .str s=>sW s.length fun k=>some (.int .i64 (.ofNat k))|_=>none) x):=
 afm hc d e (fun u=>Builtin.len_ ⟨t::b⟩ 0 #[u]) (fun _ _ _=>rfl) fun m D u v w g a=>by
  cases u<;>try (cases a;done)
  simp only [yh,aW] at a;subst a;exact ⟨by simp [Builtin.len_,ok.nj f,γ,goInt];rfl,trivial⟩
def aov (ok:eD P E) {c:Call} {x:Operand} {t e:TypeId} {d:List TypeId} (hc:c.callee= .builtin .len) (g:c.args.toList= [x]) (h:c.argTypes.toList=t::d) (b:E.cQ t=some (.slice e)):
 gZ P E (.call c) (xf E (fun v=>match v with| .jP=>some (.int .i64 (.ofNat 0))| .i7 _ _ n _=>some (.int .i64 (.ofNat n))|_=>none) x):=
 afm hc g h (fun u=>Builtin.len_ ⟨t::d⟩ 0 #[u]) (fun _ _ _=>rfl) fun m D u v w i a=>by
  cases u<;>try (cases a;done)
  ·rename_i n off l f
   simp only [aW] at a;subst a;cases f<;>exact ⟨by simp [Builtin.len_,ok.nj b,γ,goInt],trivial⟩
  ·simp only [aW] at a
   subst a;exact ⟨by simp [Builtin.len_,ok.nj b,γ,goInt],trivial⟩
def U9 {m:Mp} {D:Pos->Prop} (d:Bool): ∀(l:List aj) (x v:aj) (w:World),In D x->DU d l x=some v->
 ((aV m l).foldlM (if d then Builtin.max2 else Builtin.min2) (γ m x)).run P w= .ok (γ m v) w/\In D v
 | [],x,v,w,f,h=>by cases h;exact ⟨rfl,f⟩
 |y::l,x,v,w,f,h=>by
  unfold DU at h;cases x<;>try (cases h;done)
  cases y<;>try (cases h;done)
  rename_i k a j b;simp only at h;obtain ⟨e,g⟩:=U9 (m:=m) (D:=D) d l (aj.int k (cond d (cond (Ch a b) b a) (cond (Ch b a) b a))) v w trivial h;refine ⟨?_,g⟩;simp only [aV,List.foldlM_cons,γ,aI];cases d
  ·simp only [cG,if_false,Builtin.min2,bp,aB]
   simp only [γ,A2,cond_false,cG,if_false] at e
   all_goals grind
  ·simp only [if_true,Builtin.max2,bp,aB]
   simp only [γ,A2,cond_true,if_true] at e
   all_goals grind
def aow {c:Call} {x:Operand} {l:List Operand} (hc:c.callee= .builtin .max) (i:c.args.toList=x::l):
 gZ P E (.call c) (.pu fun a=>DU true (sr (sV E l) a) ((bP E x).g a)):=fun m D a ρ v w o j b k=>by
 obtain ⟨f,h⟩:=iV (E:=E) b x;obtain ⟨e,q⟩:=Hq (E:=E) b l;obtain ⟨d,p⟩:=U9 (P:=P) (m:=m) (D:=D) true _ _ v w h k;refine ⟨?_,p⟩;rw [Km j hc,Kn i];simp only [if_true] at d;simp only [builtin,Builtin.max_,cI,f,e,aI,d,aB,bp]
def aox {c:Call} {x:Operand} {l:List Operand} (hc:c.callee= .builtin .min) (i:c.args.toList=x::l):
 gZ P E (.call c) (.pu fun a=>DU false (sr (sV E l) a) ((bP E x).g a)):=fun m D a ρ v w o j b k=>by
 obtain ⟨f,h⟩:=iV (E:=E) b x;obtain ⟨e,q⟩:=Hq (E:=E) b l;obtain ⟨d,p⟩:=U9 (P:=P) (m:=m) (D:=D) false _ _ v w h k;refine ⟨?_,p⟩;rw [Km j hc,Kn i];simp only [cG,if_false] at d;simp only [builtin,Builtin.min_,cI,f,e,aI,d,aB,bp]
omit [aJ] in
def afn: ∀(n:Nat) (l:List Value),aeR n l=l[n]?
 |0,[]=>rfl
 |0,_::_=>rfl
 |n+1,[]=>rfl
 |n+1,_::l=>(afn n l).trans (by simp)
def afo (ok:eD P E) (t:TypeId) (x:Operand):gZ P E (.load t x) (lh E (.load t x)):=fun S m h B ρ v w o I j J a=>by
 obtain ⟨G,O⟩:=iV (E:=E) J x;change (P8 E t).f h ((bP E x).g B)=some v at a;have i:(Instr.loadAt t (ρ x)).run P w= .ok (γ m v) w/\In (aF h) v:=by
  unfold P8 at a;cases q:E.Fq t with
  |none=>rw [q] at a;cases a
  |some b=>
   rw [q] at a;have p:=ok.aaa q w;rw [G];cases b with
   |true=>
    cases z:E.size t with
    |none=>rw [z] at a;cases a
    |some k=>
     rw [z] at a;simp only at a;have D:=ok.yl z w;obtain ⟨n,off,H⟩: ∃n off,(bP E x).g B= .ptr n off:=by
      grind
     rw [H] at a⊢;simp only at a;cases d:h.u5 n off k with
     |none=>rw [d] at a;cases a
     |some l=>
      rw [d] at a;cases a;exact ⟨by simp [Instr.loadAt,Instr.sureAddr,γ,loadVar,p,D,j.Qh d],(j.u5 d).2.1⟩
   |false=>
    simp only at a;generalize (bP E x).g B=u at a⊢;split at a<;>try (cases a;done)
    ·obtain ⟨A,M⟩:=j.Uy a
     exact ⟨by simp [Instr.loadAt,Instr.sureAddr,γ,loadVar,p,A],M⟩
    ·rename_i g off
     cases y:E.gl.g g with
     |none=>rw [y] at a;cases a
     |some l=>
      rw [y] at a;simp only [afn] at a;cases d:l[off]? with
      |none=>rw [d] at a;cases a
      |some u=>
       rw [d] at a;cases a;obtain ⟨⟨C,e,N,b1⟩,_⟩:=j.qF g l y;obtain ⟨F,rfl⟩:=fg.1 d;have A:w.cell? ⟨g,off,none⟩=some l[off]:=by
        simp only [World.cell?,b1];simp [nL,F]
       exact ⟨by simp [Instr.loadAt,Instr.sureAddr,γ,loadVar,p,A,FD],zJ _ _⟩
 exact ⟨FK (s:=Instr.loadAt t (ρ x)) (by simp only [execOp,I]) i.1,i.2⟩
def bR.MY {G:gb} {m:Mp} {h:aP} {w:World} (r:bR G S m h w) {n:Pos} {a:List lK} {cl:Nat} (d:(h.at n).obj= .map a cl):
 aF h n/\w.heap[m.b n]? =some (.map ⟨a.map (js m)⟩ cl)/\ ∀e∈a,In (aF h) e.key/\In (aF h) e.val:=by
 have j:aF h n:=by unfold aF;rw [d];simp
 obtain ⟨o,i,f⟩:=r.blk n (MS d rfl);have g:=r.ins n;rw [d] at f g;exact ⟨j,by rw [i,show o=_ from f],g⟩
omit [aJ] in
def run_getObj_map {w:World} {r:Nat} {a:Array MapEntry} {cl:Nat} (h:w.heap[r]? =some (.map a cl)):(getObj r).run P w= .ok (.map a cl) w:=by
 simp [getObj,Sem.run,h]
end
end
section
variable [aJ] {S:Nat->Prop}
section
variable {P:Program} {E:Env}
def afp (ok:eD P E) {m:Mp} {t:TypeId} {a:aj} (b:p9 E t a=true) (e:Bool) (d:Nat) (w:World):(Instr.checkKey e (d+1) t (γ m a)).run P w= .ok () w:=by
 unfold p9 at b;cases f:E.cQ t with
 |none=>rw [f] at b;cases b
 |some g=>
  rw [f] at b;have h:=ok.nj f w;cases g<;>cases a<;>first|(cases b;done)|(simp only [Instr.checkKey,aI,h,aB,γ];rfl)
def afq (ok:eD P E) {m:Mp} {t:TypeId} {k:aj} {b:Bool} (h:(yc E t).f k k=some b) (e:Bool) (w:World):(Instr.checkKey e 10000 t (γ m k)).run P w= .ok () w:=by
 unfold yc at h;cases s:E.cQ t with
 |none=>rw [s] at h;cases h
 |some d=>
  rw [s] at h;have G:=ok.nj s w;have p:p9 E t k=true->(Instr.checkKey e 10000 t (γ m k)).run P w= .ok () w:=fun g=>afp ok g e 9999 w
  cases d<;>try (cases h;done)
  ·exact p (by
    unfold p9
    all_goals grind)
  ·exact p (by
    unfold p9
    all_goals grind)
  ·exact p (by
    unfold p9
    all_goals grind)
  ·rename_i y
   cases z:E.gt t with
   |false=>rw [z] at h;cases h
   |true=>
    rw [z] at h;simp only [cond_true] at h;cases k<;>try (cases h;done)
    rename_i l;simp only at h;cases g:tJ E 0 y.toList l with
    |false=>rw [g] at h;cases h
    |true=>
     have q: ∀N,(Instr.checkKey e (N+2) t (.agg ⟨aV m l⟩)).run P w= .ok () w:=by
      intro N;clear h p;unfold Instr.checkKey;simp only [aI,G,aB];rw [<-Array.forIn_toList];have o: ∀j,(⟨aV m l⟩:Array Value)[0+j]? =(l[j]?).map (γ m):=fun j=>by simp [oZ]
      generalize (⟨aV m l⟩:Array Value)=J at o;generalize y.toList=x at g;generalize (0:Nat)=i at g o
      induction x generalizing l i with
      |nil=>simp
      |cons f x H=>
       cases l with
       |nil=>simp [tJ] at g
       |cons a as=>
        obtain ⟨u,B,C,D⟩:=aae g;have A:=o 0;simp only [dt,bX,dD] at A;have I:=ok.aag (aaf u) (off:=f.offset) (by rw [B];exact A) w;have F:=afp (m:=m) ok u e N w;simp only [List.forIn_cons,aI,ne_eq,C,not_false_eq_true,if_true,I,aB,F,bp];exact H as (i+1) D (fun j=>by have:=o (j+1);rw [show i+(j+1)=i+1+j by omega] at this;simpa using this)
     exact q 9998
def afr (ok:eD P E) {m:Mp} {t:TypeId} {k q:aj} {b r:Bool} (h:(yc E t).f k k=some b) (g:Fu k q=some r) (w:World):
 (Op.equal t (γ m k) (γ m q)).run P w= .ok r w/\(match P.underlying t with|some d=>Instr.sameNow d (γ m k) (γ m q)=some r\/(∃j,d= .struct j/\Instr.sameNow d (γ m k) (γ m q)=none)|none=>False):=by
 unfold yc at h;cases l:E.cQ t with
 |none=>rw [l] at h;cases h
 |some d=>
  rw [l] at h;have o:=ok.cQ l;rw [o];have u: ∀ {a c:aj},p9 E t a=true->uj a c=some r->(Op.equal t (γ m a) (γ m c)).run P w= .ok r w:=fun x e=>afd (m:=m) ok x (afe x e) e 9999 w
  cases d<;>try (cases h;done)
  ·cases k<;>try (cases h;done)
   cases q<;>try (cases g;done)
   rename_i a c;have e:uj (.bool a) (.bool c)=some r:=g;refine ⟨u (by unfold p9;rw [l]) e,.inl ?_⟩;simp only [uj,sameKey,aW,Ka] at e;subst e;rfl
  ·cases k<;>try (cases h;done)
   cases q<;>try (cases g;done)
   rename_i A a B c;have e:uj (.int A a) (.int B c)=some r:=g;refine ⟨u (by unfold p9;rw [l]) e,.inl ?_⟩;simp only [uj,sameKey] at e;cases s:nh A B with
   |false=>rw [s] at e;cases e
   |true=>
    rw [s] at e;cases e;have:=(AW _ _).1 s;subst this;simp only [γ,Instr.sameNow,if_true,AX,aW]
    all_goals grind
  ·cases k<;>try (cases h;done)
   cases q<;>try (cases g;done)
   rename_i a c;have e:uj (.str a) (.str c)=some r:=g;refine ⟨u (by unfold p9;rw [l]) e,.inl ?_⟩;simp only [uj,aW,Hm] at e;subst e;simp only [γ,Instr.sameNow,aW];rw [beq_toListBytes,toList_mk,toList_mk]
   all_goals grind
  ·rename_i j
   cases p:E.gt t with
   |false=>rw [p] at h;cases h
   |true=>
    rw [p] at h;simp only [cond_true] at h;cases k<;>try (cases h;done)
    cases q<;>try (cases g;done)
    rename_i a c;simp only at h;cases z:tJ E 0 j.toList a with
    |false=>rw [z] at h;cases h
    |true=>
      have y:P.fieldsOf t=j:=by unfold Program.fieldsOf;rw [o]
      refine ⟨?_,.inr ⟨j,rfl,rfl⟩⟩;show (Op.equalIn 10000 t (.agg ⟨aV m a⟩) (.agg ⟨aV m c⟩)).run P w= .ok r w;rw [run_equalIn_agg w 9999 t _ _ (by rw [y];exact o) (ok.gt t p).1,y];exact aah (m:=m) ok 9998 w j.toList a c 0 r _ _ z g (fun i=>by simp [oZ]) (fun i=>by simp [oZ])
end
end
section
variable [aJ] {S:Nat->Prop}
section
variable {P:Program} {E:Env}
def found (m:Mp):Option (Nat×aj)->Option (Nat×Value)
 |some (i,v)=>some (i,γ m v)
 |none=>none
def afs (ok:eD P E) {m:Mp} {t:TypeId} {k:aj} {b:Bool} (p:(yc E t).f k k=some b) {d:TypeDesc} (o:P.underlying t=some d) (s: ∀l,d≠ .struct l):
 ∀(g:List lK) (i:Nat) (r:Option (Nat×aj)),yd k g i=some r->Instr.findNow d (γ m k) (g.map (js m)) i=some (found m r)
 | [],i,r,h=>by cases h;rfl
 |e::g,i,r,h=>by
  simp only [yd] at h;cases j:Fu k e.key with
  |none=>rw [j] at h;cases h
  |some q=>
   rw [j] at h;have a:=(afr (P:=P) (m:=m) ok p j (default:World)).2;rw [o] at a;rcases a with a|⟨l,x,_⟩
   ·cases q with
    |true=>simp only [aW] at h;subst h;simp [Instr.findNow,js,a,found]
    |false=>
     have u:=afs ok (m:=m) p o s g (i+1) r h;simp [Instr.findNow,js,a];exact u
   all_goals grind
def aft (ok:eD P E) {m:Mp} {t:TypeId} {k:aj} {b:Bool} (g:(yc E t).f k k=some b) (w:World):
 ∀(a:List lK) (i:Nat) (r:Option (Nat×aj)),yd k a i=some r->(Instr.findAsking t (γ m k) (a.map (js m)) i).run P w= .ok (found m r) w
 | [],i,r,h=>by cases h;rfl
 |e::a,i,r,h=>by
  simp only [yd] at h;cases d:Fu k e.key with
  |none=>rw [d] at h;cases h
  |some q=>
   rw [d] at h;have j:=(afr (P:=P) (m:=m) ok g d w).1;cases q with
   |true=>simp only [aW] at h;subst h;simp [Instr.findAsking,js,j,found]
   |false=>
    have l:=aft ok (m:=m) g w a (i+1) r h;simp [Instr.findAsking,js,j];exact l
def afu (ok:eD P E) {m:Mp} {t:TypeId} {k:aj} {b:Bool} (j:(yc E t).f k k=some b) (w:World) {a:List lK} {r:Option (Nat×aj)} (h:yd k a 0=some r):
 (Instr.findKey t (γ m k) (a.map (js m))).run P w= .ok (found m r) w:=by
 have g: ∃d,E.cQ t=some d:=by
  unfold yc at j;cases g:E.cQ t with
  |none=>rw [g] at j;cases j
  |some d=>exact ⟨d,rfl⟩
 obtain ⟨d,g⟩:=g;have o:=ok.cQ g;have q:=ok.nj g w;unfold Instr.findKey;simp only [aI,q,aB];by_cases l: ∃i,d= .struct i
 ·obtain ⟨i,rfl⟩:=l
  cases a with
  |nil=>cases h;rfl
  |cons e a=>
   have p:Instr.findNow (.struct i) (γ m k) ((e::a).map (js m)) 0=none:=rfl;rw [p];exact aft ok j w _ 0 r h
 ·rw [afs ok j o (fun i e=>l ⟨i,e⟩) a 0 r h];rfl
omit [aJ] in
def afv {D:Pos->Prop} {k:aj} : ∀(a:List lK) (i:Nat) (j:Nat) (v:aj),yd k a i=some (some (j,v))->(∀e∈a,In D e.key/\In D e.val)->In D v/\ ∃e,a[j-i]? =some e/\i<=j/\Fu k e.key=some true
 | [],i,j,v,h,_=>by cases h
 |e::a,i,j,v,h,f=>by
  simp only [yd] at h;cases b:Fu k e.key with
  |none=>rw [b] at h;cases h
  |some q=>
   rw [b] at h;cases q with
   |true=>simp_all
   |false=>
    obtain ⟨l,g,m,o,p⟩:=afv a (i+1) j v h (fun e d=>f e (aw _ d))
    all_goals grind
def aoy (ok:eD P E) (t:TypeId) (x y:Operand) (c:Bool):gZ P E (.lookup t x y c) (lh E (.lookup t x y c)):=fun S m h M ρ v w o ho hr Z i=>by
 obtain ⟨X,h2⟩:=iV (E:=E) Z x;obtain ⟨W,g2⟩:=iV (E:=E) Z y;change (ZE E t c).f h ((bP E x).g M) ((bP E y).g M)=some v at i;generalize (bP E x).g M=a at X h2 i;generalize (bP E y).g M=k at W g2 i;have G:(Instr.lookup t (ρ x) (ρ y) c).run P w= .ok (γ m v) w/\In (aF h) v:=by
  unfold ZE at i;cases B:E.cQ t with
  |none=>rw [B] at i;cases i
  |some d=>
   rw [B] at i;have uq:=ok.nj B w;cases d<;>try (cases i;done)
   rename_i J Q;simp only at i;cases R:E.zero Q with
   |none=>rw [R] at i;cases i
   |some z=>
    rw [R] at i;simp only at i;obtain ⟨it,zv,z1,z2,rfl⟩:=ok.zero R;have N:=UZ z1 z2 w;cases I:(yc E J).f k k with
    |none=>rw [I] at i;cases i
    |some b=>
     rw [I] at i;simp only at i;cases l:entries h a with
     |none=>rw [l] at i;cases i
     |some A=>
      rw [l] at i;simp only at i;cases H:yd k A 0 with
      |none=>rw [H] at i;cases i
      |some r=>
       rw [H] at i;simp only at i;have kb:=afu (m:=m) ok I w H;have U': ∀e,(Instr.checkKey e 10000 J (γ m k)).run P w= .ok () w:=fun e=>afq ok I e w
       rw [X,W];have O:(∀e∈A,In (aF h) e.key/\In (aF h) e.val)/\ ∀(K:Array MapEntry->Sem Value),(K ⟨A.map (js m)⟩).run P w= .ok (γ m v) w->(match γ m a with
        | .map none=>K #[]
        | .map (some r)=>do
         let .map A _<-getObj r|stuck "Lookup: map expected"
         K A
        |_=>stuck "Lookup: map expected" :Sem Value).run P w= .ok (γ m v) w:=by
        unfold entries at l;cases a<;>try (cases l;done)
        ·cases l;exact ⟨fun e l=>(nomatch l),fun K C=>C⟩
        ·rename_i n
         simp only at l;cases U:(h.at n).obj<;>rw [U] at l<;>try (cases l;done)
         cases l;obtain ⟨_,m1,m2⟩:=hr.MY U;exact ⟨m2,fun K C=>by simp only [γ,aI,run_getObj_map m1,aB];exact C⟩
       obtain ⟨O,C⟩:=O;have T:In (aF h) v/\(∀q,(match found m r with|some (_,v)=>(pure (v,true):Sem (Value×Bool))|none=>do pure (<-zeroValue Q,false)).run P w= .ok q w->(if c then Value.tuple #[q.1,.bool q.2] else q.1)=γ m v):=by
        cases r with
        |none=>
         simp only [aW] at i;subst i;refine ⟨by cases c<;>first|exact zJ _ zv|exact ⟨zJ _ zv,trivial,trivial⟩,fun u B=> ?_⟩;simp only [found,aI,N,aB,bp,Result.ok.injEq,and_true] at B;subst B;cases c<;>simp [γ,aV,FD]
        |some p=>
         obtain ⟨j,u⟩:=p;simp only [aW] at i;subst i;have F:=(afv (D:=aF h) A 0 j u H O).1;refine ⟨by cases c<;>first|exact F|exact ⟨F,trivial,trivial⟩,fun q Y=> ?_⟩;simp only [found,bp,Result.ok.injEq,and_true] at Y;subst Y;cases c<;>simp [γ,aV]
       refine ⟨?_,T.1⟩;unfold Instr.lookup;simp only [aI,uq,aB];refine C (fun A=>do
        Instr.checkKey A.isEmpty 10000 J (γ m k)
        let (v,ok)<-match<-Instr.findKey J (γ m k) A.toList with
         |some (_,v)=>pure (v,true)
         |none=>pure (<-zeroValue Q,false)
        pure (if c then .tuple #[v,.bool ok] else v)) ?_
       simp only [aI,U',aB,kb];cases r with
       |none=>have:=T.2 (zv,false) (by simp [found,N]);simp [found,N];simpa using this
       |some p=>have:=T.2 (γ m p.2,true) (by simp [found]);simp [found];simpa using this
 exact ⟨FK (s:=Instr.lookup t (ρ x) (ρ y) c) (by simp only [execOp,ho]) G.1,G.2⟩
def aoz (ok:eD P E) {c:Call} {x:Operand} {t D q:TypeId} {G:List TypeId} (hc:c.callee= .builtin .len) (u:c.args.toList= [x]) (B:c.argTypes.toList=t::G) (C:E.cQ t=some (.map D q)):
 gZ P E (.call c) (.rd fun f h=>Option.casesOn (entries h ((bP E x).g f)) none fun j=>sW j.length fun k=>some (.int .i64 (.ofNat k))):=fun S m h f ρ v w o y z A d=>by
 obtain ⟨e,s⟩:=iV (E:=E) A x;have l:=ok.nj C w;simp only at d;generalize (bP E x).g f=a at e s d;cases b:entries h a with
 |none=>rw [b] at d;cases d
 |some j=>
  rw [b] at d;simp only [yh,aW] at d;subst d;refine ⟨?_,trivial⟩;rw [Km y hc,Kn u,U8 B];unfold entries at b;cases a<;>try (cases b;done)
  ·cases b
   simp [builtin,Builtin.len_,l,e,γ,goInt]
  ·rename_i n
   simp only at b;cases i:(h.at n).obj<;>rw [i] at b<;>try (cases b;done)
   rename_i p H;cases b;obtain ⟨_,F,_⟩:=z.MY i;simp [builtin,Builtin.len_,l,e,γ,goInt,run_getObj_map F]
end
end
section
variable [aJ] {S:Nat->Prop}
section
variable {P:Program} {E:Env}
def Va (d:Nat) (o:Option aj) (n:Nat):Prop:=(o=none/\n=d)\/ ∃kd,o=some (.int kd (.ofNat n))
omit [aJ] in
def Hs {d:Nat} {o:Option aj} {k:Nat->Option aj} {r:aj} (h:Fw d o none k=some r): ∃n,Va d o n/\k n=some r:=by
 cases o with
 |none=>exact ⟨d,.inl ⟨rfl,rfl⟩,h⟩
 |some v=>obtain ⟨kd,n,rfl,a⟩:=MX h;exact ⟨n,.inr ⟨kd,rfl⟩,a⟩
omit [aJ] in
def FN (kd:IntKind) {n y:Nat} (h:n<=y) (a:BoundsCode) (w:World):(Instr.sliceBound (.int kd (Int.ofNat n)) y a).run P w= .ok n w:=by
 have b:(0:Int)<=(n:Int)/\(n:Int)<=(y:Int):=⟨by omega,by omega⟩;simp [Instr.sliceBound,asIntOf,h]
def Qq {m:Mp} {lo hi:Option aj} {len cap l r:Nat} (b:Bool) (g:Va 0 lo l) (h:Va len hi r) (a:l<=r) (d:r<=cap) (w:World):
 (Instr.sliceBounds b len cap (lo.map (γ m)) (hi.map (γ m)) none).run P w= .ok (l,r,cap) w:=by
 rcases g with ⟨rfl,rfl⟩|⟨e,rfl⟩<;>rcases h with ⟨rfl,rfl⟩|⟨f,rfl⟩
 ·simp [Instr.sliceBounds]
 ·simp only [Instr.sliceBounds,dD,fA,γ,aI,bp,aB,FN f d]
 ·simp only [Instr.sliceBounds,dD,fA,γ,aI,bp,aB,FN e a]
 ·simp only [Instr.sliceBounds,dD,γ,aI,bp,aB,FN e a,FN f d]
def afw {m:Mp} {lo:Option aj} {len cap l r a:Nat} {k2 k3:IntKind} (b:Bool) (g:Va 0 lo l) (f:l<=r) (e:r<=a) (d:a<=cap) (w:World):
 (Instr.sliceBounds b len cap (lo.map (γ m)) (some (.int k2 (.ofNat r))) (some (.int k3 (.ofNat a)))).run P w= .ok (l,r,a) w:=by
 rcases g with ⟨rfl,rfl⟩|⟨h,rfl⟩
 ·simp only [Instr.sliceBounds,fA,aI,bp,aB,FN k2 e,FN k3 d]
 ·simp only [Instr.sliceBounds,dD,γ,aI,bp,aB,FN h f,FN k2 e,FN k3 d]
omit [aJ] in
def afx {v:Option aj} {k:Option aj} {f:Nat->Option aj} {r:aj} (h:ZF v none k f=some r):(v=none/\k=some r)\/ ∃kd n,v=some (.int kd (.ofNat n))/\f n=some r:=by
 cases v with
 |none=>exact .inl ⟨rfl,h⟩
 |some v=>obtain ⟨kd,n,rfl,a⟩:=MX h;exact .inr ⟨kd,n,rfl,a⟩
omit [aJ] in
def aaj {v:Option aj} {k:Option aj} {r:aj} (h:UF v none k=some r):v=none/\k=some r:=by
 cases v with
 |none=>exact ⟨rfl,h⟩
 |some v=>cases h
omit [aJ] in
def Ko {b:Bool} {v r:aj} (h:cond b (some v) none=some r):b=true/\v=r:=by
 grind
omit [aJ] in
def Ht {α:Type} {b:Bool} {o:Option α} {r:α} (h:cond b o none=some r):b=true/\o=some r:=by
 grind
def aak {m:Mp} {D:Pos->Prop} {tm:Tm} {ρ:Operand->Value} (s:Src E.gl m D tm ρ) (o:Option Operand):o.map ρ=(u7 E o tm).map (γ m):=by
 cases o with
 |none=>rfl
 |some x=>simp [u7,(iV (E:=E) s x).1]
omit [aJ] in
def afy (s:List UInt8) (l r:Nat):(⟨⟨s⟩⟩:ByteArray).extract l r=⟨⟨(s.drop l).take (r-l)⟩⟩:=by
 apply oq;simp [ByteArray.data_extract,List.extract_eq_take_drop]
def aoA (ok:eD P E) (t:TypeId) (x:Operand) (lo hi u:Option Operand):gZ P E (.slice t x lo hi u) (lh E (.slice t x lo hi u)):=by
 show gZ P E _ (cond (u.isNone||hi.isSome) (.rd fun y h=>(ZG E t).f h ((bP E x).g y) (u7 E lo y) (u7 E hi y) (u7 E u y)) .bad);cases hm:(u.isNone||hi.isSome) with
 |false=>exact mV _
 |true=>
 intro S m h y ρ v w o ho hr W i;obtain ⟨h1,J⟩:=iV (E:=E) W x;simp only at i;have e1:=aak (E:=E) W lo;have e2:=aak (E:=E) W hi;have e3:=aak (E:=E) W u;have G:(u7 E u y)=none\/(u7 E hi y)≠none:=by cases u<;>cases hi<;>simp [u7] at hm⊢
 generalize (bP E x).g y=a at h1 J i;generalize u7 E lo y=R at e1 i;generalize u7 E hi y=m8 at e2 i G;generalize u7 E u y=mx' at e3 i G;have Q:(Instr.sliceAt t (ρ x) (lo.map ρ) (hi.map ρ) (u.map ρ)).run P w= .ok (γ m v) w/\In (aF h) v:=by
  rw [h1,e1,e2,e3];unfold ZG at i;cases hu:E.cQ t with
  |none=>rw [hu] at i;cases i
  |some d=>
   rw [hu] at i;have Z:=ok.nj hu w;cases d<;>try (cases i;done)
   case string=>
    simp only at i;cases a<;>try (cases i;done)
    rename_i s;simp only at i;replace i:=aaj i;obtain ⟨rfl,i⟩:=i;replace i:=Hs i;obtain ⟨l,z,i⟩:=i;replace i:=Hs i;obtain ⟨r,B,i⟩:=i;obtain ⟨hc,rfl⟩:=Ko i;rw [au] at hc;have T:=p7.1 hc.1;have vP:=p7.1 hc.2;refine ⟨?_,trivial⟩;have Y:(⟨⟨s⟩⟩:ByteArray).size=s.length:=rfl;have j:=Qq (P:=P) (m:=m) false z B T vP w;simp only [Instr.sliceAt,Instr.slice,aI,Z,aB,γ,Y,fA,Option.isSome_none,cG,if_false,j,afy,bp];rfl
   case slice e=>
    simp only at i;cases p:E.size e with
    |none=>simp_all
    |some Y=>
     rw [p] at i;simp only at i;have X:=ok.yl p w;cases a<;>try (cases i;done)
     case jP=>
      simp only at i;replace i:=aaj i;obtain ⟨rfl,i⟩:=i;replace i:=Hs i;obtain ⟨l,z,i⟩:=i;replace i:=Hs i;obtain ⟨r,B,i⟩:=i;obtain ⟨hc,rfl⟩:=Ko i;rw [au] at hc;have pY:=beq_iff.1 hc.1;have F:=beq_iff.1 hc.2;subst pY;subst F;have j:=Qq (P:=P) (m:=m) (len:=0) (cap:=0) true z B (aq _) (aq _) w;exact ⟨by simp only [Instr.sliceAt,Instr.slice,aI,Z,aB,γ,fA,j,X,if_true,bp],trivial⟩
     case i7 n off len cap=>
      simp only [aeS] at i;replace i:=Hs i;obtain ⟨l,z,i⟩:=i;replace i:=Hs i;obtain ⟨r,B,i⟩:=i;have U: ∀(D:Nat) (b':Option Value) (H rr q:Nat),(Instr.sliceBounds true len D (R.map (γ m)) (m8.map (γ m)) b').run P w= .ok (H,rr,q) w->
       (Instr.sliceAt t (.slice (some ⟨m.b n,off,none⟩) len D) (R.map (γ m)) (m8.map (γ m)) b').run P w= .ok (.slice (some (if q=H then ⟨m.b n,off,none⟩ else ⟨m.b n,off+H*Y,none⟩)) (rr-H) (q-H)) w:=fun D b' H rr q hb=>by
       simp only [Instr.sliceAt,Instr.slice,aI,Z,aB,hb,X,bp,dD,FG];by_cases e:q=H<;>simp [e]
      have O: ∀kd nn,mx'=some (.int kd nn)-> ∃k2,m8.map (γ m)=some (.int k2 (.ofNat r)):=fun kd nn e=>by
       rcases G with h0|h0
       ·rw [h0] at e;cases e
       ·rcases B with ⟨N,_⟩|⟨k2,N⟩
        ·exact absurd N h0
        ·exact ⟨k2,by rw [N];rfl⟩
      cases cap with
      |exact c=>
       simp only [ML] at i;replace i:=afx i;rcases i with ⟨rfl,i⟩|⟨kd,q,rfl,i⟩
       ·obtain ⟨hc,rfl⟩:=Ko i
        rw [au] at hc;have j:=Qq (P:=P) (m:=m) (len:=len) (cap:=c) true z B (p7.1 hc.1) (p7.1 hc.2) w;refine ⟨?_,J⟩;have:=U c none _ _ _ j;simp only [γ,fA];rw [this];by_cases e:c=l
        ·subst e;simp
        ·rw [MR e];simp [e]
       ·obtain ⟨hc,rfl⟩:=Ko i
        rw [au,au] at hc;obtain ⟨k2,zl⟩:=O _ _ rfl;have j:=afw (P:=P) (m:=m) (len:=len) (cap:=c) (k2:=k2) (k3:=kd) true z (p7.1 hc.1) (p7.1 hc.2.1) (p7.1 hc.2.2) w;rw [<-zl] at j;refine ⟨?_,J⟩;have:=U c (some (.int kd (.ofNat q))) _ _ _ j;simp only [γ,dD];rw [this];by_cases e:q=l
        ·subst e;simp
        ·rw [MR e];simp [e]
      |rest d=>
       simp only [ML] at i;replace i:=UW i;obtain ⟨xs,xe,A,eR,i⟩:=i;replace i:=Ht i;obtain ⟨hc,i⟩:=i;rw [au,au] at hc;have he:=beq_iff.1 hc.1;subst he;have Qr:=sw.1 hc.2.1;have T:=p7.1 hc.2.2;obtain ⟨_,_,rest,fz,_,C,_⟩:=hr.cells eR;have xz: ∀k,Nat.mul (Nat.add k d) A<=xs.length->k<=m.c n-d:=fun k hk=>by
        have N:(k+d)*A<=m.c n*A:=by
         have:(k+d)*A<=xs.length:=hk;rw [<-C];simp [oJ];omega
        have:=bS N Qr;omega
       replace i:=afx i;rcases i with ⟨rfl,i⟩|⟨kd,q,rfl,i⟩
       ·obtain ⟨I,rfl⟩:=Ko i
        rw [au] at I;have jd:=xz r (p7.1 I.1);have j:=Qq (P:=P) (m:=m) (len:=len) (cap:=m.c n-d) true z B T jd w;refine ⟨?_,J⟩;have:=U (m.c n-d) none _ _ _ j;simp only [γ,fA];rw [this];have afz:off+l*A=Nat.add off (Nat.mul l A):=rfl;have Fm:m.c n-d-l=m.c n-Nat.add d l:=by show _=m.c n-(d+l);omega
        rw [Fm];by_cases e:m.c n-d=l
        ·have F:l=0:=by
          have M:=I.2;rw [dw] at M;rcases M with M|M
          ·exact beq_iff.1 M
          ·exfalso
           have AL:(l+d)*A<xs.length:=sw.1 M;have h6:xs.length<=m.c n*A:=by rw [<-C];simp [oJ]
           have h7:(l+d)*A<m.c n*A:=by omega
           have h8:=fZ h7;omega
         subst F;rw [if_pos e];simp
        ·rw [if_neg e]
         rfl
       ·obtain ⟨I,rfl⟩:=Ko i
        rw [au] at I;have vd:=xz q (p7.1 I.2);obtain ⟨k2,zl⟩:=O _ _ rfl;have j:=afw (P:=P) (m:=m) (len:=len) (cap:=m.c n-d) (k2:=k2) (k3:=kd) true z T (p7.1 I.1) vd w;rw [<-zl] at j;refine ⟨?_,J⟩;have:=U (m.c n-d) (some (.int kd (.ofNat q))) _ _ _ j;simp only [γ,dD];rw [this];by_cases e:q=l
        ·subst e;simp
        ·rw [MR e];simp [e]
   case array len e=>
    simp only at i;cases p:E.size e with
    |none=>rw [p] at i;cases i
    |some Y=>
     rw [p] at i;simp only at i;have X:=ok.yl p w;cases a<;>try (cases i;done)
     rename_i n off;simp only at i;replace i:=aaj i;obtain ⟨rfl,i⟩:=i;replace i:=Hs i;obtain ⟨l,z,i⟩:=i;replace i:=Hs i;obtain ⟨r,B,i⟩:=i;obtain ⟨hc,rfl⟩:=Ko i;rw [au] at hc;have j:=Qq (P:=P) (m:=m) (len:=len) (cap:=len) false z B (p7.1 hc.1) (p7.1 hc.2) w;refine ⟨?_,J⟩;simp only [Instr.sliceAt,aI,Z,aB,γ,Instr.sureAddr,fA,j,X,bp,FG];by_cases e:len=l
     ·subst e;simp
     ·rw [MR e];simp [e]
 exact ⟨FK (s:=Instr.sliceAt t (ρ x) (lo.map ρ) (hi.map ρ) (u.map ρ)) (by simp only [execOp,ho]) Q.1,Q.2⟩
end
end
end Go.Ev
