/- refineFuel_proved. -/
import Derived.Test.YtnmpjdgobafdkaaGreatDoorPmak
import Derived.KernelRfl
import Derived.RangeFuncIn
import Derived.LoopN
import Derived.Scope
set_option maxRecDepth 100000
set_option maxHeartbeats 16000000
set_option linter.all false
noncomputable section
namespace Go.Ev
section
variable [aJ] {S:Nat->Prop}
section
variable {P:Program} {E:Env}
omit [aJ] in
def ao1:Extern.allNextRows.lookup "internal/bytealg.IndexByteString" =none:=by kernel_rfl
omit [aJ] in
def afQ:Extern.allNextRows.lookup "" =none:=by kernel_rfl
omit [aJ] in
def ao2 {a:Func} (f:a.name= "internal/bytealg.IndexByteString"):Extern.find a=some Extern.BytealgIndexByte.indexByte:=by
 unfold Extern.find;rw [f];have b:Extern.allGenericRows.lookup "internal/bytealg.IndexByteString" =none:=by kernel_rfl
 have d:Extern.allTypedRows.lookup "internal/bytealg.IndexByteString" =none:=by kernel_rfl
 have e:Extern.allRows.lookup "internal/bytealg.IndexByteString" =some Extern.BytealgIndexByte.indexByte:=by kernel_rfl
 simp only [b,d,e];rfl
omit [aJ] in
def ne_next:Extern.allNextRows.lookup "internal/abi.NoEscape" =none:=by kernel_rfl
omit [aJ] in
def ao3 {a:Func} (f:a.name= "internal/abi.NoEscape"):Extern.find a=some Extern.AbiNoEscape.same:=by
 unfold Extern.find;rw [f];have b:Extern.allGenericRows.lookup "internal/abi.NoEscape" =none:=by kernel_rfl
 have d:Extern.allTypedRows.lookup "internal/abi.NoEscape" =none:=by kernel_rfl
 have e:Extern.allRows.lookup "internal/abi.NoEscape" =some Extern.AbiNoEscape.same:=by kernel_rfl
 simp only [b,d,e];rfl
def Vf (ok:eD P E) {m:Mp} {h:aP} {w:World} (x:bR E.gl S m h w) {f:FuncId} {args:List aj} (t:i9 (aF h) args):
 Kj P E S m h w (callFunc f ⟨aV m args⟩) ((Fx E f).f h args):=by
 unfold Fx;cases y:E.fns.get none (pos f) with
 |none=>exact trivial
 |some a=>
  have k:=ok.fn f a y;simp only;cases l:a.body with
  |some c=>
   simp only;cases u:(a.name== "runtime.NumGoroutine") with
   |true=>exact trivial
   |false=>
    refine ⟨?_,t⟩;have o: ¬a.name= "runtime.NumGoroutine" :=fun e=>by rw [e] at u;simp at u
    simp [callFunc,k,l,o]
  |none=>
   simp only;cases j:ZJ a.name a.origin args with
   |none=>exact trivial
   |some v=>
    simp only;unfold ZJ at j;cases b:(a.name== "internal/bytealg.IndexByteString" &&a.origin== "") with
    |false=>
     rw [b,cond_false] at j;obtain ⟨b,g⟩:=Ht j;rw [au] at b;have i:=eq_of_beq b.1;have d:=eq_of_beq b.2;split at g
     ·rename_i n off
      cases g;refine ⟨m,w,_,?_,.inl rfl,x,Goes.refl m h w,t.1,rfl⟩;have q:(a.name== "runtime.NumGoroutine")=false:=by rw [i];kernel_rfl
      have p:Extern.findNext a=none:=by unfold Extern.findNext;rw [i,d];simp only [ne_next,afQ];rfl
      simp only [callFunc,aI,run_program,aB,k,q,l,Option.isNone_none,if_true,cG,if_false,run_mark,p,ao3 i];rfl
     ·cases g
    |true=>
    rw [b,cond_true] at j;have g:=j;rw [au] at b;have i:=eq_of_beq b.1;have d:=eq_of_beq b.2;split at g
    ·rename_i s c
     have:=xp g;subst this;refine ⟨m,w,_,?_,.inl rfl,x,Goes.refl m h w,trivial,rfl⟩;have q:(a.name== "runtime.NumGoroutine")=false:=by rw [i];kernel_rfl
     have p:Extern.findNext a=none:=by unfold Extern.findNext;rw [i,d];simp only [ao1,afQ];rfl
     have z:=Lib.run_indexByteString (P:=P) ⟨⟨s⟩⟩ (Int.ofNat c) w;simp only [callFunc,aI,run_program,aB,k,q,l,Option.isNone_none,if_true,cG,if_false,run_mark,p,ao2 i];rw [show (⟨aV m [.str s,.int .u8 (.ofNat c)]⟩:Array Value)= #[.string ⟨⟨s⟩⟩,.int .u8 (Int.ofNat c)] from rfl,z];rfl
    ·cases g
def ao4 (ok:eD P E) {t:TypeId} {a:String} {f:FuncId} (h:UI E t a=some f) (v:Value) (n:Nat) (w:World):(method (n+1) t v a).run P w= .ok (f,v) w:=by
 unfold UI at h;cases o:E.ty t with
 |none=>rw [o] at h;cases h
 |some i=>
  cases q:E.cQ t with
  |none=>simp_all
  |some d=>
   rw [o,q] at h;simp only at h;have x:=an5 (ok.ty t i o) w;have u:=ok.nj q w;cases p:i.methods.toList.find? (fun m=>m.name==a) with
   |none=>rw [p] at h;cases h
   |some s=>
    rw [p] at h;simp only at h;have C:i.methods.find? (fun m=>m.name==a)=some s:=by simp_all
    obtain ⟨nm,B,j,k⟩:=s;obtain ⟨j⟩:=j;simp only at h;cases j with
    |cons _ _=>simp_all
    |nil=>
     cases k with
     |none=>cases d<;>cases h
     |some fp=>
      obtain ⟨g,b⟩:=fp;have l:(∀e,d= .pointer e->b=true)/\((∀e,d≠ .pointer e)->b=false)/\f=g:=by
       grind
      obtain ⟨y,z,rfl⟩:=l;simp only [method,aI,x,aB,C,follow,bp];cases d<;>first
       |(rename_i e;have:=y e rfl;subst this;simp [receiverAt,u,Place.get])
       |(have:=z (fun e A=>by cases A);subst this;simp [receiverAt,u,Place.get])
def aav {m:Mp} {h:aP} {w:World} {s s':Sem Next} {r:OR} (e:s.run P w=s'.run P w) (b:Kj P E S m h w s r):Kj P E S m h w s' r:=by
 cases r with
 |ok v j=>obtain ⟨f,i,q,d,a⟩:=b;exact ⟨f,i,q,by rw [<-e];exact d,a⟩
 |call g args=>exact ⟨by rw [<-e];exact b.1,b.2⟩
 |fail=>exact trivial
def aaw (ok:eD P E) (c:Call):gZ P E (.call c) (lh E (.call c)):=by
 show gZ P E (.call c) (Qa E c);unfold Qa;have I: ∀(ρ:Operand->Value),c.args.map ρ=⟨c.args.toList.map ρ⟩:=fun ρ=>by apply eO;simp
 have q: ∀x,c.callee= .value x->gZ P E (.call c) (.wr fun d h=>match (bP E x).g d with
  | .func (.func f) first a=>(Fx E f).f h (Cf first (Cf (sr (sV E c.args.toList) d) a))
  |_=> .fail):=fun x hc S m h d ρ w o C D p=>by
  obtain ⟨B,s⟩:=iV (E:=E) p x;obtain ⟨z,A⟩:=Hq (E:=E) p c.args.toList;simp only;generalize (bP E x).g d=u at B s;cases u<;>try (exact trivial)
  rename_i O first a
  cases O<;>try (exact trivial)
  rename_i f;simp only [Qf];have M:i9 (aF h) (first++(sr (sV E c.args.toList) d++a)):=(mn _).2 fun v j=>by
   rcases bZ.1 j with j|j
   ·exact (mn _).1 s.1 v j
   ·rcases bZ.1 j with j|j
    ·exact (mn _).1 A v j
    ·exact (mn _).1 s.2 v j
  refine aav ?_ (Vf ok D M);simp only [execOp,C,resolve,hc,B,γ,Deferred.ofValue,aI,bp,aB,invoke,I,z,FC];congr 2;apply eO;simp
 cases hc:c.callee with
 |builtin b=>
  simp only;unfold UJ;have T: ∀ {t J},c.argTypes.toList=t::J->c.argTypes.toList=t::J:=id;split
  ·rename_i x i
   split
   ·rename_i t J H
    split
    ·rename_i F;exact aou ok hc i H F
    ·rename_i e F;exact aov ok hc i H F
    ·rename_i k e F;exact aoz ok hc i H F
    ·exact mV _
   ·exact mV _
  ·rename_i x l i;exact aow hc i
  ·rename_i x l i;exact aox hc i
  ·rename_i x y i;exact aoZ ok hc i
  ·exact mV _
 |value x=>
  cases x with
  |func f=>
   intro S m h d ρ w o C D p;obtain ⟨z,A⟩:=Hq (E:=E) p c.args.toList;refine aav ?_ (Vf ok D A);simp only [execOp,C,resolve,hc,p.func,Deferred.ofValue,aI,bp,aB,invoke,I,z];congr 2;apply eO;simp
  |tmp t=>exact q _ hc
  |const v=>exact q _ hc
  |global g=>exact q _ hc
 |invoke r G=>
  intro S m h d ρ w o C D p;obtain ⟨B,s⟩:=iV (E:=E) p r;obtain ⟨z,A⟩:=Hq (E:=E) p c.args.toList;simp only;generalize (bP E r).g d=u at B s;cases u<;>try (exact trivial)
  rename_i t v;simp only;cases Q:UI E t G with
  |none=>exact trivial
  |some f=>
   simp only;refine aav ?_ (Vf ok D (args:=v::sr (sV E c.args.toList) d) ⟨s,A⟩);have R:=ao4 ok Q (γ m v) (P.types.size+99) w;simp only [execOp,C,resolve,hc,B,γ,aI,bp,aB,invoke,I,z];have N:(#[Value.iface t (γ m v)]++(⟨aV m (sr (sV E c.args.toList) d)⟩:Array Value))[0]? =some (Value.iface t (γ m v)):=by simp
   simp only [N,callMethod,aI,run_program,aB];rw [show P.types.size+Made.depth=P.types.size+99+1 from rfl,R];simp only [aB,aV];congr 2;apply eO;simp
end
end
section
variable [aJ] {S:Nat->Prop}
section
variable {P:Program} {E:Env}
omit [aJ] in
def aax {w:World} {r:Nat} {o:Obj} (h:w.heap[r]? =some o) (hc: ∀c e f,o≠ .cells c e f):(getObj r).run P w= .ok o w:=by
 cases o<;>first|grind|simp [getObj,Sem.run,h]
omit [aJ] in
def aay {w:World} {r:Nat} {o:Obj} (h:w.heap[r]? =some o) (hc: ∀c e f,o≠ .cells c e f) (a:Obj):(setObj r a).run P w= .ok () {w with heap:=w.heap.setIfInBounds r a} :=by
 cases o<;>first|grind|simp [setObj,Sem.run,h]
def afR {m:Mp} {h:aP} {w:World} (d:bR E.gl S m h w) {t:TypeId} {x:Value} {ob:jG} {o:Obj} {ρ:Operand->Value} {or:Oper} {y:Operand} (l:or.op= .range t y) (p:ρ y=x)
 (q:(Instr.range t x).run P w= .ok (.pointer (some ⟨w.heap.size,0,none⟩)) {w with heap:=w.heap.push o}) (a:ob.pI=true)
 (g: ∀f,(∀n,aF h n->f.b n=m.b n)->vb f h.nx ob o) (hi:zK (aF h) ob):
 Kj P E S m h w (execOp ρ or) (.ok (.ptr h.nx 0) (h.new ob)):=by
 have s: ∀k,aF h k->k≠h.nx:=fun k i e=>by have:=d.fresh k i;rw [e] at this;exact bO _ this
 obtain ⟨u,z,A⟩:=d.Kh (ob:=ob) (o:=o) (w':= {w with heap:=w.heap.push o}) (cap:=0) ⟨rfl,rfl,rfl,rfl⟩ a (g _ (fun n j=>(Mp.A0 m _ _ (s n j)).1)) hi;refine ⟨_,_,.value (.pointer (some ⟨w.heap.size,0,none⟩)),?_,.inl ?_,u,z,A,rfl⟩
 ·simp only [execOp,l,aI,p,q,aB,bp]
 ·simp [γ,Mp.set]
def ao5 (ok:eD P E) (t:TypeId) (x:Operand):gZ P E (.range t x) (lh E (.range t x)):=by
 show gZ P E (.range t x) (match E.cQ t with
  |some (.map _ _)=> .wr fun i h=>match (bP E x).g i with
   | .u4=> .ok (.ptr h.nx 0) (h.new (.xc none 0 [] 0))
   | .map n=>match (h.at n).obj with
    | .map _ a=> .ok (.ptr h.nx 0) (h.new (.xc (some n) a [] a))
    |_=> .fail
   |_=> .fail
  |_=> .bad)
 cases z:E.cQ t with
 |none=>exact mV _
 |some d=>
  cases d<;>try (exact mV _)
  ·intro S m h i ρ w o k f y
   obtain ⟨e,q⟩:=iV (E:=E) y x;have l:=ok.nj z w;simp only;generalize (bP E x).g i=u at e q;cases u<;>try (exact trivial)
   ·exact afR f k e (o:= .mapIter none 0 #[] 0) (by simp [Instr.range,l,γ]) (by simp) (fun _ _=>rfl) trivial
   ·rename_i n
    simp only;cases p:(h.at n).obj<;>try (exact trivial)
    rename_i C a;obtain ⟨j,B,_⟩:=f.MY p;exact afR f k e (o:= .mapIter (some (m.b n)) a #[] a) (by simp [Instr.range,l,γ,run_getObj_map B]) (by simp) (fun A s=>by show Obj.mapIter (some (m.b n)) a #[] a= .mapIter (some (A.b n)) a ⟨[]⟩ a;rw [s n j]) j
omit [aJ] in
def afS (b:Nat): ∀l:List Nat,MN b l=(⟨l⟩:Array Nat).contains b
 | []=>by
  show false=_;simp
 |x::l=>by
  have a:=afS b l;show cond (Nat.beq b x) true (MN b l)=_;rw [a];cases h:Nat.beq b x with
  |true=>
   simp_all
  |false=>
   have:b≠x:=fun e=>by simp_all
   simp [this]
def afT (m:Mp) (a:List Nat): ∀b:List lK,(b.map (js m)).filter (fun e=> !(⟨a⟩:Array Nat).contains e.born)=(yf a b).map (js m)
 | []=>rfl
 |e::b=>by
  have f:=afT m a b;have d:yf a (e::b)=cond (MN e.born a) (yf a b) (e::yf a b):=rfl;rw [d,cI,List.filter_cons,f,afS];show (if (!(⟨a⟩:Array Nat).contains e.born)=true then _ else _)=_
  all_goals grind
omit [aJ] in
def aaz (a:List Nat): ∀(b:List lK) (e:lK),e∈yf a b->e∈b
 | [],_,h=>by cases h
 |x::b,e,h=>by
  have f:yf a (x::b)=cond (MN x.born a) (yf a b) (x::yf a b):=rfl;rw [f] at h;cases d:MN x.born a with
  |true=>rw [d] at h;exact aw _ (aaz a b e h)
  |false=>
   rw [d] at h;rcases bu.1 h with rfl|h
   ·simp_all
   ·exact aw _ (aaz a b e h)
omit [aJ] in
def ao6 {b a:Nat} {d:List Nat} {g:List lK} (h:UK b d a g=true):
 (∀e∈yf d g,e.born<b)/\(d= []\/g= []\/ ∃e∈g,e.born<a):=by
 unfold UK at h;have j: ∀l:List lK,List.rec (motive:=fun _=>Bool) true (fun e _ f=>cond (Nat.blt e.born b) f false) l=true-> ∀e∈l,e.born<b:=by
  intro l
  induction l with
  |nil=>intro _ e i;cases i
  |cons x l f=>
   simp_all
 have k: ∀l:List lK,List.rec (motive:=fun _=>Bool) false (fun e _ f=>cond (Nat.blt e.born a) true f) l=true-> ∃e∈l,e.born<a:=by
  intro l
  induction l with
  |nil=>intro h;cases h
  |cons x l f=>
   intro h;have m:cond (Nat.blt x.born a) true (List.rec (motive:=fun _=>Bool) false (fun e _ f=>cond (Nat.blt e.born a) true f) l)=true:=h;cases o:Nat.blt x.born a with
   |true=>simp_all
   |false=>
    simp_all
 cases hc:List.rec (motive:=fun _=>Bool) true (fun e _ f=>cond (Nat.blt e.born b) f false) (yf d g) with
 |false=>rw [hc] at h;cases h
 |true=>
  rw [hc] at h;refine ⟨j _ hc,?_⟩;cases d with
  |nil=>exact .inl rfl
  |cons _ _=>
   cases g with
   |nil=>exact .inr (.inl rfl)
   |cons x l=>exact .inr (.inr (k _ h))
def ao7 (A:Operand):gZ P E (.next A false) (lh E (.next A false)):=by
 intro S m h tm ρ w o J q hs;obtain ⟨y,Z⟩:=iV (E:=E) hs A;simp only;generalize (bP E A).g tm=u at y Z;cases u<;>try (exact trivial)
 rename_i n off;cases off with
 |succ _=>exact trivial
 |zero=>
  simp only;cases t:(h.at n).obj<;>try (exact trivial)
  rename_i mo d a f;have hd:aF h n:=by unfold aF;rw [t];simp
  obtain ⟨R,b1,F⟩:=q.blk n (MS t rfl);rw [t] at F;cases mo with
  |none=>
   simp only;have B:R= .mapIter none 0 #[] 0:=F;subst B;have z:=aax (P:=P) b1 (fun _ _ _ e=>by cases e);refine ⟨m,w,.value (.tuple #[.bool false]),?_,.inl rfl,q,Goes.refl m h w,⟨trivial,trivial⟩,rfl⟩;simp only [execOp,J,y,γ,Instr.next,aI,z,aB,bp]
  |some k=>
   simp only;cases j6:(h.at k).obj<;>try (exact trivial)
   rename_i i p;simp only;cases H:UK d a f i with
   |false=>exact trivial
   |true=>
   simp only [cond_true];obtain ⟨Q,i2⟩:=ao6 H;have B:R= .mapIter (some (m.b k)) d ⟨a⟩ f:=F;subst B;have z:=aax (P:=P) b1 (fun _ _ _ e=>by cases e);obtain ⟨U,m1,C⟩:=q.MY j6;have O:(getObj (m.b k)).run P w= .ok (.map ⟨i.map (js m)⟩ p) w:=run_getObj_map (P:=P) m1;have j:(!(⟨a⟩:Array Nat).isEmpty&& !(⟨i.map (js m)⟩:Array MapEntry).isEmpty&&(⟨i.map (js m)⟩:Array MapEntry).all (fun e=>decide (e.born>=f)))=false:=by
    rcases i2 with rfl|rfl|⟨e,he,G⟩
    ·rfl
    ·simp
    ·rw [mY]
     right;rw [Array.all_eq_false'];exact ⟨js m e,by grind,by simpa [js] using G⟩
   have s:(⟨i.map (js m)⟩:Array MapEntry).filter (fun e=> !(⟨a⟩:Array Nat).contains e.born)=⟨(yf a i).map (js m)⟩:=by
    apply eO;rw [Array.toList_filter];exact afT m a i
   cases I:yf a i with
   |nil=>
    rw [I] at s;simp only;refine ⟨m,w,.value (.tuple #[.bool false]),?_,.inl rfl,q,Goes.refl m h w,⟨trivial,trivial⟩,rfl⟩;simp only [execOp,J,y,γ,Instr.next,aI,z,aB,O,j,s];simp [Question.forced]
   |cons e l=>
    cases l with
    |cons _ _=>exact trivial
    |nil=>
     rw [I] at s Q;simp only;have G:=Q e (aE ..);have D:e∈i:=aaz a i e (by rw [I];exact aE ..);have W:(h.at n).obj.MV=true:=by rw [t];rfl
     obtain ⟨q1,q2,T⟩:=q.Qm (n:=n) W (.xc (some k) d (a++ [e.born]) p) (.mapIter (some (m.b k)) d ⟨a++ [e.born]⟩ p) (w':= {w with heap:=w.heap.setIfInBounds (m.b n) (.mapIter (some (m.b k)) d ⟨a++ [e.born]⟩ p)}) (by simp) rfl U rfl rfl rfl rfl;obtain ⟨k1,k2⟩:=C e D;refine ⟨m,_,.value (.tuple #[.bool true,γ m e.key,γ m e.val]),?_,.inl rfl,q1,q2,⟨trivial,rD (fun x N=>(T x).2 N) _ k1,rD (fun x N=>(T x).2 N) _ k2,trivial⟩,rfl⟩;have M:=aay (P:=P) b1 (fun _ _ _ e=>by cases e) (.mapIter (some (m.b k)) d ⟨a++ [e.born]⟩ p);have X:e.born<d:=G;have Y: ¬d<=e.born:=by omega
     simp only [execOp,J,y,γ,Instr.next,aI,z,aB,O,j,s];simp [Question.forced,js,X,Y,M]
omit [aJ] in
def afV: ∀l:List Nat,UL l=(⟨l⟩:Array Nat).back?
 | []=>rfl
 | [x]=>rfl
 |x::y::l=>by
  have a:=afV (y::l);show UL (y::l)=_
  all_goals grind
def afW (m:Mp) (b:Nat): ∀a:List lK,(a.map (js m)).find? (fun e=>e.born==b)=(Hf b a).map (js m)
 | []=>rfl
 |e::a=>by
  have g:=afW m b a;have f:Hf b (e::a)=cond (Nat.beq e.born b) (some e) (Hf b a):=rfl;rw [f,cI,List.find?_cons,g];show (match (e.born==b) with|true=>_|false=>_)=_;cases h:Nat.beq e.born b with
  |true=>
   simp_all
  |false=>
   have:(e.born==b)=false:=by
    rw [beq_eq_false_iff_ne];intro d;rw [d,jA] at h;cases h
   rw [this];rfl
omit [aJ] in
def afX {b:Nat} : ∀ {a:List lK} {e:lK},Hf b a=some e->e∈a
 | [],_,h=>by cases h
 |x::a,e,h=>by
  have d:Hf b (x::a)=cond (Nat.beq x.born b) (some x) (Hf b a):=rfl;rw [d] at h;cases f:Nat.beq x.born b with
  |true=>simp_all
  |false=>rw [f] at h;exact aw _ (afX h)
def ao8 (j:Operand):gZ P E (.entry j) (lh E (.entry j)):=by
 intro S m h H ρ v w o O D Q R;obtain ⟨C,M⟩:=iV (E:=E) Q j;have a:ZK h ((bP E j).g H)=some v:=R;generalize (bP E j).g H=u at C M a;unfold ZK at a;cases u<;>try (cases a;done)
 rename_i n off;cases off with
 |succ _=>cases a
 |zero=>
  simp only at a;cases y:(h.at n).obj<;>rw [y] at a<;>try (cases a;done)
  rename_i X i d G;cases X with
  |none=>cases a
  |some k=>
   simp only at a;cases F:(h.at k).obj<;>rw [F] at a<;>try (cases a;done)
   rename_i l B;simp only at a;obtain ⟨c1,f⟩:=Ht a;obtain rfl:=bD c1;cases z:UL d with
   |none=>rw [z] at f;cases f
   |some b=>
    rw [z] at f;simp only at f;cases p:Hf b l with
    |none=>rw [p] at f;cases f
    |some e=>
     rw [p] at f;cases f;obtain ⟨Y,b1,A⟩:=D.blk n (MS y rfl);rw [y] at A;have I:Y= .mapIter (some (m.b k)) i ⟨d⟩ B:=A;subst I;have N:=aax (P:=P) b1 (fun _ _ _ e=>by cases e);obtain ⟨Z,W,q⟩:=D.MY F;have J:(getObj (m.b k)).run P w= .ok (.map ⟨l.map (js m)⟩ B) w:=run_getObj_map (P:=P) W;obtain ⟨T,U⟩:=q e (afX p);refine ⟨?_,T,U,trivial⟩;have t:(⟨d⟩:Array Nat).back? =some b:=by rw [<-afV,z]
     have x:(⟨l.map (js m)⟩:Array MapEntry).find? (fun e=>e.born==b)=some (js m e):=by
      rw [<-Array.find?_toList];show (l.map (js m)).find? _=_;rw [afW,p];rfl
     refine FK (s:=Instr.entry (ρ j)) (by simp only [execOp,O]) ?_;simp only [C,γ,Instr.entry,aI,N,aB,t,J,x];simp [js,aV]
def afY (ok:eD P E) (o:Op):gZ P E o (lh E o):=by
 cases o with
 |move x=>exact aoc x
 |assign x=>exact aod x
 |pick c a b=>exact aoe c a b
 |build t p=>exact aom ok t p
 |nilCheck x=>exact aof x
 |unOp h t x=>exact aog h t x
 |binOp h t x y A=>exact aok ok h t A x y
 |convert s d x=>exact aoE ok s d x
 |makeInterface t x=>exact aoh ok t x
 |makeFunc j a b=>cases j with
  |func f=>exact aoj f a b
  |_=>exact mV _
 |fieldAddr t x f=>exact aoo ok t x f
 |field t x f=>exact aop ok t x f
 |indexAddr t x i=>exact aoq ok t x i
 |index t x i=>exact aor ok t x i
 |typeAssert x z t c=>exact aos ok x z t c
 |extract t i=>exact aoi t i
 |load t x=>exact afo ok t x
 |lookup t x i c=>exact aoy ok t x i c
 |slice t x q m u=>exact aoA ok t x q m u
 |alloc e=>exact aoG ok e
 |box e x=>exact aoH e x
 |buildSlice t l p=>exact aoK ok t l p
 |makeMap t r=>cases r with
  |none=>exact aoI t
  |some _=>exact mV _
 |makeSlice t l c=>exact aoJ ok t l c
 |store t a x=>exact aoL ok t a x
 |mapUpdate t a k v=>exact aoO ok t a k v
 |insert t a k v=>exact aoP ok t a k v
 |call c=>exact aaw ok c
 |range t x=>exact ao5 ok t x
 |next g b=>cases b with
  |false=>exact ao7 g
  |true=>exact mV _
 |entry g=>exact ao8 g
 |_=>exact mV _
omit [aJ] in
def zu.pH {a b:zu} (h:a.gL b=true):a=b:=by
 cases a<;>cases b<;>simp only [zu.gL] at h<;>first|rfl|cases h|skip
 ·rename_i x y
  have:x=y:=by revert h;cases x<;>cases y<;>first|(intro _;rfl)|(intro h;revert h;decide)
  rw [this]
 ·rw [(AW _ _).1 h]
 ·rw [Ka] at h;rw [eq_of_beq h]
omit [aJ] in
def afZ {c:zu} {a b v:aj} : ∀ {l:List Fact},MO c a b l=some v-> ∃F∈l,F.op=c/\F.a=a/\F.b=b/\v=F.r
 | [],h=>by cases h
 |F::l,h=>by
  have e:cond (F.op.gL c) (cond (F.a.gL a) (cond (F.b.gL b) (some F.r) (MO c a b l)) (MO c a b l)) (MO c a b l)=some v:=h;have again:MO c a b l=some v-> ∃d∈F::l,d.op=c/\d.a=a/\d.b=b/\v=d.r:=fun h=>by
   obtain ⟨d,i,j⟩:=afZ h;exact ⟨d,aw _ i,j⟩
  cases hc:F.op.gL c with
  |false=>simp_all
  |true=>
   rw [hc] at e;cases f:F.a.gL a with
   |false=>simp_all
   |true=>
    rw [f] at e;cases g:F.b.gL b with
    |false=>simp_all
    |true=>rw [g] at e;cases e;exact ⟨F,aE ..,zu.pH hc,aj.pH _ _ f,aj.pH _ _ g,rfl⟩
def apa {m:Mp} {d:BinOp} {t:TypeId} {x y:Operand} {k j:IntKind} {a b:Int} {v:aj} (h:sB (.bin d) k j a b=some v) (w:World):
 (eqGuard d t x y (.int k a) (.int j b)).run P w= .ok () w/\(binOp d t (.int k a) (.int j b)).run P w= .ok (γ m v) w:=by
 refine ⟨by rw [eqGuard_at_int];rfl,?_⟩;have e:cond (nh k j) ((u6 d).f k a b) none=some v->(binOp d t (.int k a) (.int j b)).run P w= .ok (γ m v) w:=fun q=>by
  cases g:nh k j with
  |false=>rw [g] at q;cases q
  |true=>rw [g] at q;have:=(AW _ _).1 g;subst this;exact (Qo (D:=fun _=>True) q w).1
 cases d
 case shl=>exact (afb (D:=fun _=>True) h w).1
 case shr=>exact (afc (D:=fun _=>True) h w).1
 all_goals exact e h
def apb (ok:eD P E) {o:Op} {c:zu} {x y:Operand} (f:J8 E o=some (c,x,y)) {m:Mp} {k j:IntKind} {a b:Int} {v:aj} (h:sB c k j a b=some v)
 {ρ:Operand->Value} (i:ρ x= .int k a) (B:ρ y= .int j b) (q:Oper) (l:q.op=o) (w:World):(execOp ρ q).run P w= .ok (.value (γ m v)) w:=by
 unfold J8 at f;split at f
 ·rename_i T t _ _ _
  cases f;obtain ⟨N,O⟩:=apa (P:=P) (m:=m) (t:=t) (x:=x) (y:=y) h w;simp only [execOp,l,i,B,aI,N,O,aB,bp]
 ·cases f
  have A:oH k (ya k (P6 0 a))=some v:=h;have:=xp A;subst this;simp only [execOp,l,i];simp [Op.unary,Op.intArith,γ,xv,Qn]
 ·rename_i s d z
  cases u:E.cQ s with
  |none=>rw [u] at f;cases f
  |some J=>cases F:E.cQ d with
   |none=>simp_all
   |some M=>
    rw [u,F] at f;cases J<;>try (cases f;done)
    cases M<;>try (cases f;done)
    rename_i R G;cases f;have A:oH G (ya G a)=some v:=h;have:=xp A;subst this;simp only [execOp,l,i];simp [Go.convert,run_underlying (ok.cQ u),run_underlying (ok.cQ F),γ,xv,Conv.intToInt]
 ·rename_i C
  have fin: ∀t,c= .mx t->C.args.toList= [x,y]->C.callee= .builtin (if t then .max else .min)->(execOp ρ q).run P w= .ok (.value (γ m v)) w:=fun t hc Q H=>by
   subst hc;cases g:nh k j with
   |false=>simp only [sB,g] at h;cases h
   |true=>
    have:=(AW _ _).1 g;subst this;simp only [sB,g,cond_true] at h;have e:DU t [.int k b] (.int k a)=some v:=h;have I:In (fun _=>True) (aj.int k a):=trivial;obtain ⟨p,_⟩:=U9 (P:=P) (m:=m) (D:=fun _=>True) t _ _ v w I e;rw [Km (q.op|>fun _=>l) H,Kn Q];cases t
    ·simp only [cG,if_false,aV,γ] at p
     simp only [cG,if_false,builtin,Builtin.min_,cI,lO,i,B,aI,p,aB,bp]
    ·simp only [if_true,aV,γ] at p
     simp only [if_true,builtin,Builtin.max_,cI,lO,i,B,aI,p,aB,bp]
  all_goals grind
 ·cases f
def apc (ok:eD P E) (o:Op) {k:oI} (p:gZ P E o k):gZ P E o (UM E o k):=by
 cases k with
 |rd f=>exact p
 |nw f=>exact p
 |wr f=>exact p
 |pu f=>
  unfold UM;cases hf:J8 E o with
  |some C=>
   obtain ⟨c,x,y⟩:=C;intro m D s ρ v w A z q e;simp only at e;cases l:f s with
   |some u=>rw [l] at e;cases e;exact p m D s ρ v w A z q l
   |none=>
    rw [l] at e;obtain ⟨F,Z,Y,h2,h3,rfl⟩:=afZ e;obtain ⟨G,kk,j,a,b,u,g1,g2,O,X⟩:=ok.facts F Z;obtain ⟨J,_⟩:=iV (E:=E) q x;obtain ⟨s2,_⟩:=iV (E:=E) q y;refine ⟨?_,ae6 G D⟩;rw [X m];rw [Y] at O;exact apb ok hf O (by simp_all) (by simp_all) A z w
  |none=>
   simp only;cases i:Qb E o with
   |none=>exact p
   |some x=>
    intro S m h s ρ v w A z hr q e;simp only at e;cases l:f s with
    |some u=>rw [l] at e;cases e;exact p m (aF h) s ρ v w A z q l
    |none=>
     rw [l] at e;simp only at e;obtain ⟨J,_⟩:=iV (E:=E) q x;cases Q:(bP E x).g s<;>rw [Q] at e<;>try (cases e;done)
     rename_i n;have I:(match (h.at n).obj with| .ga id=>E.gl.len id|_=>none)=some v:=e;cases N:(h.at n).obj<;>rw [N] at I<;>try (cases I;done)
     rename_i id;obtain ⟨G,B⟩:=ok.len id v I;obtain ⟨T,k,c,U,W⟩:=B w _ (hr.jf n id N w fun _ _ _ _=>rfl);refine ⟨?_,ae6 G _⟩;rw [Q] at J;have M:ρ x= .slice T k c:=by rw [J];exact U
     unfold Qb at i;cases o<;>try (cases i;done)
     rename_i c';simp only at i;split at i
     ·rename_i x' t ts R ha ht
      cases H:E.cQ t with
      |none=>rw [H] at i;cases i
      |some d=>
       rw [H] at i;cases d<;>try (cases i;done)
       cases i;rw [Km z R,Kn ha,U8 ht,W m];show ((Builtin.len_ ⟨t::ts⟩ 0 #[ρ x])>>=fun v=>pure (Next.value v)).run P w=_;simp [Builtin.len_,ok.nj H,M,goInt]
     ·cases i
def af0 (ok:eD P E) (o:Op):gZ P E o (pG E o):=by
 unfold pG;split
 ·exact afY ok o
 ·exact apc ok o (afY ok o)
end
end
section
variable [aJ] {S:Nat->Prop}
section
variable {P:Program} {E:Env}
def collected (m:Mp) (d:Pos):Deferred:= {target:= .collected (m.b d),args:= #[]}
structure TR (m:Mp) (h:aP) (nt:Nat) (tm:Tm) (a:Act):Prop where
 size:nt<=a.tmps.size
 val: ∀t,a.tmps.getD t undef=γ m (gW t tm)
 ins: ∀t,In (aF h) (gW t tm)
 defs:a.defers=h.df.map (collected m)
 A9: ∀d∈h.df,aF h d
def TR.src {G:gb} {m:Mp} {h:aP} {w:World} {nt:Nat} {tm:Tm} {a:Act} (t:TR m h nt tm a) (b:bR G S m h w):Src G m (aF h) tm a.eval:=
 ⟨fun x=>⟨t.val x,t.ins x⟩,fun _=>rfl,fun _=>rfl,fun _=>rfl⟩
def TR.step {G:gb} {m m':Mp} {h h':aP} {w w':World} {nt:Nat} {tm:Tm} {a:Act} (t:TR m h nt tm a) (r:bR G S m h w) (g:Goes m h w m' h' w') (hd:h'.df=h.df):TR m' h' nt tm a where
 size:=t.size
 val:=fun x=>by rw [t.val,D1 (D:=aF h) (fun n hn=>g.agree n (r.fresh n hn)) _ (t.ins x)]
 ins:=fun x=>rD g.old _ (t.ins x)
 defs:=by
  rw [t.defs,hd];apply dy;intro d hm;simp only [collected];rw [(g.agree d (r.fresh d (t.A9 d hm))).1]
 A9:=fun d hm=>g.old d (t.A9 d (by rw [<-hd];exact hm))
omit [aJ] in
def ape (i j:Nat) (hi:i<4) (a:j<4) (q:Q0) (v:aj):(PT i).f ((aeE j).f q v)=if j=i then v else (PT i).f q:=by
 match i,j,hi,a with
 |0,0,_,_|0,1,_,_|0,2,_,_|0,3,_,_|1,0,_,_|1,1,_,_|1,2,_,_|1,3,_,_
 |2,0,_,_|2,1,_,_|2,2,_,_|2,3,_,_|3,0,_,_|3,1,_,_|3,2,_,_|3,3,_,_=>rfl
omit [aJ] in
def apf (k i l j:Nat) (b:k<4) (hi:i<4) (d:l<4) (a:j<4) (q:Q1) (v:aj):(PU k i).f ((aeF l j).f q v)=if l=k/\j=i then v else (PU k i).f q:=by
 obtain ⟨e,g,m,o⟩:=q;have h:=fun q=>ape i j hi a q v
 match k,l,b,d with
 |0,0,_,_=>simp only [true_and];exact h e
 |1,1,_,_=>simp only [true_and];exact h g
 |2,2,_,_=>simp only [true_and];exact h m
 |3,3,_,_=>simp only [true_and];exact h o
 |0,1,_,_|0,2,_,_|0,3,_,_|1,0,_,_|1,2,_,_|1,3,_,_|2,0,_,_|2,1,_,_|2,3,_,_|3,0,_,_|3,1,_,_|3,2,_,_=>rfl
omit [aJ] in
def apg (k i l j:Nat) (a:k<4) (hi:i<16) (b:l<4) (p:j<16) (q:Q2) (v:aj):(PV k i).f ((aeG l j).f q v)=if l=k/\j=i then v else (PV k i).f q:=by
 obtain ⟨d,g,m,o⟩:=q;have h:=fun q=>apf (i/4) (i % 4) (j/4) (j % 4) (by omega) (by omega) (by omega) (by omega) q v
 have e:(j/4=i/4/\j % 4=i % 4)=(j=i):=by grind
 simp only [e] at h
 match k,l,a,b with
 |0,0,_,_=>simp only [true_and];exact h d
 |1,1,_,_=>simp only [true_and];exact h g
 |2,2,_,_=>simp only [true_and];exact h m
 |3,3,_,_=>simp only [true_and];exact h o
 |0,1,_,_|0,2,_,_|0,3,_,_|1,0,_,_|1,2,_,_|1,3,_,_|2,0,_,_|2,1,_,_|2,3,_,_|3,0,_,_|3,1,_,_|3,2,_,_=>rfl
omit [aJ] in
def aph (k i l j:Nat) (a:k<4) (hi:i<64) (b:l<4) (p:j<64) (q:Q3) (v:aj):(PW k i).f ((Zz l j).f q v)=if l=k/\j=i then v else (PW k i).f q:=by
 obtain ⟨d,g,m,o⟩:=q;have h:=fun q=>apg (i/16) (i % 16) (j/16) (j % 16) (by omega) (by omega) (by omega) (by omega) q v
 have e:(j/16=i/16/\j % 16=i % 16)=(j=i):=by grind
 simp only [e] at h
 match k,l,a,b with
 |0,0,_,_=>simp only [true_and];exact h d
 |1,1,_,_=>simp only [true_and];exact h g
 |2,2,_,_=>simp only [true_and];exact h m
 |3,3,_,_=>simp only [true_and];exact h o
 |0,1,_,_|0,2,_,_|0,3,_,_|1,0,_,_|1,2,_,_|1,3,_,_|2,0,_,_|2,1,_,_|2,3,_,_|3,0,_,_|3,1,_,_|3,2,_,_=>rfl
omit [aJ] in
def QA {t:Nat} (h:t<256) (tm:Tm):gW t tm=(PW (t/64) (t % 64)).f tm.q:=by
 have e:Nat.blt t 256=true:=sw.2 h;unfold gW UA;rw [e];rfl
omit [aJ] in
def QB {t:Nat} (h: ¬t<256) (tm:Tm):gW t tm=fX.get oG (pos t) tm.o:=by
 have e:Nat.blt t 256=false:=cW.2 fun e=>h (sw.1 e)
 unfold gW UA;rw [e];rfl
omit [aJ] in
def af1 {t:Nat} (h:t<256) (v:aj) (tm:Tm):(zB t).f v tm=⟨(Zz (t/64) (t % 64)).f tm.q v,tm.o⟩:=by
 have e:Nat.blt t 256=true:=sw.2 h;unfold zB;rw [e];rfl
omit [aJ] in
def af2 {t:Nat} (h: ¬t<256) (v:aj) (tm:Tm):(zB t).f v tm=⟨tm.q,tm.o.set oG v (pos t)⟩:=by
 have e:Nat.blt t 256=false:=cW.2 fun e=>h (sw.1 e)
 unfold zB;rw [e];rfl
omit [aJ] in
def Ku {tm:Tm} {d:Nat} {v:aj} (t:Nat):gW t ((zB d).f v tm)=if d=t then v else gW t tm:=by
 by_cases b:d<256<;>by_cases a:t<256
 ·rw [af1 b,QA a,QA a,aph _ _ _ _ (by omega) (by omega) (by omega) (by omega)]
  all_goals grind
 ·rw [af1 b,QB a,QB a,if_neg (by omega)]
 ·rw [af2 b,QA a,QA a,if_neg (by omega)]
 ·rw [af2 b,QB a,QB a,fX.DZ]
  by_cases e:d=t
  ·subst e;simp
  ·rw [if_neg (fun h=>e (aeU h)),if_neg e]
omit [aJ] in
def af3 (a:Act) (d:Nat) (v:Value) (t:Nat) (b:d<a.tmps.size):(a.put (some d) v).tmps.getD t undef=if d=t then v else a.tmps.getD t undef:=by
 simp only [Act.put];by_cases e:d=t
 ·subst e;simp [b]
 ·simp_all
def TR.put {m:Mp} {h:aP} {nt:Nat} {tm:Tm} {a:Act} (t:TR m h nt tm a) {d:Option Tmp} {p:Cg} (b:yg nt d=some p) {v:aj} (l:In (aF h) v):TR m h nt (p.f v tm) (a.put d (γ m v)):=by
 unfold yg at b;cases d with
 |none=>cases b;exact t
 |some d=>
  simp only at b;obtain ⟨i,j⟩:=Ht b;cases j;have g:=sw.1 i;have k:d<a.tmps.size:=az g t.size;refine ⟨by simp [Act.put];exact t.size,fun x=> ?_,fun x=> ?_,t.defs,t.A9⟩
  ·rw [af3 a d _ x k,Ku]
   by_cases e:d=x
   ·simp [e]
   ·simp [e];simpa using t.val x
  ·rw [Ku]
   by_cases e:d=x
   ·rw [if_pos e];exact l
   ·rw [if_neg e];exact t.ins x
def sZ (P:Program) (E:Env) (cf:(FuncId->List aj->aP->VR)):Prop:=
 ∀f args h v a,cf f args h= .ok v a->a.df=h.df/\ ∀(S:Nat->Prop) m w,bR E.gl S m h w->i9 (aF h) args->(∀d∈h.df,aF h d)->
  Calls P f ⟨aV m args⟩ w fun e g=> ∃b,e= .returned (γ b v)/\bR E.gl S b a g/\Goes m h w b a g/\In (aF a) v
def Vj (P:Program) (E:Env) (o:Oper) (tm:Tm) (h:aP) (v:aj) (b:aP):Prop:=
 ∀(S:Nat->Prop) (m:Mp) (a:Act) (w:World) (Q:Exit->Act->World->Prop) (K:Act->World->Prop),bR E.gl S m h w->Src E.gl m (aF h) tm a.eval->(∀d∈h.df,aF h d)->
  (∀e f,bR E.gl S e b f->Goes m h w e b f->In (aF b) v->K (a.put o.dst (γ e v)) f)->o.wp P a w K Q
def af4 {o:Oper} {f:Tm->aP->OR} (x:afh P E o.op f) {cf:(FuncId->List aj->aP->VR)} (B:sZ P E cf) {tm:Tm} {h d:aP} {v:aj}
 (e:(f tm h= .ok v d)\/ ∃g args,f tm h= .call g args/\cf g args h= .ok v d):Vj P E o tm h v d/\(∀(S:Nat->Prop) m w (a:Act),bR E.gl S m h w->Src E.gl m (aF h) tm a.eval->d.df=h.df):=by
 rcases e with e|⟨g,args,e,A⟩
 ·constructor
  ·intro S m a w Q K i j _ t
   have b:=x S m h tm a.eval w o rfl i j;rw [e] at b;obtain ⟨y,z,r,k,l,p,q,s,_⟩:=b;unfold Oper.wp;rw [k];rcases l with rfl|⟨rfl,rfl⟩
   ·exact t y z p q s
   ·exact t y z p q s
  ·intro S m w a i j
   have b:=x S m h tm a.eval w o rfl i j;rw [e] at b;obtain ⟨_,_,_,_,_,_,_,_,C⟩:=b;exact C
 ·constructor
  ·intro S m a w Q K i j u t
   have b:=x S m h tm a.eval w o rfl i j;rw [e] at b;obtain ⟨k,l⟩:=b;unfold Oper.wp;rw [k];show Calls P g ⟨aV m args⟩ w _;refine ((B g args h v d A).2 S m w i l u).mono fun D z ⟨y,F,p,q,s⟩=> ?_
   all_goals grind
  ·intro _ _ _ _ _ _;exact (B g args h v d A).1
def api {o:Oper} {f:Tm->Option (jG×Mk)} (t:afg P E o.op f) {tm:Tm} {h:aP} {p:jG×Mk} (e:f tm=some p):Vj P E o tm h (p.2.mk h.nx) (h.new p.1):=by
 intro S m a w Q K d s _ l;obtain ⟨ob,mk⟩:=p;have u: ¬aF h h.nx:=fun q=>bO _ (d.fresh _ q)
 obtain ⟨cap,b,g,i,j,k⟩:=t m (aF h) tm a.eval ob mk w o rfl s e h.nx u;obtain ⟨x,y,z⟩:=d.Kh (ob:=ob) (o:=b) (w':= {w with heap:=w.heap.push b}) (cap:=cap) ⟨rfl,rfl,rfl,rfl⟩ k i j;unfold Oper.wp;rw [g];exact l _ _ x y (by cases mk<;>exact z)
def af5 (ok:eD P E) {cf:(FuncId->List aj->aP->VR)} (u:sZ P E cf) {o:Oper} {tm:Tm} {h:aP} {next:aj->aP->CR} {out:Out} {t:Tm} {h':aP}
 (e:carry (pG E o.op) cf tm h next= .ok out t h'): ∃v d,next v d= .ok out t h'/\Vj P E o tm h v d/\(∀(S:Nat->Prop) m w (a:Act),bR E.gl S m h w->Src E.gl m (aF h) tm a.eval->d.df=h.df):=by
 have i:=af0 ok o.op;cases j:pG E o.op with
 |pu f=>
  rw [j] at e i;simp only [carry] at e;cases b:f tm with
  |none=>rw [b] at e;cases e
  |some v=>
   rw [b] at e;refine ⟨v,h,e,fun S m a w Q K k s _ q=> ?_,fun _ _ _ _ _ _=>rfl⟩;obtain ⟨d,l⟩:=i m (aF h) tm a.eval v w o rfl s b;unfold Oper.wp;rw [d];exact q m w k (Goes.refl m h w) l
 |rd f=>
  rw [j] at e i;simp only [carry] at e;cases b:f tm h with
  |none=>rw [b] at e;cases e
  |some v=>
   rw [b] at e;refine ⟨v,h,e,fun S m a w Q K k s _ q=> ?_,fun _ _ _ _ _ _=>rfl⟩;obtain ⟨d,l⟩:=i S m h tm a.eval v w o rfl k s b;unfold Oper.wp;rw [d];exact q m w k (Goes.refl m h w) l
 |nw f=>
  rw [j] at e i;simp only [carry] at e;cases b:f tm with
  |none=>rw [b] at e;cases e
  |some p=>
   rw [b] at e;exact ⟨_,_,e,api i b,fun _ _ _ _ _ _=>rfl⟩
 |wr f=>
  rw [j] at e i;simp only [carry] at e;cases b:f tm h with
  |fail=>rw [b] at e;cases e
  |ok v d=>
   rw [b] at e;obtain ⟨x,s2⟩:=af4 i u (.inl b)
   all_goals grind
  |call g args=>
   rw [b] at e;simp only at e;cases hc:cf g args h with
   |fail=>rw [hc] at e;cases e
   |ok v d=>
    rw [hc] at e;obtain ⟨x,s2⟩:=af4 i u (.inr ⟨g,args,b,hc⟩)
    all_goals grind
omit [aJ] in
def apj (w:Option UN) (k:oI) (p:Cg) (a:CK) (cf:(FuncId->List aj->aP->VR)) (tm:Tm) (h:aP):
 (UO w k p a).f cf tm h=match w with
  |none=>carry k cf tm h fun v h=>a.f cf (p.f v tm) h
  |some w=>Option.casesOn (motive:=fun _=>CR) (w.f tm) .fail fun b=>cond b (carry k cf tm h fun v h=>a.f cf (p.f v tm) h) (a.f cf (p.f oG tm) h):=by
 cases w<;>cases k<;>rfl
def af6 {all:List Oper} {o:Oper} {m:Mp} {tm:Tm} {a:Act} (t: ∀j b g d,o.guard=some (j,b)->all[j]? =some g->g.dst=some d->a.tmps.getD d undef=γ m (gW d tm)):
 (um all o.guard=none->Region.wanted o (yielded all.toArray a.tmps)=true)/\
 (∀k b,um all o.guard=some k->k.f tm=some b->Region.wanted o (yielded all.toArray a.tmps)=b):=by
 unfold um Region.wanted;cases z:o.guard with
 |none=>simp_all
 |some C=>
  obtain ⟨j,b⟩:=C;simp only;cases s:all[j]? with
  |none=>grind
  |some g=>
   simp only;cases p:g.dst with
   |none=>grind
   |some d=>
    refine ⟨(fun h=>by cases h),fun k c y e=> ?_⟩;cases y;simp only at e;have i:=t j b g d z s p;have B:yielded all.toArray a.tmps j=match a.tmps[d]? with|some (.bool b)=>some b|_=>none:=by
     simp [yielded,s,p];rfl
    cases A:gW d tm<;>rw [A] at e i<;>try (cases e;done)
    ·rename_i x
     simp only [aW] at e;subst e;simp only [γ] at i;have:a.tmps[d]? =some (.bool x):=by
      cases u:a.tmps[d]? with
      |none=>simp [cR,u,undef] at i
      |some q=>simp_all
     rw [B,this];simp [Ka]
    ·rename_i l
     cases e;simp only [γ] at i;have:(match a.tmps[d]? with|some (.bool b)=>some b|_=>none)=none:=by
      cases u:a.tmps[d]? with
      |none=>rfl
      |some q=>simp_all
     all_goals grind
def aaD {all:List Oper} {o:Oper} {m:Mp} {h:aP} {nt:Nat} {tm:Tm} {a:Act} (t:TR m h nt tm a):
 (um all o.guard=none->Region.wanted o (yielded all.toArray a.tmps)=true)/\
 (∀e b,um all o.guard=some e->e.f tm=some b->Region.wanted o (yielded all.toArray a.tmps)=b):=af6 fun _ _ _ d _ _ _=>t.val d
def aaE (ok:eD P E) {cf:(FuncId->List aj->aP->VR)} (I:sZ P E cf) (nt:Nat) (all:List Oper): ∀(d:List Oper) (i:Nat),all.drop i=d-> ∀(s:Tm) (h:aP) (j:Out) (z:Tm) (l:aP),
 (AV E nt all d).f cf s h= .ok j z l->j= .normal/\ ∀(S:Nat->Prop) m a w Q,bR E.gl S m h w->TR m h nt s a->
  (∀q u t,bR E.gl S q l t->TR q l nt z u->Goes m h w q l t->Q .normal u t)->wpOps P all.toArray Q (List.range' i d.length) a w
 | [],i,M,s,h,j,z,l,e=>by
  simp only [AV] at e;cases e;exact ⟨rfl,fun S m a w Q k g x=>x m a w k g (Goes.refl m h w)⟩
 |o::d,i,M,s,h,j,z,l,e=>by
  simp only [AV] at e;cases H:yg nt o.dst with
  |none=>rw [H] at e;cases e
  |some p=>
   rw [H] at e;simp only at e;rw [apj] at e;have T:all.drop (i+1)=d:=by rw [<-List.drop_drop,M];rfl
   have J:all.toArray[i]? =some o:=by
    have:(all.drop i)[0]? =some o:=by rw [M];rfl
    simpa using this
   have step: ∀ {v A},(AV E nt all d).f cf (p.f v s) A= .ok j z l->Vj P E o s h v A->(∀(S:Nat->Prop) m w (a:Act),bR E.gl S m h w->Src E.gl m (aF h) s a.eval->A.df=h.df)->
    j= .normal/\ ∀(S:Nat->Prop) m a w Q,bR E.gl S m h w->TR m h nt s a->(∀q u t,bR E.gl S q l t->TR q l nt z u->Goes m h w q l t->Q .normal u t)->o.wp P a w (wpOps P all.toArray Q (List.range' (i+1) d.length)) Q:=fun {v A} C F s2=>by
    obtain ⟨y,D⟩:=aaE ok I nt all d (i+1) T _ _ _ _ _ C;refine ⟨y,fun S m a w Q k g x=> ?_⟩;refine F S m a w Q _ k (g.src k) g.A9 fun X w1 U R N=> ?_
    exact D S X _ w1 Q U ((g.step k R (s2 S m w a k (g.src k))).put H N) fun q u t Y Z W=>x q u t Y Z (Goes.trans k U R W)
   cases B:um all o.guard with
   |none=>
    rw [B] at e;simp only at e;obtain ⟨v,A,C,F,s2⟩:=af5 ok I e;obtain ⟨y,D⟩:=step C F s2;refine ⟨y,fun S m a w Q k g x=> ?_⟩;rw [show List.range' i (o::d).length=i::List.range' (i+1) d.length from rfl];simp only [wpOps,J,(aaD (all:=all) (o:=o) g).1 B,if_true]
    all_goals grind
   |some O=>
    rw [B] at e;simp only at e;cases G:O.f s with
    |none=>rw [G] at e;cases e
    |some b=>
     rw [G] at e;simp only at e;cases b with
     |true=>
      simp only [cond_true] at e;obtain ⟨v,A,C,F,s2⟩:=af5 ok I e;obtain ⟨y,D⟩:=step C F s2;refine ⟨y,fun S m a w Q k g x=> ?_⟩;rw [show List.range' i (o::d).length=i::List.range' (i+1) d.length from rfl];simp only [wpOps,J,(aaD (all:=all) (o:=o) g).2 O true B G,if_true]
      all_goals grind
     |false=>
      simp only [cond_false] at e;obtain ⟨y,D⟩:=aaE ok I nt all d (i+1) T _ _ _ _ _ e;refine ⟨y,fun S m a w Q k g x=> ?_⟩;rw [show List.range' i (o::d).length=i::List.range' (i+1) d.length from rfl];simp only [wpOps,J,(aaD (all:=all) (o:=o) g).2 O false B G,cG,if_false];exact D S m _ w Q k (g.put (v:=oG) H trivial) x
end
end
section
variable [aJ] {S:Nat->Prop}
section
variable {P:Program} {E:Env}
def vf:Out->Exit
 | .normal=> .normal
 | .ret=> .ret
 | .exit id=> .exit id
def Does (P:Program) (E:Env) (nt:Nat) (c:Code) (tm:Tm) (h:aP) (out:Out) (f:Tm) (h':aP):Prop:=
 ∀(S:Nat->Prop) (m:Mp) (a:Act) (w:World) (Q:Exit->Act->World->Prop),bR E.gl S m h w->TR m h nt tm a->
  (∀b e d,bR E.gl S b h' d->TR b h' nt f e->Goes m h w b h' d->Q (vf out) e d)->c.wp P Q a w
def H4 (P:Program) (E:Env):Prop:=
 ∀(g id:Nat) (a:Array Oper) (cf:(FuncId->List aj->aP->VR)),sZ P E cf-> ∀i h b d e,(Qe E g a.toList).f cf i h= .ok b d e->Does P E g (.region id a true) i h b d e
def bR.M1 {G:gb} {m:Mp} {h:aP} {w:World} (r:bR G S m h w) (l:List Pos):bR G S m ⟨h.t,h.nx,h.al,l⟩ w:=
 ⟨r.blk,r.fresh,r.apart,r.mem,r.mq,r.ins,r.qF,r.jf,r.lim⟩
omit [aJ] in
def Goes.M1 {m a:Mp} {h h':aP} {w w':World} (g:Goes m h w a h' w') (l:List Pos):Goes m h w a ⟨h'.t,h'.nx,h'.al,l⟩ w':=
 ⟨g.tape,g.os,g.output,g.size,g.xj,g.agree,g.nx,g.FF,g.yj,g.old,g.bold,g.Hp⟩
omit [aJ] in
def Goes.apk {m a:Mp} {h h':aP} {w w':World} {l:List Pos} (g:Goes m ⟨h.t,h.nx,h.al,l⟩ w a h' w'):Goes m h w a h' w':=
 ⟨g.tape,g.os,g.output,g.size,g.xj,g.agree,g.nx,g.FF,g.yj,g.old,g.bold,g.Hp⟩
omit [aJ] in
def apl {g:Operand} {ps:Array Tmp} {m o:Code} {Q:Exit->Act->World->Prop} {a:Act} {w:World}
 (h: ∀B,∃(l:Nat) (j:List Deferred) (i:World) (d:Deferred) (f:FuncId) (args:Array Value),
  (Instr.enterLoop B a.tmps ps m o none).run P w= .ok (l,j) i/\
  (resolve a.eval (rangeCall g l) 0).run P i= .ok d i/\
  (invoke d.target d.args).run P i= .ok (.enter f args) i/\
  Calls P f args i fun e q=>(∃v,e= .returned v)/\ ∃p,(Instr.endLoop l).run P q= .ok none p/\Q .normal {a with defers:=j++a.defers} p):
 (Code.rangeFunc g ps m o).wp P Q a w:=by
 intro b k cs
 let s:Frame:= {b with roundOf:=none}
 have z: ∀a k,b.at a k=s.atR a k:=fun a k=>by simp [Frame.atR,Frame.at,s]
 obtain ⟨l,j,i,d,f,args,D,u,hinv,A⟩:=h b.fn;have t:=stepR_rangeFunc (P:=P) (b:=s) (a:=a) (k:=k) (cs:=cs) (w:=w) D u hinv;obtain ⟨e,q,fr,⟨⟨v,rfl⟩,p,G,C⟩,x,F,y⟩:=A (s.atR {a with defers:=j++a.defers} (.inRangeFunc l::k)::cs);refine ⟨.normal,_,p,C,?_⟩;rw [z];show Steps P _ (lone (b.at _ k) cs p);rw [z];refine .head t (Steps.trans x (.head ?_ (.one (stepR_endRangeFunc (b:=s) (a:= {a with defers:=j++a.defers}) (k:=k) (cs:=cs) G))));rw [<-finish_atR_inRangeFunc l v];exact step_leave_returned y
def apq (ok:eD P E) {nt:Nat} {g:Operand} {ps:Array Tmp} {assign body:Code} {cf:(FuncId->List aj->aP->VR)} (kF:sZ P E cf) {tm:Tm} {h:aP} {out:Out} {bG:Tm} {h':aP}
 (e:(fY E nt (.rangeFunc g ps assign body)).f cf tm h= .ok out bG h'):Does P E nt (.rangeFunc g ps assign body) tm h out bG h':=by
 simp only [fY] at e;intro S m a w Q x U hQ;obtain ⟨s1,s2⟩:=iV (E:=E) (U.src x) g;generalize (bP E g).g tm=u at e s1 s2;cases u<;>try (cases e;done)
 rename_i fn first i
 cases fn<;>try (cases e;done)
 rename_i f;simp only at e;apply apl;intro O
 let j:World:= {w with heap:=w.heap.push (.deferred (some []))}
 obtain ⟨r1,g1,d1⟩:=x.Kh (ob:= .uf) (o:= .deferred (some [])) (w':=j) (cap:=0) ⟨rfl,rfl,rfl,rfl⟩ (by simp) rfl trivial
 let W:Loop:= {state:= .ready,pending:=none,fn:=O,tmps:=a.tmps,params:=ps,assign,body,defers:=w.heap.size}
 let w2:World:= {j with heap:=j.heap.push (.loop W)}
 obtain ⟨k,G,M⟩:=r1.Kh (ob:= .J7) (o:= .loop W) (w':=w2) (cap:=0) ⟨rfl,rfl,rfl,rfl⟩ (by simp) ⟨W,rfl,rfl,rfl⟩ trivial;generalize lV:(m.set h.nx w.heap.size 0).set (h.new .uf).nx j.heap.size 0=p at k G;have q:=Goes.trans x r1 g1 G;generalize M4:(h.new .uf).new .J7=s at e k G M q;have A:s.df=h.df:=by rw [<-M4];rfl
 have bB:h.nx.n<(h.new .uf).nx.n:=by show _<h.nx.succ.n;rw [Pos.Hl];omega
 have X:p.b (h.new .uf).nx=j.heap.size:=by rw [<-lV,Mp.p8]
 have zM:p.b h.nx=w.heap.size:=by
  rw [<-lV,(Mp.A0 _ _ _ (fun e=>by simp_all)).1,Mp.p8]
 have wW:aF s h.nx:=by rw [<-M4] at G⊢;exact G.old _ d1
 have B: ∀n,aF h n->p.b n=m.b n/\p.cv n=m.cv n:=fun n hn=>q.agree n (x.fresh n hn)
 have bz:i9 (aF s) (first++(.Ce (h.new .uf).nx::i)):=(mn _).2 fun v l=>by
  rcases bZ.1 l with l|l
  ·exact rD q.old _ ((mn _).1 s2.1 v l)
  ·rcases bu.1 l with rfl|l
   ·exact M
   ·exact rD q.old _ ((mn _).1 s2.2 v l)
 have Vk:=Vf ok k (f:=f) bz;rw [Qf] at e;generalize (Fx E f).f s (first++(.Ce (h.new .uf).nx::i))=Z at e Vk;cases Z with
 |ok _ _=>cases e
 |fail=>cases e
 |call T args=>
  obtain ⟨c1,c2⟩:=Vk;simp only at e;cases hc:cf T args s with
  |fail=>rw [hc] at e;cases e
  |ok v I=>
   rw [hc] at e;simp only at e;cases N:(I.at (h.new .uf).nx).obj<;>rw [N] at e<;>try (cases e;done)
   cases e;refine ⟨j.heap.size,[{target:= .collected w.heap.size,args:= #[]}],w2,{target:= .fn (.func f) ⟨aV m i⟩,args:=⟨aV m first⟩++ #[.func (.yield j.heap.size) #[] #[]]},T,⟨aV p args⟩,?_,?_,?_,?_⟩
   ·simp only [Instr.enterLoop,aI,run_newObj,aB,bp]
    rfl
   ·simp only [resolve,s1,γ,Deferred.ofValue]
    simp [Act.eval]
   ·rw [show (invoke _ _:Sem Next)=callFunc f ⟨aV p (first++(.Ce (h.new .uf).nx::i))⟩ from ?_]
    ·exact c1
    ·simp only [invoke]
     congr 1;apply eO;simp only [FC,aV,γ,X];rw [AY (D:=aF h) B first s2.1,AY (D:=aF h) B i s2.2];simp
   ·obtain ⟨q1,q2⟩:=kF T args s v I hc
    refine (q2 S p w2 k c2 (fun d t=>by rw [A] at t;exact q.old _ (U.A9 d t))).mono fun en y ⟨m3,he,Y,H,_⟩=> ?_
    subst he;refine ⟨⟨_,rfl⟩,?_⟩;have C:=H.agree _ (k.fresh _ M);have H6:aF I (h.new .uf).nx:=H.old _ M;obtain ⟨o,b1,b2⟩:=Y.blk _ (MS N rfl);rw [N] at b2;obtain ⟨z,rfl,p1,p2⟩:=b2;rw [C.1,X] at b1;refine ⟨{y with heap:=y.heap.setIfInBounds j.heap.size (.loop {z with state:= .exhausted})},?_,?_⟩
    ·have hg:(getObj j.heap.size).run P y= .ok (.loop z) y:=by simp [getObj,Sem.run,b1]
     simp only [Instr.endLoop,Instr.getLoop,aI,hg,aB,bp,p1];have eX:=aay (P:=P) b1 (fun _ _ _ e=>by cases e) (.loop {z with state:= .exhausted});have hb:(LoopState.ready==LoopState.busy)=false:=rfl;simp only [hb,cG,if_false,aI,bp,eX,aB];rw [p2]
    ·obtain ⟨r4,g4,d4⟩:=Y.Qm (n:=(h.new .uf).nx) (by rw [N];rfl) .other (.loop {z with state:= .exhausted}) (w':= {y with heap:=y.heap.setIfInBounds j.heap.size (.loop {z with state:= .exhausted})})
      (by simp) trivial trivial (by rw [C.1,X]) rfl rfl rfl
     have F:=Goes.trans x k q (Goes.trans k Y H g4);refine hQ m3 _ _ (r4.M1 _) ?_ (F.M1 _);have R:(I.setObj (h.new .uf).nx .other).df=h.df:=by show I.df=_;rw [q1,A]
     have J:=U.step x F R;refine ⟨J.size,J.val,J.ins,?_,?_⟩
     ·show _::a.defers=collected m3 h.nx::List.map _ _
      rw [J.defs];congr 1;simp only [collected];rw [(H.agree _ (k.fresh _ wW)).1,zM]
     ·intro d t
      rcases bu.1 t with rfl|t
      ·exact g4.old _ (H.old _ wW)
      ·exact J.A9 d t
def agc {cf:(FuncId->List aj->aP->VR)} {x:CK} {nt:Nat} {c:Code} (A: ∀d h b i g,x.f cf d h= .ok b i g->Does P E nt c d h b i g): ∀(n:Nat) (d:Tm) (h:aP) (b:Out) (i:Tm) (g:aP),
 loopGo x cf n d h= .ok b i g-> ∀(S:Nat->Prop) (m:Mp) (a:Act) (w:World) (Q:Exit->Act->World->Prop),bR E.gl S m h w->TR m h nt d a->
  (∀j l k,bR E.gl S j g k->TR j g nt i l->Goes m h w j g k->Q (vf b) l k)->Code.rounds P c Q n a w
 |0,_,_,_,_,_,e=>by cases e
 |n+1,d,h,b,i,g,e=>by
  intro S m a w Q z D t;rw [rounds_succ];have p:CR.casesOn (motive:=fun _=>CR) (x.f cf d h) (fun o d h=>Out.casesOn (motive:=fun _=>CR) o (loopGo x cf n d h) (.ok .ret d h) (fun id=> .ok (.exit id) d h)) .fail= .ok b i g:=e;cases y:x.f cf d h with
  |fail=>simp_all
  |ok o M J=>
   rw [y] at p;refine A _ _ _ _ _ y S m a w _ z D fun F B I q u s=> ?_
   cases o with
   |normal=>exact agc A n _ _ _ _ _ p S F B I Q q u fun j l k G H C=>t j l k G H (Goes.trans z q s C)
   |ret=>cases p;exact t _ _ _ q u s
   |exit id=>cases p;exact t _ _ _ q u s
def Vm (ok:eD P E) (hD:H4 P E) {cf:(FuncId->List aj->aP->VR)} (R:sZ P E cf) (nt:Nat): ∀(c:Code) (s:Tm) (h:aP) (d:Out) (z:Tm) (A:aP),
 (fY E nt c).f cf s h= .ok d z A->Does P E nt c s h d z A:=by
 intro c
 induction c with
 |skip=>intro s h d z A e S m a w Q p q i;simp only [fY] at e;cases e;exact wp_skip (i m a w p q (Goes.refl ..))
 |label l=>intro s h d z A e S m a w Q p q i;simp only [fY] at e;cases e;exact wp_label (i m a w p q (Goes.refl ..))
 |ret=>intro s h d z A e S m a w Q p q i;simp only [fY] at e;cases e;exact wp_ret (i m a w p q (Goes.refl ..))
 |exit id=>intro s h d z A e S m a w Q p q i;simp only [fY] at e;cases e;exact wp_exit (i m a w p q (Goes.refl ..))
 |seq x y Z O=>
  intro s h d z A e S m a w Q p q i;simp only [fY] at e;cases F:(fY E nt x).f cf s h with
  |fail=>rw [F] at e;cases e
  |ok o t1 h1=>
   rw [F] at e;refine wp_seq (Z _ _ _ _ _ F S m a w _ p q fun T J U B D C=> ?_);cases o with
   |normal=>exact O _ _ _ _ _ e S T J U Q B D fun m' a' w' r' t' g'=>i m' a' w' r' t' (Goes.trans p B C g')
   |ret=>cases e;exact i _ _ _ B D C
   |exit id=>cases e;exact i _ _ _ B D C
 |cond x a b M N=>
  intro s h d z A e S m W w Q p q i;simp only [fY] at e;obtain ⟨Y,s2⟩:=iV (E:=E) (q.src p) x;generalize (bP E x).g s=u at e Y s2;cases u<;>try (cases e;done)
  rename_i c;refine wp_cond (t:=c) (by rw [Y];rfl) ?_;cases c with
  |true=>exact M _ _ _ _ _ e S m W w Q p q i
  |false=>exact N _ _ _ _ _ e S m W w Q p q i
 |block id x I=>
  intro s h d z A e S m a w Q p q i;simp only [fY] at e;cases F:(fY E nt x).f cf s h with
  |fail=>rw [F] at e;cases e
  |ok o t1 h1=>
   rw [F] at e;refine wp_block (I _ _ _ _ _ F S m a w _ p q fun T J U B D C=> ?_);cases o with
   |normal=>cases e;exact i _ _ _ B D C
   |ret=>cases e;exact i _ _ _ B D C
   |exit j=>
    simp only at e;simp only [vf,Exit.inBlock];by_cases X:j=id
    ·subst X
     simp only [jA,cond_true] at e;cases e;rw [if_pos rfl];exact i _ _ _ B D C
    ·rw [if_neg X]
     have:Nat.beq j id=false:=by cases hb:Nat.beq j id with
      |false=>rfl
      |true=>simp_all
     rw [this,cond_false] at e;cases e;exact i _ _ _ B D C
 |loop x I=>
  intro s h d z A e S m a w Q p q i;simp only [fY] at e;exact wp_loop_rounds 1000000 (agc I 1000000 _ _ _ _ _ e S m a w Q p q i)
 |scope x I=>
  intro s h d z A e S m a w Q p q i;simp only [fY] at e;refine wp_scope_straight (I _ _ _ _ _ e S m a w _ p q fun T J U B D C=> ?_);have:=i _ _ _ B D C;cases d<;>exact this
 |region id G H=>
  intro s h d z A e;cases H with
  |true=>simp only [fY] at e;exact hD nt id G cf R _ _ _ _ _ e
  |false=>
   simp only [fY] at e;intro S m a w Q p q i;obtain ⟨rfl,k⟩:=aaE ok R nt G.toList G.toList 0 rfl _ _ _ _ _ e;have:=k S m a w Q p q i;rw [<-List.range_eq_range'] at this;exact wp_region (by simpa using this)
 |rangeFunc g ps x y=>intro s h d z A e;exact apq ok R e
 |_=>intro s h d z A e;simp only [fY] at e;cases e
end
end
section
variable [aJ] {S:Nat->Prop}
section
variable {P:Program} {E:Env}
def Vn (P:Program):List Nat->World->World->Prop
 | [],w,a=>a=w
 |d::l,w,a=> ∃b,(Instr.takeDeferred d).run P w= .ok [] b/\Vn P l b a
def QG (d:Nat):Deferred:= {target:= .collected d,args:= #[]}
omit [aJ] in
def apt {b:Frame} {a:Act} {k:List Item} {cs:List Frame} {w f:World} {d:Nat} {e:List Deferred} (h:(Instr.takeDeferred d).run P w= .ok [] f):
 step P (lone {b.at {tmps:=a.tmps,defers:=QG d::e} k with mode:= .returning} cs w)= .next (lone {b.at {tmps:=a.tmps,defers:=e} k with mode:= .returning} cs f):=
 step_lone_go (by simp [stepG,unwind,QG,Frame.at,Sem.runT_eq,h,GStep.bare_after])
omit [aJ] in
def agd {b:Frame} {k:List Item} {cs:List Frame} : ∀(l:List Nat) (a:Act) (w e:World),a.defers=l.map QG->Vn P l w e->
 Steps P (lone {b.at a k with mode:= .returning} cs w) (lone {b.at {tmps:=a.tmps,defers:= []} k with mode:= .returning} cs e)
 | [],⟨t,h⟩,w,e,f,g=>by
  simp only [lO] at f;subst f;rw [show e=w from g];exact Steps.refl _ _
 |d::l,⟨t,h⟩,w,e,f,⟨j,g,i⟩=>by
  simp only [cI] at f;subst f;exact .head (apt (a:=⟨t,[]⟩) g) (agd l ⟨t,l.map QG⟩ j e rfl i)
omit [aJ] in
def aaG {f:FuncId} {fn:Func} {c:Code} {args:Array Value} {w:World} {R:Ending->World->Prop}
 (o:P.funcs[f]? =some fn) (x:fn.body=some c)
 (h:c.wp P (fun e a B=>(e= .normal\/e= .ret)/\ ∃l i v,a.defers=l.map QG/\Vn P l B i/\(results fn a.tmps).run P i= .ok v i/\R (.returned v) i)
  {tmps:=args++Array.replicate (fn.ntmps-args.size) undef,defers:= []} w):
 Calls P f args w R:=by
 intro k
 let b:Frame:= {(default:Frame) with fn:=f,kind:= .normal}
 have j:Frame.enter P f args .normal=
  b.at {tmps:=args++Array.replicate (fn.ntmps-args.size) undef,defers:= []} [.code c]:=by
  simp [Frame.enter,Frame.at,o,x,b]
 obtain ⟨e,m,p,⟨y,l,i,v,q,s,t,u⟩,g⟩:=h b [] k;rw [<-j] at g;have A: ∃d,Steps P (lone (Frame.enter P f args .normal) k w) (lone {b.at m d with mode:= .returning} k p):=by
  rcases y with rfl|rfl
  ·exact ⟨[],Steps.trans g (.one step_end)⟩
  ·exact g
 obtain ⟨d,z⟩:=A;exact ⟨.returned v,i,_,u,Steps.trans z (agd l m p i q s),rfl,rfl,rfl,rfl,fn,o,t⟩
def Vo (tmps:Array Value):ResultVar->Sem Value
 | .tmp t=>pure (tmps.getD t undef)
 | .cell a t=>do loadVar t (<-asAddr (tmps.getD a undef))
omit [aJ] in
def apu (b:Func) (tmps:Array Value):results b tmps=(do
 let a<-b.results.mapM (Vo tmps)
 pure (if h:a.size=1 then a[0] else .tuple a)):=by
 unfold results;congr 1
def aaI (ok:eD P E) {m:Mp} {h:aP} {w:World} (p:bR E.gl S m h w) {tm:Tm} {tmps:Array Value}
 (j: ∀t,tmps.getD t undef=γ m (gW t tm)/\In (aF h) (gW t tm)): ∀(b:List ResultVar) (l:List aj),(xg E b).f tm h=some l->
 (List.mapM (Vo tmps) b).run P w= .ok (aV m l) w/\i9 (aF h) l
 | [],l,e=>by simp only [xg] at e;cases e;exact ⟨by simp [aV],trivial⟩
 | .tmp t::b,l,e=>by
  simp only [xg] at e;cases d:(xg E b).f tm h with
  |none=>rw [d] at e;cases e
  |some x=>
   rw [d] at e;cases e;obtain ⟨q,s⟩:=aaI ok p j b x d;refine ⟨?_,(j t).2,s⟩;rw [List.mapM_cons];simp only [Vo,aI,bp,aB,q,aV,(j t).1]
 | .cell a t::b,l,e=>by
  simp only [xg] at e;cases k:(P8 E t).f h (gW a tm) with
  |none=>rw [k] at e;cases e
  |some v=>
   rw [k] at e;simp only at e;cases d:(xg E b).f tm h with
   |none=>rw [d] at e;cases e
   |some x=>
    rw [d] at e;cases e;obtain ⟨q,s⟩:=aaI ok p j b x d;have C:=afo ok t (.tmp a);have z:Src E.gl m (aF h) tm (fun x=>match x with| .tmp t=>tmps.getD t undef| .const v=>v| .global g=> .pointer (some ⟨g,0,none⟩)| .func f=> .func (.func f) #[] #[]):=
     ⟨j,fun _=>rfl,fun _=>rfl,fun _=>rfl⟩
    obtain ⟨y,B⟩:=C S m h tm _ v w {(default:Oper) with op:= .load t (.tmp a)} rfl p z k;refine ⟨?_,B,s⟩;have i:(Instr.loadAt t (tmps.getD a undef)).run P w= .ok (γ m v) w:=by
     simp only [execOp,aI] at y;cases A:(Instr.loadAt t (tmps.getD a undef)).run P w with
     |ok u D=>simp_all
     |halt x D=>rw [A] at y;cases y
    rw [List.mapM_cons];simp only [Vo,aI,bp,aV];generalize tmps.getD a undef=u at i⊢;unfold Instr.loadAt at i;cases u with
    |pointer o=>
     cases o with
     |none=>simp [Instr.sureAddr] at i
     |some F=>
      simp only [Instr.sureAddr,aI,bp,aB] at i;simp only [asAddr,bp,aB,i];rw [q];rfl
    |_=>simp [Instr.sureAddr] at i
def apv (m:Mp) (l:List aj):(if h:(⟨aV m l⟩:Array Value).size=1 then (⟨aV m l⟩:Array Value)[0] else Value.tuple ⟨aV m l⟩)=γ m (Fz l):=by
 match l with
 | []=>rfl
 | [v]=>rfl
 |a::b::l=>simp [aV,Fz,γ]
omit [aJ] in
def apw {D:Pos->Prop} {l:List aj} (h:i9 D l):In D (Fz l):=by
 match l,h with
 | [],h=>exact h
 | [v],h=>exact h.1
 |a::b::l,h=>exact h
def age (ok:eD P E) {m:Mp} {h:aP} {w:World} (g:bR E.gl S m h w) {tm:Tm} {tmps:Array Value}
 (i: ∀t,tmps.getD t undef=γ m (gW t tm)/\In (aF h) (gW t tm)) {a:Func} {l:List aj} (e:(xg E a.results.toList).f tm h=some l):
 (results a tmps).run P w= .ok (γ m (Fz l)) w/\In (aF h) (Fz l):=by
 obtain ⟨b,d⟩:=aaI ok g i _ _ e;refine ⟨?_,apw d⟩;rw [<-apv];rw [apu,show a.results=a.results.toList.toArray by simp,List.mapM_toArray];rw [map_eq_pure_bind];simp only [aI,b,aB,bp]
def agf {m:Mp} : ∀(l:List Pos) (h a:aP) (w:World),bR E.gl S m h w->Hk l h=some a-> ∃w',Vn P (l.map m.b) w w'/\bR E.gl S m a w'/\Goes m h w m a w'
 | [],h,a,w,r,e=>by cases e;exact ⟨w,rfl,r,Goes.refl m h w⟩
 |d::l,h,a,w,r,e=>by
  simp only [Hk] at e;cases f:(h.at d).obj<;>rw [f] at e<;>try (cases e;done)
  simp only at e;have u:aF h d:=by unfold aF;rw [f];simp
  obtain ⟨o,b1,g⟩:=r.blk d (MS f rfl);rw [f] at g;cases (show o=_ from g);obtain ⟨i,k,_⟩:=r.Qm (n:=d) (by rw [f];rfl) .other (.deferred none) (w':= {w with heap:=w.heap.setIfInBounds (m.b d) (.deferred none)}) rfl trivial trivial rfl rfl rfl rfl;obtain ⟨w',t,s,p⟩:=agf l _ a _ i e;refine ⟨w',⟨_,?_,t⟩,s,Goes.trans r i k p⟩;have q:(getObj (m.b d)).run P w= .ok (.deferred (some [])) w:=by simp [getObj,Sem.run,b1]
  have j:=aay (P:=P) b1 (fun _ _ _ e=>by cases e) (.deferred none);simp only [Instr.takeDeferred,aI,q,aB,j,bp]
omit [aJ] in
def Vp: ∀(l:List aj) (k:Nat) (a:Tm) (t:Nat),gW t (FA l k a)=if k<=t then (l[t-k]?).getD (gW t a) else gW t a
 | [],k,a,t=>by simp [FA]
 |v::l,k,a,t=>by
  simp only [FA];rw [Vp l (k+1),Ku]
  all_goals grind
omit [aJ] in
def Vq (t:Nat):gW t zA=oG:=by
 by_cases h:t<256
 ·rw [QA h]
  have a: ∀i (q:Q0),q=PX->(PT i).f q=oG:=fun i q e=>by subst e;unfold PT;cases Nat.beq i 0<;>cases Nat.beq i 1<;>cases Nat.beq i 2<;>rfl
  have b: ∀k i (q:Q1),q=PY->(PU k i).f q=oG:=fun k i q e=>by subst e;unfold PU;cases Nat.beq k 0<;>cases Nat.beq k 1<;>cases Nat.beq k 2<;>exact a _ _ rfl
  have d: ∀k i (q:Q2),q=PZ->(PV k i).f q=oG:=fun k i q e=>by subst e;unfold PV;cases Nat.beq k 0<;>cases Nat.beq k 1<;>cases Nat.beq k 2<;>exact b _ _ _ rfl
  unfold PW;cases Nat.beq (t/64) 0<;>cases Nat.beq (t/64) 1<;>cases Nat.beq (t/64) 2<;>exact d _ _ _ rfl
 ·rw [QB h];exact fX.DY _
def apx (m:Mp) (args:List aj) (n t:Nat):((⟨aV m args⟩:Array Value)++Array.replicate n undef).getD t undef=γ m (gW t (FA args 0 zA)):=by
 rw [Vp,Vq];simp only [b6,if_true,oQ,cR,gS];by_cases h:t<args.length
 ·simp [oZ,h]
 ·simp [oZ,h,oG,γ,aV,undef,iJ]
  split<;>rfl
omit [aJ] in
def apy {b:Bool} {x:VR} {v:aj} {h:aP} (e:cond b x .fail= .ok v h):b=true/\x= .ok v h:=by
 grind
def Vr (ok:eD P E) (N:H4 P E) {cf:(FuncId->List aj->aP->VR)} (Y:sZ P E cf):sZ P E (fun f args h=>(J' E f).f cf args h):=by
 intro f args h v M e;simp only [J'] at e;cases s:E.fns.get none (pos f) with
 |none=>rw [s] at e;cases e
 |some g=>
  rw [s] at e;simp only at e;cases q:g.body with
  |none=>rw [q] at e;cases e
  |some c=>
   rw [q] at e;simp only at e;replace e:=apy e;obtain ⟨u,e⟩:=e;cases y:(fY E g.ntmps c).f cf (FA args 0 zA) ⟨h.t,h.nx,h.al,[]⟩ with
   |fail=>rw [y] at e;cases e
   |ok o p i=>
    rw [y] at e;simp only at e;have vS:(o= .normal\/o= .ret)/\ ∃a l,Hk i.df i=some a/\(xg E g.results.toList).f p a=some l/\v=Fz l/\M=⟨a.t,a.nx,a.al,h.df⟩:=by
     cases o with
     |exit id=>cases e
     |normal=>
      refine ⟨.inl rfl,?_⟩;cases j:Hk i.df i with
      |none=>rw [j] at e;cases e
      |some a=>
       rw [j] at e;simp only at e;cases k:(xg E g.results.toList).f p a with
       |none=>rw [k] at e;cases e
       |some l=>simp_all
     |ret=>
      refine ⟨.inr rfl,?_⟩;cases j:Hk i.df i with
      |none=>rw [j] at e;cases e
      |some a=>
       rw [j] at e;simp only at e;cases k:(xg E g.results.toList).f p a with
       |none=>rw [k] at e;cases e
       |some l=>simp_all
    obtain ⟨R,a,l,j,k,rfl,rfl⟩:=vS;refine ⟨rfl,fun S m w U I Q=> ?_⟩;have C:args.length<=g.ntmps:=bq u;refine aaG (ok.fn f g s) q ?_;have D:=U.M1 [];have x:TR m ⟨h.t,h.nx,h.al,[]⟩ g.ntmps (FA args 0 zA) {tmps:=⟨aV m args⟩++Array.replicate (g.ntmps-(⟨aV m args⟩:Array Value).size) undef,defers:= []} :=by
     refine ⟨?_,fun t=>apx m args _ t,fun t=> ?_,rfl,fun d O=>(by cases O)⟩
     ·grind
     ·rw [Vp,Vq]
      simp only [b6,if_true,oQ];cases T:args[t]? with
      |none=>exact trivial
      |some v=>exact UX I T
    refine Vm ok N Y g.ntmps c _ _ _ _ _ y S m _ w _ D x fun z H w1 F A J=> ?_
    obtain ⟨w2,X,G,B⟩:=agf (P:=P) i.df i a w1 F j;have W: ∀t,H.tmps.getD t undef=γ z (gW t p)/\In (aF a) (gW t p):=fun t=>⟨A.val t,rD B.old _ (A.ins t)⟩
    obtain ⟨Z,q2⟩:=age ok G W k;refine ⟨by rcases R with rfl|rfl;exact .inl rfl;exact .inr rfl,i.df.map z.b,w2,_,?_,X,Z,z,rfl,G.M1 _,((Goes.trans D F J B).apk).M1 _,q2⟩;rw [A.defs,lM];rfl
def agh (ok:eD P E) (a:H4 P E): ∀n,sZ P E (zI E n)
 |0=>fun f args h v b e=>by cases e
 |n+1=>Vr ok a (agh ok a n)
def Vs (P:Program) (G:gb) (F:List Fact) (hF: ∀f∈F,my f) (hL:MW G):eD P (Env.sy P G F) where
 facts:=hF
 len:=hL
 ty:=fun t i h=>by
  simp only [Env.ty,Env.sy] at h;rw [fX.aeW,aD,dA] at h;have hl:P.types.toList[t]? =some i:=by
   grind
  have bB:t<P.types.size:=by
   grind
  show (if t<P.types.size then P.types[t]? else _)=_
  all_goals grind
 fn:=fun f fn h=>by
  simp only [Env.sy] at h;rw [fX.aeW,aD,dA] at h
  all_goals grind
 gt:=fun t h=>by
  simp only [Env.sy,au,iZ] at h;exact h
end
end
end Go.Ev
