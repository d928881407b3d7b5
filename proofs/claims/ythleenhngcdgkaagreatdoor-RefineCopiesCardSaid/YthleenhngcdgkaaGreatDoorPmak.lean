/- refineCopies_proved. -/
import Derived.Test.YthleenhngcdgkaaGreatDoorPmaj
import Derived.KernelRfl
import Derived.RangeFuncIn
import Derived.LoopN
import Derived.Scope
set_option maxRecDepth 100000
set_option maxHeartbeats 16000000
set_option linter.all false
noncomputable section
namespace Go.Ev
section
variable [aJ] {S:Nat->Prop}
section
variable {P:Program} {E:Env}
omit [aJ] in
def apW:Extern.allNextRows.lookup "internal/bytealg.IndexByteString" =none:=by kernel_rfl
omit [aJ] in
def agI:Extern.allNextRows.lookup "" =none:=by kernel_rfl
omit [aJ] in
def apX {a:Func} (f:a.name= "internal/bytealg.IndexByteString"):Extern.find a=some Extern.BytealgIndexByte.indexByte:=by
 unfold Extern.find;rw [f];have b:Extern.allGenericRows.lookup "internal/bytealg.IndexByteString" =none:=by kernel_rfl
 have d:Extern.allTypedRows.lookup "internal/bytealg.IndexByteString" =none:=by kernel_rfl
 have e:Extern.allRows.lookup "internal/bytealg.IndexByteString" =some Extern.BytealgIndexByte.indexByte:=by kernel_rfl
 simp only [b,d,e];rfl
omit [aJ] in
def ne_next:Extern.allNextRows.lookup "internal/abi.NoEscape" =none:=by kernel_rfl
omit [aJ] in
def apY {a:Func} (f:a.name= "internal/abi.NoEscape"):Extern.find a=some Extern.AbiNoEscape.same:=by
 unfold Extern.find;rw [f];have b:Extern.allGenericRows.lookup "internal/abi.NoEscape" =none:=by kernel_rfl
 have d:Extern.allTypedRows.lookup "internal/abi.NoEscape" =none:=by kernel_rfl
 have e:Extern.allRows.lookup "internal/abi.NoEscape" =some Extern.AbiNoEscape.same:=by kernel_rfl
 simp only [b,d,e];rfl
def Wc (ok:eN P E) {m:Mp} {h:aP} {w:World} (x:bV E.gl S m h w) {f:FuncId} {args:List ai} (t:jn (aH h) args):
 Lg P E S m h w (callFunc f ⟨aW m args⟩) ((Gd E f).f h args):=by
 unfold Gd;cases y:E.fns.get none (pos f) with
 |none=>exact trivial
 |some a=>
  have k:=ok.fn f a y;simp only;cases l:a.body with
  |some c=>
   simp only;cases u:(a.name== "runtime.NumGoroutine") with
   |true=>exact trivial
   |false=>
    refine ⟨?_,t⟩;have o: ¬a.name= "runtime.NumGoroutine" :=fun e=>by rw [e] at u;simp at u
    simp [callFunc,k,l,o]
  |none=>
   simp only;cases j:aat a.name a.origin args with
   |none=>exact trivial
   |some v=>
    simp only;unfold aat at j;cases b:(a.name== "internal/bytealg.IndexByteString" &&a.origin== "") with
    |false=>
     rw [b,cond_false] at j;obtain ⟨b,i⟩:=IP j;rw [aq] at b;have d:=eq_of_beq b.1;have g:=eq_of_beq b.2;split at i
     ·rename_i n z
      cases i;refine ⟨m,w,_,?_,.inl rfl,x,Goes.refl m h w,t.1,rfl⟩;have q:(a.name== "runtime.NumGoroutine")=false:=by rw [d];kernel_rfl
      have p:Extern.findNext a=none:=by unfold Extern.findNext;rw [d,g];simp only [ne_next,agI];rfl
      simp only [callFunc,aI,run_program,az,k,q,l,Option.isNone_none,if_true,cI,if_false,run_mark,p,apY d];rfl
     ·cases i
    |true=>
    rw [b,cond_true] at j;have i:=j;rw [aq] at b;have d:=eq_of_beq b.1;have g:=eq_of_beq b.2;split at i
    ·rename_i s c
     have:=ya i;subst this;refine ⟨m,w,_,?_,.inl rfl,x,Goes.refl m h w,trivial,rfl⟩;have q:(a.name== "runtime.NumGoroutine")=false:=by rw [d];kernel_rfl
     have p:Extern.findNext a=none:=by unfold Extern.findNext;rw [d,g];simp only [apW,agI];rfl
     have A:=Lib.run_indexByteString (P:=P) ⟨⟨s⟩⟩ (Int.ofNat c) w;simp only [callFunc,aI,run_program,az,k,q,l,Option.isNone_none,if_true,cI,if_false,run_mark,p,apX d];rw [show (⟨aW m [.str s,.int .u8 (.ofNat c)]⟩:Array Value)= #[.string ⟨⟨s⟩⟩,.int .u8 (Int.ofNat c)] from rfl,A];rfl
    ·cases i
def apZ (ok:eN P E) {t:TypeId} {name:String} {f:FuncId} (h:VE E t name=some f) (v:Value) (n:Nat) (w:World):(method (n+1) t v name).run P w= .ok (f,v) w:=by
 unfold VE at h;cases l:E.ty t with
 |none=>rw [l] at h;cases h
 |some i=>
  cases p:E.cU t with
  |none=>simp_all
  |some d=>
   rw [l,p] at h;simp only at h;have u:=aoX (ok.ty t i l) w;have s:=ok.nO p w;cases o:i.methods.toList.find? (fun m=>m.name==name) with
   |none=>rw [o] at h;cases h
   |some q=>
    rw [o] at h;simp only at h;have B:i.methods.find? (fun m=>m.name==name)=some q:=by simp_all
    obtain ⟨nm,A,a,j⟩:=q;obtain ⟨a⟩:=a;simp only at h;cases a with
    |cons _ _=>simp_all
    |nil=>
     cases j with
     |none=>cases d<;>cases h
     |some fp=>
      obtain ⟨g,b⟩:=fp;have k:(∀e,d= .pointer e->b=true)/\((∀e,d≠ .pointer e)->b=false)/\f=g:=by
       grind
      obtain ⟨x,y,rfl⟩:=k;simp only [method,aI,u,az,B,follow,bh];cases d<;>first
       |(rename_i e;have:=x e rfl;subst this;simp [receiverAt,s,Place.get])
       |(have:=y (fun e z=>by cases z);subst this;simp [receiverAt,s,Place.get])
def aa9 {m:Mp} {h:aP} {w:World} {s s':Sem Next} {r:OR} (e:s.run P w=s'.run P w) (b:Lg P E S m h w s r):Lg P E S m h w s' r:=by
 cases r with
 |ok v j=>obtain ⟨f,i,q,d,a⟩:=b;exact ⟨f,i,q,by rw [<-e];exact d,a⟩
 |call g args=>exact ⟨by rw [<-e];exact b.1,b.2⟩
 |fail=>exact trivial
def aba (ok:eN P E) (c:Call):iA P E (.call c) (lO E (.call c)):=by
 show iA P E (.call c) (Q8 E c);unfold Q8;have H: ∀(ρ:Operand->Value),c.args.map ρ=⟨c.args.toList.map ρ⟩:=fun ρ=>by apply eJ;simp
 have q: ∀x,c.callee= .value x->iA P E (.call c) (.wr fun d h=>match (bR E x).g d with
  | .func (.func f) first a=>(Gd E f).f h (CU first (CU (sK (tg E c.args.toList) d) a))
  |_=> .fail):=fun x hc S m h d ρ w o C D p=>by
  obtain ⟨B,s⟩:=jf (E:=E) p x;obtain ⟨z,A⟩:=IK (E:=E) p c.args.toList;simp only;generalize (bR E x).g d=u at B s;cases u<;>try (exact trivial)
  rename_i N first a
  cases N<;>try (exact trivial)
  rename_i f;simp only [Re];have J:jn (aH h) (first++(sK (tg E c.args.toList) d++a)):=(mW _).2 fun v j=>by
   rcases b8.1 j with j|j
   ·exact (mW _).1 s.1 v j
   ·rcases b8.1 j with j|j
    ·exact (mW _).1 A v j
    ·exact (mW _).1 s.2 v j
  refine aa9 ?_ (Wc ok D J);simp only [execOp,C,resolve,hc,B,γ,Deferred.ofValue,aI,bh,az,invoke,H,z,Gj];congr 2;apply eJ;simp
 cases hc:c.callee with
 |builtin b=>
  simp only;unfold VF;have R: ∀ {t I},c.argTypes.toList=t::I->c.argTypes.toList=t::I:=id;split
  ·rename_i x i
   split
   ·rename_i t I G
    split
    ·rename_i F;exact apm ok hc i G F
    ·rename_i e F;exact apn ok hc i G F
    ·rename_i k e F;exact aps ok hc i G F
    ·exact ny _
   ·exact ny _
  ·rename_i x l i;exact apo hc i
  ·rename_i x l i;exact apq hc i
  ·rename_i x y i;exact apU ok hc i
  ·exact ny _
 |value x=>
  cases x with
  |func f=>
   intro S m h d ρ w o C D p;obtain ⟨z,A⟩:=IK (E:=E) p c.args.toList;refine aa9 ?_ (Wc ok D A);simp only [execOp,C,resolve,hc,p.func,Deferred.ofValue,aI,bh,az,invoke,H,z];congr 2;apply eJ;simp
  |tmp t=>exact q _ hc
  |const v=>exact q _ hc
  |global g=>exact q _ hc
 |invoke r name=>
  intro S m h d ρ w o C D p;obtain ⟨B,s⟩:=jf (E:=E) p r;obtain ⟨z,A⟩:=IK (E:=E) p c.args.toList;simp only;generalize (bR E r).g d=u at B s;cases u<;>try (exact trivial)
  rename_i t v;simp only;cases O:VE E t name with
  |none=>exact trivial
  |some f=>
   simp only;refine aa9 ?_ (Wc ok D (args:=v::sK (tg E c.args.toList) d) ⟨s,A⟩);have Q:=apZ ok O (γ m v) (P.types.size+99) w;simp only [execOp,C,resolve,hc,B,γ,aI,bh,az,invoke,H,z];have M:(#[Value.iface t (γ m v)]++(⟨aW m (sK (tg E c.args.toList) d)⟩:Array Value))[0]? =some (Value.iface t (γ m v)):=by simp
   simp only [M,callMethod,aI,run_program,az];rw [show P.types.size+Made.depth=P.types.size+99+1 from rfl,Q];simp only [az,aW];congr 2;apply eJ;simp
end
end
section
variable [aJ] {S:Nat->Prop}
section
variable {P:Program} {E:Env}
omit [aJ] in
def abb {w:World} {r:Nat} {o:Obj} (h:w.heap[r]? =some o) (hc: ∀c e f,o≠ .cells c e f):(getObj r).run P w= .ok o w:=by
 cases o<;>first|grind|simp [getObj,Sem.run,h]
omit [aJ] in
def abc {w:World} {r:Nat} {o:Obj} (h:w.heap[r]? =some o) (hc: ∀c e f,o≠ .cells c e f) (a:Obj):(setObj r a).run P w= .ok () {w with heap:=w.heap.setIfInBounds r a} :=by
 cases o<;>first|grind|simp [setObj,Sem.run,h]
def agJ {m:Mp} {h:aP} {w:World} (d:bV E.gl S m h w) {t:TypeId} {x:Value} {ob:jR} {o:Obj} {ρ:Operand->Value} {or:Oper} {y:Operand} (l:or.op= .range t y) (p:ρ y=x)
 (q:(Instr.range t x).run P w= .ok (.pointer (some ⟨w.heap.size,0,none⟩)) {w with heap:=w.heap.push o}) (a:ob.pY=true)
 (g: ∀f,(∀n,aH h n->f.b n=m.b n)->vD f h.nx ob o) (hi:Az (aH h) ob):
 Lg P E S m h w (execOp ρ or) (.ok (.ptr h.nx 0) (h.new ob)):=by
 have s: ∀k,aH h k->k≠h.nx:=fun k i e=>by have:=d.fresh k i;rw [e] at this;exact bQ _ this
 obtain ⟨u,z,A⟩:=d.Lc (ob:=ob) (o:=o) (w':= {w with heap:=w.heap.push o}) (cap:=0) ⟨rfl,rfl,rfl,rfl⟩ a (g _ (fun n j=>(Mp.BI m _ _ (s n j)).1)) hi;refine ⟨_,_,.value (.pointer (some ⟨w.heap.size,0,none⟩)),?_,.inl ?_,u,z,A,rfl⟩
 ·simp only [execOp,l,aI,p,q,az,bh]
 ·simp [γ,Mp.set]
def ap0 (ok:eN P E) (t:TypeId) (x:Operand):iA P E (.range t x) (lO E (.range t x)):=by
 show iA P E (.range t x) (match E.cU t with
  |some (.map _ _)=> .wr fun i h=>match (bR E x).g i with
   | .vu=> .ok (.ptr h.nx 0) (h.new (.xV none 0 [] 0))
   | .map n=>match (h.at n).obj with
    | .map _ a=> .ok (.ptr h.nx 0) (h.new (.xV (some n) a [] a))
    |_=> .fail
   |_=> .fail
  |_=> .bad)
 cases z:E.cU t with
 |none=>exact ny _
 |some d=>
  cases d<;>try (exact ny _)
  ·intro S m h i ρ w o k f y
   obtain ⟨e,q⟩:=jf (E:=E) y x;have l:=ok.nO z w;simp only;generalize (bR E x).g i=u at e q;cases u<;>try (exact trivial)
   ·exact agJ f k e (o:= .mapIter none 0 #[] 0) (by simp [Instr.range,l,γ]) (by simp) (fun _ _=>rfl) trivial
   ·rename_i n
    simp only;cases p:(h.at n).obj<;>try (exact trivial)
    rename_i C a;obtain ⟨j,B,_⟩:=f.N7 p;exact agJ f k e (o:= .mapIter (some (m.b n)) a #[] a) (by simp [Instr.range,l,γ,run_getObj_map B]) (by simp) (fun A s=>by show Obj.mapIter (some (m.b n)) a #[] a= .mapIter (some (A.b n)) a ⟨[]⟩ a;rw [s n j]) j
omit [aJ] in
def agK (b:Nat): ∀l:List Nat,NU b l=(⟨l⟩:Array Nat).contains b
 | []=>by
  show false=_;simp
 |x::l=>by
  have a:=agK b l;show cond (Nat.beq b x) true (NU b l)=_;rw [a];cases h:Nat.beq b x with
  |true=>
   simp_all
  |false=>
   have:b≠x:=fun e=>by simp_all
   simp [this]
def agL (m:Mp) (a:List Nat): ∀b:List ml,(b.map (jJ m)).filter (fun e=> !(⟨a⟩:Array Nat).contains e.born)=(yQ a b).map (jJ m)
 | []=>rfl
 |e::b=>by
  have f:=agL m a b;have d:yQ a (e::b)=cond (NU e.born a) (yQ a b) (e::yQ a b):=rfl;rw [d,cJ,List.filter_cons,f,agK];show (if (!(⟨a⟩:Array Nat).contains e.born)=true then _ else _)=_
  all_goals grind
omit [aJ] in
def abd (a:List Nat): ∀(b:List ml) (e:ml),e∈yQ a b->e∈b
 | [],_,h=>by cases h
 |x::b,e,h=>by
  have f:yQ a (x::b)=cond (NU x.born a) (yQ a b) (x::yQ a b):=rfl;rw [f] at h;cases d:NU x.born a with
  |true=>rw [d] at h;exact aw _ (abd a b e h)
  |false=>
   rw [d] at h;rcases bq.1 h with rfl|h
   ·simp_all
   ·exact aw _ (abd a b e h)
omit [aJ] in
def ap1 {b a:Nat} {d:List Nat} {g:List ml} (h:VG b d a g=true):
 (∀e∈yQ d g,e.born<b)/\(d= []\/g= []\/ ∃e∈g,e.born<a):=by
 unfold VG at h;have j: ∀l:List ml,List.rec (motive:=fun _=>Bool) true (fun e _ f=>cond (Nat.blt e.born b) f false) l=true-> ∀e∈l,e.born<b:=by
  intro l
  induction l with
  |nil=>intro _ e i;cases i
  |cons x l f=>
   simp_all
 have k: ∀l:List ml,List.rec (motive:=fun _=>Bool) false (fun e _ f=>cond (Nat.blt e.born a) true f) l=true-> ∃e∈l,e.born<a:=by
  intro l
  induction l with
  |nil=>intro h;cases h
  |cons x l f=>
   intro h;have m:cond (Nat.blt x.born a) true (List.rec (motive:=fun _=>Bool) false (fun e _ f=>cond (Nat.blt e.born a) true f) l)=true:=h;cases o:Nat.blt x.born a with
   |true=>simp_all
   |false=>
    simp_all
 cases hc:List.rec (motive:=fun _=>Bool) true (fun e _ f=>cond (Nat.blt e.born b) f false) (yQ d g) with
 |false=>rw [hc] at h;cases h
 |true=>
  rw [hc] at h;refine ⟨j _ hc,?_⟩;cases d with
  |nil=>exact .inl rfl
  |cons _ _=>
   cases g with
   |nil=>exact .inr (.inl rfl)
   |cons x l=>exact .inr (.inr (k _ h))
def ap2 (A:Operand):iA P E (.next A false) (lO E (.next A false)):=by
 intro S m h tm ρ w o I q hs;obtain ⟨y,h2⟩:=jf (E:=E) hs A;simp only;generalize (bR E A).g tm=u at y h2;cases u<;>try (exact trivial)
 rename_i n N;cases N with
 |succ _=>exact trivial
 |zero=>
  simp only;cases t:(h.at n).obj<;>try (exact trivial)
  rename_i mo d a f;have hd:aH h n:=by unfold aH;rw [t];simp
  obtain ⟨R,b1,D⟩:=q.blk n (NZ t rfl);rw [t] at D;cases mo with
  |none=>
   simp only;have B:R= .mapIter none 0 #[] 0:=D;subst B;have z:=abb (P:=P) b1 (fun _ _ _ e=>by cases e);refine ⟨m,w,.value (.tuple #[.bool false]),?_,.inl rfl,q,Goes.refl m h w,⟨trivial,trivial⟩,rfl⟩;simp only [execOp,I,y,γ,Instr.next,aI,z,az,bh]
  |some k=>
   simp only;cases kU:(h.at k).obj<;>try (exact trivial)
   rename_i i p;simp only;cases G:VG d a f i with
   |false=>exact trivial
   |true=>
   simp only [cond_true];obtain ⟨Q,i2⟩:=ap1 G;have B:R= .mapIter (some (m.b k)) d ⟨a⟩ f:=D;subst B;have z:=abb (P:=P) b1 (fun _ _ _ e=>by cases e);obtain ⟨U,m1,C⟩:=q.N7 kU;have O:(getObj (m.b k)).run P w= .ok (.map ⟨i.map (jJ m)⟩ p) w:=run_getObj_map (P:=P) m1;have j:(!(⟨a⟩:Array Nat).isEmpty&& !(⟨i.map (jJ m)⟩:Array MapEntry).isEmpty&&(⟨i.map (jJ m)⟩:Array MapEntry).all (fun e=>decide (e.born>=f)))=false:=by
    rcases i2 with rfl|rfl|⟨e,he,F⟩
    ·rfl
    ·simp
    ·rw [mE]
     right;rw [Array.all_eq_false'];exact ⟨jJ m e,by grind,by simpa [jJ] using F⟩
   have s:(⟨i.map (jJ m)⟩:Array MapEntry).filter (fun e=> !(⟨a⟩:Array Nat).contains e.born)=⟨(yQ a i).map (jJ m)⟩:=by
    apply eJ;rw [Array.toList_filter];exact agL m a i
   cases H:yQ a i with
   |nil=>
    rw [H] at s;simp only;refine ⟨m,w,.value (.tuple #[.bool false]),?_,.inl rfl,q,Goes.refl m h w,⟨trivial,trivial⟩,rfl⟩;simp only [execOp,I,y,γ,Instr.next,aI,z,az,O,j,s];simp [Question.forced]
   |cons e l=>
    cases l with
    |cons _ _=>exact trivial
    |nil=>
     rw [H] at s Q;simp only;have F:=Q e (aC ..);have X:e∈i:=abd a i e (by rw [H];exact aC ..);have W:(h.at n).obj.N4=true:=by rw [t];rfl
     obtain ⟨q1,q2,T⟩:=q.Rl (n:=n) W (.xV (some k) d (a++ [e.born]) p) (.mapIter (some (m.b k)) d ⟨a++ [e.born]⟩ p) (w':= {w with heap:=w.heap.setIfInBounds (m.b n) (.mapIter (some (m.b k)) d ⟨a++ [e.born]⟩ p)}) (by simp) rfl U rfl rfl rfl rfl;obtain ⟨k1,k2⟩:=C e X;refine ⟨m,_,.value (.tuple #[.bool true,γ m e.key,γ m e.val]),?_,.inl rfl,q1,q2,⟨trivial,rN (fun x M=>(T x).2 M) _ k1,rN (fun x M=>(T x).2 M) _ k2,trivial⟩,rfl⟩;have J:=abc (P:=P) b1 (fun _ _ _ e=>by cases e) (.mapIter (some (m.b k)) d ⟨a++ [e.born]⟩ p);have Y:e.born<d:=F;have Z: ¬d<=e.born:=by omega
     simp only [execOp,I,y,γ,Instr.next,aI,z,az,O,j,s];simp [Question.forced,jJ,Y,Z,J]
omit [aJ] in
def agN: ∀l:List Nat,VH l=(⟨l⟩:Array Nat).back?
 | []=>rfl
 | [x]=>rfl
 |x::y::l=>by
  have a:=agN (y::l);show VH (y::l)=_
  all_goals grind
def agO (m:Mp) (b:Nat): ∀a:List ml,(a.map (jJ m)).find? (fun e=>e.born==b)=(Ix b a).map (jJ m)
 | []=>rfl
 |e::a=>by
  have g:=agO m b a;have f:Ix b (e::a)=cond (Nat.beq e.born b) (some e) (Ix b a):=rfl;rw [f,cJ,List.find?_cons,g];show (match (e.born==b) with|true=>_|false=>_)=_;cases h:Nat.beq e.born b with
  |true=>
   simp_all
  |false=>
   have:(e.born==b)=false:=by
    rw [beq_eq_false_iff_ne];intro d;rw [d,jA] at h;cases h
   rw [this];rfl
omit [aJ] in
def agP {b:Nat} : ∀ {a:List ml} {e:ml},Ix b a=some e->e∈a
 | [],_,h=>by cases h
 |x::a,e,h=>by
  have d:Ix b (x::a)=cond (Nat.beq x.born b) (some x) (Ix b a):=rfl;rw [d] at h;cases f:Nat.beq x.born b with
  |true=>simp_all
  |false=>rw [f] at h;exact aw _ (agP h)
def ap3 (j:Operand):iA P E (.entry j) (lO E (.entry j)):=by
 intro S m h I ρ v w o Q F R T;obtain ⟨D,N⟩:=jf (E:=E) R j;have a:aau h ((bR E j).g I)=some v:=T;generalize (bR E j).g I=u at D N a;unfold aau at a;cases u<;>try (cases a;done)
 rename_i n A;cases A with
 |succ _=>cases a
 |zero=>
  simp only at a;cases y:(h.at n).obj<;>rw [y] at a<;>try (cases a;done)
  rename_i Y i d H;cases Y with
  |none=>cases a
  |some k=>
   simp only at a;cases G:(h.at k).obj<;>rw [G] at a<;>try (cases a;done)
   rename_i l C;simp only at a;obtain ⟨c1,f⟩:=IP a;obtain rfl:=bE c1;cases z:VH d with
   |none=>rw [z] at f;cases f
   |some b=>
    rw [z] at f;simp only at f;cases p:Ix b l with
    |none=>rw [p] at f;cases f
    |some e=>
     rw [p] at f;cases f;obtain ⟨Z,b1,B⟩:=F.blk n (NZ y rfl);rw [y] at B;have J:Z= .mapIter (some (m.b k)) i ⟨d⟩ C:=B;subst J;have O:=abb (P:=P) b1 (fun _ _ _ e=>by cases e);obtain ⟨Gp,X,q⟩:=F.N7 G;have M:(getObj (m.b k)).run P w= .ok (.map ⟨l.map (jJ m)⟩ C) w:=run_getObj_map (P:=P) X;obtain ⟨U,W⟩:=q e (agP p);refine ⟨?_,U,W,trivial⟩;have t:(⟨d⟩:Array Nat).back? =some b:=by rw [<-agN,z]
     have x:(⟨l.map (jJ m)⟩:Array MapEntry).find? (fun e=>e.born==b)=some (jJ m e):=by
      rw [<-Array.find?_toList];show (l.map (jJ m)).find? _=_;rw [agO,p];rfl
     refine Gr (s:=Instr.entry (ρ j)) (by simp only [execOp,Q]) ?_;simp only [D,γ,Instr.entry,aI,O,az,t,M,x];simp [jJ,aW]
def agQ (ok:eN P E) (o:Op):iA P E o (lO E o):=by
 cases o with
 |move x=>exact ao4 x
 |assign x=>exact ao5 x
 |pick c a b=>exact ao6 c a b
 |build t p=>exact ape ok t p
 |nilCheck x=>exact ao7 x
 |unOp h t x=>exact ao8 h t x
 |binOp h t x y A=>exact apc ok h t A x y
 |convert s d x=>exact apx ok s d x
 |makeInterface t x=>exact ao9 ok t x
 |makeFunc j a b=>cases j with
  |func f=>exact apb f a b
  |_=>exact ny _
 |fieldAddr t x f=>exact apg ok t x f
 |field t x f=>exact aph ok t x f
 |indexAddr t x i=>exact api ok t x i
 |index t x i=>exact apj ok t x i
 |typeAssert x z t c=>exact apk ok x z t c
 |extract t i=>exact apa t i
 |load t x=>exact agf ok t x
 |lookup t x i c=>exact apr ok t x i c
 |slice t x q m u=>exact apt ok t x q m u
 |alloc e=>exact apz ok e
 |box e x=>exact apA e x
 |buildSlice t l p=>exact apE ok t l p
 |makeMap t r=>cases r with
  |none=>exact apC t
  |some _=>exact ny _
 |makeSlice t l c=>exact apD ok t l c
 |store t a x=>exact apF ok t a x
 |mapUpdate t a k v=>exact apI ok t a k v
 |insert t a k v=>exact apJ ok t a k v
 |call c=>exact aba ok c
 |range t x=>exact ap0 ok t x
 |next g b=>cases b with
  |false=>exact ap2 g
  |true=>exact ny _
 |entry g=>exact ap3 g
 |_=>exact ny _
omit [aJ] in
def Ak.pX {a b:Ak} (h:a.gU b=true):a=b:=by
 cases a<;>cases b<;>simp only [Ak.gU] at h<;>first|rfl|cases h|skip
 ·rename_i x y
  have:x=y:=by revert h;cases x<;>cases y<;>first|(intro _;rfl)|(intro h;revert h;decide)
  rw [this]
 ·rw [(BC _ _).1 h]
 ·rw [K7] at h;rw [eq_of_beq h]
omit [aJ] in
def agR {c:Ak} {a b v:ai} : ∀ {l:List Fact},NV c a b l=some v-> ∃F∈l,F.op=c/\F.a=a/\F.b=b/\v=F.r
 | [],h=>by cases h
 |F::l,h=>by
  have e:cond (F.op.gU c) (cond (F.a.gU a) (cond (F.b.gU b) (some F.r) (NV c a b l)) (NV c a b l)) (NV c a b l)=some v:=h;have again:NV c a b l=some v-> ∃d∈F::l,d.op=c/\d.a=a/\d.b=b/\v=d.r:=fun h=>by
   obtain ⟨d,i,j⟩:=agR h;exact ⟨d,aw _ i,j⟩
  cases hc:F.op.gU c with
  |false=>simp_all
  |true=>
   rw [hc] at e;cases f:F.a.gU a with
   |false=>simp_all
   |true=>
    rw [f] at e;cases g:F.b.gU b with
    |false=>simp_all
    |true=>rw [g] at e;cases e;exact ⟨F,aC ..,Ak.pX hc,ai.pX _ _ f,ai.pX _ _ g,rfl⟩
def ap5 {m:Mp} {d:BinOp} {t:TypeId} {x y:Operand} {k j:IntKind} {a b:Int} {v:ai} (h:sO (.bin d) k j a b=some v) (w:World):
 (eqGuard d t x y (.int k a) (.int j b)).run P w= .ok () w/\(binOp d t (.int k a) (.int j b)).run P w= .ok (γ m v) w:=by
 refine ⟨by rw [eqGuard_at_int];rfl,?_⟩;have e:cond (nM k j) ((vy d).f k a b) none=some v->(binOp d t (.int k a) (.int j b)).run P w= .ok (γ m v) w:=fun q=>by
  cases g:nM k j with
  |false=>rw [g] at q;cases q
  |true=>rw [g] at q;have:=(BC _ _).1 g;subst this;exact (Rn (D:=fun _=>True) q w).1
 cases d
 case shl=>exact (af2 (D:=fun _=>True) h w).1
 case shr=>exact (af3 (D:=fun _=>True) h w).1
 all_goals exact e h
def ap6 (ok:eN P E) {o:Op} {c:Ak} {x y:Operand} (f:K4 E o=some (c,x,y)) {m:Mp} {k j:IntKind} {a b:Int} {v:ai} (h:sO c k j a b=some v)
 {ρ:Operand->Value} (i:ρ x= .int k a) (B:ρ y= .int j b) (q:Oper) (l:q.op=o) (w:World):(execOp ρ q).run P w= .ok (.value (γ m v)) w:=by
 unfold K4 at f;split at f
 ·rename_i T t _ _ _
  cases f;obtain ⟨N,O⟩:=ap5 (P:=P) (m:=m) (t:=t) (x:=x) (y:=y) h w;simp only [execOp,l,i,B,aI,N,O,az,bh]
 ·cases f
  have A:oZ k (yL k (QZ 0 a))=some v:=h;have:=ya A;subst this;simp only [execOp,l,i];simp [Op.unary,Op.intArith,γ,yb,Rm]
 ·rename_i s d z
  cases u:E.cU s with
  |none=>rw [u] at f;cases f
  |some J=>cases F:E.cU d with
   |none=>simp_all
   |some M=>
    rw [u,F] at f;cases J<;>try (cases f;done)
    cases M<;>try (cases f;done)
    rename_i R G;cases f;have A:oZ G (yL G a)=some v:=h;have:=ya A;subst this;simp only [execOp,l,i];simp [Go.convert,run_underlying (ok.cU u),run_underlying (ok.cU F),γ,yb,Conv.intToInt]
 ·rename_i C
  have fin: ∀t,c= .mx t->C.args.toList= [x,y]->C.callee= .builtin (if t then .max else .min)->(execOp ρ q).run P w= .ok (.value (γ m v)) w:=fun t hc Q H=>by
   subst hc;cases g:nM k j with
   |false=>simp only [sO,g] at h;cases h
   |true=>
    have:=(BC _ _).1 g;subst this;simp only [sO,g,cond_true] at h;have e:EC t [.int k b] (.int k a)=some v:=h;have I:In (fun _=>True) (ai.int k a):=trivial;obtain ⟨p,_⟩:=V2 (P:=P) (m:=m) (D:=fun _=>True) t _ _ v w I e;rw [Lj (q.op|>fun _=>l) H,Ll Q];cases t
    ·simp only [cI,if_false,aW,γ] at p
     simp only [cI,if_false,builtin,Builtin.min_,cJ,kR,i,B,aI,p,az,bh]
    ·simp only [if_true,aW,γ] at p
     simp only [if_true,builtin,Builtin.max_,cJ,kR,i,B,aI,p,az,bh]
  all_goals grind
 ·cases f
def ap7 (ok:eN P E) (o:Op) {k:o7} (p:iA P E o k):iA P E o (VI E o k):=by
 cases k with
 |rd f=>exact p
 |nw f=>exact p
 |wr f=>exact p
 |pu f=>
  unfold VI;cases hf:K4 E o with
  |some C=>
   obtain ⟨c,x,y⟩:=C;intro m D s ρ v w A z q e;simp only at e;cases l:f s with
   |some u=>rw [l] at e;cases e;exact p m D s ρ v w A z q l
   |none=>
    rw [l] at e;obtain ⟨F,Z,Y,h2,h3,rfl⟩:=agR e;obtain ⟨G,kk,j,a,b,u,g1,g2,O,X⟩:=ok.facts F Z;obtain ⟨J,_⟩:=jf (E:=E) q x;obtain ⟨s2,_⟩:=jf (E:=E) q y;refine ⟨?_,afX G D⟩;rw [X m];rw [Y] at O;exact ap6 ok hf O (by simp_all) (by simp_all) A z w
  |none=>
   simp only;cases i:Q9 E o with
   |none=>exact p
   |some x=>
    intro S m h s ρ v w A z hr q e;simp only at e;cases l:f s with
    |some u=>rw [l] at e;cases e;exact p m (aH h) s ρ v w A z q l
    |none=>
     rw [l] at e;simp only at e;obtain ⟨J,_⟩:=jf (E:=E) q x;cases Q:(bR E x).g s<;>rw [Q] at e<;>try (cases e;done)
     rename_i n;have I:(match (h.at n).obj with| .gH id=>E.gl.len id|_=>none)=some v:=e;cases N:(h.at n).obj<;>rw [N] at I<;>try (cases I;done)
     rename_i id;obtain ⟨G,B⟩:=ok.len id v I;obtain ⟨T,k,c,U,W⟩:=B w _ (hr.jt n id N w fun _ _ _ _=>rfl);refine ⟨?_,afX G _⟩;rw [Q] at J;have M:ρ x= .slice T k c:=by rw [J];exact U
     unfold Q9 at i;cases o<;>try (cases i;done)
     rename_i c';simp only at i;split at i
     ·rename_i x' t ts R ha ht
      cases H:E.cU t with
      |none=>rw [H] at i;cases i
      |some d=>
       rw [H] at i;cases d<;>try (cases i;done)
       cases i;rw [Lj z R,Ll ha,V1 ht,W m];show ((Builtin.len_ ⟨t::ts⟩ 0 #[ρ x])>>=fun v=>pure (Next.value v)).run P w=_;simp [Builtin.len_,ok.nO H,M,goInt]
     ·cases i
def agS (ok:eN P E) (o:Op):iA P E o (pW E o):=by
 unfold pW;split
 ·exact agQ ok o
 ·exact ap7 ok o (agQ ok o)
end
end
section
variable [aJ] {S:Nat->Prop}
section
variable {P:Program} {E:Env}
def collected (m:Mp) (d:Pos):Deferred:= {target:= .collected (m.b d),args:= #[]}
structure TR (m:Mp) (h:aP) (nt:Nat) (tm:Tm) (a:Act):Prop where
 size:nt<=a.tmps.size
 val: ∀t,a.tmps.getD t undef=γ m (ig t tm)
 ins: ∀t,In (aH h) (ig t tm)
 defs:a.defers=h.df.map (collected m)
 BQ: ∀d∈h.df,aH h d
def TR.src {G:gI} {m:Mp} {h:aP} {w:World} {nt:Nat} {tm:Tm} {a:Act} (t:TR m h nt tm a) (b:bV G S m h w):Src G m (aH h) tm a.eval:=
 ⟨fun x=>⟨t.val x,t.ins x⟩,fun _=>rfl,fun _=>rfl,fun _=>rfl⟩
def TR.step {G:gI} {m m':Mp} {h h':aP} {w w':World} {nt:Nat} {tm:Tm} {a:Act} (t:TR m h nt tm a) (r:bV G S m h w) (g:Goes m h w m' h' w') (hd:h'.df=h.df):TR m' h' nt tm a where
 size:=t.size
 val:=fun x=>by rw [t.val,EH (D:=aH h) (fun n hn=>g.agree n (r.fresh n hn)) _ (t.ins x)]
 ins:=fun x=>rN g.old _ (t.ins x)
 defs:=by
  rw [t.defs,hd];apply dy;intro d hm;simp only [collected];rw [(g.agree d (r.fresh d (t.BQ d hm))).1]
 BQ:=fun d hm=>g.old d (t.BQ d (by rw [<-hd];exact hm))
omit [aJ] in
def ap9 (i j:Nat) (hi:i<4) (a:j<4) (q:Q0) (v:ai):(QR i).f ((afv j).f q v)=if j=i then v else (QR i).f q:=by
 match i,j,hi,a with
 |0,0,_,_|0,1,_,_|0,2,_,_|0,3,_,_|1,0,_,_|1,1,_,_|1,2,_,_|1,3,_,_
 |2,0,_,_|2,1,_,_|2,2,_,_|2,3,_,_|3,0,_,_|3,1,_,_|3,2,_,_|3,3,_,_=>rfl
omit [aJ] in
def aqa (k i l j:Nat) (b:k<4) (hi:i<4) (d:l<4) (a:j<4) (q:Q1) (v:ai):(QS k i).f ((afw l j).f q v)=if l=k/\j=i then v else (QS k i).f q:=by
 obtain ⟨e,g,m,o⟩:=q;have h:=fun q=>ap9 i j hi a q v
 match k,l,b,d with
 |0,0,_,_=>simp only [true_and];exact h e
 |1,1,_,_=>simp only [true_and];exact h g
 |2,2,_,_=>simp only [true_and];exact h m
 |3,3,_,_=>simp only [true_and];exact h o
 |0,1,_,_|0,2,_,_|0,3,_,_|1,0,_,_|1,2,_,_|1,3,_,_|2,0,_,_|2,1,_,_|2,3,_,_|3,0,_,_|3,1,_,_|3,2,_,_=>rfl
omit [aJ] in
def aqb (k i l j:Nat) (a:k<4) (hi:i<16) (b:l<4) (p:j<16) (q:Q2) (v:ai):(QT k i).f ((afx l j).f q v)=if l=k/\j=i then v else (QT k i).f q:=by
 obtain ⟨d,g,m,o⟩:=q;have h:=fun q=>aqa (i/4) (i % 4) (j/4) (j % 4) (by omega) (by omega) (by omega) (by omega) q v
 have e:(j/4=i/4/\j % 4=i % 4)=(j=i):=by grind
 simp only [e] at h
 match k,l,a,b with
 |0,0,_,_=>simp only [true_and];exact h d
 |1,1,_,_=>simp only [true_and];exact h g
 |2,2,_,_=>simp only [true_and];exact h m
 |3,3,_,_=>simp only [true_and];exact h o
 |0,1,_,_|0,2,_,_|0,3,_,_|1,0,_,_|1,2,_,_|1,3,_,_|2,0,_,_|2,1,_,_|2,3,_,_|3,0,_,_|3,1,_,_|3,2,_,_=>rfl
omit [aJ] in
def aqc (k i l j:Nat) (a:k<4) (hi:i<64) (b:l<4) (p:j<64) (q:Q3) (v:ai):(QU k i).f ((aak l j).f q v)=if l=k/\j=i then v else (QU k i).f q:=by
 obtain ⟨d,g,m,o⟩:=q;have h:=fun q=>aqb (i/16) (i % 16) (j/16) (j % 16) (by omega) (by omega) (by omega) (by omega) q v
 have e:(j/16=i/16/\j % 16=i % 16)=(j=i):=by grind
 simp only [e] at h
 match k,l,a,b with
 |0,0,_,_=>simp only [true_and];exact h d
 |1,1,_,_=>simp only [true_and];exact h g
 |2,2,_,_=>simp only [true_and];exact h m
 |3,3,_,_=>simp only [true_and];exact h o
 |0,1,_,_|0,2,_,_|0,3,_,_|1,0,_,_|1,2,_,_|1,3,_,_|2,0,_,_|2,1,_,_|2,3,_,_|3,0,_,_|3,1,_,_|3,2,_,_=>rfl
omit [aJ] in
def RC {t:Nat} (h:t<256) (tm:Tm):ig t tm=(QU (t/64) (t % 64)).f tm.q:=by
 have e:Nat.blt t 256=true:=sM.2 h;unfold ig Vw;rw [e];rfl
omit [aJ] in
def RD {t:Nat} (h: ¬t<256) (tm:Tm):ig t tm=gz.get oY (pos t) tm.o:=by
 have e:Nat.blt t 256=false:=cO.2 fun e=>h (sM.1 e)
 unfold ig Vw;rw [e];rfl
omit [aJ] in
def agT {t:Nat} (h:t<256) (v:ai) (tm:Tm):(Ap t).f v tm=⟨(aak (t/64) (t % 64)).f tm.q v,tm.o⟩:=by
 have e:Nat.blt t 256=true:=sM.2 h;unfold Ap;rw [e];rfl
omit [aJ] in
def agU {t:Nat} (h: ¬t<256) (v:ai) (tm:Tm):(Ap t).f v tm=⟨tm.q,tm.o.set oY v (pos t)⟩:=by
 have e:Nat.blt t 256=false:=cO.2 fun e=>h (sM.1 e)
 unfold Ap;rw [e];rfl
omit [aJ] in
def Ls {tm:Tm} {d:Nat} {v:ai} (t:Nat):ig t ((Ap d).f v tm)=if d=t then v else ig t tm:=by
 by_cases b:d<256<;>by_cases a:t<256
 ·rw [agT b,RC a,RC a,aqc _ _ _ _ (by omega) (by omega) (by omega) (by omega)]
  all_goals grind
 ·rw [agT b,RD a,RD a,if_neg (by omega)]
 ·rw [agU b,RC a,RC a,if_neg (by omega)]
 ·rw [agU b,RD a,RD a,gz.EG]
  by_cases e:d=t
  ·subst e;simp
  ·rw [if_neg (fun h=>e (afL h)),if_neg e]
omit [aJ] in
def agV (a:Act) (d:Nat) (v:Value) (t:Nat) (b:d<a.tmps.size):(a.put (some d) v).tmps.getD t undef=if d=t then v else a.tmps.getD t undef:=by
 simp only [Act.put];by_cases e:d=t
 ·subst e;simp [b]
 ·simp_all
def TR.put {m:Mp} {h:aP} {nt:Nat} {tm:Tm} {a:Act} (t:TR m h nt tm a) {d:Option Tmp} {p:CV} (b:yR nt d=some p) {v:ai} (l:In (aH h) v):TR m h nt (p.f v tm) (a.put d (γ m v)):=by
 unfold yR at b;cases d with
 |none=>cases b;exact t
 |some d=>
  simp only at b;obtain ⟨i,j⟩:=IP b;cases j;have g:=sM.1 i;have k:d<a.tmps.size:=ax g t.size;refine ⟨by simp [Act.put];exact t.size,fun x=> ?_,fun x=> ?_,t.defs,t.BQ⟩
  ·rw [agV a d _ x k,Ls]
   by_cases e:d=x
   ·simp [e]
   ·simp [e];simpa using t.val x
  ·rw [Ls]
   by_cases e:d=x
   ·rw [if_pos e];exact l
   ·rw [if_neg e];exact t.ins x
def tr (P:Program) (E:Env) (cf:(FuncId->List ai->aP->VR)):Prop:=
 ∀f args h v a,cf f args h= .ok v a->a.df=h.df/\ ∀(S:Nat->Prop) m w,bV E.gl S m h w->jn (aH h) args->(∀d∈h.df,aH h d)->
  Calls P f ⟨aW m args⟩ w fun e g=> ∃b,e= .returned (γ b v)/\bV E.gl S b a g/\Goes m h w b a g/\In (aH a) v
def Wf (P:Program) (E:Env) (o:Oper) (tm:Tm) (h:aP) (v:ai) (b:aP):Prop:=
 ∀(S:Nat->Prop) (m:Mp) (a:Act) (w:World) (Q:Exit->Act->World->Prop) (K:Act->World->Prop),bV E.gl S m h w->Src E.gl m (aH h) tm a.eval->(∀d∈h.df,aH h d)->
  (∀e f,bV E.gl S e b f->Goes m h w e b f->In (aH b) v->K (a.put o.dst (γ e v)) f)->o.wp P a w K Q
def agW {o:Oper} {f:Tm->aP->OR} (x:af8 P E o.op f) {cf:(FuncId->List ai->aP->VR)} (B:tr P E cf) {tm:Tm} {h d:aP} {v:ai}
 (e:(f tm h= .ok v d)\/ ∃g args,f tm h= .call g args/\cf g args h= .ok v d):Wf P E o tm h v d/\(∀(S:Nat->Prop) m w (a:Act),bV E.gl S m h w->Src E.gl m (aH h) tm a.eval->d.df=h.df):=by
 rcases e with e|⟨g,args,e,A⟩
 ·constructor
  ·intro S m a w Q K i j _ t
   have b:=x S m h tm a.eval w o rfl i j;rw [e] at b;obtain ⟨y,z,r,k,l,p,q,s,_⟩:=b;unfold Oper.wp;rw [k];rcases l with rfl|⟨rfl,rfl⟩
   ·exact t y z p q s
   ·exact t y z p q s
  ·intro S m w a i j
   have b:=x S m h tm a.eval w o rfl i j;rw [e] at b;obtain ⟨_,_,_,_,_,_,_,_,C⟩:=b;exact C
 ·constructor
  ·intro S m a w Q K i j u t
   have b:=x S m h tm a.eval w o rfl i j;rw [e] at b;obtain ⟨k,l⟩:=b;unfold Oper.wp;rw [k];show Calls P g ⟨aW m args⟩ w _;refine ((B g args h v d A).2 S m w i l u).mono fun D z ⟨y,F,p,q,s⟩=> ?_
   all_goals grind
  ·intro _ _ _ _ _ _;exact (B g args h v d A).1
def aqd {o:Oper} {f:Tm->Option (jR×Mk)} (t:af7 P E o.op f) {tm:Tm} {h:aP} {p:jR×Mk} (e:f tm=some p):Wf P E o tm h (p.2.mk h.nx) (h.new p.1):=by
 intro S m a w Q K d s _ l;obtain ⟨ob,mk⟩:=p;have u: ¬aH h h.nx:=fun q=>bQ _ (d.fresh _ q)
 obtain ⟨cap,b,g,i,j,k⟩:=t m (aH h) tm a.eval ob mk w o rfl s e h.nx u;obtain ⟨x,y,z⟩:=d.Lc (ob:=ob) (o:=b) (w':= {w with heap:=w.heap.push b}) (cap:=cap) ⟨rfl,rfl,rfl,rfl⟩ k i j;unfold Oper.wp;rw [g];exact l _ _ x y (by cases mk<;>exact z)
def agX (ok:eN P E) {cf:(FuncId->List ai->aP->VR)} (u:tr P E cf) {o:Oper} {tm:Tm} {h:aP} {next:ai->aP->CR} {out:Out} {t:Tm} {h':aP}
 (e:carry (pW E o.op) cf tm h next= .ok out t h'): ∃v d,next v d= .ok out t h'/\Wf P E o tm h v d/\(∀(S:Nat->Prop) m w (a:Act),bV E.gl S m h w->Src E.gl m (aH h) tm a.eval->d.df=h.df):=by
 have i:=agS ok o.op;cases j:pW E o.op with
 |pu f=>
  rw [j] at e i;simp only [carry] at e;cases b:f tm with
  |none=>rw [b] at e;cases e
  |some v=>
   rw [b] at e;refine ⟨v,h,e,fun S m a w Q K k s _ q=> ?_,fun _ _ _ _ _ _=>rfl⟩;obtain ⟨d,l⟩:=i m (aH h) tm a.eval v w o rfl s b;unfold Oper.wp;rw [d];exact q m w k (Goes.refl m h w) l
 |rd f=>
  rw [j] at e i;simp only [carry] at e;cases b:f tm h with
  |none=>rw [b] at e;cases e
  |some v=>
   rw [b] at e;refine ⟨v,h,e,fun S m a w Q K k s _ q=> ?_,fun _ _ _ _ _ _=>rfl⟩;obtain ⟨d,l⟩:=i S m h tm a.eval v w o rfl k s b;unfold Oper.wp;rw [d];exact q m w k (Goes.refl m h w) l
 |nw f=>
  rw [j] at e i;simp only [carry] at e;cases b:f tm with
  |none=>rw [b] at e;cases e
  |some p=>
   rw [b] at e;exact ⟨_,_,e,aqd i b,fun _ _ _ _ _ _=>rfl⟩
 |wr f=>
  rw [j] at e i;simp only [carry] at e;cases b:f tm h with
  |fail=>rw [b] at e;cases e
  |ok v d=>
   rw [b] at e;obtain ⟨x,s2⟩:=agW i u (.inl b)
   all_goals grind
  |call g args=>
   rw [b] at e;simp only at e;cases hc:cf g args h with
   |fail=>rw [hc] at e;cases e
   |ok v d=>
    rw [hc] at e;obtain ⟨x,s2⟩:=agW i u (.inr ⟨g,args,b,hc⟩)
    all_goals grind
omit [aJ] in
def aqe (w:Option VJ) (k:o7) (p:CV) (a:CK) (cf:(FuncId->List ai->aP->VR)) (tm:Tm) (h:aP):
 (VK w k p a).f cf tm h=match w with
  |none=>carry k cf tm h fun v h=>a.f cf (p.f v tm) h
  |some w=>Option.casesOn (motive:=fun _=>CR) (w.f tm) .fail fun b=>cond b (carry k cf tm h fun v h=>a.f cf (p.f v tm) h) (a.f cf (p.f oY tm) h):=by
 cases w<;>cases k<;>rfl
def agY {all:List Oper} {o:Oper} {m:Mp} {tm:Tm} {a:Act} (t: ∀j b g d,o.guard=some (j,b)->all[j]? =some g->g.dst=some d->a.tmps.getD d undef=γ m (ig d tm)):
 (uJ all o.guard=none->Region.wanted o (yielded all.toArray a.tmps)=true)/\
 (∀k b,uJ all o.guard=some k->k.f tm=some b->Region.wanted o (yielded all.toArray a.tmps)=b):=by
 unfold uJ Region.wanted;cases z:o.guard with
 |none=>simp_all
 |some C=>
  obtain ⟨j,b⟩:=C;simp only;cases s:all[j]? with
  |none=>grind
  |some g=>
   simp only;cases p:g.dst with
   |none=>grind
   |some d=>
    refine ⟨(fun h=>by cases h),fun k c y e=> ?_⟩;cases y;simp only at e;have i:=t j b g d z s p;have B:yielded all.toArray a.tmps j=match a.tmps[d]? with|some (.bool b)=>some b|_=>none:=by
     simp [yielded,s,p];rfl
    cases A:ig d tm<;>rw [A] at e i<;>try (cases e;done)
    ·rename_i x
     simp only [aX] at e;subst e;simp only [γ] at i;have:a.tmps[d]? =some (.bool x):=by
      cases u:a.tmps[d]? with
      |none=>simp [cM,u,undef] at i
      |some q=>simp_all
     rw [B,this];simp [K7]
    ·rename_i l
     cases e;simp only [γ] at i;have:(match a.tmps[d]? with|some (.bool b)=>some b|_=>none)=none:=by
      cases u:a.tmps[d]? with
      |none=>rfl
      |some q=>simp_all
     all_goals grind
def abg {all:List Oper} {o:Oper} {m:Mp} {h:aP} {nt:Nat} {tm:Tm} {a:Act} (t:TR m h nt tm a):
 (uJ all o.guard=none->Region.wanted o (yielded all.toArray a.tmps)=true)/\
 (∀e b,uJ all o.guard=some e->e.f tm=some b->Region.wanted o (yielded all.toArray a.tmps)=b):=agY fun _ _ _ d _ _ _=>t.val d
def abh (ok:eN P E) {cf:(FuncId->List ai->aP->VR)} (I:tr P E cf) (nt:Nat) (all:List Oper): ∀(d:List Oper) (i:Nat),all.drop i=d-> ∀(s:Tm) (h:aP) (j:Out) (z:Tm) (l:aP),
 (BB E nt all d).f cf s h= .ok j z l->j= .normal/\ ∀(S:Nat->Prop) m a w Q,bV E.gl S m h w->TR m h nt s a->
  (∀q u t,bV E.gl S q l t->TR q l nt z u->Goes m h w q l t->Q .normal u t)->wpOps P all.toArray Q (List.range' i d.length) a w
 | [],i,J,s,h,j,z,l,e=>by
  simp only [BB] at e;cases e;exact ⟨rfl,fun S m a w Q k g x=>x m a w k g (Goes.refl m h w)⟩
 |o::d,i,J,s,h,j,z,l,e=>by
  simp only [BB] at e;cases H:yR nt o.dst with
  |none=>rw [H] at e;cases e
  |some p=>
   rw [H] at e;simp only at e;rw [aqe] at e;have T:all.drop (i+1)=d:=by rw [<-List.drop_drop,J];rfl
   have M:all.toArray[i]? =some o:=by
    have:(all.drop i)[0]? =some o:=by rw [J];rfl
    simpa using this
   have step: ∀ {v A},(BB E nt all d).f cf (p.f v s) A= .ok j z l->Wf P E o s h v A->(∀(S:Nat->Prop) m w (a:Act),bV E.gl S m h w->Src E.gl m (aH h) s a.eval->A.df=h.df)->
    j= .normal/\ ∀(S:Nat->Prop) m a w Q,bV E.gl S m h w->TR m h nt s a->(∀q u t,bV E.gl S q l t->TR q l nt z u->Goes m h w q l t->Q .normal u t)->o.wp P a w (wpOps P all.toArray Q (List.range' (i+1) d.length)) Q:=fun {v A} C F s2=>by
    obtain ⟨y,D⟩:=abh ok I nt all d (i+1) T _ _ _ _ _ C;refine ⟨y,fun S m a w Q k g x=> ?_⟩;refine F S m a w Q _ k (g.src k) g.BQ fun X w1 U R N=> ?_
    exact D S X _ w1 Q U ((g.step k R (s2 S m w a k (g.src k))).put H N) fun q u t Y Z W=>x q u t Y Z (Goes.trans k U R W)
   cases B:uJ all o.guard with
   |none=>
    rw [B] at e;simp only at e;obtain ⟨v,A,C,F,s2⟩:=agX ok I e;obtain ⟨y,D⟩:=step C F s2;refine ⟨y,fun S m a w Q k g x=> ?_⟩;rw [show List.range' i (o::d).length=i::List.range' (i+1) d.length from rfl];simp only [wpOps,M,(abg (all:=all) (o:=o) g).1 B,if_true]
    all_goals grind
   |some O=>
    rw [B] at e;simp only at e;cases G:O.f s with
    |none=>rw [G] at e;cases e
    |some b=>
     rw [G] at e;simp only at e;cases b with
     |true=>
      simp only [cond_true] at e;obtain ⟨v,A,C,F,s2⟩:=agX ok I e;obtain ⟨y,D⟩:=step C F s2;refine ⟨y,fun S m a w Q k g x=> ?_⟩;rw [show List.range' i (o::d).length=i::List.range' (i+1) d.length from rfl];simp only [wpOps,M,(abg (all:=all) (o:=o) g).2 O true B G,if_true]
      all_goals grind
     |false=>
      simp only [cond_false] at e;obtain ⟨y,D⟩:=abh ok I nt all d (i+1) T _ _ _ _ _ e;refine ⟨y,fun S m a w Q k g x=> ?_⟩;rw [show List.range' i (o::d).length=i::List.range' (i+1) d.length from rfl];simp only [wpOps,M,(abg (all:=all) (o:=o) g).2 O false B G,cI,if_false];exact D S m _ w Q k (g.put (v:=oY) H trivial) x
end
end
section
variable [aJ] {S:Nat->Prop}
section
variable {P:Program} {E:Env}
def vI:Out->Exit
 | .normal=> .normal
 | .ret=> .ret
 | .exit id=> .exit id
def Does (P:Program) (E:Env) (nt:Nat) (c:Code) (tm:Tm) (h:aP) (out:Out) (f:Tm) (h':aP):Prop:=
 ∀(S:Nat->Prop) (m:Mp) (a:Act) (w:World) (Q:Exit->Act->World->Prop),bV E.gl S m h w->TR m h nt tm a->
  (∀b e d,bV E.gl S b h' d->TR b h' nt f e->Goes m h w b h' d->Q (vI out) e d)->c.wp P Q a w
def IY (P:Program) (E:Env):Prop:=
 ∀(g id:Nat) (a:Array Oper) (cf:(FuncId->List ai->aP->VR)),tr P E cf-> ∀i h b d e,(Rc E g a.toList).f cf i h= .ok b d e->Does P E g (.region id a true) i h b d e
def bV.N8 {G:gI} {m:Mp} {h:aP} {w:World} (r:bV G S m h w) (l:List Pos):bV G S m ⟨h.t,h.nx,h.al,l⟩ w:=
 ⟨r.blk,r.fresh,r.apart,r.mem,r.mX,r.ins,r.qN,r.jt,r.lim⟩
omit [aJ] in
def Goes.N8 {m a:Mp} {h h':aP} {w w':World} (g:Goes m h w a h' w') (l:List Pos):Goes m h w a ⟨h'.t,h'.nx,h'.al,l⟩ w':=
 ⟨g.tape,g.os,g.output,g.size,g.xZ,g.agree,g.nx,g.Gm,g.yU,g.old,g.bold,g.II⟩
omit [aJ] in
def Goes.aqf {m a:Mp} {h h':aP} {w w':World} {l:List Pos} (g:Goes m ⟨h.t,h.nx,h.al,l⟩ w a h' w'):Goes m h w a h' w':=
 ⟨g.tape,g.os,g.output,g.size,g.xZ,g.agree,g.nx,g.Gm,g.yU,g.old,g.bold,g.II⟩
omit [aJ] in
def aqg {g:Operand} {ps:Array Tmp} {m o:Code} {Q:Exit->Act->World->Prop} {a:Act} {w:World}
 (h: ∀B,∃(l:Nat) (j:List Deferred) (i:World) (d:Deferred) (f:FuncId) (args:Array Value),
  (Instr.enterLoop B a.tmps ps m o none).run P w= .ok (l,j) i/\
  (resolve a.eval (rangeCall g l) 0).run P i= .ok d i/\
  (invoke d.target d.args).run P i= .ok (.enter f args) i/\
  Calls P f args i fun e q=>(∃v,e= .returned v)/\ ∃p,(Instr.endLoop l).run P q= .ok none p/\Q .normal {a with defers:=j++a.defers} p):
 (Code.rangeFunc g ps m o).wp P Q a w:=by
 intro b k cs
 let s:Frame:= {b with roundOf:=none}
 have z: ∀a k,b.at a k=s.atR a k:=fun a k=>by simp [Frame.atR,Frame.at,s]
 obtain ⟨l,j,i,d,f,args,D,u,hinv,A⟩:=h b.fn;have t:=stepR_rangeFunc (P:=P) (b:=s) (a:=a) (k:=k) (cs:=cs) (w:=w) D u hinv;obtain ⟨e,q,fr,⟨⟨v,rfl⟩,p,G,C⟩,x,F,y⟩:=A (s.atR {a with defers:=j++a.defers} (.inRangeFunc l::k)::cs);refine ⟨.normal,_,p,C,?_⟩;rw [z];show Steps P _ (lone (b.at _ k) cs p);rw [z];refine .head t (Steps.trans x (.head ?_ (.one (stepR_endRangeFunc (b:=s) (a:= {a with defers:=j++a.defers}) (k:=k) (cs:=cs) G))));rw [<-finish_atR_inRangeFunc l v];exact step_leave_returned y
def aqk (ok:eN P E) {nt:Nat} {g:Operand} {ps:Array Tmp} {assign body:Code} {cf:(FuncId->List ai->aP->VR)} (kV:tr P E cf) {tm:Tm} {h:aP} {out:Out} {bF:Tm} {h':aP}
 (e:(gA E nt (.rangeFunc g ps assign body)).f cf tm h= .ok out bF h'):Does P E nt (.rangeFunc g ps assign body) tm h out bF h':=by
 simp only [gA] at e;intro S m a w Q x U hQ;obtain ⟨s1,s2⟩:=jf (E:=E) (U.src x) g;generalize (bR E g).g tm=u at e s1 s2;cases u<;>try (cases e;done)
 rename_i fn first i
 cases fn<;>try (cases e;done)
 rename_i f;simp only at e;apply aqg;intro O
 let j:World:= {w with heap:=w.heap.push (.deferred (some []))}
 obtain ⟨r1,g1,d1⟩:=x.Lc (ob:= .uC) (o:= .deferred (some [])) (w':=j) (cap:=0) ⟨rfl,rfl,rfl,rfl⟩ (by simp) rfl trivial
 let W:Loop:= {state:= .ready,pending:=none,fn:=O,tmps:=a.tmps,params:=ps,assign,body,defers:=w.heap.size}
 let w2:World:= {j with heap:=j.heap.push (.loop W)}
 obtain ⟨k,G,M⟩:=r1.Lc (ob:= .K3) (o:= .loop W) (w':=w2) (cap:=0) ⟨rfl,rfl,rfl,rfl⟩ (by simp) ⟨W,rfl,rfl,rfl⟩ trivial;generalize mF:(m.set h.nx w.heap.size 0).set (h.new .uC).nx j.heap.size 0=p at k G;have q:=Goes.trans x r1 g1 G;generalize Oa:(h.new .uC).new .K3=s at e k G M q;have A:s.df=h.df:=by rw [<-Oa];rfl
 have bA:h.nx.n<(h.new .uC).nx.n:=by show _<h.nx.succ.n;rw [Pos.IC];omega
 have X:p.b (h.new .uC).nx=j.heap.size:=by rw [<-mF,Mp.qu]
 have vE:p.b h.nx=w.heap.size:=by
  rw [<-mF,(Mp.BI _ _ _ (fun e=>by simp_all)).1,Mp.qu]
 have xP:aH s h.nx:=by rw [<-Oa] at G⊢;exact G.old _ d1
 have B: ∀n,aH h n->p.b n=m.b n/\p.cv n=m.cv n:=fun n hn=>q.agree n (x.fresh n hn)
 have bz:jn (aH s) (first++(.CT (h.new .uC).nx::i)):=(mW _).2 fun v l=>by
  rcases b8.1 l with l|l
  ·exact rN q.old _ ((mW _).1 s2.1 v l)
  ·rcases bq.1 l with rfl|l
   ·exact M
   ·exact rN q.old _ ((mW _).1 s2.2 v l)
 have Wg:=Wc ok k (f:=f) bz;rw [Re] at e;generalize (Gd E f).f s (first++(.CT (h.new .uC).nx::i))=Z at e Wg;cases Z with
 |ok _ _=>cases e
 |fail=>cases e
 |call T args=>
  obtain ⟨c1,c2⟩:=Wg;simp only at e;cases hc:cf T args s with
  |fail=>rw [hc] at e;cases e
  |ok v I=>
   rw [hc] at e;simp only at e;cases N:(I.at (h.new .uC).nx).obj<;>rw [N] at e<;>try (cases e;done)
   cases e;refine ⟨j.heap.size,[{target:= .collected w.heap.size,args:= #[]}],w2,{target:= .fn (.func f) ⟨aW m i⟩,args:=⟨aW m first⟩++ #[.func (.yield j.heap.size) #[] #[]]},T,⟨aW p args⟩,?_,?_,?_,?_⟩
   ·simp only [Instr.enterLoop,aI,run_newObj,az,bh]
    rfl
   ·simp only [resolve,s1,γ,Deferred.ofValue]
    simp [Act.eval]
   ·rw [show (invoke _ _:Sem Next)=callFunc f ⟨aW p (first++(.CT (h.new .uC).nx::i))⟩ from ?_]
    ·exact c1
    ·simp only [invoke]
     congr 1;apply eJ;simp only [Gj,aW,γ,X];rw [BG (D:=aH h) B first s2.1,BG (D:=aH h) B i s2.2];simp
   ·obtain ⟨q1,q2⟩:=kV T args s v I hc
    refine (q2 S p w2 k c2 (fun d t=>by rw [A] at t;exact q.old _ (U.BQ d t))).mono fun en y ⟨m3,he,Y,H,_⟩=> ?_
    subst he;refine ⟨⟨_,rfl⟩,?_⟩;have C:=H.agree _ (k.fresh _ M);have IZ:aH I (h.new .uC).nx:=H.old _ M;obtain ⟨o,b1,b2⟩:=Y.blk _ (NZ N rfl);rw [N] at b2;obtain ⟨z,rfl,p1,p2⟩:=b2;rw [C.1,X] at b1;refine ⟨{y with heap:=y.heap.setIfInBounds j.heap.size (.loop {z with state:= .exhausted})},?_,?_⟩
    ·have hg:(getObj j.heap.size).run P y= .ok (.loop z) y:=by simp [getObj,Sem.run,b1]
     simp only [Instr.endLoop,Instr.getLoop,aI,hg,az,bh,p1];have eB:=abc (P:=P) b1 (fun _ _ _ e=>by cases e) (.loop {z with state:= .exhausted});have hb:(LoopState.ready==LoopState.busy)=false:=rfl;simp only [hb,cI,if_false,aI,bh,eB,az];rw [p2]
    ·obtain ⟨r4,g4,d4⟩:=Y.Rl (n:=(h.new .uC).nx) (by rw [N];rfl) .other (.loop {z with state:= .exhausted}) (w':= {y with heap:=y.heap.setIfInBounds j.heap.size (.loop {z with state:= .exhausted})})
      (by simp) trivial trivial (by rw [C.1,X]) rfl rfl rfl
     have F:=Goes.trans x k q (Goes.trans k Y H g4);refine hQ m3 _ _ (r4.N8 _) ?_ (F.N8 _);have R:(I.setObj (h.new .uC).nx .other).df=h.df:=by show I.df=_;rw [q1,A]
     have J:=U.step x F R;refine ⟨J.size,J.val,J.ins,?_,?_⟩
     ·show _::a.defers=collected m3 h.nx::List.map _ _
      rw [J.defs];congr 1;simp only [collected];rw [(H.agree _ (k.fresh _ xP)).1,vE]
     ·intro d t
      rcases bq.1 t with rfl|t
      ·exact g4.old _ (H.old _ xP)
      ·exact J.BQ d t
def ag4 {cf:(FuncId->List ai->aP->VR)} {x:CK} {nt:Nat} {c:Code} (A: ∀d h b i g,x.f cf d h= .ok b i g->Does P E nt c d h b i g): ∀(n:Nat) (d:Tm) (h:aP) (b:Out) (i:Tm) (g:aP),
 loopGo x cf n d h= .ok b i g-> ∀(S:Nat->Prop) (m:Mp) (a:Act) (w:World) (Q:Exit->Act->World->Prop),bV E.gl S m h w->TR m h nt d a->
  (∀j l k,bV E.gl S j g k->TR j g nt i l->Goes m h w j g k->Q (vI b) l k)->Code.rounds P c Q n a w
 |0,_,_,_,_,_,e=>by cases e
 |n+1,d,h,b,i,g,e=>by
  intro S m a w Q z D t;rw [rounds_succ];have p:CR.casesOn (motive:=fun _=>CR) (x.f cf d h) (fun o d h=>Out.casesOn (motive:=fun _=>CR) o (loopGo x cf n d h) (.ok .ret d h) (fun id=> .ok (.exit id) d h)) .fail= .ok b i g:=e;cases y:x.f cf d h with
  |fail=>simp_all
  |ok o M J=>
   rw [y] at p;refine A _ _ _ _ _ y S m a w _ z D fun F B I q u s=> ?_
   cases o with
   |normal=>exact ag4 A n _ _ _ _ _ p S F B I Q q u fun j l k G H C=>t j l k G H (Goes.trans z q s C)
   |ret=>cases p;exact t _ _ _ q u s
   |exit id=>cases p;exact t _ _ _ q u s
def Wi (ok:eN P E) (hD:IY P E) {cf:(FuncId->List ai->aP->VR)} (R:tr P E cf) (nt:Nat): ∀(c:Code) (s:Tm) (h:aP) (d:Out) (z:Tm) (A:aP),
 (gA E nt c).f cf s h= .ok d z A->Does P E nt c s h d z A:=by
 intro c
 induction c with
 |skip=>intro s h d z A e S m a w Q p q i;simp only [gA] at e;cases e;exact wp_skip (i m a w p q (Goes.refl ..))
 |label l=>intro s h d z A e S m a w Q p q i;simp only [gA] at e;cases e;exact wp_label (i m a w p q (Goes.refl ..))
 |ret=>intro s h d z A e S m a w Q p q i;simp only [gA] at e;cases e;exact wp_ret (i m a w p q (Goes.refl ..))
 |exit id=>intro s h d z A e S m a w Q p q i;simp only [gA] at e;cases e;exact wp_exit (i m a w p q (Goes.refl ..))
 |seq x y Z O=>
  intro s h d z A e S m a w Q p q i;simp only [gA] at e;cases F:(gA E nt x).f cf s h with
  |fail=>rw [F] at e;cases e
  |ok o t1 h1=>
   rw [F] at e;refine wp_seq (Z _ _ _ _ _ F S m a w _ p q fun T J U B D C=> ?_);cases o with
   |normal=>exact O _ _ _ _ _ e S T J U Q B D fun m' a' w' r' t' g'=>i m' a' w' r' t' (Goes.trans p B C g')
   |ret=>cases e;exact i _ _ _ B D C
   |exit id=>cases e;exact i _ _ _ B D C
 |cond x a b M N=>
  intro s h d z A e S m W w Q p q i;simp only [gA] at e;obtain ⟨Y,s2⟩:=jf (E:=E) (q.src p) x;generalize (bR E x).g s=u at e Y s2;cases u<;>try (cases e;done)
  rename_i c;refine wp_cond (t:=c) (by rw [Y];rfl) ?_;cases c with
  |true=>exact M _ _ _ _ _ e S m W w Q p q i
  |false=>exact N _ _ _ _ _ e S m W w Q p q i
 |block id x I=>
  intro s h d z A e S m a w Q p q i;simp only [gA] at e;cases F:(gA E nt x).f cf s h with
  |fail=>rw [F] at e;cases e
  |ok o t1 h1=>
   rw [F] at e;refine wp_block (I _ _ _ _ _ F S m a w _ p q fun T J U B D C=> ?_);cases o with
   |normal=>cases e;exact i _ _ _ B D C
   |ret=>cases e;exact i _ _ _ B D C
   |exit j=>
    simp only at e;simp only [vI,Exit.inBlock];by_cases X:j=id
    ·subst X
     simp only [jA,cond_true] at e;cases e;rw [if_pos rfl];exact i _ _ _ B D C
    ·rw [if_neg X]
     have:Nat.beq j id=false:=by cases hb:Nat.beq j id with
      |false=>rfl
      |true=>simp_all
     rw [this,cond_false] at e;cases e;exact i _ _ _ B D C
 |loop x I=>
  intro s h d z A e S m a w Q p q i;simp only [gA] at e;exact wp_loop_rounds 1000000 (ag4 I 1000000 _ _ _ _ _ e S m a w Q p q i)
 |scope x I=>
  intro s h d z A e S m a w Q p q i;simp only [gA] at e;refine wp_scope_straight (I _ _ _ _ _ e S m a w _ p q fun T J U B D C=> ?_);have:=i _ _ _ B D C;cases d<;>exact this
 |region id G H=>
  intro s h d z A e;cases H with
  |true=>simp only [gA] at e;exact hD nt id G cf R _ _ _ _ _ e
  |false=>
   simp only [gA] at e;intro S m a w Q p q i;obtain ⟨rfl,k⟩:=abh ok R nt G.toList G.toList 0 rfl _ _ _ _ _ e;have:=k S m a w Q p q i;rw [<-List.range_eq_range'] at this;exact wp_region (by simpa using this)
 |rangeFunc g ps x y=>intro s h d z A e;exact aqk ok R e
 |_=>intro s h d z A e;simp only [gA] at e;cases e
end
end
section
variable [aJ] {S:Nat->Prop}
section
variable {P:Program} {E:Env}
def Wj (P:Program):List Nat->World->World->Prop
 | [],w,a=>a=w
 |d::l,w,a=> ∃b,(Instr.takeDeferred d).run P w= .ok [] b/\Wj P l b a
def RI (d:Nat):Deferred:= {target:= .collected d,args:= #[]}
omit [aJ] in
def aqn {b:Frame} {a:Act} {k:List Item} {cs:List Frame} {w f:World} {d:Nat} {e:List Deferred} (h:(Instr.takeDeferred d).run P w= .ok [] f):
 step P (lone {b.at {tmps:=a.tmps,defers:=RI d::e} k with mode:= .returning} cs w)= .next (lone {b.at {tmps:=a.tmps,defers:=e} k with mode:= .returning} cs f):=
 step_lone_go (by simp [stepG,unwind,RI,Frame.at,Sem.runT_eq,h,GStep.bare_after])
omit [aJ] in
def ag5 {b:Frame} {k:List Item} {cs:List Frame} : ∀(l:List Nat) (a:Act) (w e:World),a.defers=l.map RI->Wj P l w e->
 Steps P (lone {b.at a k with mode:= .returning} cs w) (lone {b.at {tmps:=a.tmps,defers:= []} k with mode:= .returning} cs e)
 | [],⟨t,h⟩,w,e,f,g=>by
  simp only [kR] at f;subst f;rw [show e=w from g];exact Steps.refl _ _
 |d::l,⟨t,h⟩,w,e,f,⟨j,g,i⟩=>by
  simp only [cJ] at f;subst f;exact .head (aqn (a:=⟨t,[]⟩) g) (ag5 l ⟨t,l.map RI⟩ j e rfl i)
omit [aJ] in
def abj {f:FuncId} {fn:Func} {c:Code} {args:Array Value} {w:World} {R:Ending->World->Prop}
 (o:P.funcs[f]? =some fn) (x:fn.body=some c)
 (h:c.wp P (fun e a A=>(e= .normal\/e= .ret)/\ ∃l i v,a.defers=l.map RI/\Wj P l A i/\(results fn a.tmps).run P i= .ok v i/\R (.returned v) i)
  {tmps:=args++Array.replicate (fn.ntmps-args.size) undef,defers:= []} w):
 Calls P f args w R:=by
 intro k
 let b:Frame:= {(default:Frame) with fn:=f,kind:= .normal}
 have j:Frame.enter P f args .normal=
  b.at {tmps:=args++Array.replicate (fn.ntmps-args.size) undef,defers:= []} [.code c]:=by
  simp [Frame.enter,Frame.at,o,x,b]
 obtain ⟨e,m,p,⟨y,l,i,v,q,s,t,u⟩,g⟩:=h b [] k;rw [<-j] at g;have B: ∃d,Steps P (lone (Frame.enter P f args .normal) k w) (lone {b.at m d with mode:= .returning} k p):=by
  rcases y with rfl|rfl
  ·exact ⟨[],Steps.trans g (.one step_end)⟩
  ·exact g
 obtain ⟨d,z⟩:=B;exact ⟨.returned v,i,_,u,Steps.trans z (ag5 l m p i q s),rfl,rfl,rfl,rfl,fn,o,t⟩
def Wk (tmps:Array Value):ResultVar->Sem Value
 | .tmp t=>pure (tmps.getD t undef)
 | .cell a t=>do loadVar t (<-asAddr (tmps.getD a undef))
omit [aJ] in
def aqo (b:Func) (tmps:Array Value):results b tmps=(do
 let a<-b.results.mapM (Wk tmps)
 pure (if h:a.size=1 then a[0] else .tuple a)):=by
 unfold results;congr 1
def abl (ok:eN P E) {m:Mp} {h:aP} {w:World} (p:bV E.gl S m h w) {tm:Tm} {tmps:Array Value}
 (j: ∀t,tmps.getD t undef=γ m (ig t tm)/\In (aH h) (ig t tm)): ∀(b:List ResultVar) (l:List ai),(xY E b).f tm h=some l->
 (List.mapM (Wk tmps) b).run P w= .ok (aW m l) w/\jn (aH h) l
 | [],l,e=>by simp only [xY] at e;cases e;exact ⟨by simp [aW],trivial⟩
 | .tmp t::b,l,e=>by
  simp only [xY] at e;cases d:(xY E b).f tm h with
  |none=>rw [d] at e;cases e
  |some x=>
   rw [d] at e;cases e;obtain ⟨q,s⟩:=abl ok p j b x d;refine ⟨?_,(j t).2,s⟩;rw [List.mapM_cons];simp only [Wk,aI,bh,az,q,aW,(j t).1]
 | .cell a t::b,l,e=>by
  simp only [xY] at e;cases k:(Q5 E t).f h (ig a tm) with
  |none=>rw [k] at e;cases e
  |some v=>
   rw [k] at e;simp only at e;cases d:(xY E b).f tm h with
   |none=>rw [d] at e;cases e
   |some x=>
    rw [d] at e;cases e;obtain ⟨q,s⟩:=abl ok p j b x d;have C:=agf ok t (.tmp a);have z:Src E.gl m (aH h) tm (fun x=>match x with| .tmp t=>tmps.getD t undef| .const v=>v| .global g=> .pointer (some ⟨g,0,none⟩)| .func f=> .func (.func f) #[] #[]):=
     ⟨j,fun _=>rfl,fun _=>rfl,fun _=>rfl⟩
    obtain ⟨y,B⟩:=C S m h tm _ v w {(default:Oper) with op:= .load t (.tmp a)} rfl p z k;refine ⟨?_,B,s⟩;have i:(Instr.loadAt t (tmps.getD a undef)).run P w= .ok (γ m v) w:=by
     simp only [execOp,aI] at y;cases A:(Instr.loadAt t (tmps.getD a undef)).run P w with
     |ok u D=>simp_all
     |halt x D=>rw [A] at y;cases y
    rw [List.mapM_cons];simp only [Wk,aI,bh,aW];generalize tmps.getD a undef=u at i⊢;unfold Instr.loadAt at i;cases u with
    |pointer o=>
     cases o with
     |none=>simp [Instr.sureAddr] at i
     |some F=>
      simp only [Instr.sureAddr,aI,bh,az] at i;simp only [asAddr,bh,az,i];rw [q];rfl
    |_=>simp [Instr.sureAddr] at i
def aqp (m:Mp) (l:List ai):(if h:(⟨aW m l⟩:Array Value).size=1 then (⟨aW m l⟩:Array Value)[0] else Value.tuple ⟨aW m l⟩)=γ m (Gh l):=by
 match l with
 | []=>rfl
 | [v]=>rfl
 |a::b::l=>simp [aW,Gh,γ]
omit [aJ] in
def aqq {D:Pos->Prop} {l:List ai} (h:jn D l):In D (Gh l):=by
 match l,h with
 | [],h=>exact h
 | [v],h=>exact h.1
 |a::b::l,h=>exact h
def ag6 (ok:eN P E) {m:Mp} {h:aP} {w:World} (g:bV E.gl S m h w) {tm:Tm} {tmps:Array Value}
 (i: ∀t,tmps.getD t undef=γ m (ig t tm)/\In (aH h) (ig t tm)) {a:Func} {l:List ai} (e:(xY E a.results.toList).f tm h=some l):
 (results a tmps).run P w= .ok (γ m (Gh l)) w/\In (aH h) (Gh l):=by
 obtain ⟨b,d⟩:=abl ok g i _ _ e;refine ⟨?_,aqq d⟩;rw [<-aqp];rw [aqo,show a.results=a.results.toList.toArray by simp,List.mapM_toArray];rw [map_eq_pure_bind];simp only [aI,b,az,bh]
def ag7 {m:Mp} : ∀(l:List Pos) (h a:aP) (w:World),bV E.gl S m h w->IB l h=some a-> ∃w',Wj P (l.map m.b) w w'/\bV E.gl S m a w'/\Goes m h w m a w'
 | [],h,a,w,r,e=>by cases e;exact ⟨w,rfl,r,Goes.refl m h w⟩
 |d::l,h,a,w,r,e=>by
  simp only [IB] at e;cases f:(h.at d).obj<;>rw [f] at e<;>try (cases e;done)
  simp only at e;have u:aH h d:=by unfold aH;rw [f];simp
  obtain ⟨o,b1,g⟩:=r.blk d (NZ f rfl);rw [f] at g;cases (show o=_ from g);obtain ⟨i,k,_⟩:=r.Rl (n:=d) (by rw [f];rfl) .other (.deferred none) (w':= {w with heap:=w.heap.setIfInBounds (m.b d) (.deferred none)}) rfl trivial trivial rfl rfl rfl rfl;obtain ⟨w',t,s,p⟩:=ag7 l _ a _ i e;refine ⟨w',⟨_,?_,t⟩,s,Goes.trans r i k p⟩;have q:(getObj (m.b d)).run P w= .ok (.deferred (some [])) w:=by simp [getObj,Sem.run,b1]
  have j:=abc (P:=P) b1 (fun _ _ _ e=>by cases e) (.deferred none);simp only [Instr.takeDeferred,aI,q,az,j,bh]
omit [aJ] in
def Wl: ∀(l:List ai) (k:Nat) (a:Tm) (t:Nat),ig t (Gi l k a)=if k<=t then (l[t-k]?).getD (ig t a) else ig t a
 | [],k,a,t=>by simp [Gi]
 |v::l,k,a,t=>by
  simp only [Gi];rw [Wl l (k+1),Ls]
  all_goals grind
omit [aJ] in
def Wm (t:Nat):ig t Ao=oY:=by
 by_cases h:t<256
 ·rw [RC h]
  have a: ∀i (q:Q0),q=QV->(QR i).f q=oY:=fun i q e=>by subst e;unfold QR;cases Nat.beq i 0<;>cases Nat.beq i 1<;>cases Nat.beq i 2<;>rfl
  have b: ∀k i (q:Q1),q=QW->(QS k i).f q=oY:=fun k i q e=>by subst e;unfold QS;cases Nat.beq k 0<;>cases Nat.beq k 1<;>cases Nat.beq k 2<;>exact a _ _ rfl
  have d: ∀k i (q:Q2),q=QX->(QT k i).f q=oY:=fun k i q e=>by subst e;unfold QT;cases Nat.beq k 0<;>cases Nat.beq k 1<;>cases Nat.beq k 2<;>exact b _ _ _ rfl
  unfold QU;cases Nat.beq (t/64) 0<;>cases Nat.beq (t/64) 1<;>cases Nat.beq (t/64) 2<;>exact d _ _ _ rfl
 ·rw [RD h];exact gz.EF _
def aqr (m:Mp) (args:List ai) (n t:Nat):((⟨aW m args⟩:Array Value)++Array.replicate n undef).getD t undef=γ m (ig t (Gi args 0 Ao)):=by
 rw [Wl,Wm];simp only [bZ,if_true,oL,cM,gP];by_cases h:t<args.length
 ·simp [pD,h]
 ·simp [pD,h,oY,γ,aW,undef,iK]
  split<;>rfl
omit [aJ] in
def aqs {b:Bool} {x:VR} {v:ai} {h:aP} (e:cond b x .fail= .ok v h):b=true/\x= .ok v h:=by
 grind
def Wn (ok:eN P E) (N:IY P E) {cf:(FuncId->List ai->aP->VR)} (Y:tr P E cf):tr P E (fun f args h=>(K6 E f).f cf args h):=by
 intro f args h v M e;simp only [K6] at e;cases s:E.fns.get none (pos f) with
 |none=>rw [s] at e;cases e
 |some g=>
  rw [s] at e;simp only at e;cases q:g.body with
  |none=>rw [q] at e;cases e
  |some c=>
   rw [q] at e;simp only at e;replace e:=aqs e;obtain ⟨u,e⟩:=e;cases y:(gA E g.ntmps c).f cf (Gi args 0 Ao) ⟨h.t,h.nx,h.al,[]⟩ with
   |fail=>rw [y] at e;cases e
   |ok o p i=>
    rw [y] at e;simp only at e;have wQ:(o= .normal\/o= .ret)/\ ∃a l,IB i.df i=some a/\(xY E g.results.toList).f p a=some l/\v=Gh l/\M=⟨a.t,a.nx,a.al,h.df⟩:=by
     cases o with
     |exit id=>cases e
     |normal=>
      refine ⟨.inl rfl,?_⟩;cases j:IB i.df i with
      |none=>rw [j] at e;cases e
      |some a=>
       rw [j] at e;simp only at e;cases k:(xY E g.results.toList).f p a with
       |none=>rw [k] at e;cases e
       |some l=>simp_all
     |ret=>
      refine ⟨.inr rfl,?_⟩;cases j:IB i.df i with
      |none=>rw [j] at e;cases e
      |some a=>
       rw [j] at e;simp only at e;cases k:(xY E g.results.toList).f p a with
       |none=>rw [k] at e;cases e
       |some l=>simp_all
    obtain ⟨R,a,l,j,k,rfl,rfl⟩:=wQ;refine ⟨rfl,fun S m w U I Q=> ?_⟩;have C:args.length<=g.ntmps:=aZ u;refine abj (ok.fn f g s) q ?_;have D:=U.N8 [];have x:TR m ⟨h.t,h.nx,h.al,[]⟩ g.ntmps (Gi args 0 Ao) {tmps:=⟨aW m args⟩++Array.replicate (g.ntmps-(⟨aW m args⟩:Array Value).size) undef,defers:= []} :=by
     refine ⟨?_,fun t=>aqr m args _ t,fun t=> ?_,rfl,fun d O=>(by cases O)⟩
     ·grind
     ·rw [Wl,Wm]
      simp only [bZ,if_true,oL];cases T:args[t]? with
      |none=>exact trivial
      |some v=>exact VS I T
    refine Wi ok N Y g.ntmps c _ _ _ _ _ y S m _ w _ D x fun z H w1 F A J=> ?_
    obtain ⟨w2,X,G,B⟩:=ag7 (P:=P) i.df i a w1 F j;have W: ∀t,H.tmps.getD t undef=γ z (ig t p)/\In (aH a) (ig t p):=fun t=>⟨A.val t,rN B.old _ (A.ins t)⟩
    obtain ⟨Z,q2⟩:=ag6 ok G W k;refine ⟨by rcases R with rfl|rfl;exact .inl rfl;exact .inr rfl,i.df.map z.b,w2,_,?_,X,Z,z,rfl,G.N8 _,((Goes.trans D F J B).aqf).N8 _,q2⟩;rw [A.defs,kP];rfl
def ag8 (ok:eN P E) (a:IY P E): ∀n,tr P E (vB E n)
 |0=>fun f args h v b e=>by cases e
 |n+1=>Wn ok a (ag8 ok a n)
def Wo (P:Program) (G:gI) (F:List Fact) (hF: ∀f∈F,mZ f) (hL:N5 G):eN P (Env.sy P G F) where
 facts:=hF
 len:=hL
 ty:=fun t i h=>by
  simp only [Env.ty,Env.sy] at h;rw [gz.afN,aD,dL] at h;have hl:P.types.toList[t]? =some i:=by
   grind
  have bA:t<P.types.size:=by
   grind
  show (if t<P.types.size then P.types[t]? else _)=_
  all_goals grind
 fn:=fun f fn h=>by
  simp only [Env.sy] at h;rw [gz.afN,aD,dL] at h
  all_goals grind
 gt:=fun t h=>by
  simp only [Env.sy,aq,iX] at h;exact h
end
end
end Go.Ev
