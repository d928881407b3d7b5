/- refineFuel_proved. -/
import Derived.Test.YtnmpjdgobafdkaaGreatDoorPmag
import Derived.Laws.CopyRow
import Derived.ChangeKeysEq
import Derived.Lib.UnsafeStr
import Derived.Laws.Small
import Derived.Laws.StructEq
import Derived.Laws.IdiomMaps
import Derived.Laws.Strings
set_option maxRecDepth 100000
set_option maxHeartbeats 16000000
set_option linter.all false
noncomputable section
namespace Go.Ev
section
def beq_iff {a b:Nat} :Nat.beq a b=true↔a=b:=⟨bD,fun h=>h▸jA a⟩
def p7 {a b:Nat} :Nat.ble a b=true↔a<=b:=iff_of_eq Nat.ble_eq
def sw {a b:Nat} :Nat.blt a b=true↔a<b:=p7
def MR {a b:Nat} (h:a≠b):Nat.beq a b=false:=by cases e:Nat.beq a b with|false=>rfl|true=>simp_all
def ZN {a b:Nat} (h: ¬a<=b):Nat.ble a b=false:=by cases e:Nat.ble a b with|false=>rfl|true=>exact absurd (p7.1 e) h
def ZO {a b:Nat} (h: ¬a<b):Nat.blt a b=false:=ZN h
def Pos.n:Pos->Nat
 | .one=>1
 | .o p=>2*p.n
 | .i p=>2*p.n+1
def Pos.Hl: ∀p:Pos,p.succ.n=p.n+1
 | .one=>rfl
 | .o p=>by simp [Pos.succ,Pos.n]
 | .i p=>by simp [Pos.succ,Pos.n,Pos.Hl p];omega
def Pos.pH: ∀p q:Pos,p.gL q=true↔p=q:=by
 intro p
 induction p with
 |one=>intro q;cases q<;>simp [Pos.gL]
 |o p a=>intro q;cases q with
  |o q=>have:=a q;simp only [Pos.gL] at this⊢;simp [this]
  |_=>simp [Pos.gL]
 |i p a=>intro q;cases q with
  |i q=>have:=a q;simp only [Pos.gL] at this⊢;simp [this]
  |_=>simp [Pos.gL]
def Pos.anS: ∀f m:Nat,1<=m->m<=f->(Pos.ofM f m).n=m:=by
 intro f
 induction f with
 |zero=>intro m e g;omega
 |succ f p=>
  intro m e g;show (cond (Nat.ble m 1) Pos.one (cond (Nat.beq (Nat.mod m 2) 0) (.o (Pos.ofM f (Nat.div m 2))) (.i (Pos.ofM f (Nat.div m 2))))).n=m;have j:Nat.div m 2=m/2:=rfl;have l:Nat.mod m 2=m % 2:=rfl;rw [j,l];by_cases h:m<=1
  ·have:Nat.ble m 1=true:=p7.2 h
   rw [this];simp [Pos.n];omega
  ·have b:Nat.ble m 1=false:=ZN h
   have a:=p (m/2) (by omega) (by omega);rw [b];by_cases k:m % 2=0
   ·have:Nat.beq (m % 2) 0=true:=by rw [k];rfl
    rw [this];simp [Pos.n,a];omega
   ·have:Nat.beq (m % 2) 0=false:=by cases q:Nat.beq (m % 2) 0 with|false=>rfl|true=>simp_all
    rw [this];simp [Pos.n,a];omega
def aeT (k:Nat):(pos k).n=k+1:=Pos.anS (k+1) (k+1) (by omega) (by omega)
def aeU {a b:Nat} (h:pos a=pos b):a=b:=by have:=congrArg Pos.n h;simp only [aeT] at this;omega
namespace fX
variable {α:Type} {d:α}
def DY (p:Pos):fX.get d p .leaf=d:=by cases p<;>rfl
def anT (x:α): ∀(p:Pos) (t:fX α),fX.get d p (fX.set d x p t)=x:=by
 intro p
 induction p with
 |one=>intro t;cases t<;>rfl
 |o p a=>intro t;cases t with
  |leaf=>exact a .leaf
  |node l v r=>exact a l
 |i p a=>intro t;cases t with
  |leaf=>exact a .leaf
  |node l v r=>exact a r
def anU (x:α): ∀(p q:Pos) (t:fX α),p≠q->fX.get d q (fX.set d x p t)=fX.get d q t:=by
 intro p
 induction p with
 |one=>intro q t h;cases q with
  |one=>exact absurd rfl h
  |o q=>cases t with|leaf=>exact DY q|node l v r=>rfl
  |i q=>cases t with|leaf=>exact DY q|node l v r=>rfl
 |o p a=>intro q t h;cases q with
  |one=>cases t<;>rfl
  |o q=>cases t with
   |leaf=>exact (a q .leaf (fun e=>h (by rw [e]))).trans (DY q)
   |node l v r=>exact a q l (fun e=>h (by rw [e]))
  |i q=>cases t with|leaf=>exact DY q|node l v r=>rfl
 |i p a=>intro q t h;cases q with
  |one=>cases t<;>rfl
  |i q=>cases t with
   |leaf=>exact (a q .leaf (fun e=>h (by rw [e]))).trans (DY q)
   |node l v r=>exact a q r (fun e=>h (by rw [e]))
  |o q=>cases t with|leaf=>exact DY q|node l v r=>rfl
def DZ (x:α) (p q:Pos) (t:fX α):fX.get d q (fX.set d x p t)=if p=q then x else fX.get d q t:=by
 by_cases h:p=q
 ·subst h;simp [anT]
 ·simp [h,anU x p q t h]
def aeV: ∀(l:List α) (k:Nat) (t:fX α) (i:Nat),
 fX.get d (pos i) (PR d l k t)=if k<=i/\i<k+l.length then l.getD (i-k) d else fX.get d (pos i) t
 | [],k,t,i=>by simp only [PR,fo];split<;>first|omega|rfl
 |x::l,k,t,i=>by
  simp only [PR];rw [aeV l (k+1) _ i,DZ];by_cases a:i=k
  ·grind
  ·have b: ¬pos k=pos i:=fun e=>a (aeU e).symm
   all_goals grind
def aeW (l:List α) (i:Nat):fX.get d (pos i) (ofList d l)=l.getD i d:=by
 unfold ofList;rw [aeV];by_cases h:i<l.length
 ·simp [h]
 ·rw [if_neg (by omega),DY];simp [List.getD,bQ (dG h)]
end fX
def ZP: ∀(n:Nat) (l:List aj),nth n l=l[n]? :=by
 intro n;induction n with
 |zero=>intro l;cases l<;>rfl
 |succ n a=>intro l;cases l with
  |nil=>rfl
  |cons x l=>exact a l
def anV: ∀(n:Nat) (l:List UInt8),aeL n l=l[n]? :=by
 intro n;induction n with
 |zero=>intro l;cases l<;>rfl
 |succ n a=>intro l;cases l with
  |nil=>rfl
  |cons x l=>exact a l
def ZQ: ∀(n:Nat) (l:List aj),Uw n l=l.drop n:=by
 intro n;induction n with
 |zero=>intro l;rfl
 |succ n a=>intro l;cases l with
  |nil=>rfl
  |cons x l=>exact a l
def ZR: ∀(n:Nat) (l r:List aj),Hc n l=some r->n<=l.length/\r=l.take n:=by
 intro n;induction n with
 |zero=>intro l r h;cases h;simp
 |succ n b=>intro l r h;cases l with
  |nil=>cases h
  |cons x l=>
   change (Option.rec (motive:=fun _=>Option (List aj)) none (fun r=>some (x::r)) (Hc n l))=some r at h;cases a:Hc n l with
   |none=>rw [a] at h;cases h
   |some e=>
     rw [a] at h
     all_goals grind
def anW: ∀(a l r:List aj),Ux a l=some r->a.length<=l.length/\r=a++l.drop a.length:=by
 intro a;induction a with
 |nil=>intro l r h;cases h;simp
 |cons v a e=>intro l r h;cases l with
  |nil=>cases h
  |cons x l=>
   change (Option.rec (motive:=fun _=>Option (List aj)) none (fun r=>some (v::r)) (Ux a l))=some r at h;cases b:Ux a l with
   |none=>rw [b] at h;cases h
   |some f=>
     rw [b] at h
     all_goals grind
def aeX (vs:List aj): ∀(n:Nat) (l r:List aj),Hd vs n l=some r->n+vs.length<=l.length/\r=l.take n++(vs++l.drop (n+vs.length)):=by
 intro n;induction n with
 |zero=>intro l r h;obtain ⟨e,b⟩:=anW vs l r h;simp [b];omega
 |succ n f=>intro l r h;cases l with
  |nil=>cases h
  |cons x l=>
   change (Option.rec (motive:=fun _=>Option (List aj)) none (fun r=>some (x::r)) (Hd vs n l))=some r at h;cases a:Hd vs n l with
   |none=>rw [a] at h;cases h
   |some g=>
    rw [a] at h
    all_goals grind
def Qf: ∀x y:List aj,Cf x y=x++y:=by
 intro x y;induction x with
 |nil=>rfl
 |cons a x b=>show a::Cf x y=_;rw [b];rfl
def anX: ∀x y:List UInt8,UB x y=x++y:=by
 intro x y;induction x with
 |nil=>rfl
 |cons a x b=>show a::UB x y=_;rw [b];rfl
def Hm: ∀x y:List UInt8,DR x y=decide (x=y):=by
 intro x;induction x with
 |nil=>intro y;cases y<;>simp [DR]
 |cons a x f=>intro y;cases y with
  |nil=>simp [DR]
  |cons b y=>
   show cond (Nat.beq a.toNat b.toNat) (DR x y) false=_;rw [f];by_cases h:a=b
   ·subst h;simp
   ·have:Nat.beq a.toNat b.toNat=false:=by
     cases e:Nat.beq a.toNat b.toNat with
     |false=>rfl
     |true=>exact absurd (UInt8.toNat_inj.1 (bD e)) h
    rw [this];simp [h]
def US: ∀x y:List UInt8,MI x y=Op.bytesLess x y:=by
 intro x;induction x with
 |nil=>intro y;cases y<;>rfl
 |cons a x j=>intro y;cases y with
  |nil=>rfl
  |cons b y=>
   show cond (Nat.blt a.toNat b.toNat) true (cond (Nat.beq a.toNat b.toNat) (MI x y) false)=(decide (a<b)||(a==b&&Op.bytesLess x y));rw [j];by_cases h:a<b
   ·have f:a.toNat<b.toNat:=mX.1 h
    have:Nat.blt a.toNat b.toNat=true:=sw.2 f;rw [this];simp [h]
   ·have f: ¬a.toNat<b.toNat:=fun e=>h (mX.2 e)
    have:Nat.blt a.toNat b.toNat=false:=ZO f;rw [this];by_cases g:a=b
    ·subst g;simp [h]
    ·have:Nat.beq a.toNat b.toNat=false:=by
      cases i:Nat.beq a.toNat b.toNat with
      |false=>rfl
      |true=>exact absurd (UInt8.toNat_inj.1 (bD i)) g
     all_goals grind
def ZT (z:List aj): ∀n,Ci z n=(List.replicate n z).flatten:=by
 intro n;induction n with
 |zero=>rfl
 |succ n a=>show Cf z (Ci z n)=_;rw [Qf,a];simp [ot]
def yh {α:Type} (n:Nat) (k:Nat->α):sW n k=k n:=by cases n<;>rfl
def AW (a b:IntKind):nh a b=true↔a=b:=by cases a<;>cases b<;>decide
def AX (a b:Int):Fo a b=decide (a=b):=by
 cases a with
 |ofNat a=>cases b with
  |ofNat b=>
   show Nat.beq a b=_;by_cases h:a=b
   ·subst h;simp
   ·rw [MR h]
    all_goals grind
  |negSucc b=>symm;apply decide_eq_false;intro e;cases e
 |negSucc a=>cases b with
  |ofNat b=>symm;apply decide_eq_false;intro e;cases e
  |negSucc b=>
   show Nat.beq a b=_;by_cases h:a=b
   ·subst h;simp
   ·rw [MR h]
    all_goals grind
def Ka (a b:Bool):J5 a b=(a==b):=by cases a<;>cases b<;>rfl
def DN.pH {a b:DN} (h:a.gL b=true):a=b:=by
 cases a<;>cases b<;>simp [DN.gL] at h<;>simp [h]
mutual
theorem aj.pH: ∀a b:aj,aj.gL a b=true->a=b
 | .bool a,b,h=>by cases b<;>simp [aj.gL,Ka] at h;simp [h]
 | .int k a,b,h=>by cases b<;>simp [aj.gL,AX,AW] at h;simp [h]
 | .str a,b,h=>by cases b<;>simp [aj.gL,Hm] at h;simp [h]
 | .vM,b,h=>by cases b<;>simp [aj.gL] at h;rfl
 | .ptr n a,b,h=>by cases b<;>simp [aj.gL,Pos.pH] at h;simp [h]
 | .jP,b,h=>by cases b<;>simp [aj.gL] at h;rfl
 | .i7 n x y z,b,h=>by
  cases b<;>simp [aj.gL,Pos.pH] at h;have:=DN.pH h.2;simp [h,this]
 | .u4,b,h=>by cases b<;>simp [aj.gL] at h;rfl
 | .map n,b,h=>by cases b<;>simp [aj.gL,Pos.pH] at h;simp [h]
 | .func f x y,b,h=>by cases b<;>simp [aj.gL] at h
 | .nilFunc,b,h=>by cases b<;>simp [aj.gL] at h;rfl
 | .iface t v,b,h=>by cases b<;>simp [aj.gL] at h
 | .nilIface,b,h=>by cases b<;>simp [aj.gL] at h;rfl
 | .agg x,b,h=>by cases b<;>simp [aj.gL] at h;rw [aj.ZU _ _ h]
 | .fh x,b,h=>by cases b<;>simp [aj.gL] at h;rw [aj.ZU _ _ h]
 | .x9 v,b,h=>by cases b<;>simp [aj.gL] at h
 | .sym i,b,h=>by cases b<;>simp [aj.gL] at h;simp [h]
 | .atom n,b,h=>by cases b<;>simp [aj.gL,Pos.pH] at h;simp [h]
 | .Ce n,b,h=>by cases b<;>simp [aj.gL] at h
theorem aj.ZU: ∀a b:List aj,aj.J6 a b=true->a=b
 | [],b,h=>by cases b<;>simp [aj.J6] at h;rfl
 |a::x,b,h=>by
  cases b with
  |nil=>simp [aj.J6] at h
  |cons b y=>simp [aj.J6] at h;rw [aj.pH a b h.1,aj.ZU x y h.2]
end
end
section
structure u9 where
 v:Value
 one:v.oneCell'=true
instance:Inhabited u9:=⟨⟨.nilFunc,rfl⟩⟩
class aJ where
 ρ:Nat->u9
variable [aJ]
structure Cv where
 n:Nat
 v:u9
structure Mp where
 b:Pos->Nat
 cv:Pos->Cv
def Mp.c (m:Mp) (n:Pos):Nat:=(m.cv n).n
def Mp.v (m:Mp) (n:Pos):u9:=(m.cv n).v
def Mp.set (m:Mp) (n:Pos) (blk cap:Nat):Mp:=⟨fun k=>if k=n then blk else m.b k,fun k=>if k=n then ⟨cap,default⟩ else m.cv k⟩
mutual
def γ (m:Mp):aj->Value
 | .int k n=> .int k n
 | .bool b=> .bool b
 | .ptr n off=> .pointer (some ⟨m.b n,off,none⟩)
 | .i7 n off len (.exact c)=> .slice (some ⟨m.b n,off,none⟩) len c
 | .i7 n off len (.rest d)=> .slice (some ⟨m.b n,off,none⟩) len (m.c n-d)
 | .str s=> .string ⟨⟨s⟩⟩
 | .agg l=> .agg ⟨aV m l⟩
 | .fh l=> .tuple ⟨aV m l⟩
 | .vM=> .pointer none
 | .jP=> .slice none 0 0
 | .u4=> .map none
 | .map n=> .map (some (m.b n))
 | .func a x y=> .func a ⟨aV m x⟩ ⟨aV m y⟩
 | .nilFunc=> .nilFunc
 | .iface t v=> .iface t (γ m v)
 | .nilIface=> .nilIface
 | .Ce n=> .func (.yield (m.b n)) #[] #[]
 | .x9 v=>v
 | .sym i=>(aJ.ρ i).v
 | .atom n=>(m.v n).v
def aV (m:Mp):List aj->List Value
 | []=> []
 |v::l=>γ m v::aV m l
end
def oZ (m:Mp): ∀l,aV m l=l.map (γ m)
 | []=>rfl
 |v::l=>by simp [aV,oZ m l]
def oJ (m:Mp) (l:List aj):(aV m l).length=l.length:=by simp [oZ]
def FC (m:Mp) (a b:List aj):aV m (a++b)=aV m a++aV m b:=by simp [oZ]
mutual
def In (D:Pos->Prop):aj->Prop
 | .ptr n _=>D n
 | .i7 n _ _ _=>D n
 | .map n=>D n
 | .Ce n=>D n
 | .atom n=>D n
 | .agg l=>i9 D l
 | .fh l=>i9 D l
 | .func _ x y=>i9 D x/\i9 D y
 | .iface _ v=>In D v
 | .x9 v=>v.oneCell'=true
 | .int _ _| .bool _| .str _| .vM| .jP| .u4| .nilFunc| .nilIface| .sym _=>True
def i9 (D:Pos->Prop):List aj->Prop
 | []=>True
 |v::l=>In D v/\i9 D l
end
omit [aJ] in
def mn {D:Pos->Prop} : ∀l,i9 D l↔ ∀v∈l,In D v
 | []=>by simp [i9]
 |v::l=>by simp [i9,mn l]
mutual
theorem D1 {D:Pos->Prop} {m e:Mp} (h: ∀n,D n->e.b n=m.b n/\e.cv n=m.cv n): ∀v,In D v->γ e v=γ m v
 | .ptr n _,a=>by simp [γ,(h n a).1]
 | .i7 n _ _ (.exact _),a=>by simp [γ,(h n a).1]
 | .i7 n _ _ (.rest _),a=>by simp [γ,Mp.c,(h n a).1,(h n a).2]
 | .atom n,a=>by simp [γ,Mp.v,(h n a).2]
 | .map n,a=>by simp [γ,(h n a).1]
 | .Ce n,a=>by simp [γ,(h n a).1]
 | .agg l,a=>by simp only [γ];rw [AY h l a]
 | .fh l,a=>by simp only [γ];rw [AY h l a]
 | .func _ x y,a=>by simp only [γ];rw [AY h x a.1,AY h y a.2]
 | .iface _ v,a=>by simp only [γ];rw [D1 h v a]
 | .int _ _,_| .bool _,_| .str _,_| .vM,_| .jP,_| .u4,_| .nilFunc,_| .nilIface,_| .x9 _,_| .sym _,_=>rfl
theorem AY {D:Pos->Prop} {m e:Mp} (h: ∀n,D n->e.b n=m.b n/\e.cv n=m.cv n): ∀l,i9 D l->aV e l=aV m l
 | [],_=>rfl
 |v::l,a=>by simp only [aV];rw [D1 h v a.1,AY h l a.2]
end
omit [aJ] in
mutual
theorem rD {D b:Pos->Prop} (h: ∀n,D n->b n): ∀v,In D v->In b v
 | .x9 _,a=>a
 | .ptr n _,a=>h n a
 | .i7 n _ _ _,a=>h n a
 | .map n,a=>h n a
 | .Ce n,a=>h n a
 | .atom n,a=>h n a
 | .agg l,a=>Ck h l a
 | .fh l,a=>Ck h l a
 | .func _ x y,a=>⟨Ck h x a.1,Ck h y a.2⟩
 | .iface _ v,a=>rD h v a
 | .int _ _,_| .bool _,_| .str _,_| .vM,_| .jP,_| .u4,_| .nilFunc,_| .nilIface,_| .sym _,_=>trivial
theorem Ck {D b:Pos->Prop} (h: ∀n,D n->b n): ∀l,i9 D l->i9 b l
 | [],_=>trivial
 |v::l,a=>⟨rD h v a.1,Ck h l a.2⟩
end
mutual
theorem FD (m:Mp): ∀v:Value,γ m (aj.ofValue v)=v:=by
 intro v;unfold aj.ofValue;split<;>simp only [γ]
 ·rw [ZV]
 ·rw [ZV]
theorem ZV (m:Mp): ∀l:List Value,aV m (aj.ofValues l)=l
 | []=>rfl
 |v::l=>by simp only [aj.ofValues,aV];rw [FD m v,ZV m l]
end
omit [aJ] in
mutual
theorem zJ (D:Pos->Prop): ∀v:Value,In D (aj.ofValue v):=by
 intro v;unfold aj.ofValue;split<;>simp only [In]
 ·exact ZW D _
 ·exact ZW D _
 ·rename_i a b
  cases v with
  |agg c=>exact (a c.toList rfl).elim
  |tuple c=>exact (b c.toList rfl).elim
  |_=>rfl
theorem ZW (D:Pos->Prop): ∀l:List Value,i9 D (aj.ofValues l)
 | []=>trivial
 |v::l=>⟨zJ D v,ZW D l⟩
end
omit [aJ] in
def aeY {v:Value} (h:v.oneCell'=true):v.cells=⟨[v]⟩:=by cases v<;>first|rfl|cases h
def Hn {D:Pos->Prop} (m:Mp) {v:aj} (h:In D v):(γ m v).cells=⟨aV m v.cells⟩:=by
 cases v<;>try rfl
 ·rename_i n o l c;cases c<;>rfl
 ·rename_i u;cases u<;>first|rfl|cases h
 ·exact aeY (aJ.ρ _).one
 ·exact aeY (m.v _).one
omit [aJ] in
def Ho {D:Pos->Prop} {v:aj} (h:In D v):i9 D v.cells:=by
 cases v<;>first|exact h|exact ⟨h,trivial⟩
end
section
variable [aJ] {S:Nat->Prop}
def aF (h:aP) (n:Pos):Prop:=(h.at n).obj≠ .free
@[simp] def jG.pI:jG->Bool
 | .free=>false
 | .ga _=>false
 |_=>true
def bk (h:aP) (n:Pos):Prop:=(h.at n).obj.pI=true
omit [aJ] in
def bk.aF {h:aP} {n:Pos} (b:bk h n):aF h n:=fun e=>by unfold bk at b;rw [e] at b;cases b
omit [aJ] in
def anY {o:jG} (h:o.pI=true):o≠ .free:=fun e=>by rw [e] at h;cases h
omit [aJ] in
def MS {h:aP} {n:Pos} {o:jG} (b:(h.at n).obj=o) (a:o.pI=true):bk h n:=by unfold bk;rw [b];exact a
omit [aJ] in
def ZX {h:aP} {n:Pos} (d:aF h n):bk h n\/ ∃id,(h.at n).obj= .ga id:=by
 unfold bk;unfold aF at d;cases a:(h.at n).obj<;>first|exact absurd a d|exact .inr ⟨_,rfl⟩|exact .inl rfl
def js (m:Mp) (e:lK):MapEntry:= {key:=γ m e.key,val:=γ m e.val,born:=e.born}
def vb (m:Mp) (n:Pos):jG->Obj->Prop
 | .free,_=>True
 | .cells l e s,o=> ∃a f,o= .cells ⟨aV m l++a⟩ e f/\(aV m l++a).length=m.c n*s/\ ∀j,j<(aV m l++a).length-> ¬(f.1<=j/\j<f.2)
 | .map q i,o=>o= .map ⟨q.map (js m)⟩ i
 | .sit s p,o=>o= .stringIter ⟨⟨s⟩⟩ p
 | .xc none _ _ _,o=>o= .mapIter none 0 #[] 0
 | .xc (some k) s l t,o=>o= .mapIter (some (m.b k)) s ⟨l⟩ t
 | .J7,o=> ∃g:Loop,o= .loop g/\g.state= .ready/\g.pending=none
 | .uf,o=>o= .deferred (some [])
 | .other,_=>True
 | .ga _,_=>True
def zK (D:Pos->Prop):jG->Prop
 | .cells l _ _=>i9 D l
 | .map a _=> ∀e∈a,In D e.key/\In D e.val
 | .xc (some k) _ _ _=>D k
 |_=>True
omit [aJ] in
def yi {D a:Pos->Prop} (h: ∀n,D n->a n) {ob:jG} (hi:zK D ob):zK a ob:=by
 cases ob with
 |cells l _ _=>exact Ck h l hi
 |map f _=>exact fun e b=>⟨rD h _ (hi e b).1,rD h _ (hi e b).2⟩
 |xc o _ _ _=>cases o with
  |none=>trivial
  |some k=>exact h k hi
 |_=>trivial
def Kb {D:Pos->Prop} {m a:Mp} {n:Pos} {ob:jG} {o:Obj} (h: ∀n,D n->a.b n=m.b n/\a.cv n=m.cv n) (hi:zK D ob) (hc:a.cv n=m.cv n)
 (f:vb m n ob o):vb a n ob o:=by
 cases ob with
 |cells l e s=>
  obtain ⟨g,q,i,u,x⟩:=f;exact ⟨g,q,by rw [AY h l hi];exact i,by rw [AY h l hi,Mp.c,hc];exact u,by rw [AY h l hi];exact x⟩
 |map j y=>
  show o=_;rw [show j.map (js a)=j.map (js m) from dy fun e p=>by simp only [js];rw [D1 h _ (hi e p).1,D1 h _ (hi e p).2]];exact f
 |xc k s l t=>cases k with
  |none=>exact f
  |some k=>
   have i:o= .mapIter (some (m.b k)) s ⟨l⟩ t:=f;show o= .mapIter (some (a.b k)) s ⟨l⟩ t;rw [(h k hi).1];exact i
 |_=>exact f
def anZ {m:Mp} {n:Pos} {l:List aj} {e s:Nat} {o:Obj} (k:Nat) (j:vb m n (.cells l e s) o):vb m n (.cells (l.take k) e s) o:=by
 obtain ⟨a,b,f,g,i⟩:=j;have:aV m (l.take k)++(aV m (l.drop k)++a)=aV m l++a:=by rw [<-dR,<-FC,eZ]
 exact ⟨aV m (l.drop k)++a,b,by rw [this];exact f,by rw [this];exact g,by rw [this];exact i⟩
def jG.Qg:jG->Bool
 | .cells .. =>true
 | .other=>true
 |_=>false
structure bR (G:gb) (S:Nat->Prop) (m:Mp) (h:aP) (w:World):Prop where
 blk: ∀n,bk h n-> ∃o,w.heap[m.b n]? =some o/\vb m n (h.at n).obj o
 fresh: ∀n,aF h n->n.n<h.nx.n
 apart: ∀n k,bk h n->bk h k->(h.at n).rt≠(h.at k).rt->m.b n≠m.b k
 mem: ∀n k,aF h n->aF h k->(h.at n).rt=(h.at k).rt->n≠k->n∈h.al.get [] (h.at n).rt/\(h.at n).obj.Qg=true
 mq: ∀n,aF h n->(h.at n).rt.n<h.nx.n/\aF h (h.at n).rt
 ins: ∀n,zK (aF h) (h.at n).obj
 qF: ∀g l,G.g g=some l->(∃rest e fz,w.heap[g]? =some (.cells ⟨l++rest⟩ e fz))/\ ∀n,bk h n->m.b n≠g
 jf: ∀n id,(h.at n).obj= .ga id-> ∀w',(∀b,b<w.heap.size-> ¬S b->(∀k,bk h k->m.b k≠b)->w'.heap[b]? =w.heap[b]?)->G.jf id w' (m.v n).v
 lim: ∀b,S b->b<w.heap.size
omit [aJ] in
def UT {G:gb} {m i:Mp} {h h':aP} {w w':World} (o: ∀g l,G.g g=some l->(∃a e f,w.heap[g]? =some (.cells ⟨l++a⟩ e f))/\ ∀n,bk h n->m.b n≠g)
 (j: ∀b,b<w.heap.size->(∀n,bk h n->m.b n≠b)->w'.heap[b]? =w.heap[b]?) (p: ∀n,bk h' n->(∃k,bk h k/\i.b n=m.b k)\/w.heap.size<=i.b n):
 ∀g l,G.g g=some l->(∃a e f,w'.heap[g]? =some (.cells ⟨l++a⟩ e f))/\ ∀n,bk h' n->i.b n≠g:=fun g l q=>by
 grind
structure Goes (m:Mp) (h:aP) (w:World) (m':Mp) (h':aP) (w':World):Prop where
 tape:w'.tape=w.tape
 os:w'.os=w.os
 output:w'.output=w.output
 size:w.heap.size<=w'.heap.size
 xj: ∀b,b<w.heap.size->(∀n,bk h n->m.b n≠b)->w'.heap[b]? =w.heap[b]?
 agree: ∀n,n.n<h.nx.n->m'.b n=m.b n/\m'.cv n=m.cv n
 nx:h.nx.n<=h'.nx.n
 FF: ∀n,aF h' n->aF h n\/h.nx.n<=n.n
 yj: ∀n,bk h' n-> ¬bk h n->w.heap.size<=m'.b n\/ ∃k,bk h k/\m.b k=m'.b n
 old: ∀n,aF h n->aF h' n
 bold: ∀n,bk h n->bk h' n
 Hp: ∀n id,(h.at n).obj= .ga id->(h'.at n).obj= .ga id
omit [aJ] in
def Goes.refl (m:Mp) (h:aP) (w:World):Goes m h w m h w:=
 ⟨rfl,rfl,rfl,aq _,fun _ _ _=>rfl,fun _ _=>⟨rfl,rfl⟩,aq _,fun _ h=> .inl h,fun _ h a=>absurd h a,fun _ h=>h,fun _ h=>h,fun _ _ h=>h⟩
def Goes.trans {G:gb} {S':Nat->Prop} {m m1 m2:Mp} {h g h2:aP} {w w1 w2:World} (r:bR G S m h w) (r1:bR G S' m1 g w1) (a:Goes m h w m1 g w1) (b:Goes m1 g w1 m2 h2 w2):Goes m h w m2 h2 w2 where
 tape:=b.tape.trans a.tape
 os:=b.os.trans a.os
 output:=b.output.trans a.output
 size:=aK a.size b.size
 xj:=fun x hx hn=>by
  rw [b.xj x (az hx a.size) (fun n hd=> ?_),a.xj x hx hn];by_cases xZ:bk h n
  ·rw [(a.agree n (r.fresh n xZ.aF)).1];exact hn n xZ
  ·rcases a.yj n hd xZ with h3|⟨k,hk,he⟩
   all_goals grind
 agree:=fun n hn=>by
  have e1:=a.agree n hn;have e2:=b.agree n (az hn a.nx)
  all_goals grind
 nx:=aK a.nx b.nx
 FF:=fun n hd=>by
  rcases b.FF n hd with e1|e1
  ·exact a.FF n e1
  ·exact .inr (aK a.nx e1)
 yj:=fun n hd hn=>by
  by_cases e1:bk g n
  ·rw [(b.agree n (r1.fresh n e1.aF)).1];exact a.yj n e1 hn
  ·rcases b.yj n hd e1 with h3|⟨k,hk,he⟩
   ·exact .inl (aK a.size h3)
   ·by_cases jx:bk h k
    ·exact .inr ⟨k,jx,by rw [<-he,(a.agree k (r.fresh k jx.aF)).1]⟩
    ·rcases a.yj k hk jx with h4|⟨j,hj,MA⟩
     all_goals grind
 old:=fun n hd=>b.old n (a.old n hd)
 bold:=fun n hd=>b.bold n (a.bold n hd)
 Hp:=fun n id hd=>b.Hp n id (a.Hp n id hd)
def UU {G:gb} {m a:Mp} {h h':aP} {w w':World} (r:bR G S m h w) (g:Goes m h w a h' w') (t: ∀n id,(h'.at n).obj= .ga id->(h.at n).obj= .ga id):
 ∀n id,(h'.at n).obj= .ga id-> ∀f,(∀b,b<w'.heap.size-> ¬S b->(∀k,bk h' k->a.b k≠b)->f.heap[b]? =w'.heap[b]?)->G.jf id f (a.v n).v:=fun n id s f x=>by
 have y:=t n id s;have q:aF h n:=fun e=>by simp_all
 have z:a.v n=m.v n:=by unfold Mp.v;rw [(g.agree n (r.fresh n q)).2]
 rw [z];refine r.jf n id y f fun b i p l=> ?_
 rw [x b (az i g.size) p fun k u=> ?_,g.xj b i l];by_cases e:bk h k
 ·rw [(g.agree k (r.fresh k e.aF)).1];exact l k e
 ·rcases g.yj k u e with o|⟨j,A,o⟩
  all_goals grind
omit [aJ] in
def UW {R:Type} {o:jG} {k:List aj->TypeId->Nat->Option R} {r:R} (h:cellsOf o none k=some r): ∃l e s,o= .cells l e s/\k l e s=some r:=by
 cases o<;>first|cases h|exact ⟨_,_,_,rfl,h⟩
section
variable {G:gb} {m:Mp} {h:aP} {w:World}
def bR.cells (r:bR G S m h w) {n:Pos} {l:List aj} {e s:Nat} (p:(h.at n).obj= .cells l e s):
 aF h n/\i9 (aF h) l/\ ∃a f,w.heap[m.b n]? =some (.cells ⟨aV m l++a⟩ e f)/\(aV m l++a).length=m.c n*s/\ ∀j,j<(aV m l++a).length-> ¬(f.1<=j/\j<f.2):=by
 have i:bk h n:=by unfold bk;rw [p];rfl
 have x:=i.aF;obtain ⟨o,q,g⟩:=r.blk n i;have k:=r.ins n;rw [p] at g k;obtain ⟨a,f,rfl,t,u⟩:=g;exact ⟨x,k,a,f,q,t,u⟩
def bR.cell (r:bR G S m h w) {n:Pos} {l:List aj} {e s:Nat} (k:(h.at n).obj= .cells l e s) {j:Nat} {v:aj} (i:l[j]? =some v):
 w.cell? ⟨m.b n,j,none⟩=some (γ m v):=by
 obtain ⟨_,_,a,o,g,_,_⟩:=r.cells k;obtain ⟨f,rfl⟩:=fg.1 i;simp only [World.cell?,g];simp [oZ,nL,f]
omit [aJ] in
def UX {D:Pos->Prop} {l:List aj} (h:i9 D l) {j:Nat} {v:aj} (a:l[j]? =some v):In D v:=(mn l).1 h v (nM a)
def bR.Uy (r:bR G S m h w) {n:Pos} {off:Nat} {v:aj} (g:h.Uy n off=some v):w.cell? ⟨m.b n,off,none⟩=some (γ m v)/\In (aF h) v:=by
 obtain ⟨l,e,s,f,a⟩:=UW g;rw [ZP] at a;exact ⟨r.cell f a,UX (r.cells f).2.1 a⟩
omit [aJ] in
def FG (b o j:Nat):(⟨b,o,none⟩:Addr).add j=⟨b,o+j,none⟩:=by unfold Addr.add;split<;>simp_all
def bR.u5 (r:bR G S m h w) {n:Pos} {off k:Nat} {l:List aj} (t:h.u5 n off k=some l):
 l.length=k/\i9 (aF h) l/\ ∀j v,(aV m l)[j]? =some v->w.cell? ((⟨m.b n,off,none⟩:Addr).add j)=some v:=by
 obtain ⟨x,e,s,g,f⟩:=UW t;rw [ZQ] at f;obtain ⟨p,rfl⟩:=ZR _ _ _ f;have q:=(r.cells g).2.1;refine ⟨by simp at p⊢;omega,(mn _).2 fun v y=>(mn _).1 q v (gY (dr y)),fun j v a=> ?_⟩;rw [FG];rw [oZ,dA] at a;cases i:((x.drop off).take k)[j]? with
 |none=>simp [i] at a
 |some u=>
  simp [i] at a;subst a;have o:x[off+j]? =some u:=by
   grind
  exact r.cell g o
def bR.Qh (r:bR G S m h w) {P:Program} {n:Pos} {off k:Nat} {l:List aj} (f:h.u5 n off k=some l):
 (loadCells ⟨m.b n,off,none⟩ k).run P w= .ok ⟨aV m l⟩ w:=by
 obtain ⟨a,_,e⟩:=r.u5 f;have:=run_loadCells_list (P:=P) w ⟨m.b n,off,none⟩ (aV m l) e;rw [oJ,a] at this;rw [this]
end
def aeZ: ∀(m:Mp) (l:List aj),MG l=true-> ∀v∈aV m l,v.oneCell'=true:=by
 intro m l
 induction l with
 |nil=>intro _ v a;cases a
 |cons x l f=>
  intro h v a;have b:cond (Uz x) (MG l) false=true:=h;cases e:Uz x with
  |false=>rw [e] at b;cases b
  |true=>
   rw [e] at b;simp only [aV,bu] at a;rcases a with rfl|a
   ·cases x<;>first|(simp [Uz] at e;done)|rfl|exact (aJ.ρ _).one|exact (m.v _).one|skip
    rename_i c;cases c<;>rfl
   ·exact f b v a
omit [aJ] in
def ZY (P:Program) (g o:Nat) (t:TypeId) (f:Nat×Nat): ∀(l:List Value) (i:Nat) (cur:Array Value) (w:World),w.heap[g]? =some (.cells cur t f)->(∀j,j<cur.size-> ¬(f.1<=j/\j<f.2))->o+i+l.length<=cur.size->(∀v∈l,v.oneCell'=true)->
 (storeCells ⟨g,o,none⟩ l i).run P w= .ok () (w.setRow g (cur.toList.take (o+i)++l++cur.toList.drop (o+i+l.length)).toArray)
 | [],i,cur,w,k,_,_,_=>by
  simp only [storeCells,fU,fo,dt,eZ,Array.toArray_toList];rw [setRow_self w g cur t f k];rfl
 |v::a,i,cur,w,k,s,q,u=>by
  have y:o+i<cur.size:=by simp at q;omega
  have b:w.cell? ⟨g,o+i,none⟩=some cur[o+i]:=by simp [World.cell?,k,y]
  have p:w.frozen? ⟨g,o+i,none⟩=false:=by
   have:=s (o+i) y;simp only [World.frozen?,k,mY,decide_eq_false_iff_not];omega
  have z:(store ((⟨g,o,none⟩:Addr).add i) v).run P w= .ok () (w.setRow g (cur.setIfInBounds (o+i) v)):=by
   rw [FG,run_store P w _ v _ (u v (by simp)),b];simp [p,setCell_eq_setRow w g (o+i) cur t f v k]
  have B:=ZY P g o t f a (i+1) (cur.setIfInBounds (o+i) v) (w.setRow g (cur.setIfInBounds (o+i) v)) (setRow_heap w g cur _ t _ k) (by simpa using s) (by simp at q⊢;omega) (fun x A=>u x (by simp [A]));simp only [storeCells,aI,z,aB,B,setRow_setRow];congr 3;have e:=list_seg_step cur.toList (o+i) v a (by simp at q⊢;omega)
  all_goals grind
omit [aJ] in
def Qi (off:Nat) (a:Pos): ∀(l:List Pos) (t:fX Cell) (k:Pos),
 ((forget off a l t).get noCell k).rt=(t.get noCell k).rt/\
 (((forget off a l t).get noCell k).obj=(t.get noCell k).obj\/ ∃x e s,(t.get noCell k).obj= .cells x e s/\((forget off a l t).get noCell k).obj= .cells (x.take off) e s)/\
 (k∈l->k≠a-> ∀x e s,(t.get noCell k).obj= .cells x e s->((forget off a l t).get noCell k).obj= .cells (x.take off) e s)/\
 (k=a->((forget off a l t).get noCell k).obj=(t.get noCell k).obj)
 | [],t,k=>⟨rfl,.inl rfl,fun h=>(by cases h),fun _=>rfl⟩
 |q::l,t,k=>by
  simp only [forget];cases j:q.gL a with
  |true=>
   have o:=(Pos.pH _ _).1 j;obtain ⟨b,f,g,i⟩:=Qi off a l t k
   all_goals grind
  |false=>
   have o:q≠a:=fun e=>by rw [(Pos.pH _ _).2 e] at j;cases j
   simp only [cond_false];cases p:(t.get noCell q).obj with
   |cells x e s=>
    obtain ⟨b,f,g,i⟩:=Qi off a l (t.set noCell ⟨.cells (x.take off) e s,(t.get noCell q).rt⟩ q) k;simp only [cellsOf];rw [fX.DZ] at b f g i
    all_goals grind
   |_=>
    obtain ⟨b,f,g,i⟩:=Qi off a l t k;simp only [cellsOf]
    all_goals grind
end
section
variable [aJ] {S:Nat->Prop}
omit [aJ] in
def ae0 {α:Type} (A vs:List α) (off t:Nat) (h:off+vs.length<=A.length) (a:t<=off):(A.take off++(vs++A.drop (off+vs.length))).take t=A.take t:=by
 grind
omit [aJ] in
def ae1 {α:Type} (A vs:List α) (off:Nat) (h:off+vs.length<=A.length):(A.take off++(vs++A.drop (off+vs.length))).length=A.length:=by
 simp;omega
def an1 {m:Mp} {k:Pos} {l:List aj} {e s:TypeId} {A b:List Value} {i:TypeId} {g:Nat×Nat} {off:Nat}
 (x:vb m k (.cells l e s) (.cells ⟨A⟩ i g)) (a:b.length=A.length) (y: ∀t,t<=off->b.take t=A.take t):
 vb m k (.cells (l.take off) e s) (.cells ⟨b⟩ i g):=by
 obtain ⟨o,p,j,q,u⟩:=x;simp only [Obj.cells.injEq,Array.mk.injEq] at j;obtain ⟨rfl,rfl,rfl⟩:=j;have B:(aV m (l.take off)).length=min off l.length:=by simp [oJ]
 have z:aV m (l.take off)=b.take (min off l.length):=by
  rw [y _ (Nat.min_le_left _ _),fC (by rw [oJ];exact Nat.min_le_right _ _),oZ,oZ,<-gD]
  all_goals grind
 have f:aV m (l.take off)++b.drop (min off l.length)=b:=by simp_all
 exact ⟨b.drop (min off l.length),g,by rw [f],by rw [f,a];exact q,by rw [f,a];exact u⟩
section
variable {G:gb} {m:Mp} {h:aP} {w:World}
def bR.wrote (r:bR G S m h w) {n:Pos} {x y:List aj} {e s:TypeId} {off:Nat} {vs:List Value} {f:List Value} {M:Nat×Nat} {h':aP}
 (ho:(h.at n).obj= .cells x e s) (hh:w.heap[m.b n]? =some (.cells ⟨aV m x++f⟩ e M)) (hc:(aV m x++f).length=m.c n*s)
 (hf: ∀j,j<(aV m x++f).length-> ¬(M.1<=j/\j<M.2))
 (H:off+vs.length<=(aV m x++f).length)
 (hy: ∃Y,aV m y++Y=(aV m x++f).take off++(vs++(aV m x++f).drop (off+vs.length))) (bz:i9 (aF h) y)
 (Q:(h'.at n)=⟨.cells y e s,(h.at n).rt⟩)
 (R: ∀k,k≠n->(h'.at k).rt=(h.at k).rt/\((h'.at k).obj=(h.at k).obj\/ ∃x e s,(h.at k).obj= .cells x e s/\(h'.at k).obj= .cells (x.take off) e s))
 (h3: ∀k,k≠n->aF h k->(h.at k).rt=(h.at n).rt-> ∀x e s,(h.at k).obj= .cells x e s->(h'.at k).obj= .cells (x.take off) e s)
 (jz:h'.nx=h.nx) (o7:h'.al=h.al):
 let J:=w.setRow (m.b n) ((aV m x++f).take off++(vs++(aV m x++f).drop (off+vs.length))).toArray
 bR G S m h' J/\Goes m h w m h' J/\ ∀k,aF h' k↔aF h k:=by
 intro J;have W:bk h n:=by unfold bk;rw [ho];rfl
 have mU:aF h n:=W.aF;have N: ∀k,bk h' k↔bk h k:=fun k=>by
  by_cases i:k=n
  ·subst i;unfold bk;rw [Q,ho];exact ⟨fun _=>rfl,fun _=>rfl⟩
  ·unfold bk
   rcases (R k i).2 with p|⟨x,e,s,p,C⟩
   ·rw [p]
   ·simp_all
 have Ke: ∀k id,(h'.at k).obj= .ga id↔(h.at k).obj= .ga id:=fun k id=>by
  by_cases i:k=n
  all_goals grind
 have B: ∀k,aF h' k↔aF h k:=fun k=>by
  by_cases i:k=n
  ·subst i;unfold aF;rw [Q,ho];simp
  ·unfold aF
   all_goals grind
 have O: ∀k,(h'.at k).rt=(h.at k).rt:=fun k=>by
  grind
 have AZ:J.heap[m.b n]? =some (.cells ((aV m x++f).take off++(vs++(aV m x++f).drop (off+vs.length))).toArray e M):=setRow_heap w _ _ _ e M hh;have X: ∀b,b≠m.b n->J.heap[b]? =w.heap[b]? :=fun b F=>setRow_other w _ b _ F
 have g:Goes m h w m h' J:=⟨rfl,rfl,rfl,by simp [J],fun b _ T=>X b (fun e=>T n W e.symm),fun _ _=>⟨rfl,rfl⟩,by simp_all,fun k i=> .inl ((B k).1 i),fun k i i5=>absurd ((N k).1 i) i5,fun k i=>(B k).2 i,fun k i=>(N k).2 i,fun k id i=>(Ke k id).2 i⟩;refine ⟨⟨fun k i=> ?_,fun k i=> ?_,fun a b Z F u=> ?_,fun a b Z F he u=> ?_,fun k i=> ?_,fun k=> ?_,?_,UU r g fun k id i=>(Ke k id).1 i,fun b F=>az (r.lim b F) g.size⟩,g,B⟩
 ·have I:=(N k).1 i
  by_cases A:k=n
  ·subst A
   refine ⟨_,AZ,?_⟩;rw [Q];obtain ⟨Y,hr⟩:=hy;have hl:=ae1 (aV m x++f) vs off H;exact ⟨Y,M,by rw [hr],by rw [hr,hl];exact hc,by rw [hr,hl];exact hf⟩
  ·obtain ⟨o,U,l⟩:=r.blk k I
   by_cases jU:m.b k=m.b n
   ·have Kf:(h.at k).rt=(h.at n).rt:=by
     cases oM ((h.at k).rt=(h.at n).rt) with
     |inl h=>exact h
     |inr u=>exact absurd jU (r.apart k n I W u)
    rw [jU] at U⊢;rw [hh] at U;cases U;refine ⟨_,AZ,?_⟩;cases z:(h.at k).obj with
    |cells xk ek sk=>
     rw [h3 k A I.aF Kf xk ek sk z];rw [z] at l;exact an1 l (ae1 _ vs off H) (fun t ht=>ae0 _ vs off t H ht)
    |other=>
     rcases (R k A).2 with p|⟨x,e,s,p,C⟩
     ·rw [p,z];trivial
     ·rw [z] at p;cases p
    |free=>exact absurd z I.aF
    |ga id=>unfold bk at I;rw [z] at I;cases I
    |map es cl=>rw [z] at l;cases l
    |sit _ _=>rw [z] at l;cases l
    |xc o _ _ _=>cases o with
     |none=>rw [z] at l;cases l
     |some q=>rw [z] at l;cases l
    |J7=>rw [z] at l;obtain ⟨_,l,_⟩:=l;cases l
    |uf=>rw [z] at l;cases l
   ·refine ⟨o,by rw [X _ jU];exact U,?_⟩
    rcases (R k A).2 with p|⟨x,e,s,p,C⟩
    ·rw [p];exact l
    ·rw [C];rw [p] at l;exact anZ off l
 ·rw [jz];exact r.fresh k ((B k).1 i)
 ·rw [O,O] at u;exact r.apart a b ((N a).1 Z) ((N b).1 F) u
 ·rw [O,O] at he;rw [O,o7]
  obtain ⟨e1,e2⟩:=r.mem a b ((B a).1 Z) ((B b).1 F) he u;refine ⟨e1,?_⟩;by_cases A:a=n
  ·subst A;rw [Q];rfl
  ·rcases (R a A).2 with p|⟨x,e,s,p,C⟩
   ·rw [p];exact e2
   ·rw [C];rfl
 ·rw [jz,O];exact ⟨(r.mq k ((B k).1 i)).1,(B _).2 (r.mq k ((B k).1 i)).2⟩
 ·have mono: ∀n,aF h n->aF h' n:=fun n T=>(B n).2 T
  by_cases A:k=n
  ·subst A;rw [Q];exact Ck mono _ bz
  ·rcases (R k A).2 with p|⟨x,e,s,p,C⟩
   ·rw [p];exact yi mono (r.ins k)
   ·rw [C]
    have:=r.ins k;rw [p] at this;exact Ck mono _ ((mn _).2 fun v hv=>(mn _).1 this v (dr hv))
 ·exact UT r.qF (fun b _ T=>X b (fun e=>T n W e.symm)) fun k i=> .inl ⟨k,(N k).1 i,rfl⟩
def bR.store (r:bR G S m h w) {n:Pos} {off:Nat} {vs:List aj} {h':aP} (R:h.store n off vs=some h') (W:i9 (aF h) vs) (P:Program):
 ∃I,(storeCells ⟨m.b n,off,none⟩ (aV m vs)).run P w= .ok () I/\bR G S m h' I/\Goes m h w m h' I/\h'.df=h.df/\ ∀k,aF h' k↔aF h k:=by
 unfold aP.store at R;obtain ⟨x,e,s,H,i⟩:=UW R;cases M:MG vs with
 |false=>simp_all
 |true=>
  rw [M] at i;simp only [cond_true] at i;cases U:Hd vs off x with
  |none=>simp_all
  |some y=>
   rw [U] at i;simp only at i;obtain ⟨Z,T⟩:=aeX vs off x y U;obtain ⟨O,J,g,Y,F,hc,C⟩:=r.cells H;have A:off+(aV m vs).length<=(aV m x++g).length:=by simp [oJ];omega
   have N:aV m y++g=(aV m x++g).take off++(aV m vs++(aV m x++g).drop (off+(aV m vs).length)):=by
    rw [T,FC,FC,fC (by rw [oJ];omega),List.drop_append_of_le_length (by rw [oJ,oJ];omega)];simp only [oZ,gD,oe,iz,dR]
   have o:i9 (aF h) y:=by
    rw [T];refine (mn _).2 fun v j=> ?_
    rcases bZ.1 j with j|j
    ·exact (mn _).1 J v (dr j)
    ·rcases bZ.1 j with j|j
     ·exact (mn _).1 W v j
     ·exact (mn _).1 J v (gY j)
   have iY:=ZY P (m.b n) off e Y (aV m vs) 0 ⟨aV m x++g⟩ w F C (by simpa using A) (aeZ m vs M);refine ⟨_,iY,?_⟩;simp only [dt];rw [show ((aV m x++g).take off++aV m vs++(aV m x++g).drop (off+(aV m vs).length))=(aV m x++g).take off++(aV m vs++(aV m x++g).drop (off+(aV m vs).length)) by simp];cases u:h.al.get [] (h.at n).rt with
   |nil=>
    rw [u] at i;simp only [aW] at i;subst i;have p: ∀k,(aP.at ⟨h.put n ⟨.cells y e s,(h.at n).rt⟩,h.nx,h.al,h.df⟩ k)=if n=k then ⟨.cells y e s,(h.at n).rt⟩ else h.at k:=fun k=>fX.DZ _ _ _ _
    obtain ⟨a,b,c⟩:=r.wrote (h':=⟨h.put n ⟨.cells y e s,(h.at n).rt⟩,h.nx,h.al,h.df⟩) H F hc C A ⟨g,N⟩ o (by rw [p,if_pos rfl]) (fun k i=>by grind)
     (fun k i z t=>by have:=(r.mem n k O z t.symm (ij i)).1;rw [u] at this;cases this) rfl rfl
    all_goals grind
   |cons q l=>
    rw [u] at i;simp only [aW] at i;subst i;have p: ∀k,(h.put n ⟨.cells y e s,(h.at n).rt⟩).get noCell k=if n=k then ⟨.cells y e s,(h.at n).rt⟩ else h.at k:=fun k=>fX.DZ _ _ _ _
    have B:=fun k=>Qi off n (q::l) (h.put n ⟨.cells y e s,(h.at n).rt⟩) k
    obtain ⟨a,b,c⟩:=r.wrote (h':=⟨forget off n (q::l) (h.put n ⟨.cells y e s,(h.at n).rt⟩),h.nx,h.al,h.df⟩) H F hc C A ⟨g,N⟩ o
     (by
      have f:=B n;rw [p,if_pos rfl] at f;show (forget off n (q::l) (h.put n ⟨.cells y e s,(h.at n).rt⟩)).get noCell n=_;generalize (forget off n (q::l) (h.put n ⟨.cells y e s,(h.at n).rt⟩)).get noCell n=c at f⊢;obtain ⟨f1,_,_,f4⟩:=f;cases c;simp_all)
     (fun k i=>by have f:=B k;rw [p,if_neg (ij i)] at f;exact ⟨f.1,f.2.1⟩)
     (fun k i z t x' X s' hx=>by
      have f:=B k;rw [p,if_neg (ij i)] at f;have Q:=(r.mem k n z O t i).1;rw [t,u] at Q;exact f.2.2.1 Q i x' X s' hx) rfl rfl
    exact ⟨a,b,rfl,c⟩
omit [aJ] in
def aP.Z3 (h:aP) (o:jG) (k:Pos):(h.new o).at k=if h.nx=k then ⟨o,h.nx⟩ else h.at k:=fX.DZ _ _ _ _
omit [aJ] in
def Mp.p8 (m:Mp) (n:Pos) (a b:Nat):(m.set n a b).b n=a:=by simp [Mp.set]
omit [aJ] in
def Mp.Kg (m:Mp) (n:Pos) (a b:Nat):(m.set n a b).c n=b:=by simp [Mp.set,Mp.c]
omit [aJ] in
def Mp.A0 (m:Mp) {n k:Pos} (a b:Nat) (h:k≠n):(m.set n a b).b k=m.b k/\(m.set n a b).cv k=m.cv k:=by simp [Mp.set,h]
def an2 (w:World) (o:Obj) (w':World):Prop:=w'.heap=w.heap.push o/\w'.tape=w.tape/\w'.os=w.os/\w'.output=w.output
def bR.Kh (r:bR G S m h w) {ob:jG} {o:Obj} {w':World} {cap:Nat} (hp:an2 w o w') (N:ob.pI=true)
 (M:vb (m.set h.nx w.heap.size cap) h.nx ob o) (hi:zK (aF h) ob):
 bR G S (m.set h.nx w.heap.size cap) (h.new ob) w'/\Goes m h w (m.set h.nx w.heap.size cap) (h.new ob) w'/\aF (h.new ob) h.nx:=by
 obtain ⟨B,O,W,Q⟩:=hp;have t:=aP.Z3 h ob;have I: ∀k,bk h k->m.b k<w.heap.size:=fun k f=>by obtain ⟨o,i,_⟩:=r.blk k f;exact (ax.1 i).1
 have F: ∀k,aF h k->k≠h.nx:=fun k f e=>by have:=r.fresh k f;rw [e] at this;exact bO _ this
 have s: ∀k,aF h k->(m.set h.nx w.heap.size cap).b k=m.b k/\(m.set h.nx w.heap.size cap).cv k=m.cv k:=fun k f=>Mp.A0 m _ _ (F k f)
 have y:bk (h.new ob) h.nx:=by unfold bk;rw [t,if_pos rfl];exact N
 have T:aF (h.new ob) h.nx:=y.aF;have X: ∀k,bk h k->bk (h.new ob) k:=fun k f=>by unfold bk;rw [t,if_neg (fun e=>F k f.aF e.symm)];exact f
 have A: ∀k,bk (h.new ob) k->k=h.nx\/(k≠h.nx/\bk h k):=fun k f=>by
  by_cases e:k=h.nx
  ·exact .inl e
  ·refine .inr ⟨e,?_⟩;unfold bk at f;rw [t,if_neg (ij e)] at f;exact f
 have Y: ∀k id,(h.at k).obj= .ga id->((h.new ob).at k).obj= .ga id:=fun k id f=>by rw [t,if_neg (fun e=>F k (fun e'=>by rw [e'] at f;cases f) e.symm)];exact f
 have Z: ∀k id,((h.new ob).at k).obj= .ga id->(h.at k).obj= .ga id:=fun k id f=>by
  by_cases e:h.nx=k
  ·simp_all
  all_goals grind
 have j: ∀k,aF h k->aF (h.new ob) k:=fun k f=>by unfold aF;rw [t,if_neg (fun e=>F k f e.symm)];exact f
 have H: ∀k,aF (h.new ob) k->k=h.nx\/(k≠h.nx/\aF h k):=fun k f=>by
  by_cases e:k=h.nx
  ·exact .inl e
  ·refine .inr ⟨e,?_⟩;unfold aF at f;rw [t,if_neg (ij e)] at f;exact f
 have z:(h.new ob).at h.nx=⟨ob,h.nx⟩:=by rw [t,if_pos rfl]
 have q: ∀k,k≠h.nx->(h.new ob).at k=h.at k:=fun k f=>by grind
 have R:(h.new ob).nx.n=h.nx.n+1:=Pos.Hl _;have g:Goes m h w (m.set h.nx w.heap.size cap) (h.new ob) w':=
  ⟨O,W,Q,by rw [B];simp,fun b u _=>by grind,fun k f=>Mp.A0 m _ _ (fun e=>by simp_all),by rw [R];omega,
   fun k f=>by grind,
   fun k f i5=>by rcases A k f with rfl|⟨_,i⟩;exact .inl (by rw [Mp.p8];exact aq _);exact absurd i i5,j,X,Y⟩
 refine ⟨⟨fun k f=> ?_,fun k f=> ?_,fun a b J u l=> ?_,fun a b J u l U=> ?_,fun k f=> ?_,fun k=> ?_,?_,UU r g Z,fun b M=>az (r.lim b M) g.size⟩,g,T⟩
 ·rcases A k f with rfl|⟨x,i⟩
  ·refine ⟨o,by rw [Mp.p8,B];simp,?_⟩
   rw [z];exact M
  ·obtain ⟨o',p,h3⟩:=r.blk k i
   refine ⟨o',by rw [(s k i.aF).1,B,jW,if_neg (gR (I k i))];exact p,?_⟩;rw [q k x];exact Kb s (r.ins k) (s k i.aF).2 h3
 ·rw [R]
  rcases H k f with rfl|⟨_,i⟩
  ·omega
  ·have:=r.fresh k i;omega
 ·rcases A a J with rfl|⟨C,i⟩<;>rcases A b u with rfl|⟨y,p⟩
  ·exact absurd rfl l
  ·rw [Mp.p8,(s b p.aF).1];have:=I b p;omega
  ·rw [Mp.p8,(s a i.aF).1];have:=I a i;omega
  ·rw [(s a i.aF).1,(s b p.aF).1];rw [q a C,q b y] at l;exact r.apart a b i p l
 ·show a∈h.al.get [] _/\_
  rcases H a J with rfl|⟨C,i⟩<;>rcases H b u with rfl|⟨y,p⟩
  ·exact absurd rfl U
  ·rw [z,q b y] at l;have:=(r.mq b p).1;rw [<-l] at this;exact absurd this (bO _)
  ·rw [z,q a C] at l;have:=(r.mq a i).1;rw [l] at this;exact absurd this (bO _)
  ·rw [q a C] at l⊢;rw [q b y] at l;exact r.mem a b i p l U
 ·rw [R]
  rcases H k f with rfl|⟨x,i⟩
  ·rw [z];exact ⟨jl _,T⟩
  ·rw [q k x];have:=r.mq k i;exact ⟨gO this.1,j _ this.2⟩
 ·by_cases x:k=h.nx
  ·subst x;rw [z];exact yi j hi
  ·rw [q k x];exact yi j (r.ins k)
 ·exact UT r.qF (fun b u _=>by rw [B,jW,if_neg (gR u)]) fun k f=>by
   rcases A k f with rfl|⟨_,i⟩
   ·exact .inr (by rw [Mp.p8];exact aq _)
   ·exact .inl ⟨k,i,(s k i.aF).1⟩
omit [aJ] in
def aP.an3 (h:aP) (n:Pos) (o:jG) (k:Pos):(h.setObj n o).at k=if n=k then ⟨o,(h.at n).rt⟩ else h.at k:=fX.DZ _ _ _ _
def jG.MV:jG->Bool
 | .cells .. =>false
 | .free=>false
 | .other=>false
 | .ga _=>false
 |_=>true
omit [aJ] in
def an4 {o:jG} (h:o.MV=true):o.pI=true:=by cases o<;>first|rfl|cases h
omit [aJ] in
def ae3 {o:jG} (a:o.Qg=true) (b:o.MV=true):False:=by cases o<;>simp [jG.Qg,jG.MV] at a b
def bR.Qm (r:bR G S m h w) {n:Pos} (A:(h.at n).obj.MV=true) (ob:jG) (o:Obj) {w':World}
 (B:ob.pI=true) (z:vb m n ob o) (hi:zK (aF h) ob)
 (R:w'.heap=w.heap.setIfInBounds (m.b n) o) (Q:w'.tape=w.tape) (J:w'.os=w.os) (X:w'.output=w.output):
 bR G S m (h.setObj n ob) w'/\Goes m h w m (h.setObj n ob) w'/\ ∀k,aF (h.setObj n ob) k↔aF h k:=by
 have j:bk h n:=an4 A;have I:aF h n:=j.aF;have s:=aP.an3 h n ob;have M: ∀k,bk h k->k≠n->m.b k≠m.b n:=fun k f U e=>by
  cases oM ((h.at n).rt=(h.at k).rt) with
  |inl x=>exact ae3 (r.mem n k I f.aF x (ij U)).2 A
  |inr x=>exact r.apart n k j f x e.symm
 have l: ∀k,bk (h.setObj n ob) k↔bk h k:=fun k=>by
  unfold bk;rw [s];by_cases e:n=k
  ·subst e;rw [if_pos rfl];exact ⟨fun _=>j,fun _=>B⟩
  ·rw [if_neg e]
 have F: ∀k id,((h.setObj n ob).at k).obj= .ga id↔(h.at k).obj= .ga id:=fun k id=>by
  rw [s];by_cases e:n=k
  ·subst e;rw [if_pos rfl];exact ⟨fun e=>(by simp_all),fun e=>(by unfold bk at j;rw [e] at j;cases j)⟩
  ·rw [if_neg e]
 have i: ∀k,aF (h.setObj n ob) k↔aF h k:=fun k=>by
  unfold aF;rw [s];by_cases e:n=k
  ·subst e;rw [if_pos rfl];exact ⟨fun _=>I,fun _ e=>by simp_all⟩
  ·rw [if_neg e]
 have p: ∀k,((h.setObj n ob).at k).rt=(h.at k).rt:=fun k=>by
  grind
 have Y:m.b n<w.heap.size:=by obtain ⟨o,H,_⟩:=r.blk n j;exact (ax.1 H).1
 have q: ∀b,b≠m.b n->w'.heap[b]? =w.heap[b]? :=fun b z=>by grind
 have g:Goes m h w m (h.setObj n ob) w':=⟨Q,J,X,by rw [R];simp,fun b _ C=>q b (fun e=>C n j e.symm),fun _ _=>⟨rfl,rfl⟩,aq _,fun k f=> .inl ((i k).1 f),fun k f T=>absurd ((l k).1 f) T,fun k f=>(i k).2 f,fun k f=>(l k).2 f,fun k id f=>(F k id).2 f⟩;refine ⟨⟨fun k f=> ?_,fun k f=>r.fresh k ((i k).1 f),fun a b y u t=> ?_,fun a b y u t W=> ?_,fun k f=> ?_,fun k=> ?_,UT r.qF (fun b _ C=>q b (fun e=>C n j e.symm)) fun k f=> .inl ⟨k,(l k).1 f,rfl⟩,UU r g fun k id f=>(F k id).1 f,fun b z=>az (r.lim b z) g.size⟩,g,i⟩
 ·by_cases e:k=n
  ·simp_all
  ·obtain ⟨o',H,Z⟩:=r.blk k ((l k).1 f)
   all_goals grind
 ·rw [p,p] at t;exact r.apart a b ((l a).1 y) ((l b).1 u) t
 ·rw [p,p] at t;rw [p]
  obtain ⟨N,O⟩:=r.mem a b ((i a).1 y) ((i b).1 u) t W;refine ⟨N,?_⟩;rw [s];by_cases e:n=a
  ·subst e;exact (ae3 O A).elim
  all_goals grind
 ·rw [p];exact ⟨(r.mq k ((i k).1 f)).1,(i _).2 (r.mq k ((i k).1 f)).2⟩
 ·rw [s]
  by_cases e:n=k
  ·subst e;rw [if_pos rfl];exact yi (fun k f=>(i k).2 f) hi
  ·rw [if_neg e];exact yi (fun k f=>(i k).2 f) (r.ins k)
def bR.ae5 (r:bR G S m h w) {n:Pos} {x:List aj} {e s:TypeId} {off:Nat} {vs:List Value} {f:List Value} {o:Nat×Nat}
 (l:(h.at n).obj= .cells x e s) (R:w.heap[m.b n]? =some (.cells ⟨aV m x++f⟩ e o)) (hc:(aV m x++f).length=m.c n*s)
 (Q: ∀j,j<(aV m x++f).length-> ¬(o.1<=j/\j<o.2))
 (H:off<=x.length) (i:off+vs.length<=(aV m x++f).length):
 let p:=w.setRow (m.b n) ((aV m x++f).take off++(vs++(aV m x++f).drop (off+vs.length))).toArray
 let h':aP:=⟨forget off h.nx (n::h.al.get [] (h.at n).rt) h.t,h.nx,h.al,h.df⟩
 bR G S m h' p/\Goes m h w m h' p/\(∀k,aF h' k↔aF h k)/\h'.at n=⟨.cells (x.take off) e s,(h.at n).rt⟩/\(∀k,(h'.at k).rt=(h.at k).rt):=by
 intro p h';have z:aF h n:=(r.cells l).1;have F:=(r.cells l).2.1;have g:=fun k=>Qi off h.nx (n::h.al.get [] (h.at n).rt) h.t k
 have W:n≠h.nx:=fun e=>by have:=r.fresh n z;rw [e] at this;exact bO _ this
 have u:h'.at n=⟨.cells (x.take off) e s,(h.at n).rt⟩:=by
  obtain ⟨M,_,N,_⟩:=g n;have O:=N (aE ..) W x e s l;show (forget off h.nx (n::h.al.get [] (h.at n).rt) h.t).get noCell n=_;have I:((forget off h.nx (n::h.al.get [] (h.at n).rt) h.t).get noCell n).rt=(h.at n).rt:=M;generalize (forget off h.nx (n::h.al.get [] (h.at n).rt) h.t).get noCell n=c at I O⊢;cases c;simp_all
 obtain ⟨a,b,c⟩:=r.wrote (h':=h') (y:=x.take off) l R hc Q i
  ⟨(
   (aV m x++f).take off++(vs++(aV m x++f).drop (off+vs.length))).drop off,by
   have:aV m (x.take off)=((aV m x++f).take off++(vs++(aV m x++f).drop (off+vs.length))).take off:=by
    rw [ae0 _ _ _ _ i (aq _),fC (by rw [oJ];exact H),oZ,oZ,gD]
   rw [this,eZ]⟩
  ((mn _).2 fun v T=>(mn _).1 F v (dr T)) u
  (fun k A=>⟨(g k).1,(g k).2.1⟩)
  (fun k A q C Y J X U=>by
   have B:=(r.mem k n q z C A).1;rw [C] at B;exact (g k).2.2.1 (aw _ B) (fun e=>by have:=r.fresh k q;rw [e] at this;exact bO _ this) Y J X U) rfl rfl
 exact ⟨a,b,c,u,fun k=>(g k).1⟩
def bR.named (r:bR G S m h w) {n:Pos} {y:List aj} {e s:TypeId} {w':World} {B cap:Nat} {o:Obj} {l:List Pos}
 (hd:aF h n) (R:(h.at n).obj.Qg=true) (hl:l=h.al.get [] (h.at n).rt)
 (U:B=m.b n\/B=w.heap.size) (Z:w.heap.size<=w'.heap.size) (W:w'.heap[B]? =some o) (Q: ∀b,b<w.heap.size->w'.heap[b]? =w.heap[b]?)
 (ht:w'.tape=w.tape) (Z4:w'.os=w.os) (qI:w'.output=w.output)
 (Y:vb (m.set h.nx B cap) h.nx (.cells y e s) o) (hi:i9 (aF h) y):
 let p:aP:=⟨h.t.set noCell ⟨.cells y e s,(h.at n).rt⟩ h.nx,h.nx.succ,h.al.set [] (h.nx::n::l) (h.at n).rt,h.df⟩
 bR G S (m.set h.nx B cap) p w'/\Goes m h w (m.set h.nx B cap) p w'/\aF p h.nx:=by
 intro p;have g9: ∀k,p.at k=if h.nx=k then ⟨.cells y e s,(h.at n).rt⟩ else h.at k:=fun k=>fX.DZ _ _ _ _
 have T: ∀k,p.al.get [] k=if (h.at n).rt=k then h.nx::n::l else h.al.get [] k:=fun k=>fX.DZ _ _ _ _
 have bB: ∀k,bk h k->m.b k<w.heap.size:=fun k f=>by obtain ⟨o,i,_⟩:=r.blk k f;exact (ax.1 i).1
 have O: ∀k,aF h k->k≠h.nx:=fun k f e=>by have:=r.fresh k f;rw [e] at this;exact bO _ this
 have x: ∀k,aF h k->(m.set h.nx B cap).b k=m.b k/\(m.set h.nx B cap).cv k=m.cv k:=fun k f=>Mp.A0 m _ _ (O k f)
 have A:p.at h.nx=⟨.cells y e s,(h.at n).rt⟩:=by rw [g9,if_pos rfl]
 have u: ∀k,k≠h.nx->p.at k=h.at k:=fun k f=>by grind
 have zM:bk h n:=by unfold bk;cases ho:(h.at n).obj<;>rw [ho] at R<;>first|rfl|cases R
 have I:bk p h.nx:=by unfold bk;rw [A];rfl
 have mU:aF p h.nx:=I.aF;have MU: ∀k,bk h k->bk p k:=fun k f=>by unfold bk;rw [u k (O k f.aF)];exact f
 have N: ∀k,bk p k->k=h.nx\/(k≠h.nx/\bk h k):=fun k f=>by
  by_cases e:k=h.nx
  ·exact .inl e
  ·refine .inr ⟨e,?_⟩;unfold bk at f;rw [u k e] at f;exact f
 have Qk: ∀k id,(h.at k).obj= .ga id->(p.at k).obj= .ga id:=fun k id f=>by rw [u k (O k (fun e'=>by rw [e'] at f;cases f))];exact f
 have Ql: ∀k id,(p.at k).obj= .ga id->(h.at k).obj= .ga id:=fun k id f=>by
  grind
 have q: ∀k,aF h k->aF p k:=fun k f=>by unfold aF;rw [u k (O k f)];exact f
 have M: ∀k,aF p k->k=h.nx\/(k≠h.nx/\aF h k):=fun k f=>by
  by_cases e:k=h.nx
  ·exact .inl e
  ·refine .inr ⟨e,?_⟩;unfold aF at f;rw [u k e] at f;exact f
 have jz:p.nx.n=h.nx.n+1:=Pos.Hl _;have J: ∀k,bk h k->(h.at k).rt≠(h.at n).rt->m.b k≠B:=fun k f j=>by
  rcases U with rfl|rfl
  ·exact r.apart k n f zM j
  ·exact gR (bB k f)
 have bz: ∀k,aF h k->(h.at k).rt=(h.at n).rt->k∈n::l/\(h.at k).obj.Qg=true:=fun k f j=>by
  by_cases e:k=n
  ·subst e;exact ⟨aE ..,R⟩
  ·have:=r.mem k n f hd j e
   rw [j,<-hl] at this;exact ⟨aw _ this.1,this.2⟩
 have g:Goes m h w (m.set h.nx B cap) p w':=
  ⟨ht,Z4,qI,Z,fun b C _=>Q b C,fun k f=>Mp.A0 m _ _ (fun e=>by rw [e] at f;exact bO _ f),by rw [jz];omega,
   fun k f=>by rcases M k f with rfl|⟨_,i⟩;exact .inr (aq _);exact .inl i,
   fun k f i5=>by
    rcases N k f with rfl|⟨_,i⟩
    ·rw [Mp.p8];rcases U with rfl|rfl;exact .inr ⟨n,zM,rfl⟩;exact .inl (aq _)
    ·exact absurd i i5,q,MU,Qk⟩
 refine ⟨⟨fun k f=> ?_,fun k f=> ?_,fun a b X C j=> ?_,fun a b X C j om=> ?_,fun k f=> ?_,fun k=> ?_,?_,UU r g Ql,fun b Y=>az (r.lim b Y) g.size⟩,g,mU⟩
 ·rcases N k f with rfl|⟨F,i⟩
  ·refine ⟨o,by rw [Mp.p8];exact W,?_⟩
   rw [A];exact Y
  ·obtain ⟨o',z,h3⟩:=r.blk k i
   refine ⟨o',by rw [(x k i.aF).1,Q _ (bB k i)];exact z,?_⟩;rw [u k F];exact Kb x (r.ins k) (x k i.aF).2 h3
 ·rw [jz]
  rcases M k f with rfl|⟨_,i⟩
  ·omega
  ·have:=r.fresh k i;omega
 ·rcases N a X with rfl|⟨H,i⟩<;>rcases N b C with rfl|⟨I,z⟩
  ·exact absurd rfl j
  ·rw [A,u b I] at j;rw [Mp.p8,(x b z.aF).1];exact fun e=>J b z (ij j) e.symm
  ·rw [A,u a H] at j;rw [Mp.p8,(x a i.aF).1];exact J a i j
  ·rw [(x a i.aF).1,(x b z.aF).1];rw [u a H,u b I] at j;exact r.apart a b i z j
 ·rcases M a X with rfl|⟨H,i⟩<;>rcases M b C with rfl|⟨I,z⟩
  ·exact absurd rfl om
  ·rw [A,T,if_pos rfl];exact ⟨aE ..,rfl⟩
  ·rw [A,u a H] at j;rw [u a H,T,if_pos j.symm]
   have:=bz a i j;exact ⟨aw _ this.1,this.2⟩
  ·rw [u a H] at j⊢;rw [u b I] at j;rw [T]
   by_cases e:(h.at n).rt=(h.at a).rt
   ·rw [if_pos e];have:=bz a i e.symm;exact ⟨aw _ this.1,this.2⟩
   ·rw [if_neg e];exact r.mem a b i z j om
 ·rw [jz]
  rcases M k f with rfl|⟨F,i⟩
  ·rw [A];have:=r.mq n hd;exact ⟨gO this.1,q _ this.2⟩
  ·rw [u k F];have:=r.mq k i;exact ⟨gO this.1,q _ this.2⟩
 ·by_cases F:k=h.nx
  ·subst F;rw [A];exact Ck q _ hi
  ·rw [u k F];exact yi q (r.ins k)
 ·exact UT r.qF (fun b C _=>Q b C) fun k f=>by
   rcases N k f with rfl|⟨_,i⟩
   ·rw [Mp.p8];rcases U with rfl|rfl
    ·exact .inl ⟨n,zM,rfl⟩
    ·exact .inr (aq _)
   ·exact .inl ⟨k,i,(x k i.aF).1⟩
end
end
section
variable [aJ] {S:Nat->Prop}
def sB:zu->IntKind->IntKind->Int->Int->Option aj
 | .bin .shl,k,_,a,b=>(MH .shl).f k a b
 | .bin .shr,k,_,a,b=>(MH .shr).f k a b
 | .bin o,k,j,a,b=>cond (nh k j) ((u6 o).f k a b) none
 | .neg,k,_,a,_=>oH k (ya k (P6 0 a))
 | .conv d,_,_,a,_=>oH d (ya d a)
 | .mx t,k,j,a,b=>cond (nh k j) (some (.int k (cond t (cond (Ch a b) b a) (cond (Ch b a) b a)))) none
def xm:aj->Bool
 | .sym _=>true
 | .int _ _=>true
 | .bool _=>true
 |_=>false
omit [aJ] in
def ae6 {v:aj} (h:xm v=true) (D:Pos->Prop):In D v:=by cases v<;>first|exact trivial|cases h
structure my (F:Fact):Prop where
 plain:xm F.r=true
 val: ∃k j a b v,(∀m,γ m F.a= .int k a)/\(∀m,γ m F.b= .int j b)/\sB F.op k j a b=some v/\ ∀m,γ m F.r=γ m v
def MW (G:gb):Prop:= ∀id a,G.len id=some a->xm a=true/\ ∀w v,G.jf id w v-> ∃b k c,v= .slice b k c/\ ∀m,γ m a= .int .i64 (k:Nat)
structure eD (P:Program) (E:Env):Prop where
 ty: ∀t i,E.ty t=some i->P.info? t=some i
 fn: ∀f fn,E.fns.get none (pos f)=some fn->P.funcs[f]? =some fn
 gt: ∀t,E.gt t=true->P.stoodInHeld t=false/\P.eqGuardType P.depth t=false
 facts: ∀F∈E.facts,my F
 len:MW E.gl
structure Src (G:gb) (m:Mp) (D:Pos->Prop) (tm:Tm) (ρ:Operand->Value):Prop where
 tmp: ∀t,ρ (.tmp t)=γ m (gW t tm)/\In D (gW t tm)
 const: ∀v,ρ (.const v)=v
 global: ∀g,ρ (.global g)= .pointer (some ⟨g,0,none⟩)
 func: ∀f,ρ (.func f)= .func (.func f) #[] #[]
section
variable {P:Program} {E:Env} {m:Mp} {D:Pos->Prop} {tm:Tm} {ρ:Operand->Value}
def eD.cQ (ok:eD P E) {t:TypeId} {d:TypeDesc} (h:E.cQ t=some d):P.underlying t=some d:=by
 unfold Env.cQ at h;cases b:E.ty t with
 |none=>rw [b] at h;cases h
 |some i=>
  rw [b] at h;have f:=ok.ty t i b;unfold Program.underlying;rw [f];obtain ⟨a,g,k,l,o,p,q,s,x,y⟩:=i;cases a with
  |named nm u=>
   simp only at h⊢;cases e:E.ty u with
   |none=>rw [e] at h;cases h
   |some j=>rw [e] at h;rw [ok.ty u j e];simpa using h
  |_=>exact h
def eD.size (ok:eD P E) {t:TypeId} {s:Nat} (h:E.size t=some s): ∃i,P.info? t=some i/\i.size=s:=by
 unfold Env.size at h;cases a:E.ty t with
 |none=>rw [a] at h;cases h
 |some i=>rw [a] at h;exact ⟨i,ok.ty t i a,by simpa using h⟩
def eD.zero (ok:eD P E) {t:TypeId} {z:aj} (h:E.zero t=some z): ∃i v,P.info? t=some i/\i.zero=some v/\z=aj.ofValue v:=by
 unfold Env.zero at h;cases a:E.ty t with
 |none=>rw [a] at h;cases h
 |some i=>
  rw [a] at h;simp only at h;cases b:i.zero with
  |none=>rw [b] at h;cases h
  |some v=>rw [b] at h;exact ⟨i,v,ok.ty t i a,b,by simpa using h.symm⟩
omit [aJ] in
def an5 {t:TypeId} {i:TypeInfo} (h:P.info? t=some i) (w:World):(typeInfo t).run P w= .ok i w:=by simp [typeInfo,h]
omit [aJ] in
def yl {t:TypeId} {i:TypeInfo} (h:P.info? t=some i) (w:World):(Go.sizeOf t).run P w= .ok i.size w:=by simp [Go.sizeOf,typeInfo,h]
omit [aJ] in
def UZ {t:TypeId} {i:TypeInfo} {v:Value} (h:P.info? t=some i) (a:i.zero=some v) (w:World):(zeroValue t).run P w= .ok v w:=by simp [zeroValue,typeInfo,h,a]
def eD.yl (ok:eD P E) {t:TypeId} {s:Nat} (h:E.size t=some s) (w:World):(Go.sizeOf t).run P w= .ok s w:=by
 obtain ⟨i,a,rfl⟩:=ok.size h;exact Go.Ev.yl a w
def eD.nj (ok:eD P E) {t:TypeId} {d:TypeDesc} (h:E.cQ t=some d) (w:World):(underlying t).run P w= .ok d w:=run_underlying (ok.cQ h) w
def eD.aaa (ok:eD P E) {t:TypeId} {b:Bool} (h:E.Fq t=some b) (w:World):(isAgg t).run P w= .ok b w:=by
 unfold Env.Fq at h;cases a:E.cQ t with
 |none=>rw [a] at h;cases h
 |some d=>
  rw [a] at h;unfold isAgg;simp only [aI,ok.nj a,aB];cases d<;>simp at h<;>subst h<;>rfl
def iV (s:Src E.gl m D tm ρ) (x:Operand):ρ x=γ m ((bP E x).g tm)/\In D ((bP E x).g tm):=by
 cases x with
 |tmp t=>exact s.tmp t
 |const v=>exact ⟨by rw [s.const];exact (FD m v).symm,zJ D v⟩
 |global g=>
  rw [s.global];exact ⟨rfl,by show Value.oneCell' _=true;rfl⟩
 |func f=>exact ⟨by rw [s.func];rfl,⟨trivial,trivial⟩⟩
def Hq (s:Src E.gl m D tm ρ): ∀l:List Operand,l.map ρ=aV m (sr (sV E l) tm)/\i9 D (sr (sV E l) tm)
 | []=>⟨rfl,trivial⟩
 |x::l=>by
  have a:=iV (E:=E) s x;have b:=Hq s l;refine ⟨?_,a.2,b.2⟩;show ρ x::l.map ρ=γ m ((bP E x).g tm)::aV m (sr (sV E l) tm);rw [a.1,b.1]
omit [aJ] in
def xp {k:IntKind} {n:Int} {v:aj} (h:oH k n=some v):v= .int k n:=by
 cases n with
 |ofNat n=>cases n<;>(cases h;rfl)
 |negSucc n=>cases n<;>(cases h;rfl)
omit [aJ] in
def ae7 (k:IntKind):half k<=2^k.bits:=by cases k<;>decide
omit [aJ] in
def wrap_small (k:IntKind) {a:Nat} (h:a<half k):k.wrap (Int.ofNat a)=Int.ofNat a:=by
 have f:(a:Int)<(2^k.bits:Int):=by
  have e:a<2^k.bits:=az h (ae7 k);exact_mod_cast e
 have b:(a:Int) % (2^k.bits:Int)=a:=Int.emod_eq_of_lt (by omega) f;show (let m:=(a:Int) % (2^k.bits:Int);if k.signed&&m>=(2^(k.bits-1):Int) then m-(2^k.bits:Int) else m)=(a:Int);simp only [b];cases k<;>simp [IntKind.signed,IntKind.bits,half] at h⊢ <;>omega
omit [aJ] in
def xv (k:IntKind) (n:Int):ya k n=k.wrap n:=by
 cases n with
 |ofNat a=>
  show cond (Nat.blt a (half k)) (Int.ofNat a) (k.wrap (Int.ofNat a))=_;cases h:Nat.blt a (half k) with
  |true=>exact (wrap_small k (sw.1 h)).symm
  |false=>rfl
 |negSucc a=>rfl
omit [aJ] in
def A2 (a b:Int):Ch a b=decide (a<b):=by
 cases a with
 |ofNat a=>cases b with
  |ofNat b=>
   show Nat.blt a b=_;by_cases h:a<b
   ·simp_all
   ·rw [ZO h]
    all_goals grind
  |negSucc b=>
    symm;apply decide_eq_false
    all_goals grind
 |negSucc a=>cases b with
  |ofNat b=>
    symm;apply decide_eq_true
    all_goals grind
  |negSucc b=>
   show Nat.blt b a=_;have e:Int.negSucc a= -(a:Int)-1:=by omega
   have f:Int.negSucc b= -(b:Int)-1:=by omega
   by_cases h:b<a
   ·simp_all
   ·rw [ZO h]
    all_goals grind
omit [aJ] in
def ae8 (a b:Int):aeH a b=a+b:=by cases a<;>cases b<;>rfl
omit [aJ] in
def Qn (a b:Int):P6 a b=a-b:=by
 cases a with
 |ofNat a=>cases b with
  |ofNat b=>
   show cond (Nat.ble b a) (Int.ofNat (Nat.sub a b)) (Int.negSucc (Nat.sub (Nat.sub b a) 1))=_;have e: ∀x y,Nat.sub x y=x-y:=fun _ _=>rfl
   simp only [e];by_cases h:b<=a
   ·rw [p7.2 h]
    all_goals grind
   ·rw [ZN h]
    all_goals grind
  |negSucc b=>rfl
 |negSucc a=>cases b<;>rfl
omit [aJ] in
def aab (a b:Int):ZA a b=a*b:=by cases a<;>cases b<;>rfl
omit [aJ] in
def ae9 (a b:Int):ZB a b=a.tdiv b:=by cases a<;>cases b<;>rfl
omit [aJ] in
def afa (a b:Int):ZC a b=a.tmod b:=by cases a<;>cases b<;>rfl
end
end
end Go.Ev
