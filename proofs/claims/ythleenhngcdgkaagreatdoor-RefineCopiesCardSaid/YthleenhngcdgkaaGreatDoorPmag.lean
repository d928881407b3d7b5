/- refineCopies_proved. -/
import Derived.Test.YthleenhngcdgkaaGreatDoorPmaf
import Derived.Laws.CopyRow
import Derived.ChangeKeysEq
import Derived.Lib.UnsafeStr
import Derived.Laws.Small
import Derived.Laws.StructEq
import Derived.Laws.IdiomMaps
import Derived.Laws.Strings
set_option maxRecDepth 100000
set_option maxHeartbeats 16000000
set_option linter.all false
noncomputable section
namespace Go.Ev
section
def beq_iff {a b:Nat} :Nat.beq a b=true↔a=b:=⟨bE,fun h=>h▸jA a⟩
def qt {a b:Nat} :Nat.ble a b=true↔a<=b:=iff_of_eq Nat.ble_eq
def sM {a b:Nat} :Nat.blt a b=true↔a<b:=qt
def NY {a b:Nat} (h:a≠b):Nat.beq a b=false:=by cases e:Nat.beq a b with|false=>rfl|true=>simp_all
def aax {a b:Nat} (h: ¬a<=b):Nat.ble a b=false:=by cases e:Nat.ble a b with|false=>rfl|true=>exact absurd (qt.1 e) h
def aay {a b:Nat} (h: ¬a<b):Nat.blt a b=false:=aax h
def Pos.n:Pos->Nat
 | .one=>1
 | .o p=>2*p.n
 | .i p=>2*p.n+1
def Pos.IC: ∀p:Pos,p.succ.n=p.n+1
 | .one=>rfl
 | .o p=>by simp [Pos.succ,Pos.n]
 | .i p=>by simp [Pos.succ,Pos.n,Pos.IC p];omega
def Pos.pX: ∀p q:Pos,p.gU q=true↔p=q:=by
 intro p
 induction p with
 |one=>intro q;cases q<;>simp [Pos.gU]
 |o p a=>intro q;cases q with
  |o q=>have:=a q;simp only [Pos.gU] at this⊢;simp [this]
  |_=>simp [Pos.gU]
 |i p a=>intro q;cases q with
  |i q=>have:=a q;simp only [Pos.gU] at this⊢;simp [this]
  |_=>simp [Pos.gU]
def Pos.aoK: ∀f m:Nat,1<=m->m<=f->(Pos.ofM f m).n=m:=by
 intro f
 induction f with
 |zero=>intro m e g;omega
 |succ f p=>
  intro m e g;show (cond (Nat.ble m 1) Pos.one (cond (Nat.beq (Nat.mod m 2) 0) (.o (Pos.ofM f (Nat.div m 2))) (.i (Pos.ofM f (Nat.div m 2))))).n=m;have j:Nat.div m 2=m/2:=rfl;have l:Nat.mod m 2=m % 2:=rfl;rw [j,l];by_cases h:m<=1
  ·have:Nat.ble m 1=true:=qt.2 h
   rw [this];simp [Pos.n];omega
  ·have b:Nat.ble m 1=false:=aax h
   have a:=p (m/2) (by omega) (by omega);rw [b];by_cases k:m % 2=0
   ·have:Nat.beq (m % 2) 0=true:=by rw [k];rfl
    rw [this];simp [Pos.n,a];omega
   ·have:Nat.beq (m % 2) 0=false:=by cases q:Nat.beq (m % 2) 0 with|false=>rfl|true=>simp_all
    rw [this];simp [Pos.n,a];omega
def afK (k:Nat):(pos k).n=k+1:=Pos.aoK (k+1) (k+1) (by omega) (by omega)
def afL {a b:Nat} (h:pos a=pos b):a=b:=by have:=congrArg Pos.n h;simp only [afK] at this;omega
namespace gz
variable {α:Type} {d:α}
def EF (p:Pos):gz.get d p .leaf=d:=by cases p<;>rfl
def aoL (x:α): ∀(p:Pos) (t:gz α),gz.get d p (gz.set d x p t)=x:=by
 intro p
 induction p with
 |one=>intro t;cases t<;>rfl
 |o p a=>intro t;cases t with
  |leaf=>exact a .leaf
  |node l v r=>exact a l
 |i p a=>intro t;cases t with
  |leaf=>exact a .leaf
  |node l v r=>exact a r
def aoM (x:α): ∀(p q:Pos) (t:gz α),p≠q->gz.get d q (gz.set d x p t)=gz.get d q t:=by
 intro p
 induction p with
 |one=>intro q t h;cases q with
  |one=>exact absurd rfl h
  |o q=>cases t with|leaf=>exact EF q|node l v r=>rfl
  |i q=>cases t with|leaf=>exact EF q|node l v r=>rfl
 |o p a=>intro q t h;cases q with
  |one=>cases t<;>rfl
  |o q=>cases t with
   |leaf=>exact (a q .leaf (fun e=>h (by rw [e]))).trans (EF q)
   |node l v r=>exact a q l (fun e=>h (by rw [e]))
  |i q=>cases t with|leaf=>exact EF q|node l v r=>rfl
 |i p a=>intro q t h;cases q with
  |one=>cases t<;>rfl
  |i q=>cases t with
   |leaf=>exact (a q .leaf (fun e=>h (by rw [e]))).trans (EF q)
   |node l v r=>exact a q r (fun e=>h (by rw [e]))
  |o q=>cases t with|leaf=>exact EF q|node l v r=>rfl
def EG (x:α) (p q:Pos) (t:gz α):gz.get d q (gz.set d x p t)=if p=q then x else gz.get d q t:=by
 by_cases h:p=q
 ·subst h;simp [aoL]
 ·simp [h,aoM x p q t h]
def afM: ∀(l:List α) (k:Nat) (t:gz α) (i:Nat),
 gz.get d (pos i) (QQ d l k t)=if k<=i/\i<k+l.length then l.getD (i-k) d else gz.get d (pos i) t
 | [],k,t,i=>by simp only [QQ,gj];split<;>first|omega|rfl
 |x::l,k,t,i=>by
  simp only [QQ];rw [afM l (k+1) _ i,EG];by_cases a:i=k
  ·grind
  ·have b: ¬pos k=pos i:=fun e=>a (afL e).symm
   all_goals grind
def afN (l:List α) (i:Nat):gz.get d (pos i) (ofList d l)=l.getD i d:=by
 unfold ofList;rw [afM];by_cases h:i<l.length
 ·simp [h]
 ·rw [if_neg (by omega),EF];simp [List.getD,bS (dH h)]
end gz
def aaz: ∀(n:Nat) (l:List ai),nth n l=l[n]? :=by
 intro n;induction n with
 |zero=>intro l;cases l<;>rfl
 |succ n a=>intro l;cases l with
  |nil=>rfl
  |cons x l=>exact a l
def aoN: ∀(n:Nat) (l:List UInt8),afC n l=l[n]? :=by
 intro n;induction n with
 |zero=>intro l;cases l<;>rfl
 |succ n a=>intro l;cases l with
  |nil=>rfl
  |cons x l=>exact a l
def aaA: ∀(n:Nat) (l:List ai),Vs n l=l.drop n:=by
 intro n;induction n with
 |zero=>intro l;rfl
 |succ n a=>intro l;cases l with
  |nil=>rfl
  |cons x l=>exact a l
def aaB: ∀(n:Nat) (l r:List ai),Iu n l=some r->n<=l.length/\r=l.take n:=by
 intro n;induction n with
 |zero=>intro l r h;cases h;simp
 |succ n b=>intro l r h;cases l with
  |nil=>cases h
  |cons x l=>
   change (Option.rec (motive:=fun _=>Option (List ai)) none (fun r=>some (x::r)) (Iu n l))=some r at h;cases a:Iu n l with
   |none=>rw [a] at h;cases h
   |some e=>
     rw [a] at h
     all_goals grind
def aoO: ∀(a l r:List ai),Vt a l=some r->a.length<=l.length/\r=a++l.drop a.length:=by
 intro a;induction a with
 |nil=>intro l r h;cases h;simp
 |cons v a e=>intro l r h;cases l with
  |nil=>cases h
  |cons x l=>
   change (Option.rec (motive:=fun _=>Option (List ai)) none (fun r=>some (v::r)) (Vt a l))=some r at h;cases b:Vt a l with
   |none=>rw [b] at h;cases h
   |some f=>
     rw [b] at h
     all_goals grind
def afO (vs:List ai): ∀(n:Nat) (l r:List ai),Iv vs n l=some r->n+vs.length<=l.length/\r=l.take n++(vs++l.drop (n+vs.length)):=by
 intro n;induction n with
 |zero=>intro l r h;obtain ⟨e,b⟩:=aoO vs l r h;simp [b];omega
 |succ n f=>intro l r h;cases l with
  |nil=>cases h
  |cons x l=>
   change (Option.rec (motive:=fun _=>Option (List ai)) none (fun r=>some (x::r)) (Iv vs n l))=some r at h;cases a:Iv vs n l with
   |none=>rw [a] at h;cases h
   |some g=>
    rw [a] at h
    all_goals grind
def Re: ∀x y:List ai,CU x y=x++y:=by
 intro x y;induction x with
 |nil=>rfl
 |cons a x b=>show a::CU x y=_;rw [b];rfl
def aoP: ∀x y:List UInt8,Vx x y=x++y:=by
 intro x y;induction x with
 |nil=>rfl
 |cons a x b=>show a::Vx x y=_;rw [b];rfl
def IE: ∀x y:List UInt8,EA x y=decide (x=y):=by
 intro x;induction x with
 |nil=>intro y;cases y<;>simp [EA]
 |cons a x f=>intro y;cases y with
  |nil=>simp [EA]
  |cons b y=>
   show cond (Nat.beq a.toNat b.toNat) (EA x y) false=_;rw [f];by_cases h:a=b
   ·subst h;simp
   ·have:Nat.beq a.toNat b.toNat=false:=by
     cases e:Nat.beq a.toNat b.toNat with
     |false=>rfl
     |true=>exact absurd (UInt8.toNat_inj.1 (bE e)) h
    rw [this];simp [h]
def VN: ∀x y:List UInt8,NQ x y=Op.bytesLess x y:=by
 intro x;induction x with
 |nil=>intro y;cases y<;>rfl
 |cons a x j=>intro y;cases y with
  |nil=>rfl
  |cons b y=>
   show cond (Nat.blt a.toNat b.toNat) true (cond (Nat.beq a.toNat b.toNat) (NQ x y) false)=(decide (a<b)||(a==b&&Op.bytesLess x y));rw [j];by_cases h:a<b
   ·have f:a.toNat<b.toNat:=my.1 h
    have:Nat.blt a.toNat b.toNat=true:=sM.2 f;rw [this];simp [h]
   ·have f: ¬a.toNat<b.toNat:=fun e=>h (my.2 e)
    have:Nat.blt a.toNat b.toNat=false:=aay f;rw [this];by_cases g:a=b
    ·subst g;simp [h]
    ·have:Nat.beq a.toNat b.toNat=false:=by
      cases i:Nat.beq a.toNat b.toNat with
      |false=>rfl
      |true=>exact absurd (UInt8.toNat_inj.1 (bE i)) g
     all_goals grind
def aaC (z:List ai): ∀n,CX z n=(List.replicate n z).flatten:=by
 intro n;induction n with
 |zero=>rfl
 |succ n a=>show CU z (CX z n)=_;rw [Re,a];simp [ou]
def yS {α:Type} (n:Nat) (k:Nat->α):th n k=k n:=by cases n<;>rfl
def BC (a b:IntKind):nM a b=true↔a=b:=by cases a<;>cases b<;>decide
def BF (a b:Int):F7 a b=decide (a=b):=by
 cases a with
 |ofNat a=>cases b with
  |ofNat b=>
   show Nat.beq a b=_;by_cases h:a=b
   ·subst h;simp
   ·rw [NY h]
    all_goals grind
  |negSucc b=>symm;apply decide_eq_false;intro e;cases e
 |negSucc a=>cases b with
  |ofNat b=>symm;apply decide_eq_false;intro e;cases e
  |negSucc b=>
   show Nat.beq a b=_;by_cases h:a=b
   ·subst h;simp
   ·rw [NY h]
    all_goals grind
def K7 (a b:Bool):K1 a b=(a==b):=by cases a<;>cases b<;>rfl
def Ez.pX {a b:Ez} (h:a.gU b=true):a=b:=by
 cases a<;>cases b<;>simp [Ez.gU] at h<;>simp [h]
mutual
theorem ai.pX: ∀a b:ai,ai.gU a b=true->a=b
 | .bool a,b,h=>by cases b<;>simp [ai.gU,K7] at h;simp [h]
 | .int k a,b,h=>by cases b<;>simp [ai.gU,BF,BC] at h;simp [h]
 | .str a,b,h=>by cases b<;>simp [ai.gU,IE] at h;simp [h]
 | .wK,b,h=>by cases b<;>simp [ai.gU] at h;rfl
 | .ptr n a,b,h=>by cases b<;>simp [ai.gU,Pos.pX] at h;simp [h]
 | .j7,b,h=>by cases b<;>simp [ai.gU] at h;rfl
 | .jm n x y z,b,h=>by
  cases b<;>simp [ai.gU,Pos.pX] at h;have:=Ez.pX h.2;simp [h,this]
 | .vu,b,h=>by cases b<;>simp [ai.gU] at h;rfl
 | .map n,b,h=>by cases b<;>simp [ai.gU,Pos.pX] at h;simp [h]
 | .func f x y,b,h=>by cases b<;>simp [ai.gU] at h
 | .nilFunc,b,h=>by cases b<;>simp [ai.gU] at h;rfl
 | .iface t v,b,h=>by cases b<;>simp [ai.gU] at h
 | .nilIface,b,h=>by cases b<;>simp [ai.gU] at h;rfl
 | .agg x,b,h=>by cases b<;>simp [ai.gU] at h;rw [ai.aaD _ _ h]
 | .fm x,b,h=>by cases b<;>simp [ai.gU] at h;rw [ai.aaD _ _ h]
 | .yK v,b,h=>by cases b<;>simp [ai.gU] at h
 | .sym i,b,h=>by cases b<;>simp [ai.gU] at h;simp [h]
 | .atom n,b,h=>by cases b<;>simp [ai.gU,Pos.pX] at h;simp [h]
 | .CT n,b,h=>by cases b<;>simp [ai.gU] at h
theorem ai.aaD: ∀a b:List ai,ai.K2 a b=true->a=b
 | [],b,h=>by cases b<;>simp [ai.K2] at h;rfl
 |a::x,b,h=>by
  cases b with
  |nil=>simp [ai.K2] at h
  |cons b y=>simp [ai.K2] at h;rw [ai.pX a b h.1,ai.aaD x y h.2]
end
end
section
structure vC where
 v:Value
 one:v.oneCell'=true
instance:Inhabited vC:=⟨⟨.nilFunc,rfl⟩⟩
class aJ where
 ρ:Nat->vC
variable [aJ]
structure Cv where
 n:Nat
 v:vC
structure Mp where
 b:Pos->Nat
 cv:Pos->Cv
def Mp.c (m:Mp) (n:Pos):Nat:=(m.cv n).n
def Mp.v (m:Mp) (n:Pos):vC:=(m.cv n).v
def Mp.set (m:Mp) (n:Pos) (blk cap:Nat):Mp:=⟨fun k=>if k=n then blk else m.b k,fun k=>if k=n then ⟨cap,default⟩ else m.cv k⟩
mutual
def γ (m:Mp):ai->Value
 | .int k n=> .int k n
 | .bool b=> .bool b
 | .ptr n off=> .pointer (some ⟨m.b n,off,none⟩)
 | .jm n off len (.exact c)=> .slice (some ⟨m.b n,off,none⟩) len c
 | .jm n off len (.rest d)=> .slice (some ⟨m.b n,off,none⟩) len (m.c n-d)
 | .str s=> .string ⟨⟨s⟩⟩
 | .agg l=> .agg ⟨aW m l⟩
 | .fm l=> .tuple ⟨aW m l⟩
 | .wK=> .pointer none
 | .j7=> .slice none 0 0
 | .vu=> .map none
 | .map n=> .map (some (m.b n))
 | .func a x y=> .func a ⟨aW m x⟩ ⟨aW m y⟩
 | .nilFunc=> .nilFunc
 | .iface t v=> .iface t (γ m v)
 | .nilIface=> .nilIface
 | .CT n=> .func (.yield (m.b n)) #[] #[]
 | .yK v=>v
 | .sym i=>(aJ.ρ i).v
 | .atom n=>(m.v n).v
def aW (m:Mp):List ai->List Value
 | []=> []
 |v::l=>γ m v::aW m l
end
def pD (m:Mp): ∀l,aW m l=l.map (γ m)
 | []=>rfl
 |v::l=>by simp [aW,pD m l]
def o8 (m:Mp) (l:List ai):(aW m l).length=l.length:=by simp [pD]
def Gj (m:Mp) (a b:List ai):aW m (a++b)=aW m a++aW m b:=by simp [pD]
mutual
def In (D:Pos->Prop):ai->Prop
 | .ptr n _=>D n
 | .jm n _ _ _=>D n
 | .map n=>D n
 | .CT n=>D n
 | .atom n=>D n
 | .agg l=>jn D l
 | .fm l=>jn D l
 | .func _ x y=>jn D x/\jn D y
 | .iface _ v=>In D v
 | .yK v=>v.oneCell'=true
 | .int _ _| .bool _| .str _| .wK| .j7| .vu| .nilFunc| .nilIface| .sym _=>True
def jn (D:Pos->Prop):List ai->Prop
 | []=>True
 |v::l=>In D v/\jn D l
end
omit [aJ] in
def mW {D:Pos->Prop} : ∀l,jn D l↔ ∀v∈l,In D v
 | []=>by simp [jn]
 |v::l=>by simp [jn,mW l]
mutual
theorem EH {D:Pos->Prop} {m e:Mp} (h: ∀n,D n->e.b n=m.b n/\e.cv n=m.cv n): ∀v,In D v->γ e v=γ m v
 | .ptr n _,a=>by simp [γ,(h n a).1]
 | .jm n _ _ (.exact _),a=>by simp [γ,(h n a).1]
 | .jm n _ _ (.rest _),a=>by simp [γ,Mp.c,(h n a).1,(h n a).2]
 | .atom n,a=>by simp [γ,Mp.v,(h n a).2]
 | .map n,a=>by simp [γ,(h n a).1]
 | .CT n,a=>by simp [γ,(h n a).1]
 | .agg l,a=>by simp only [γ];rw [BG h l a]
 | .fm l,a=>by simp only [γ];rw [BG h l a]
 | .func _ x y,a=>by simp only [γ];rw [BG h x a.1,BG h y a.2]
 | .iface _ v,a=>by simp only [γ];rw [EH h v a]
 | .int _ _,_| .bool _,_| .str _,_| .wK,_| .j7,_| .vu,_| .nilFunc,_| .nilIface,_| .yK _,_| .sym _,_=>rfl
theorem BG {D:Pos->Prop} {m e:Mp} (h: ∀n,D n->e.b n=m.b n/\e.cv n=m.cv n): ∀l,jn D l->aW e l=aW m l
 | [],_=>rfl
 |v::l,a=>by simp only [aW];rw [EH h v a.1,BG h l a.2]
end
omit [aJ] in
mutual
theorem rN {D b:Pos->Prop} (h: ∀n,D n->b n): ∀v,In D v->In b v
 | .yK _,a=>a
 | .ptr n _,a=>h n a
 | .jm n _ _ _,a=>h n a
 | .map n,a=>h n a
 | .CT n,a=>h n a
 | .atom n,a=>h n a
 | .agg l,a=>CZ h l a
 | .fm l,a=>CZ h l a
 | .func _ x y,a=>⟨CZ h x a.1,CZ h y a.2⟩
 | .iface _ v,a=>rN h v a
 | .int _ _,_| .bool _,_| .str _,_| .wK,_| .j7,_| .vu,_| .nilFunc,_| .nilIface,_| .sym _,_=>trivial
theorem CZ {D b:Pos->Prop} (h: ∀n,D n->b n): ∀l,jn D l->jn b l
 | [],_=>trivial
 |v::l,a=>⟨rN h v a.1,CZ h l a.2⟩
end
mutual
theorem Gk (m:Mp): ∀v:Value,γ m (ai.ofValue v)=v:=by
 intro v;unfold ai.ofValue;split<;>simp only [γ]
 ·rw [aaE]
 ·rw [aaE]
theorem aaE (m:Mp): ∀l:List Value,aW m (ai.ofValues l)=l
 | []=>rfl
 |v::l=>by simp only [ai.ofValues,aW];rw [Gk m v,aaE m l]
end
omit [aJ] in
mutual
theorem Ay (D:Pos->Prop): ∀v:Value,In D (ai.ofValue v):=by
 intro v;unfold ai.ofValue;split<;>simp only [In]
 ·exact aaF D _
 ·exact aaF D _
 ·rename_i a b
  cases v with
  |agg c=>exact (a c.toList rfl).elim
  |tuple c=>exact (b c.toList rfl).elim
  |_=>rfl
theorem aaF (D:Pos->Prop): ∀l:List Value,jn D (ai.ofValues l)
 | []=>trivial
 |v::l=>⟨Ay D v,aaF D l⟩
end
omit [aJ] in
def afP {v:Value} (h:v.oneCell'=true):v.cells=⟨[v]⟩:=by cases v<;>first|rfl|cases h
def IG {D:Pos->Prop} (m:Mp) {v:ai} (h:In D v):(γ m v).cells=⟨aW m v.cells⟩:=by
 cases v<;>try rfl
 ·rename_i n o l c;cases c<;>rfl
 ·rename_i u;cases u<;>first|rfl|cases h
 ·exact afP (aJ.ρ _).one
 ·exact afP (m.v _).one
omit [aJ] in
def IH {D:Pos->Prop} {v:ai} (h:In D v):jn D v.cells:=by
 cases v<;>first|exact h|exact ⟨h,trivial⟩
end
section
variable [aJ] {S:Nat->Prop}
def aH (h:aP) (n:Pos):Prop:=(h.at n).obj≠ .free
@[simp] def jR.pY:jR->Bool
 | .free=>false
 | .gH _=>false
 |_=>true
def bk (h:aP) (n:Pos):Prop:=(h.at n).obj.pY=true
omit [aJ] in
def bk.aH {h:aP} {n:Pos} (b:bk h n):aH h n:=fun e=>by unfold bk at b;rw [e] at b;cases b
omit [aJ] in
def aoQ {o:jR} (h:o.pY=true):o≠ .free:=fun e=>by rw [e] at h;cases h
omit [aJ] in
def NZ {h:aP} {n:Pos} {o:jR} (b:(h.at n).obj=o) (a:o.pY=true):bk h n:=by unfold bk;rw [b];exact a
omit [aJ] in
def aaG {h:aP} {n:Pos} (d:aH h n):bk h n\/ ∃id,(h.at n).obj= .gH id:=by
 unfold bk;unfold aH at d;cases a:(h.at n).obj<;>first|exact absurd a d|exact .inr ⟨_,rfl⟩|exact .inl rfl
def jJ (m:Mp) (e:ml):MapEntry:= {key:=γ m e.key,val:=γ m e.val,born:=e.born}
def vD (m:Mp) (n:Pos):jR->Obj->Prop
 | .free,_=>True
 | .cells l e s,o=> ∃a f,o= .cells ⟨aW m l++a⟩ e f/\(aW m l++a).length=m.c n*s/\ ∀j,j<(aW m l++a).length-> ¬(f.1<=j/\j<f.2)
 | .map q i,o=>o= .map ⟨q.map (jJ m)⟩ i
 | .sit s p,o=>o= .stringIter ⟨⟨s⟩⟩ p
 | .xV none _ _ _,o=>o= .mapIter none 0 #[] 0
 | .xV (some k) s l t,o=>o= .mapIter (some (m.b k)) s ⟨l⟩ t
 | .K3,o=> ∃g:Loop,o= .loop g/\g.state= .ready/\g.pending=none
 | .uC,o=>o= .deferred (some [])
 | .other,_=>True
 | .gH _,_=>True
def Az (D:Pos->Prop):jR->Prop
 | .cells l _ _=>jn D l
 | .map a _=> ∀e∈a,In D e.key/\In D e.val
 | .xV (some k) _ _ _=>D k
 |_=>True
omit [aJ] in
def yT {D a:Pos->Prop} (h: ∀n,D n->a n) {ob:jR} (hi:Az D ob):Az a ob:=by
 cases ob with
 |cells l _ _=>exact CZ h l hi
 |map f _=>exact fun e b=>⟨rN h _ (hi e b).1,rN h _ (hi e b).2⟩
 |xV o _ _ _=>cases o with
  |none=>trivial
  |some k=>exact h k hi
 |_=>trivial
def K8 {D:Pos->Prop} {m a:Mp} {n:Pos} {ob:jR} {o:Obj} (h: ∀n,D n->a.b n=m.b n/\a.cv n=m.cv n) (hi:Az D ob) (hc:a.cv n=m.cv n)
 (f:vD m n ob o):vD a n ob o:=by
 cases ob with
 |cells l e s=>
  obtain ⟨g,q,i,u,x⟩:=f;exact ⟨g,q,by rw [BG h l hi];exact i,by rw [BG h l hi,Mp.c,hc];exact u,by rw [BG h l hi];exact x⟩
 |map j y=>
  show o=_;rw [show j.map (jJ a)=j.map (jJ m) from dy fun e p=>by simp only [jJ];rw [EH h _ (hi e p).1,EH h _ (hi e p).2]];exact f
 |xV k s l t=>cases k with
  |none=>exact f
  |some k=>
   have i:o= .mapIter (some (m.b k)) s ⟨l⟩ t:=f;show o= .mapIter (some (a.b k)) s ⟨l⟩ t;rw [(h k hi).1];exact i
 |_=>exact f
def aoR {m:Mp} {n:Pos} {l:List ai} {e s:Nat} {o:Obj} (k:Nat) (j:vD m n (.cells l e s) o):vD m n (.cells (l.take k) e s) o:=by
 obtain ⟨a,b,f,g,i⟩:=j;have:aW m (l.take k)++(aW m (l.drop k)++a)=aW m l++a:=by rw [<-fo,<-Gj,eS]
 exact ⟨aW m (l.drop k)++a,b,by rw [this];exact f,by rw [this];exact g,by rw [this];exact i⟩
def jR.Rf:jR->Bool
 | .cells .. =>true
 | .other=>true
 |_=>false
structure bV (G:gI) (S:Nat->Prop) (m:Mp) (h:aP) (w:World):Prop where
 blk: ∀n,bk h n-> ∃o,w.heap[m.b n]? =some o/\vD m n (h.at n).obj o
 fresh: ∀n,aH h n->n.n<h.nx.n
 apart: ∀n k,bk h n->bk h k->(h.at n).rt≠(h.at k).rt->m.b n≠m.b k
 mem: ∀n k,aH h n->aH h k->(h.at n).rt=(h.at k).rt->n≠k->n∈h.al.get [] (h.at n).rt/\(h.at n).obj.Rf=true
 mX: ∀n,aH h n->(h.at n).rt.n<h.nx.n/\aH h (h.at n).rt
 ins: ∀n,Az (aH h) (h.at n).obj
 qN: ∀g l,G.g g=some l->(∃rest e fz,w.heap[g]? =some (.cells ⟨l++rest⟩ e fz))/\ ∀n,bk h n->m.b n≠g
 jt: ∀n id,(h.at n).obj= .gH id-> ∀w',(∀b,b<w.heap.size-> ¬S b->(∀k,bk h k->m.b k≠b)->w'.heap[b]? =w.heap[b]?)->G.jt id w' (m.v n).v
 lim: ∀b,S b->b<w.heap.size
omit [aJ] in
def VO {G:gI} {m i:Mp} {h h':aP} {w w':World} (o: ∀g l,G.g g=some l->(∃a e f,w.heap[g]? =some (.cells ⟨l++a⟩ e f))/\ ∀n,bk h n->m.b n≠g)
 (j: ∀b,b<w.heap.size->(∀n,bk h n->m.b n≠b)->w'.heap[b]? =w.heap[b]?) (p: ∀n,bk h' n->(∃k,bk h k/\i.b n=m.b k)\/w.heap.size<=i.b n):
 ∀g l,G.g g=some l->(∃a e f,w'.heap[g]? =some (.cells ⟨l++a⟩ e f))/\ ∀n,bk h' n->i.b n≠g:=fun g l q=>by
 grind
structure Goes (m:Mp) (h:aP) (w:World) (m':Mp) (h':aP) (w':World):Prop where
 tape:w'.tape=w.tape
 os:w'.os=w.os
 output:w'.output=w.output
 size:w.heap.size<=w'.heap.size
 xZ: ∀b,b<w.heap.size->(∀n,bk h n->m.b n≠b)->w'.heap[b]? =w.heap[b]?
 agree: ∀n,n.n<h.nx.n->m'.b n=m.b n/\m'.cv n=m.cv n
 nx:h.nx.n<=h'.nx.n
 Gm: ∀n,aH h' n->aH h n\/h.nx.n<=n.n
 yU: ∀n,bk h' n-> ¬bk h n->w.heap.size<=m'.b n\/ ∃k,bk h k/\m.b k=m'.b n
 old: ∀n,aH h n->aH h' n
 bold: ∀n,bk h n->bk h' n
 II: ∀n id,(h.at n).obj= .gH id->(h'.at n).obj= .gH id
omit [aJ] in
def Goes.refl (m:Mp) (h:aP) (w:World):Goes m h w m h w:=
 ⟨rfl,rfl,rfl,ak _,fun _ _ _=>rfl,fun _ _=>⟨rfl,rfl⟩,ak _,fun _ h=> .inl h,fun _ h a=>absurd h a,fun _ h=>h,fun _ h=>h,fun _ _ h=>h⟩
def Goes.trans {G:gI} {S':Nat->Prop} {m m1 m2:Mp} {h g h2:aP} {w w1 w2:World} (r:bV G S m h w) (r1:bV G S' m1 g w1) (a:Goes m h w m1 g w1) (b:Goes m1 g w1 m2 h2 w2):Goes m h w m2 h2 w2 where
 tape:=b.tape.trans a.tape
 os:=b.os.trans a.os
 output:=b.output.trans a.output
 size:=aL a.size b.size
 xZ:=fun x hx hn=>by
  rw [b.xZ x (ax hx a.size) (fun n hd=> ?_),a.xZ x hx hn];by_cases yJ:bk h n
  ·rw [(a.agree n (r.fresh n yJ.aH)).1];exact hn n yJ
  ·rcases a.yU n hd yJ with h3|⟨k,hk,he⟩
   all_goals grind
 agree:=fun n hn=>by
  have e1:=a.agree n hn;have e2:=b.agree n (ax hn a.nx)
  all_goals grind
 nx:=aL a.nx b.nx
 Gm:=fun n hd=>by
  rcases b.Gm n hd with e1|e1
  ·exact a.Gm n e1
  ·exact .inr (aL a.nx e1)
 yU:=fun n hd hn=>by
  by_cases e1:bk g n
  ·rw [(b.agree n (r1.fresh n e1.aH)).1];exact a.yU n e1 hn
  ·rcases b.yU n hd e1 with h3|⟨k,hk,he⟩
   ·exact .inl (aL a.size h3)
   ·by_cases jG:bk h k
    ·exact .inr ⟨k,jG,by rw [<-he,(a.agree k (r.fresh k jG.aH)).1]⟩
    ·rcases a.yU k hk jG with h4|⟨j,hj,NG⟩
     all_goals grind
 old:=fun n hd=>b.old n (a.old n hd)
 bold:=fun n hd=>b.bold n (a.bold n hd)
 II:=fun n id hd=>b.II n id (a.II n id hd)
def VP {G:gI} {m a:Mp} {h h':aP} {w w':World} (r:bV G S m h w) (g:Goes m h w a h' w') (t: ∀n id,(h'.at n).obj= .gH id->(h.at n).obj= .gH id):
 ∀n id,(h'.at n).obj= .gH id-> ∀f,(∀b,b<w'.heap.size-> ¬S b->(∀k,bk h' k->a.b k≠b)->f.heap[b]? =w'.heap[b]?)->G.jt id f (a.v n).v:=fun n id s f u=>by
 have y:=t n id s;have q:aH h n:=fun e=>by simp_all
 have z:a.v n=m.v n:=by unfold Mp.v;rw [(g.agree n (r.fresh n q)).2]
 rw [z];refine r.jt n id y f fun b i p l=> ?_
 rw [u b (ax i g.size) p fun k x=> ?_,g.xZ b i l];by_cases e:bk h k
 ·rw [(g.agree k (r.fresh k e.aH)).1];exact l k e
 ·rcases g.yU k x e with o|⟨j,A,o⟩
  all_goals grind
omit [aJ] in
def VQ {R:Type} {o:jR} {k:List ai->TypeId->Nat->Option R} {r:R} (h:cellsOf o none k=some r): ∃l e s,o= .cells l e s/\k l e s=some r:=by
 cases o<;>first|cases h|exact ⟨_,_,_,rfl,h⟩
section
variable {G:gI} {m:Mp} {h:aP} {w:World}
def bV.cells (r:bV G S m h w) {n:Pos} {l:List ai} {e s:Nat} (p:(h.at n).obj= .cells l e s):
 aH h n/\jn (aH h) l/\ ∃a f,w.heap[m.b n]? =some (.cells ⟨aW m l++a⟩ e f)/\(aW m l++a).length=m.c n*s/\ ∀j,j<(aW m l++a).length-> ¬(f.1<=j/\j<f.2):=by
 have i:bk h n:=by unfold bk;rw [p];rfl
 have x:=i.aH;obtain ⟨o,q,g⟩:=r.blk n i;have k:=r.ins n;rw [p] at g k;obtain ⟨a,f,rfl,t,u⟩:=g;exact ⟨x,k,a,f,q,t,u⟩
def bV.cell (r:bV G S m h w) {n:Pos} {l:List ai} {e s:Nat} (k:(h.at n).obj= .cells l e s) {j:Nat} {v:ai} (i:l[j]? =some v):
 w.cell? ⟨m.b n,j,none⟩=some (γ m v):=by
 obtain ⟨_,_,a,o,g,_,_⟩:=r.cells k;obtain ⟨f,rfl⟩:=eX.1 i;simp only [World.cell?,g];simp [pD,nA,f]
omit [aJ] in
def VS {D:Pos->Prop} {l:List ai} (h:jn D l) {j:Nat} {v:ai} (a:l[j]? =some v):In D v:=(mW l).1 h v (nB a)
def bV.Vu (r:bV G S m h w) {n:Pos} {off:Nat} {v:ai} (g:h.Vu n off=some v):w.cell? ⟨m.b n,off,none⟩=some (γ m v)/\In (aH h) v:=by
 obtain ⟨l,e,s,f,a⟩:=VQ g;rw [aaz] at a;exact ⟨r.cell f a,VS (r.cells f).2.1 a⟩
omit [aJ] in
def Gn (b o j:Nat):(⟨b,o,none⟩:Addr).add j=⟨b,o+j,none⟩:=by unfold Addr.add;split<;>simp_all
def bV.vw (r:bV G S m h w) {n:Pos} {off k:Nat} {l:List ai} (t:h.vw n off k=some l):
 l.length=k/\jn (aH h) l/\ ∀j v,(aW m l)[j]? =some v->w.cell? ((⟨m.b n,off,none⟩:Addr).add j)=some v:=by
 obtain ⟨x,e,s,g,f⟩:=VQ t;rw [aaA] at f;obtain ⟨p,rfl⟩:=aaB _ _ _ f;have q:=(r.cells g).2.1;refine ⟨by simp at p⊢;omega,(mW _).2 fun v y=>(mW _).1 q v (gY (dG y)),fun j v a=> ?_⟩;rw [Gn];rw [pD,dL] at a;cases i:((x.drop off).take k)[j]? with
 |none=>simp [i] at a
 |some u=>
  simp [i] at a;subst a;have o:x[off+j]? =some u:=by
   grind
  exact r.cell g o
def bV.Rg (r:bV G S m h w) {P:Program} {n:Pos} {off k:Nat} {l:List ai} (f:h.vw n off k=some l):
 (loadCells ⟨m.b n,off,none⟩ k).run P w= .ok ⟨aW m l⟩ w:=by
 obtain ⟨a,_,e⟩:=r.vw f;have:=run_loadCells_list (P:=P) w ⟨m.b n,off,none⟩ (aW m l) e;rw [o8,a] at this;rw [this]
end
def afQ: ∀(m:Mp) (l:List ai),NM l=true-> ∀v∈aW m l,v.oneCell'=true:=by
 intro m l
 induction l with
 |nil=>intro _ v a;cases a
 |cons x l f=>
  intro h v a;have b:cond (Vv x) (NM l) false=true:=h;cases e:Vv x with
  |false=>rw [e] at b;cases b
  |true=>
   rw [e] at b;simp only [aW,bq] at a;rcases a with rfl|a
   ·cases x<;>first|(simp [Vv] at e;done)|rfl|exact (aJ.ρ _).one|exact (m.v _).one|skip
    rename_i c;cases c<;>rfl
   ·exact f b v a
omit [aJ] in
def aaH (P:Program) (g o:Nat) (t:TypeId) (f:Nat×Nat): ∀(l:List Value) (i:Nat) (cur:Array Value) (w:World),w.heap[g]? =some (.cells cur t f)->(∀j,j<cur.size-> ¬(f.1<=j/\j<f.2))->o+i+l.length<=cur.size->(∀v∈l,v.oneCell'=true)->
 (storeCells ⟨g,o,none⟩ l i).run P w= .ok () (w.setRow g (cur.toList.take (o+i)++l++cur.toList.drop (o+i+l.length)).toArray)
 | [],i,cur,w,k,_,_,_=>by
  simp only [storeCells,fO,gj,dt,eS,Array.toArray_toList];rw [setRow_self w g cur t f k];rfl
 |v::a,i,cur,w,k,y,q,s=>by
  have u:o+i<cur.size:=by simp at q;omega
  have b:w.cell? ⟨g,o+i,none⟩=some cur[o+i]:=by simp [World.cell?,k,u]
  have p:w.frozen? ⟨g,o+i,none⟩=false:=by
   have:=y (o+i) u;simp only [World.frozen?,k,mE,decide_eq_false_iff_not];omega
  have z:(store ((⟨g,o,none⟩:Addr).add i) v).run P w= .ok () (w.setRow g (cur.setIfInBounds (o+i) v)):=by
   rw [Gn,run_store P w _ v _ (s v (by simp)),b];simp [p,setCell_eq_setRow w g (o+i) cur t f v k]
  have B:=aaH P g o t f a (i+1) (cur.setIfInBounds (o+i) v) (w.setRow g (cur.setIfInBounds (o+i) v)) (setRow_heap w g cur _ t _ k) (by simpa using y) (by simp at q⊢;omega) (fun x A=>s x (by simp [A]));simp only [storeCells,aI,z,az,B,setRow_setRow];congr 3;have e:=list_seg_step cur.toList (o+i) v a (by simp at q⊢;omega)
  all_goals grind
omit [aJ] in
def Rh (off:Nat) (a:Pos): ∀(l:List Pos) (t:gz Cell) (k:Pos),
 ((forget off a l t).get noCell k).rt=(t.get noCell k).rt/\
 (((forget off a l t).get noCell k).obj=(t.get noCell k).obj\/ ∃x e s,(t.get noCell k).obj= .cells x e s/\((forget off a l t).get noCell k).obj= .cells (x.take off) e s)/\
 (k∈l->k≠a-> ∀x e s,(t.get noCell k).obj= .cells x e s->((forget off a l t).get noCell k).obj= .cells (x.take off) e s)/\
 (k=a->((forget off a l t).get noCell k).obj=(t.get noCell k).obj)
 | [],t,k=>⟨rfl,.inl rfl,fun h=>(by cases h),fun _=>rfl⟩
 |q::l,t,k=>by
  simp only [forget];cases j:q.gU a with
  |true=>
   have o:=(Pos.pX _ _).1 j;obtain ⟨b,f,g,i⟩:=Rh off a l t k
   all_goals grind
  |false=>
   have o:q≠a:=fun e=>by rw [(Pos.pX _ _).2 e] at j;cases j
   simp only [cond_false];cases p:(t.get noCell q).obj with
   |cells x e s=>
    obtain ⟨b,f,g,i⟩:=Rh off a l (t.set noCell ⟨.cells (x.take off) e s,(t.get noCell q).rt⟩ q) k;simp only [cellsOf];rw [gz.EG] at b f g i
    all_goals grind
   |_=>
    obtain ⟨b,f,g,i⟩:=Rh off a l t k;simp only [cellsOf]
    all_goals grind
end
section
variable [aJ] {S:Nat->Prop}
omit [aJ] in
def afR {α:Type} (A vs:List α) (off t:Nat) (h:off+vs.length<=A.length) (a:t<=off):(A.take off++(vs++A.drop (off+vs.length))).take t=A.take t:=by
 grind
omit [aJ] in
def afS {α:Type} (A vs:List α) (off:Nat) (h:off+vs.length<=A.length):(A.take off++(vs++A.drop (off+vs.length))).length=A.length:=by
 simp;omega
def aoT {m:Mp} {k:Pos} {l:List ai} {e s:TypeId} {A b:List Value} {i:TypeId} {g:Nat×Nat} {off:Nat}
 (x:vD m k (.cells l e s) (.cells ⟨A⟩ i g)) (a:b.length=A.length) (y: ∀t,t<=off->b.take t=A.take t):
 vD m k (.cells (l.take off) e s) (.cells ⟨b⟩ i g):=by
 obtain ⟨o,p,j,q,u⟩:=x;simp only [Obj.cells.injEq,Array.mk.injEq] at j;obtain ⟨rfl,rfl,rfl⟩:=j;have B:(aW m (l.take off)).length=min off l.length:=by simp [o8]
 have z:aW m (l.take off)=b.take (min off l.length):=by
  rw [y _ (Nat.min_le_left _ _),fu (by rw [o8];exact Nat.min_le_right _ _),pD,pD,<-gb]
  all_goals grind
 have f:aW m (l.take off)++b.drop (min off l.length)=b:=by simp_all
 exact ⟨b.drop (min off l.length),g,by rw [f],by rw [f,a];exact q,by rw [f,a];exact u⟩
section
variable {G:gI} {m:Mp} {h:aP} {w:World}
def bV.wrote (r:bV G S m h w) {n:Pos} {x y:List ai} {e s:TypeId} {off:Nat} {vs:List Value} {f:List Value} {Q:Nat×Nat} {h':aP}
 (ho:(h.at n).obj= .cells x e s) (hh:w.heap[m.b n]? =some (.cells ⟨aW m x++f⟩ e Q)) (hc:(aW m x++f).length=m.c n*s)
 (hf: ∀j,j<(aW m x++f).length-> ¬(Q.1<=j/\j<Q.2))
 (J:off+vs.length<=(aW m x++f).length)
 (hy: ∃C,aW m y++C=(aW m x++f).take off++(vs++(aW m x++f).drop (off+vs.length))) (bz:jn (aH h) y)
 (T:(h'.at n)=⟨.cells y e s,(h.at n).rt⟩)
 (U: ∀k,k≠n->(h'.at k).rt=(h.at k).rt/\((h'.at k).obj=(h.at k).obj\/ ∃x e s,(h.at k).obj= .cells x e s/\(h'.at k).obj= .cells (x.take off) e s))
 (h3: ∀k,k≠n->aH h k->(h.at k).rt=(h.at n).rt-> ∀x e s,(h.at k).obj= .cells x e s->(h'.at k).obj= .cells (x.take off) e s)
 (jL:h'.nx=h.nx) (lP:h'.al=h.al):
 let N:=w.setRow (m.b n) ((aW m x++f).take off++(vs++(aW m x++f).drop (off+vs.length))).toArray
 bV G S m h' N/\Goes m h w m h' N/\ ∀k,aH h' k↔aH h k:=by
 intro N;have Y:bk h n:=by unfold bk;rw [ho];rfl
 have kK:aH h n:=Y.aH;have R: ∀k,bk h' k↔bk h k:=fun k=>by
  by_cases i:k=n
  ·subst i;unfold bk;rw [T,ho];exact ⟨fun _=>rfl,fun _=>rfl⟩
  ·unfold bk
   rcases (U k i).2 with p|⟨x,e,s,p,H⟩
   ·rw [p]
   ·simp_all
 have K': ∀k id,(h'.at k).obj= .gH id↔(h.at k).obj= .gH id:=fun k id=>by
  by_cases i:k=n
  all_goals grind
 have B: ∀k,aH h' k↔aH h k:=fun k=>by
  by_cases i:k=n
  ·subst i;unfold aH;rw [T,ho];simp
  ·unfold aH
   all_goals grind
 have O: ∀k,(h'.at k).rt=(h.at k).rt:=fun k=>by
  grind
 have BH:N.heap[m.b n]? =some (.cells ((aW m x++f).take off++(vs++(aW m x++f).drop (off+vs.length))).toArray e Q):=setRow_heap w _ _ _ e Q hh;have F: ∀b,b≠m.b n->N.heap[b]? =w.heap[b]? :=fun b I=>setRow_other w _ b _ I
 have g:Goes m h w m h' N:=⟨rfl,rfl,rfl,by simp [N],fun b _ W=>F b (fun e=>W n Y e.symm),fun _ _=>⟨rfl,rfl⟩,by simp_all,fun k i=> .inl ((B k).1 i),fun k i iG=>absurd ((R k).1 i) iG,fun k i=>(B k).2 i,fun k i=>(R k).2 i,fun k id i=>(K' k id).2 i⟩;refine ⟨⟨fun k i=> ?_,fun k i=> ?_,fun a b Z I u=> ?_,fun a b Z I he u=> ?_,fun k i=> ?_,fun k=> ?_,?_,VP r g fun k id i=>(K' k id).1 i,fun b I=>ax (r.lim b I) g.size⟩,g,B⟩
 ·have M:=(R k).1 i
  by_cases A:k=n
  ·subst A
   refine ⟨_,BH,?_⟩;rw [T];obtain ⟨C,hr⟩:=hy;have hl:=afS (aW m x++f) vs off J;exact ⟨C,Q,by rw [hr],by rw [hr,hl];exact hc,by rw [hr,hl];exact hf⟩
  ·obtain ⟨o,X,l⟩:=r.blk k M
   by_cases lN:m.b k=m.b n
   ·have La:(h.at k).rt=(h.at n).rt:=by
     cases oK ((h.at k).rt=(h.at n).rt) with
     |inl h=>exact h
     |inr u=>exact absurd lN (r.apart k n M Y u)
    rw [lN] at X⊢;rw [hh] at X;cases X;refine ⟨_,BH,?_⟩;cases z:(h.at k).obj with
    |cells xk ek sk=>
     rw [h3 k A M.aH La xk ek sk z];rw [z] at l;exact aoT l (afS _ vs off J) (fun t ht=>afR _ vs off t J ht)
    |other=>
     rcases (U k A).2 with p|⟨x,e,s,p,H⟩
     ·rw [p,z];trivial
     ·rw [z] at p;cases p
    |free=>exact absurd z M.aH
    |gH id=>unfold bk at M;rw [z] at M;cases M
    |map es cl=>rw [z] at l;cases l
    |sit _ _=>rw [z] at l;cases l
    |xV o _ _ _=>cases o with
     |none=>rw [z] at l;cases l
     |some q=>rw [z] at l;cases l
    |K3=>rw [z] at l;obtain ⟨_,l,_⟩:=l;cases l
    |uC=>rw [z] at l;cases l
   ·refine ⟨o,by rw [F _ lN];exact X,?_⟩
    rcases (U k A).2 with p|⟨x,e,s,p,H⟩
    ·rw [p];exact l
    ·rw [H];rw [p] at l;exact aoR off l
 ·rw [jL];exact r.fresh k ((B k).1 i)
 ·rw [O,O] at u;exact r.apart a b ((R a).1 Z) ((R b).1 I) u
 ·rw [O,O] at he;rw [O,lP]
  obtain ⟨e1,e2⟩:=r.mem a b ((B a).1 Z) ((B b).1 I) he u;refine ⟨e1,?_⟩;by_cases A:a=n
  ·subst A;rw [T];rfl
  ·rcases (U a A).2 with p|⟨x,e,s,p,H⟩
   ·rw [p];exact e2
   ·rw [H];rfl
 ·rw [jL,O];exact ⟨(r.mX k ((B k).1 i)).1,(B _).2 (r.mX k ((B k).1 i)).2⟩
 ·have mono: ∀n,aH h n->aH h' n:=fun n W=>(B n).2 W
  by_cases A:k=n
  ·subst A;rw [T];exact CZ mono _ bz
  ·rcases (U k A).2 with p|⟨x,e,s,p,H⟩
   ·rw [p];exact yT mono (r.ins k)
   ·rw [H]
    have:=r.ins k;rw [p] at this;exact CZ mono _ ((mW _).2 fun v hv=>(mW _).1 this v (dG hv))
 ·exact VO r.qN (fun b _ W=>F b (fun e=>W n Y e.symm)) fun k i=> .inl ⟨k,(R k).1 i,rfl⟩
def bV.store (r:bV G S m h w) {n:Pos} {off:Nat} {vs:List ai} {h':aP} (R:h.store n off vs=some h') (W:jn (aH h) vs) (P:Program):
 ∃I,(storeCells ⟨m.b n,off,none⟩ (aW m vs)).run P w= .ok () I/\bV G S m h' I/\Goes m h w m h' I/\h'.df=h.df/\ ∀k,aH h' k↔aH h k:=by
 unfold aP.store at R;obtain ⟨x,e,s,H,i⟩:=VQ R;cases M:NM vs with
 |false=>simp_all
 |true=>
  rw [M] at i;simp only [cond_true] at i;cases U:Iv vs off x with
  |none=>simp_all
  |some y=>
   rw [U] at i;simp only at i;obtain ⟨Z,T⟩:=afO vs off x y U;obtain ⟨O,J,g,Y,F,hc,C⟩:=r.cells H;have o:off+(aW m vs).length<=(aW m x++g).length:=by simp [o8];omega
   have N:aW m y++g=(aW m x++g).take off++(aW m vs++(aW m x++g).drop (off+(aW m vs).length)):=by
    rw [T,Gj,Gj,fu (by rw [o8];omega),List.drop_append_of_le_length (by rw [o8,o8];omega)];simp only [pD,gb,nP,ir,fo]
   have p:jn (aH h) y:=by
    rw [T];refine (mW _).2 fun v j=> ?_
    rcases b8.1 j with j|j
    ·exact (mW _).1 J v (dG j)
    ·rcases b8.1 j with j|j
     ·exact (mW _).1 W v j
     ·exact (mW _).1 J v (gY j)
   have iB:=aaH P (m.b n) off e Y (aW m vs) 0 ⟨aW m x++g⟩ w F C (by simpa using o) (afQ m vs M);refine ⟨_,iB,?_⟩;simp only [dt];rw [show ((aW m x++g).take off++aW m vs++(aW m x++g).drop (off+(aW m vs).length))=(aW m x++g).take off++(aW m vs++(aW m x++g).drop (off+(aW m vs).length)) by simp];cases z:h.al.get [] (h.at n).rt with
   |nil=>
    rw [z] at i;simp only [aX] at i;subst i;have t: ∀k,(aP.at ⟨h.put n ⟨.cells y e s,(h.at n).rt⟩,h.nx,h.al,h.df⟩ k)=if n=k then ⟨.cells y e s,(h.at n).rt⟩ else h.at k:=fun k=>gz.EG _ _ _ _
    obtain ⟨a,b,c⟩:=r.wrote (h':=⟨h.put n ⟨.cells y e s,(h.at n).rt⟩,h.nx,h.al,h.df⟩) H F hc C o ⟨g,N⟩ p (by rw [t,if_pos rfl]) (fun k i=>by grind)
     (fun k i A u=>by have:=(r.mem n k O A u.symm (g9 i)).1;rw [z] at this;cases this) rfl rfl
    all_goals grind
   |cons q l=>
    rw [z] at i;simp only [aX] at i;subst i;have t: ∀k,(h.put n ⟨.cells y e s,(h.at n).rt⟩).get noCell k=if n=k then ⟨.cells y e s,(h.at n).rt⟩ else h.at k:=fun k=>gz.EG _ _ _ _
    have B:=fun k=>Rh off n (q::l) (h.put n ⟨.cells y e s,(h.at n).rt⟩) k
    obtain ⟨a,b,c⟩:=r.wrote (h':=⟨forget off n (q::l) (h.put n ⟨.cells y e s,(h.at n).rt⟩),h.nx,h.al,h.df⟩) H F hc C o ⟨g,N⟩ p
     (by
      have f:=B n;rw [t,if_pos rfl] at f;show (forget off n (q::l) (h.put n ⟨.cells y e s,(h.at n).rt⟩)).get noCell n=_;generalize (forget off n (q::l) (h.put n ⟨.cells y e s,(h.at n).rt⟩)).get noCell n=c at f⊢;obtain ⟨f1,_,_,f4⟩:=f;cases c;simp_all)
     (fun k i=>by have f:=B k;rw [t,if_neg (g9 i)] at f;exact ⟨f.1,f.2.1⟩)
     (fun k i A u x' X s' hx=>by
      have f:=B k;rw [t,if_neg (g9 i)] at f;have Q:=(r.mem k n A O u i).1;rw [u,z] at Q;exact f.2.2.1 Q i x' X s' hx) rfl rfl
    exact ⟨a,b,rfl,c⟩
omit [aJ] in
def aP.aaL (h:aP) (o:jR) (k:Pos):(h.new o).at k=if h.nx=k then ⟨o,h.nx⟩ else h.at k:=gz.EG _ _ _ _
omit [aJ] in
def Mp.qu (m:Mp) (n:Pos) (a b:Nat):(m.set n a b).b n=a:=by simp [Mp.set]
omit [aJ] in
def Mp.Lb (m:Mp) (n:Pos) (a b:Nat):(m.set n a b).c n=b:=by simp [Mp.set,Mp.c]
omit [aJ] in
def Mp.BI (m:Mp) {n k:Pos} (a b:Nat) (h:k≠n):(m.set n a b).b k=m.b k/\(m.set n a b).cv k=m.cv k:=by simp [Mp.set,h]
def aoU (w:World) (o:Obj) (w':World):Prop:=w'.heap=w.heap.push o/\w'.tape=w.tape/\w'.os=w.os/\w'.output=w.output
def bV.Lc (r:bV G S m h w) {ob:jR} {o:Obj} {w':World} {cap:Nat} (hp:aoU w o w') (N:ob.pY=true)
 (M:vD (m.set h.nx w.heap.size cap) h.nx ob o) (hi:Az (aH h) ob):
 bV G S (m.set h.nx w.heap.size cap) (h.new ob) w'/\Goes m h w (m.set h.nx w.heap.size cap) (h.new ob) w'/\aH (h.new ob) h.nx:=by
 obtain ⟨B,O,W,Q⟩:=hp;have t:=aP.aaL h ob;have I: ∀k,bk h k->m.b k<w.heap.size:=fun k f=>by obtain ⟨o,i,_⟩:=r.blk k f;exact (au.1 i).1
 have H: ∀k,aH h k->k≠h.nx:=fun k f e=>by have:=r.fresh k f;rw [e] at this;exact bQ _ this
 have s: ∀k,aH h k->(m.set h.nx w.heap.size cap).b k=m.b k/\(m.set h.nx w.heap.size cap).cv k=m.cv k:=fun k f=>Mp.BI m _ _ (H k f)
 have y:bk (h.new ob) h.nx:=by unfold bk;rw [t,if_pos rfl];exact N
 have T:aH (h.new ob) h.nx:=y.aH;have X: ∀k,bk h k->bk (h.new ob) k:=fun k f=>by unfold bk;rw [t,if_neg (fun e=>H k f.aH e.symm)];exact f
 have A: ∀k,bk (h.new ob) k->k=h.nx\/(k≠h.nx/\bk h k):=fun k f=>by
  by_cases e:k=h.nx
  ·exact .inl e
  ·refine .inr ⟨e,?_⟩;unfold bk at f;rw [t,if_neg (g9 e)] at f;exact f
 have Y: ∀k id,(h.at k).obj= .gH id->((h.new ob).at k).obj= .gH id:=fun k id f=>by rw [t,if_neg (fun e=>H k (fun e'=>by rw [e'] at f;cases f) e.symm)];exact f
 have Z: ∀k id,((h.new ob).at k).obj= .gH id->(h.at k).obj= .gH id:=fun k id f=>by
  by_cases e:h.nx=k
  ·simp_all
  all_goals grind
 have j: ∀k,aH h k->aH (h.new ob) k:=fun k f=>by unfold aH;rw [t,if_neg (fun e=>H k f e.symm)];exact f
 have F: ∀k,aH (h.new ob) k->k=h.nx\/(k≠h.nx/\aH h k):=fun k f=>by
  by_cases e:k=h.nx
  ·exact .inl e
  ·refine .inr ⟨e,?_⟩;unfold aH at f;rw [t,if_neg (g9 e)] at f;exact f
 have z:(h.new ob).at h.nx=⟨ob,h.nx⟩:=by rw [t,if_pos rfl]
 have q: ∀k,k≠h.nx->(h.new ob).at k=h.at k:=fun k f=>by grind
 have R:(h.new ob).nx.n=h.nx.n+1:=Pos.IC _;have g:Goes m h w (m.set h.nx w.heap.size cap) (h.new ob) w':=
  ⟨O,W,Q,by rw [B];simp,fun b u _=>by grind,fun k f=>Mp.BI m _ _ (fun e=>by simp_all),by rw [R];omega,
   fun k f=>by grind,
   fun k f iG=>by rcases A k f with rfl|⟨_,i⟩;exact .inl (by rw [Mp.qu];exact ak _);exact absurd i iG,j,X,Y⟩
 refine ⟨⟨fun k f=> ?_,fun k f=> ?_,fun a b J u l=> ?_,fun a b J u l U=> ?_,fun k f=> ?_,fun k=> ?_,?_,VP r g Z,fun b M=>ax (r.lim b M) g.size⟩,g,T⟩
 ·rcases A k f with rfl|⟨x,i⟩
  ·refine ⟨o,by rw [Mp.qu,B];simp,?_⟩
   rw [z];exact M
  ·obtain ⟨o',p,h3⟩:=r.blk k i
   refine ⟨o',by rw [(s k i.aH).1,B,jO,if_neg (gO (I k i))];exact p,?_⟩;rw [q k x];exact K8 s (r.ins k) (s k i.aH).2 h3
 ·rw [R]
  rcases F k f with rfl|⟨_,i⟩
  ·omega
  ·have:=r.fresh k i;omega
 ·rcases A a J with rfl|⟨C,i⟩<;>rcases A b u with rfl|⟨y,p⟩
  ·exact absurd rfl l
  ·rw [Mp.qu,(s b p.aH).1];have:=I b p;omega
  ·rw [Mp.qu,(s a i.aH).1];have:=I a i;omega
  ·rw [(s a i.aH).1,(s b p.aH).1];rw [q a C,q b y] at l;exact r.apart a b i p l
 ·show a∈h.al.get [] _/\_
  rcases F a J with rfl|⟨C,i⟩<;>rcases F b u with rfl|⟨y,p⟩
  ·exact absurd rfl U
  ·rw [z,q b y] at l;have:=(r.mX b p).1;rw [<-l] at this;exact absurd this (bQ _)
  ·rw [z,q a C] at l;have:=(r.mX a i).1;rw [l] at this;exact absurd this (bQ _)
  ·rw [q a C] at l⊢;rw [q b y] at l;exact r.mem a b i p l U
 ·rw [R]
  rcases F k f with rfl|⟨x,i⟩
  ·rw [z];exact ⟨ji _,T⟩
  ·rw [q k x];have:=r.mX k i;exact ⟨gG this.1,j _ this.2⟩
 ·by_cases x:k=h.nx
  ·subst x;rw [z];exact yT j hi
  ·rw [q k x];exact yT j (r.ins k)
 ·exact VO r.qN (fun b u _=>by rw [B,jO,if_neg (gO u)]) fun k f=>by
   rcases A k f with rfl|⟨_,i⟩
   ·exact .inr (by rw [Mp.qu];exact ak _)
   ·exact .inl ⟨k,i,(s k i.aH).1⟩
omit [aJ] in
def aP.aoV (h:aP) (n:Pos) (o:jR) (k:Pos):(h.setObj n o).at k=if n=k then ⟨o,(h.at n).rt⟩ else h.at k:=gz.EG _ _ _ _
def jR.N4:jR->Bool
 | .cells .. =>false
 | .free=>false
 | .other=>false
 | .gH _=>false
 |_=>true
omit [aJ] in
def aoW {o:jR} (h:o.N4=true):o.pY=true:=by cases o<;>first|rfl|cases h
omit [aJ] in
def afU {o:jR} (a:o.Rf=true) (b:o.N4=true):False:=by cases o<;>simp [jR.Rf,jR.N4] at a b
def bV.Rl (r:bV G S m h w) {n:Pos} (A:(h.at n).obj.N4=true) (ob:jR) (o:Obj) {w':World}
 (B:ob.pY=true) (z:vD m n ob o) (hi:Az (aH h) ob)
 (T:w'.heap=w.heap.setIfInBounds (m.b n) o) (R:w'.tape=w.tape) (C:w'.os=w.os) (X:w'.output=w.output):
 bV G S m (h.setObj n ob) w'/\Goes m h w m (h.setObj n ob) w'/\ ∀k,aH (h.setObj n ob) k↔aH h k:=by
 have j:bk h n:=aoW A;have J:aH h n:=j.aH;have t:=aP.aoV h n ob;have M: ∀k,bk h k->k≠n->m.b k≠m.b n:=fun k f Q e=>by
  cases oK ((h.at n).rt=(h.at k).rt) with
  |inl x=>exact afU (r.mem n k J f.aH x (g9 Q)).2 A
  |inr x=>exact r.apart n k j f x e.symm
 have p: ∀k,bk (h.setObj n ob) k↔bk h k:=fun k=>by
  unfold bk;rw [t];by_cases e:n=k
  ·subst e;rw [if_pos rfl];exact ⟨fun _=>j,fun _=>B⟩
  ·rw [if_neg e]
 have H: ∀k id,((h.setObj n ob).at k).obj= .gH id↔(h.at k).obj= .gH id:=fun k id=>by
  rw [t];by_cases e:n=k
  ·subst e;rw [if_pos rfl];exact ⟨fun e=>(by simp_all),fun e=>(by unfold bk at j;rw [e] at j;cases j)⟩
  ·rw [if_neg e]
 have i: ∀k,aH (h.setObj n ob) k↔aH h k:=fun k=>by
  unfold aH;rw [t];by_cases e:n=k
  ·subst e;rw [if_pos rfl];exact ⟨fun _=>J,fun _ e=>by simp_all⟩
  ·rw [if_neg e]
 have l: ∀k,((h.setObj n ob).at k).rt=(h.at k).rt:=fun k=>by
  grind
 have Y:m.b n<w.heap.size:=by obtain ⟨o,I,_⟩:=r.blk n j;exact (au.1 I).1
 have q: ∀b,b≠m.b n->w'.heap[b]? =w.heap[b]? :=fun b z=>by grind
 have g:Goes m h w m (h.setObj n ob) w':=⟨R,C,X,by rw [T];simp,fun b _ F=>q b (fun e=>F n j e.symm),fun _ _=>⟨rfl,rfl⟩,ak _,fun k f=> .inl ((i k).1 f),fun k f U=>absurd ((p k).1 f) U,fun k f=>(i k).2 f,fun k f=>(p k).2 f,fun k id f=>(H k id).2 f⟩;refine ⟨⟨fun k f=> ?_,fun k f=>r.fresh k ((i k).1 f),fun a b y u s=> ?_,fun a b y u s W=> ?_,fun k f=> ?_,fun k=> ?_,VO r.qN (fun b _ F=>q b (fun e=>F n j e.symm)) fun k f=> .inl ⟨k,(p k).1 f,rfl⟩,VP r g fun k id f=>(H k id).1 f,fun b z=>ax (r.lim b z) g.size⟩,g,i⟩
 ·by_cases e:k=n
  ·simp_all
  ·obtain ⟨o',I,Z⟩:=r.blk k ((p k).1 f)
   all_goals grind
 ·rw [l,l] at s;exact r.apart a b ((p a).1 y) ((p b).1 u) s
 ·rw [l,l] at s;rw [l]
  obtain ⟨N,O⟩:=r.mem a b ((i a).1 y) ((i b).1 u) s W;refine ⟨N,?_⟩;rw [t];by_cases e:n=a
  ·subst e;exact (afU O A).elim
  all_goals grind
 ·rw [l];exact ⟨(r.mX k ((i k).1 f)).1,(i _).2 (r.mX k ((i k).1 f)).2⟩
 ·rw [t]
  by_cases e:n=k
  ·subst e;rw [if_pos rfl];exact yT (fun k f=>(i k).2 f) hi
  ·rw [if_neg e];exact yT (fun k f=>(i k).2 f) (r.ins k)
def bV.afW (r:bV G S m h w) {n:Pos} {x:List ai} {e s:TypeId} {off:Nat} {vs:List Value} {f:List Value} {p:Nat×Nat}
 (l:(h.at n).obj= .cells x e s) (R:w.heap[m.b n]? =some (.cells ⟨aW m x++f⟩ e p)) (hc:(aW m x++f).length=m.c n*s)
 (Q: ∀j,j<(aW m x++f).length-> ¬(p.1<=j/\j<p.2))
 (q:off<=x.length) (i:off+vs.length<=(aW m x++f).length):
 let u:=w.setRow (m.b n) ((aW m x++f).take off++(vs++(aW m x++f).drop (off+vs.length))).toArray
 let h':aP:=⟨forget off h.nx (n::h.al.get [] (h.at n).rt) h.t,h.nx,h.al,h.df⟩
 bV G S m h' u/\Goes m h w m h' u/\(∀k,aH h' k↔aH h k)/\h'.at n=⟨.cells (x.take off) e s,(h.at n).rt⟩/\(∀k,(h'.at k).rt=(h.at k).rt):=by
 intro u h';have B:aH h n:=(r.cells l).1;have I:=(r.cells l).2.1;have g:=fun k=>Rh off h.nx (n::h.al.get [] (h.at n).rt) h.t k
 have W:n≠h.nx:=fun e=>by have:=r.fresh n B;rw [e] at this;exact bQ _ this
 have A:h'.at n=⟨.cells (x.take off) e s,(h.at n).rt⟩:=by
  obtain ⟨M,_,N,_⟩:=g n;have O:=N (aC ..) W x e s l;show (forget off h.nx (n::h.al.get [] (h.at n).rt) h.t).get noCell n=_;have o:((forget off h.nx (n::h.al.get [] (h.at n).rt) h.t).get noCell n).rt=(h.at n).rt:=M;generalize (forget off h.nx (n::h.al.get [] (h.at n).rt) h.t).get noCell n=c at o O⊢;cases c;simp_all
 obtain ⟨a,b,c⟩:=r.wrote (h':=h') (y:=x.take off) l R hc Q i
  ⟨(
   (aW m x++f).take off++(vs++(aW m x++f).drop (off+vs.length))).drop off,by
   have:aW m (x.take off)=((aW m x++f).take off++(vs++(aW m x++f).drop (off+vs.length))).take off:=by
    rw [afR _ _ _ _ i (ak _),fu (by rw [o8];exact q),pD,pD,gb]
   rw [this,eS]⟩
  ((mW _).2 fun v T=>(mW _).1 I v (dG T)) A
  (fun k C=>⟨(g k).1,(g k).2.1⟩)
  (fun k C z H Y J X U=>by
   have F:=(r.mem k n z B H C).1;rw [H] at F;exact (g k).2.2.1 (aw _ F) (fun e=>by have:=r.fresh k z;rw [e] at this;exact bQ _ this) Y J X U) rfl rfl
 exact ⟨a,b,c,A,fun k=>(g k).1⟩
def bV.named (r:bV G S m h w) {n:Pos} {y:List ai} {e s:TypeId} {w':World} {B cap:Nat} {o:Obj} {l:List Pos}
 (hd:aH h n) (H:(h.at n).obj.Rf=true) (hl:l=h.al.get [] (h.at n).rt)
 (U:B=m.b n\/B=w.heap.size) (hsz:w.heap.size<=w'.heap.size) (W:w'.heap[B]? =some o) (T: ∀b,b<w.heap.size->w'.heap[b]? =w.heap[b]?)
 (ht:w'.tape=w.tape) (Z:w'.os=w.os) (qQ:w'.output=w.output)
 (Y:vD (m.set h.nx B cap) h.nx (.cells y e s) o) (hi:jn (aH h) y):
 let p:aP:=⟨h.t.set noCell ⟨.cells y e s,(h.at n).rt⟩ h.nx,h.nx.succ,h.al.set [] (h.nx::n::l) (h.at n).rt,h.df⟩
 bV G S (m.set h.nx B cap) p w'/\Goes m h w (m.set h.nx B cap) p w'/\aH p h.nx:=by
 intro p;have im: ∀k,p.at k=if h.nx=k then ⟨.cells y e s,(h.at n).rt⟩ else h.at k:=fun k=>gz.EG _ _ _ _
 have C: ∀k,p.al.get [] k=if (h.at n).rt=k then h.nx::n::l else h.al.get [] k:=fun k=>gz.EG _ _ _ _
 have bA: ∀k,bk h k->m.b k<w.heap.size:=fun k f=>by obtain ⟨o,i,_⟩:=r.blk k f;exact (au.1 i).1
 have R: ∀k,aH h k->k≠h.nx:=fun k f e=>by have:=r.fresh k f;rw [e] at this;exact bQ _ this
 have x: ∀k,aH h k->(m.set h.nx B cap).b k=m.b k/\(m.set h.nx B cap).cv k=m.cv k:=fun k f=>Mp.BI m _ _ (R k f)
 have A:p.at h.nx=⟨.cells y e s,(h.at n).rt⟩:=by rw [im,if_pos rfl]
 have u: ∀k,k≠h.nx->p.at k=h.at k:=fun k f=>by grind
 have vE:bk h n:=by unfold bk;cases ho:(h.at n).obj<;>rw [ho] at H<;>first|rfl|cases H
 have M:bk p h.nx:=by unfold bk;rw [A];rfl
 have kK:aH p h.nx:=M.aH;have N3: ∀k,bk h k->bk p k:=fun k f=>by unfold bk;rw [u k (R k f.aH)];exact f
 have Q: ∀k,bk p k->k=h.nx\/(k≠h.nx/\bk h k):=fun k f=>by
  by_cases e:k=h.nx
  ·exact .inl e
  ·refine .inr ⟨e,?_⟩;unfold bk at f;rw [u k e] at f;exact f
 have Rj: ∀k id,(h.at k).obj= .gH id->(p.at k).obj= .gH id:=fun k id f=>by rw [u k (R k (fun e'=>by rw [e'] at f;cases f))];exact f
 have Rk: ∀k id,(p.at k).obj= .gH id->(h.at k).obj= .gH id:=fun k id f=>by
  grind
 have q: ∀k,aH h k->aH p k:=fun k f=>by unfold aH;rw [u k (R k f)];exact f
 have O: ∀k,aH p k->k=h.nx\/(k≠h.nx/\aH h k):=fun k f=>by
  by_cases e:k=h.nx
  ·exact .inl e
  ·refine .inr ⟨e,?_⟩;unfold aH at f;rw [u k e] at f;exact f
 have jL:p.nx.n=h.nx.n+1:=Pos.IC _;have N: ∀k,bk h k->(h.at k).rt≠(h.at n).rt->m.b k≠B:=fun k f j=>by
  rcases U with rfl|rfl
  ·exact r.apart k n f vE j
  ·exact gO (bA k f)
 have bz: ∀k,aH h k->(h.at k).rt=(h.at n).rt->k∈n::l/\(h.at k).obj.Rf=true:=fun k f j=>by
  by_cases e:k=n
  ·subst e;exact ⟨aC ..,H⟩
  ·have:=r.mem k n f hd j e
   rw [j,<-hl] at this;exact ⟨aw _ this.1,this.2⟩
 have g:Goes m h w (m.set h.nx B cap) p w':=
  ⟨ht,Z,qQ,hsz,fun b F _=>T b F,fun k f=>Mp.BI m _ _ (fun e=>by rw [e] at f;exact bQ _ f),by rw [jL];omega,
   fun k f=>by rcases O k f with rfl|⟨_,i⟩;exact .inr (ak _);exact .inl i,
   fun k f iG=>by
    rcases Q k f with rfl|⟨_,i⟩
    ·rw [Mp.qu];rcases U with rfl|rfl;exact .inr ⟨n,vE,rfl⟩;exact .inl (ak _)
    ·exact absurd i iG,q,N3,Rj⟩
 refine ⟨⟨fun k f=> ?_,fun k f=> ?_,fun a b X F j=> ?_,fun a b X F j mn=> ?_,fun k f=> ?_,fun k=> ?_,?_,VP r g Rk,fun b Y=>ax (r.lim b Y) g.size⟩,g,kK⟩
 ·rcases Q k f with rfl|⟨I,i⟩
  ·refine ⟨o,by rw [Mp.qu];exact W,?_⟩
   rw [A];exact Y
  ·obtain ⟨o',z,h3⟩:=r.blk k i
   refine ⟨o',by rw [(x k i.aH).1,T _ (bA k i)];exact z,?_⟩;rw [u k I];exact K8 x (r.ins k) (x k i.aH).2 h3
 ·rw [jL]
  rcases O k f with rfl|⟨_,i⟩
  ·omega
  ·have:=r.fresh k i;omega
 ·rcases Q a X with rfl|⟨J,i⟩<;>rcases Q b F with rfl|⟨M,z⟩
  ·exact absurd rfl j
  ·rw [A,u b M] at j;rw [Mp.qu,(x b z.aH).1];exact fun e=>N b z (g9 j) e.symm
  ·rw [A,u a J] at j;rw [Mp.qu,(x a i.aH).1];exact N a i j
  ·rw [(x a i.aH).1,(x b z.aH).1];rw [u a J,u b M] at j;exact r.apart a b i z j
 ·rcases O a X with rfl|⟨J,i⟩<;>rcases O b F with rfl|⟨M,z⟩
  ·exact absurd rfl mn
  ·rw [A,C,if_pos rfl];exact ⟨aC ..,rfl⟩
  ·rw [A,u a J] at j;rw [u a J,C,if_pos j.symm]
   have:=bz a i j;exact ⟨aw _ this.1,this.2⟩
  ·rw [u a J] at j⊢;rw [u b M] at j;rw [C]
   by_cases e:(h.at n).rt=(h.at a).rt
   ·rw [if_pos e];have:=bz a i e.symm;exact ⟨aw _ this.1,this.2⟩
   ·rw [if_neg e];exact r.mem a b i z j mn
 ·rw [jL]
  rcases O k f with rfl|⟨I,i⟩
  ·rw [A];have:=r.mX n hd;exact ⟨gG this.1,q _ this.2⟩
  ·rw [u k I];have:=r.mX k i;exact ⟨gG this.1,q _ this.2⟩
 ·by_cases I:k=h.nx
  ·subst I;rw [A];exact CZ q _ hi
  ·rw [u k I];exact yT q (r.ins k)
 ·exact VO r.qN (fun b F _=>T b F) fun k f=>by
   rcases Q k f with rfl|⟨_,i⟩
   ·rw [Mp.qu];rcases U with rfl|rfl
    ·exact .inl ⟨n,vE,rfl⟩
    ·exact .inr (ak _)
   ·exact .inl ⟨k,i,(x k i.aH).1⟩
end
end
section
variable [aJ] {S:Nat->Prop}
def sO:Ak->IntKind->IntKind->Int->Int->Option ai
 | .bin .shl,k,_,a,b=>(NP .shl).f k a b
 | .bin .shr,k,_,a,b=>(NP .shr).f k a b
 | .bin o,k,j,a,b=>cond (nM k j) ((vy o).f k a b) none
 | .neg,k,_,a,_=>oZ k (yL k (QZ 0 a))
 | .conv d,_,_,a,_=>oZ d (yL d a)
 | .mx t,k,j,a,b=>cond (nM k j) (some (.int k (cond t (cond (CW a b) b a) (cond (CW b a) b a)))) none
def x9:ai->Bool
 | .sym _=>true
 | .int _ _=>true
 | .bool _=>true
 |_=>false
omit [aJ] in
def afX {v:ai} (h:x9 v=true) (D:Pos->Prop):In D v:=by cases v<;>first|exact trivial|cases h
structure mZ (F:Fact):Prop where
 plain:x9 F.r=true
 val: ∃k j a b v,(∀m,γ m F.a= .int k a)/\(∀m,γ m F.b= .int j b)/\sO F.op k j a b=some v/\ ∀m,γ m F.r=γ m v
def N5 (G:gI):Prop:= ∀id a,G.len id=some a->x9 a=true/\ ∀w v,G.jt id w v-> ∃b k c,v= .slice b k c/\ ∀m,γ m a= .int .i64 (k:Nat)
structure eN (P:Program) (E:Env):Prop where
 ty: ∀t i,E.ty t=some i->P.info? t=some i
 fn: ∀f fn,E.fns.get none (pos f)=some fn->P.funcs[f]? =some fn
 gt: ∀t,E.gt t=true->P.stoodInHeld t=false/\P.eqGuardType P.depth t=false
 facts: ∀F∈E.facts,mZ F
 len:N5 E.gl
structure Src (G:gI) (m:Mp) (D:Pos->Prop) (tm:Tm) (ρ:Operand->Value):Prop where
 tmp: ∀t,ρ (.tmp t)=γ m (ig t tm)/\In D (ig t tm)
 const: ∀v,ρ (.const v)=v
 global: ∀g,ρ (.global g)= .pointer (some ⟨g,0,none⟩)
 func: ∀f,ρ (.func f)= .func (.func f) #[] #[]
section
variable {P:Program} {E:Env} {m:Mp} {D:Pos->Prop} {tm:Tm} {ρ:Operand->Value}
def eN.cU (ok:eN P E) {t:TypeId} {d:TypeDesc} (h:E.cU t=some d):P.underlying t=some d:=by
 unfold Env.cU at h;cases b:E.ty t with
 |none=>rw [b] at h;cases h
 |some i=>
  rw [b] at h;have f:=ok.ty t i b;unfold Program.underlying;rw [f];obtain ⟨a,g,k,l,o,p,q,s,x,y⟩:=i;cases a with
  |named nm u=>
   simp only at h⊢;cases e:E.ty u with
   |none=>rw [e] at h;cases h
   |some j=>rw [e] at h;rw [ok.ty u j e];simpa using h
  |_=>exact h
def eN.size (ok:eN P E) {t:TypeId} {s:Nat} (h:E.size t=some s): ∃i,P.info? t=some i/\i.size=s:=by
 unfold Env.size at h;cases a:E.ty t with
 |none=>rw [a] at h;cases h
 |some i=>rw [a] at h;exact ⟨i,ok.ty t i a,by simpa using h⟩
def eN.zero (ok:eN P E) {t:TypeId} {z:ai} (h:E.zero t=some z): ∃i v,P.info? t=some i/\i.zero=some v/\z=ai.ofValue v:=by
 unfold Env.zero at h;cases a:E.ty t with
 |none=>rw [a] at h;cases h
 |some i=>
  rw [a] at h;simp only at h;cases b:i.zero with
  |none=>rw [b] at h;cases h
  |some v=>rw [b] at h;exact ⟨i,v,ok.ty t i a,b,by simpa using h.symm⟩
omit [aJ] in
def aoX {t:TypeId} {i:TypeInfo} (h:P.info? t=some i) (w:World):(typeInfo t).run P w= .ok i w:=by simp [typeInfo,h]
omit [aJ] in
def yX {t:TypeId} {i:TypeInfo} (h:P.info? t=some i) (w:World):(Go.sizeOf t).run P w= .ok i.size w:=by simp [Go.sizeOf,typeInfo,h]
omit [aJ] in
def VV {t:TypeId} {i:TypeInfo} {v:Value} (h:P.info? t=some i) (a:i.zero=some v) (w:World):(zeroValue t).run P w= .ok v w:=by simp [zeroValue,typeInfo,h,a]
def eN.yX (ok:eN P E) {t:TypeId} {s:Nat} (h:E.size t=some s) (w:World):(Go.sizeOf t).run P w= .ok s w:=by
 obtain ⟨i,a,rfl⟩:=ok.size h;exact Go.Ev.yX a w
def eN.nO (ok:eN P E) {t:TypeId} {d:TypeDesc} (h:E.cU t=some d) (w:World):(underlying t).run P w= .ok d w:=run_underlying (ok.cU h) w
def eN.aaN (ok:eN P E) {t:TypeId} {b:Bool} (h:E.F8 t=some b) (w:World):(isAgg t).run P w= .ok b w:=by
 unfold Env.F8 at h;cases a:E.cU t with
 |none=>rw [a] at h;cases h
 |some d=>
  rw [a] at h;unfold isAgg;simp only [aI,ok.nO a,az];cases d<;>simp at h<;>subst h<;>rfl
def jf (s:Src E.gl m D tm ρ) (x:Operand):ρ x=γ m ((bR E x).g tm)/\In D ((bR E x).g tm):=by
 cases x with
 |tmp t=>exact s.tmp t
 |const v=>exact ⟨by rw [s.const];exact (Gk m v).symm,Ay D v⟩
 |global g=>
  rw [s.global];exact ⟨rfl,by show Value.oneCell' _=true;rfl⟩
 |func f=>exact ⟨by rw [s.func];rfl,⟨trivial,trivial⟩⟩
def IK (s:Src E.gl m D tm ρ): ∀l:List Operand,l.map ρ=aW m (sK (tg E l) tm)/\jn D (sK (tg E l) tm)
 | []=>⟨rfl,trivial⟩
 |x::l=>by
  have a:=jf (E:=E) s x;have b:=IK s l;refine ⟨?_,a.2,b.2⟩;show ρ x::l.map ρ=γ m ((bR E x).g tm)::aW m (sK (tg E l) tm);rw [a.1,b.1]
omit [aJ] in
def ya {k:IntKind} {n:Int} {v:ai} (h:oZ k n=some v):v= .int k n:=by
 cases n with
 |ofNat n=>cases n<;>(cases h;rfl)
 |negSucc n=>cases n<;>(cases h;rfl)
omit [aJ] in
def afY (k:IntKind):half k<=2^k.bits:=by cases k<;>decide
omit [aJ] in
def wrap_small (k:IntKind) {a:Nat} (h:a<half k):k.wrap (Int.ofNat a)=Int.ofNat a:=by
 have f:(a:Int)<(2^k.bits:Int):=by
  have e:a<2^k.bits:=ax h (afY k);exact_mod_cast e
 have b:(a:Int) % (2^k.bits:Int)=a:=Int.emod_eq_of_lt (by omega) f;show (let m:=(a:Int) % (2^k.bits:Int);if k.signed&&m>=(2^(k.bits-1):Int) then m-(2^k.bits:Int) else m)=(a:Int);simp only [b];cases k<;>simp [IntKind.signed,IntKind.bits,half] at h⊢ <;>omega
omit [aJ] in
def yb (k:IntKind) (n:Int):yL k n=k.wrap n:=by
 cases n with
 |ofNat a=>
  show cond (Nat.blt a (half k)) (Int.ofNat a) (k.wrap (Int.ofNat a))=_;cases h:Nat.blt a (half k) with
  |true=>exact (wrap_small k (sM.1 h)).symm
  |false=>rfl
 |negSucc a=>rfl
omit [aJ] in
def BJ (a b:Int):CW a b=decide (a<b):=by
 cases a with
 |ofNat a=>cases b with
  |ofNat b=>
   show Nat.blt a b=_;by_cases h:a<b
   ·simp_all
   ·rw [aay h]
    all_goals grind
  |negSucc b=>
    symm;apply decide_eq_false
    all_goals grind
 |negSucc a=>cases b with
  |ofNat b=>
    symm;apply decide_eq_true
    all_goals grind
  |negSucc b=>
   show Nat.blt b a=_;have e:Int.negSucc a= -(a:Int)-1:=by omega
   have f:Int.negSucc b= -(b:Int)-1:=by omega
   by_cases h:b<a
   ·simp_all
   ·rw [aay h]
    all_goals grind
omit [aJ] in
def afZ (a b:Int):afy a b=a+b:=by cases a<;>cases b<;>rfl
omit [aJ] in
def Rm (a b:Int):QZ a b=a-b:=by
 cases a with
 |ofNat a=>cases b with
  |ofNat b=>
   show cond (Nat.ble b a) (Int.ofNat (Nat.sub a b)) (Int.negSucc (Nat.sub (Nat.sub b a) 1))=_;have e: ∀x y,Nat.sub x y=x-y:=fun _ _=>rfl
   simp only [e];by_cases h:b<=a
   ·rw [qt.2 h]
    all_goals grind
   ·rw [aax h]
    all_goals grind
  |negSucc b=>rfl
 |negSucc a=>cases b<;>rfl
omit [aJ] in
def aaO (a b:Int):aal a b=a*b:=by cases a<;>cases b<;>rfl
omit [aJ] in
def af0 (a b:Int):aam a b=a.tdiv b:=by cases a<;>cases b<;>rfl
omit [aJ] in
def af1 (a b:Int):aan a b=a.tmod b:=by cases a<;>cases b<;>rfl
end
end
end Go.Ev
