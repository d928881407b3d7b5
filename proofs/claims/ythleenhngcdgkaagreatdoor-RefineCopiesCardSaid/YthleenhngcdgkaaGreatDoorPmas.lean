/- refineCopies_proved. -/
import Derived.Test.YthleenhngcdgkaaGreatDoorPmar
set_option maxRecDepth 100000
set_option maxHeartbeats 16000000
set_option linter.all false
noncomputable section
namespace Go.Proofs.YthleenhngcdgkaaGreatDoor
section
open Go.RowKit Go.Ev
inductive BD where
 |z (a b c:Bool) (k:Nat)|y (g b c:Bool) (k:Nat)|n (p:Bool) (k:Nat)|i (l h:Int)|u (l h:Int)|x|ra
 deriving Inhabited
inductive Ag where
 |z (a:KZ)|n (a:KN)|i (a:KI)|ra (j:Nat)
structure Alt where
 nb:List BD
 rf:List (Nat×BD)
 rr:List (Nat×List Nat)
 r:Kd
structure Cn where
 f:Option FuncId
 ps:List BD
 pr:List (Nat×List Nat)
 ks:List Kd
 al:List Alt
structure St where
 b:List BD
 r:List (Nat×List Nat)
 f:List KF
 t:List KE
inductive Nd where
 |c (i:Nat) (s:List Ag)|a (o:BinOp) (p q:KI)|t (o:BinOp) (p q:KI)|e (o:BinOp) (j:Nat)|g (p:KI)|m (g:Bool) (p q:KI)|v (p:KI)|r (k:Nat) (s:List Ag)
def m7(j:Nat):Ag:=.z (.z j)
def ko(j:Nat):Ag:=.i (.i j)
def DA(k:Int):Ag:=.i (.l k)
def sY(i:Nat)(s:List Ag):Nd:=.c i s
def uZ(i:Nat)(s:List Ag):Nd:=.r i s
def NdG(j:Nat):Nd:=.g (.i j)
def L8(o:BinOp)(i:Nat)(k:Int):Nd:=.t o (.i i) (.l k)
def NdA(o:BinOp)(i:Nat)(k:Int):Nd:=.a o (.i i) (.l k)
def NdB(o:BinOp)(i j:Nat):Nd:=.a o (.i i) (.i j)
def L9:Ag:=.z (.o)
def nX(i j:Nat)(s:Int):Alt:=⟨[.z false true false 0,.n false 0],[],[],.res (.z i) (.n j) (.l s)⟩
def nY(i j:Nat):Alt:=⟨[.z true true true 1024,.n true 1024],[],[],.res (.z i) (.n j) (.l 1)⟩
def xm(i j k:Nat):Kd:=.res (.z i) (.n j) (.i k)
def cQ(i j:Nat):Kd:=.r (.z i) (.n j)
def mg(i j k l:Nat):Kd:=.v (.z i) (.i j) (.z k) (.i l)
def gL (a b:Int):Bool:=match b-a with
 | .ofNat _=>true
 | .negSucc _=>false
def imax (a b:Int):Int:=cond (gL a b) b a
def vb (a b:Int):Int:=cond (gL a b) a b
def Tc (a b:Nat):Nat:=cond (Nat.ble a b) a b
def Ma (a b:Nat):Nat:=cond (Nat.ble a b) b a
def imp (a b:Bool):Bool:=cond a b true
def beq (a b:Bool):Bool:=cond a b (cond b false true)
def dN:List BD->Nat->BD
 | [],_=> .x
 |b::_,0=>b
 |_::l,n+1=>dN l n
def Mb:List BD->Nat->BD->List BD
 | [],_,_=> []
 |_::l,0,c=>c::l
 |b::l,n+1,c=>b::Mb l n c
def BD.DC:BD->BD
 | .z a b c k=> .z a b c k
 | .y g b c k=>cond g (.z true false false k) (.z false b c k)
 |_=> .x
def KZ.bd (B:List BD):KZ->BD
 | .z j=>(dN B j).DC
 | .s g j=>match dN B j with
  | .y h b c k=>cond (beq g h) (.y h b c k) .x
  |_=> .x
 | .o=> .z false true false 0
def KN.bd (B:List BD):KN->BD
 | .n j=>match dN B j with
  | .n p k=> .n p k
  |_=> .x
 | .m j=>match (dN B j).DC with
  | .z _ b _ k=> .n (cond b false true) k
  |_=> .x
 | .o=> .n false 0
def KI.bd (B:List BD):KI->BD
 | .i j=>match dN B j with
  | .i x y=> .i x y
  |_=> .x
 | .u j=>match dN B j with
  | .u x y=> .u x y
  |_=> .x
 | .l x=> .i x x
 | .k d v=>cond (nM d .u32&&gL 0 v) (.u v v) .x
 | .len _=> .x
def Ag.bd (B:List BD):Ag->BD
 | .z a=>a.bd B
 | .n a=>a.bd B
 | .i a=>a.bd B
 | .ra j=>match dN B j with
  | .ra=> .ra
  |_=> .x
def nF:BD->BD->Bool
 | .z a b c k,.z j e f d=>(imp a j&&imp b e)&&(imp c f&&Nat.ble k d)
 | .y g b c k,.z j e f d=>cond g j (imp b e&&imp c f)&&Nat.ble k d
 | .y g b c k,.y h e f d=>(beq g h&&imp b e)&&(imp c f&&Nat.ble k d)
 | .n p k,.n q d=>imp q p&&Nat.ble k d
 | .i l h,.i o m=>gL o l&&gL h m
 | .u l h,.u o m=>gL o l&&gL h m
 | .ra,.ra=>true
 |_,_=>false
def DD:List BD->List BD->Bool
 | [],[]=>true
 |a::l,b::m=>nF a b&&DD l m
 |_,_=>false
def acG:BD->BD->BD
 | .z a b c k,.z o e f d=> .z (a&&o) (b&&e) (c&&f) (Tc k d)
 | .y g b c k,.z _ e f d=> .y g (b&&e) (c&&f) (Tc k d)
 | .n p k,.n q d=> .n (p||q) (Tc k d)
 | .i l h,.i m j=> .i (imax l m) (vb h j)
 | .u l h,.u m j=> .u (imax l m) (vb h j)
 |b,_=>b
def acH:BD->Bool
 | .z a b c _=>cond a false (cond b false (cond c false true))
 | .y g b c _=>cond g false (cond b false (cond c false true))
 | .n p k=>p&&Nat.beq k 0
 | .i l h=>cond (gL l h) false true
 | .u l h=>cond (gL l h) false true
 | .x=>false
 | .ra=>false
def O0:List BD->Bool
 | []=>false
 |b::l=>acH b||O0 l
def mR:List BD->Nat
 | []=>0
 |_::l=>Nat.succ (mR l)
def sZ:List BD->List BD->List BD
 | [],m=>m
 |b::l,m=>b::sZ l m
def XX (n:Nat):BD->Ag
 | .z _ _ _ _=>Ag.z (.z n)
 | .y g _ _ _=>Ag.z (.s g n)
 | .n _ _=>Ag.n (.n n)
 | .u _ _=>Ag.i (.u n)
 | .ra=>Ag.ra n
 |_=>Ag.i (.i n)
def fresh:Nat->List BD->List Ag
 |_,[]=> []
 |n,b::l=>XX n b::fresh (Nat.succ n) l
def pL:List Ag->Nat->Option Ag
 | [],_=>none
 |a::_,0=>some a
 |_::l,n+1=>pL l n
def Ch:List Ag->List Ag->List Ag
 | [],m=>m
 |b::l,m=>b::Ch l m
def KZ.sb (n:Nat) (s:List Ag):KZ->KZ
 | .o=> .o
 | .z j=>match pL s j with
  |some (.z a)=>a
  |_=> .z n
 | .s _ j=>match pL s j with
  |some (.z a)=>a
  |_=> .z n
def KN.sb (n:Nat) (s:List Ag):KN->KN
 | .o=> .o
 | .n j=>match pL s j with
  |some (.n a)=>a
  |_=> .n n
 | .m j=>match pL s j with
  |some (.z (.z k))=> .m k
  |some (.z (.s _ k))=> .m k
  |some (.z .o)=> .o
  |_=> .n n
def KI.sb (n:Nat) (s:List Ag):KI->KI
 | .i j=>match pL s j with
  |some (.i a)=>cond a.w a (.i n)
  |_=> .i n
 | .u j=>match pL s j with
  |some (.i a)=>cond (nM a.kd .u32) a (.i n)
  |_=> .i n
 | .len _=> .i n
 |x=>x
def Td (n:Nat) (s:List Ag) (j:Nat):Nat:=match pL s j with
 |some (.ra i)=>i
 |_=>n
def Kd.sb (n:Nat) (s:List Ag):Kd->Kd
 | .z a=> .z (a.sb n s)
 | .n a=> .n (a.sb n s)
 | .i a=> .i (a.sb n s)
 | .d a e=> .d (a.sb n s) (e.sb n s)
 | .r a q=> .r (a.sb n s) (q.sb n s)
 | .v a e c f=> .v (a.sb n s) (e.sb n s) (c.sb n s) (f.sb n s)
 | .s a c=> .s (a.sb n s) (c.sb n s)
 | .t a c=> .t (a.sb n s) (c.sb n s)
 | .t3 a c e=> .t3 (a.sb n s) (c.sb n s) (e.sb n s)
 | .nd q a c x y=> .nd q (a.sb n s) (c.sb n s) (x.sb n s) y
 | .res a x y=> .res (a.sb n s) (x.sb n s) (y.sb n s)
 | .out a e c f y=> .out (a.sb n s) (e.sb n s) (c.sb n s) (f.sb n s) (y.sb n s)
 | .cat a c=> .cat (a.sb n s) (c.sb n s)
 | .ra j=> .ra (Td n s j)
 | .fc f j=> .fc f (Td n s j)
 |x=>x
def Mc (n:Nat) (s:List Ag):List Kd->List Kd
 | []=> []
 |k::l=>k.sb n s::Mc n s l
def Ag.ix:Ag->Option Nat
 | .z (.z j)=>some j
 | .z (.s _ j)=>some j
 | .n (.n j)=>some j
 | .i (.i j)=>some j
 | .i (.u j)=>some j
 |_=>none
def O1 (s:List Ag):List Nat->Option (List Nat)
 | []=>some []
 |j::l=>match pL s j with
  |some a=>match a.ix with
   |some i=>match O1 s l with
    |some m=>some (i::m)
    |none=>none
   |none=>none
  |none=>none
def Md (s:List Ag) (x:Nat×List Nat):Option (Nat×List Nat):=match O1 s x.2 with
 |some m=>some (x.1,m)
 |none=>none
def XY:List Nat->List Nat->Bool
 | [],[]=>true
 |a::l,b::m=>Nat.beq a b&&XY l m
 |_,_=>false
def Te (x:Nat×List Nat):List (Nat×List Nat)->Bool
 | []=>false
 |y::l=>(Nat.beq x.1 y.1&&XY x.2 y.2)||Te x l
def Tf (s:List Ag) (R:List (Nat×List Nat)):List (Nat×List Nat)->Bool
 | []=>true
 |x::l=>(match Md s x with
  |some y=>Te y R
  |none=>false)&&Tf s R l
def yp (s:List Ag):List (Nat×List Nat)->List (Nat×List Nat)->List (Nat×List Nat)
 | [],R=>R
 |x::l,R=>match Md s x with
  |some y=>y::yp s l R
  |none=>yp s l R
def Jw (s:List Ag):List (Nat×BD)->List BD->List BD
 | [],B=>B
 |x::l,B=>match pL s x.1 with
  |some a=>match a.ix with
   |some i=>Mb (Jw s l B) i (acG (dN (Jw s l B) i) x.2)
   |none=>Jw s l B
  |none=>Jw s l B
def A3 (B:List BD):List Ag->List BD
 | []=> []
 |a::l=>a.bd B::A3 B l
def live:List St->List St
 | []=> []
 |s::l=>cond (O0 s.b) (live l) (s::live l)
def acI (s:St) (c:Cn) (g:List Ag) (a:Alt):St:=
 ⟨sZ (Jw g a.rf s.b) a.nb,yp (Ch g (fresh (mR s.b) a.nb)) a.rr s.r,s.f,match c.f with
  |some f=>⟨f,Mc (mR (sZ s.b a.nb)) g c.ks,a.r.sb (mR (sZ s.b a.nb)) (Ch g (fresh (mR s.b) a.nb))⟩::s.t
  |none=>s.t⟩
def XZ (s:St) (c:Cn) (g:List Ag):List Alt->List St
 | []=> []
 |a::l=>acI s c g a::XZ s c g l
def acJ (s:St) (c:Cn) (g:List Ag):Option (List St):=cond (DD (A3 s.b g) c.ps&&Tf g s.r c.pr) (some (live (XZ s c g c.al))) none
def iv (B:List BD) (k:KI):Option (Int×Int):=match k.bd B with
 | .i l h=>some (l,h)
 | .u l h=>some (l,h)
 |_=>none
def Ff (k:KI) (l h:Int) (B:List BD):List BD:=match k with
 | .i j=>match dN B j with
  | .i _ _=>Mb B j (.i l h)
  |_=>B
 | .u j=>match dN B j with
  | .u _ _=>Mb B j (.u l h)
  |_=>B
 |_=>B
def O2 (r:Bool) (x y:Int×Int):(Int×Int)×(Int×Int):=cond r ((x.1,vb x.2 (y.2-1)),(imax y.1 (x.1+1),y.2)) ((imax x.1 y.1,x.2),(y.1,vb y.2 x.2))
def vS (r:Bool):Bool:=cond r false true
def swp (p:(Int×Int)×(Int×Int)):(Int×Int)×(Int×Int):=(p.2,p.1)
def Jx (a b:Int):Bool:=gL a b&&gL b a
def Tg (x y:Int×Int):Int×Int:=cond (Jx y.1 y.2) (cond (Jx x.1 y.1) (x.1+1,x.2) (cond (Jx x.2 y.1) (x.1,x.2-1) x)) x
def X0 (r:Bool) (x y:Int×Int):(Int×Int)×(Int×Int):=cond r ((imax x.1 y.1,vb x.2 y.2),(imax x.1 y.1,vb x.2 y.2)) (Tg x y,Tg y x)
def O3 (o:BinOp) (r:Bool) (x y:Int×Int):Option ((Int×Int)×(Int×Int)):=match o with
 | .lss=>some (O2 r x y)
 | .gtr=>some (swp (O2 r y x))
 | .leq=>some (swp (O2 (vS r) y x))
 | .geq=>some (O2 (vS r) x y)
 | .eql=>some (X0 r x y)
 | .neq=>some (X0 (vS r) x y)
 |_=>none
def Fg (s:St) (o:BinOp) (p q:KI) (x y:Int×Int) (r:Bool):List St:=match O3 o r x y with
 |some ((l,h),(d,a))=>cond (gL l h&&gL d a) [⟨Ff q d a (Ff p l h s.b),s.r,.cm o p q r::s.f,s.t⟩] []
 |none=> []
def A4:List St->List St->List St
 | [],m=>m
 |s::l,m=>s::A4 l m
def X1 (b:BD):BD:=match b with
 | .n _ _=> .n false 0
 | .z _ _ _ k=> .z false true false k
 | .y g _ _ k=> .y g true false k
 |b=>b
def X2 (b:BD):BD:=match b with
 | .n _ k=> .n true k
 | .z a _ c k=> .z a false c k
 | .y g _ c k=> .y g false c k
 |b=>b
def ai9 (z:Bool):BD->Bool
 | .n p k=>cond z p (Nat.beq k 0)
 | .z a m c _=>cond z (vS m) (vS (a||c))
 | .y g m c _=>cond z (g||vS m) (vS (g||c))
 |_=>true
def Ha (s:St) (o:BinOp) (j:Nat) (r z:Bool):List St:=cond (ai9 z (dN s.b j)) [] [⟨Mb s.b j (cond z (X1 (dN s.b j)) (X2 (dN s.b j))),s.r,.cm o (.len j) (.l 0) r::s.f,s.t⟩]
def aja:BD->Bool
 | .n _ _=>true
 | .z _ _ _ _=>true
 | .y _ _ _ _=>true
 |_=>false
def big:Int:=9223372036854775807
def X3 (l h:Int):Bool:=gL (-9223372036854775808) l&&gL h big
def arB (o:BinOp) (x y:Int×Int):Option (Int×Int):=match o with
 | .add=>some (x.1+y.1,x.2+y.2)
 | .sub=>some (x.1-y.2,x.2-y.1)
 | .mul=>let a:=x.1*y.1;let b:=x.1*y.2;let c:=x.2*y.1;let d:=x.2*y.2
  some (vb (vb a b) (vb c d),imax (imax a b) (imax c d))
 | .rem=>cond (Jx y.1 y.2&&gL 1 y.1) (some (cond (gL 0 x.1) 0 (1-y.1),cond (gL x.2 0) 0 (y.1-1))) none
 |_=>none
def Me (k:KI):Bool:=nM k.kd .i64
def step (C:Nat->List BD->Option Cn) (n:Nd) (s:St):Option (List St):=match n with
 | .c i g=>match C i (A3 s.b g) with
  |some c=>acJ s c g
  |none=>none
 | .a o p q=>match iv s.b p with
  |some x=>match iv s.b q with
   |some y=>match arB o x y with
    |some (l,h)=>cond ((Me p&&Me q)&&(gL l h&&X3 l h)) (some [⟨sZ s.b [.i l h],s.r,.ar o p q (.i (mR s.b))::s.f,s.t⟩]) none
    |none=>none
   |none=>none
  |none=>none
 | .t o p q=>match iv s.b p with
  |some x=>match iv s.b q with
   |some y=>match O3 o true x y with
    |some _=>cond (nM p.kd q.kd) (some (A4 (Fg s o p q x y true) (Fg s o p q x y false))) none
    |none=>none
   |none=>none
  |none=>none
 | .e o j=>cond (aja (dN s.b j)) (match o with
  | .gtr=>some (A4 (Ha s o j true false) (Ha s o j false true))
  | .neq=>some (A4 (Ha s o j true false) (Ha s o j false true))
  | .eql=>some (A4 (Ha s o j true true) (Ha s o j false false))
  |_=>none) none
 | .g p=>match iv s.b p with
  |some (l,h)=>cond (Me p&&(gL l h&&X3 (-h) (-l))) (some [⟨sZ s.b [.i (-h) (-l)],s.r,.ng p (.i (mR s.b))::s.f,s.t⟩]) none
  |none=>none
 | .m g p q=>match iv s.b p with
  |some x=>match iv s.b q with
   |some y=>cond (Me p&&Me q) (some [⟨sZ s.b [cond g (.i (imax x.1 y.1) (imax x.2 y.2)) (.i (vb x.1 y.1) (vb x.2 y.2))],s.r,.mx g p q (.i (mR s.b))::s.f,s.t⟩]) none
   |none=>none
  |none=>none
 | .v p=>match iv s.b p with
  |some (l,h)=>cond (Me p) (cond (gL 0 l&&gL h 4294967295) (some [⟨sZ s.b [.u l h],s.r,.cv p (.u (mR s.b))::s.f,s.t⟩]) none)
   (cond (nM p.kd .u32&&(gL 0 l&&gL h 4294967295)) (some [⟨sZ s.b [.i l h],s.r,.cv p (.i (mR s.b))::s.f,s.t⟩]) none)
  |none=>none
 | .r _ _=>none
def X4:List Alt->Nat->Option Alt
 | [],_=>none
 |a::_,0=>some a
 |_::l,n+1=>X4 l n
def X5:BD->Bool
 | .y _ _ _ _=>true
 |_=>false
def X6 (n:Nat) (B:List BD):List (Nat×BD)->Bool
 | []=>true
 |x::l=>(nF (dN B x.1) x.2&&beq (X5 (dN B x.1)) (X5 x.2))&&(Nat.blt x.1 n&&X6 n B l)
def Mf (c:Cn) (s:St) (k:Nat) (g:List Ag):Option Kd:=match X4 c.al k with
 |some a=>cond (DD (A3 s.b g) a.nb&&(X6 (mR c.ps) s.b a.rf&&Tf (Ch (fresh 0 c.ps) g) s.r a.rr)) (some (a.r.sb (mR s.b) (Ch (fresh 0 c.ps) g))) none
 |none=>none
end
section
open Go.RowKit Go.Ev
def SD.val:SD->Int
 | .z x=>x
 | .zs x _ _=>x
 | .n x=>x
 | .i x=>x
 | .u x=>x
 | .o=>0
 | .ra _ _=>0
def Fh:Type:= {R:World->Value->Prop// ∀w v,R w v->v.oneCell'=true}
def O4:Fh:=⟨fun _ _=>False,fun _ _ h=>h.elim⟩
def SD.atH:SD->Fh
 | .ra R h=>⟨R,h⟩
 |_=>O4
def SD.vx (d:SD):Int×Fh:=(d.val,d.atH)
def Sg (a b c:Bool) (x:Int):Prop:=(x<0->a=true)/\(x=0->b=true)/\(0<x->c=true)
def BD.ok:BD->SD->Prop
 | .z a b c k,.z v=>Sg a b c v/\Bz k v
 | .y g b c k,.zs v h _=>h=g/\Sg g b c v/\Bz k v
 | .n p k,.n v=>(p=true->0<v)/\Bn k v
 | .i l h,.i v=>l<=v/\v<=h
 | .u l h,.u v=>l<=(v:Int)/\(v:Int)<=h
 | .ra,.ra _ _=>True
 |_,_=>False
def dY:List BD->List SD->Prop
 | [],L=>L= []
 |b::B,L=> ∃d M,L=d::M/\b.ok d/\dY B M
def aY {a b:Bool} (h:(a&&b)=true):a=true/\b=true:=aq a b▸h
def Hb {a b:Bool} (h:imp a b=true) (e:a=true):b=true:=by subst e;exact h
def ajb {a b:Bool} (h:beq a b=true):a=b:=by cases a<;>cases b<;>first|rfl|cases h
def zr {a:Bool} {α:Type} {x y:α} {z:α} (h:cond a x y=z):(a=true/\x=z)\/(a=false/\y=z):=by
 grind
def Ci (a b:Int):gL a b=decide (a<=b):=by
 unfold gL;cases e:b-a with
 |ofNat n=>
  grind
 |negSucc n=>
  grind
def po {a b:Int} (h:gL a b=true):a<=b:=of_decide_eq_true (Ci a b▸h)
def X7 {a b:Int} (h:gL a b=false):b<a:=by
 have:=of_decide_eq_false (Ci a b▸h);omega
def Mg (a b:Int):imax a b=max a b:=by
 unfold imax;cases h:gL a b
 ·have:=X7 h;show a=_;omega
 ·have:=po h;show b=_;omega
def Mh (a b:Int):vb a b=min a b:=by
 unfold vb;cases h:gL a b
 ·have:=X7 h;show b=_;omega
 ·have:=po h;show a=_;omega
def atI (a b:Nat):Tc a b=min a b:=by
 unfold Tc;cases h:Nat.ble a b
 ·have: ¬a<=b:=fun q=>by rw [mU q] at h;cases h
  show b=_;omega
 simp_all
def DF {k j:Nat} {x:Int} (h:Bz k x) (a:k<=j:=by omega):Bz j x:=ax h (aF (by decide) a)
def Mi {k j:Nat} {x:Nat} (h:Bn k x) (a:k<=j:=by decide):Bn j x:=ax h (aF (by decide) a)
section
variable {B:List BD} {L M:List SD} {b b':BD} {d:SD} {j:Nat}
def dY.get: ∀ {B:List BD} {L:List SD} {j:Nat},dY B L->dN B j≠ .x->(dN B j).ok (aU L j)
 | [],_,_,_,h=>absurd rfl h
 |_::_,_,0,⟨_,_,e,h,_⟩,_=>by subst e;exact h
 |_::B,_,n+1,⟨_,_,e,_,h⟩,a=>by subst e;exact dY.get (B:=B) (j:=n) h a
def dY.len: ∀ {B:List BD} {L:List SD},dY B L->mR B=L.length
 | [],_,h=>by rw [show _= [] from h];rfl
 |_::_,_,⟨_,_,e,_,h⟩=>by subst e;exact congrArg Nat.succ h.len
def dY.app: ∀ {B:List BD} {L:List SD} {C:List BD} {M:List SD},dY B L->dY C M->dY (sZ B C) (L++M)
 | [],_,_,_,h,g=>by rw [show _= [] from h];exact g
 |_::_,_,_,_,⟨d,N,e,a,h⟩,g=>by subst e;exact ⟨d,_,rfl,a,h.app g⟩
def dY.set: ∀ {B:List BD} {L:List SD} {j:Nat} {b:BD},dY B L->(dN B j≠ .x->b.ok (aU L j))->dY (Mb B j b) L
 | [],_,_,_,h,_=>h
 |c::_,_,0,_,⟨d,N,e,a,h⟩,g=>by
  subst e;refine ⟨d,N,rfl,g fun e=> ?_,h⟩;rw [show c= .x from e] at a;cases d<;>exact a
 |_::_,_,n+1,_,⟨d,N,e,a,h⟩,g=>by subst e;exact ⟨d,N,rfl,a,dY.set (j:=n) h g⟩
def X8: ∀ {L M:List SD} {j:Nat},j<L.length->aU (L++M) j=aU L j
 | [],_,_,h=>absurd h (iw _)
 |_::_,_,0,_=>rfl
 |_::L,_,n+1,h=>X8 (L:=L) (Nat.lt_of_succ_lt_succ h)
def O5: ∀ {L M:List SD} {j:Nat},aU (L++M) (L.length+j)=aU M j
 | [],_,_=>by simp
 |_::L,M,j=>by
  show aU (_::(L++M)) (L.length+1+j)=_;rw [show L.length+1+j=(L.length+j)+1 by omega];exact O5 (L:=L)
def O6: ∀ {L:List SD} {j:Nat},L.length<=j->aU L j= .o
 | [],_,_=>rfl
 |_::_,0,h=>absurd h (by simp)
 |_::L,n+1,h=>O6 (L:=L) (Nat.le_of_succ_le_succ h)
def Ext (L K:List SD):Prop:= ∀j,aU L j≠ .o->aU K j=aU L j
def Mj:Ext L (L++M):=fun j h=>X8 (Nat.lt_of_not_le fun q=>h (O6 q))
def X9 (b:BD): ¬b.ok .o:=by cases b<;>exact id
def atJ (h:b.ok d):b≠ .x:=fun e=>by subst e;cases d<;>exact h
def BD.sd:BD->Int×Fh->SD
 | .y true _ _ _,v=> .zs (min v.1 (-1)) true (decide_eq_true (by omega))
 | .y false _ _ _,v=> .zs (max v.1 0) false (decide_eq_false (by omega))
 | .n _ _,v=> .n v.1.toNat
 | .i _ _,v=> .i v.1
 | .u _ _,v=> .u v.1.toNat
 | .ra,v=> .ra v.2.1 v.2.2
 |_,v=> .z v.1
def pM:List BD->(Nat->Int×Fh)->List SD
 | [],_=> []
 |b::B,V=>b.sd (V 0)::pM B fun n=>V (n+1)
def atK (h:b.ok d):b.sd d.vx=d:=by
 cases b<;>cases d<;>first
  |exact False.elim h
  |rfl
  |(
    rename_i x g a;obtain ⟨e,_,_⟩:=h;subst e;cases g
    ·show SD.zs (max x 0) false _=SD.zs x false a
     grind
    ·show SD.zs (min x (-1)) true _=SD.zs x true a
     grind)
  |omega
  |omega
def Jy: ∀ {B:List BD} {L:List SD},dY B L->pM B (fun j=>(aU L j).vx)=L
 | [],_,h=>by rw [show _= [] from h];rfl
 |b::B,_,⟨d,N,e,a,h⟩=>by
  subst e;show b.sd d.vx::pM B (fun j=>(aU N j).vx)=_;rw [atK a,Jy h]
def atL {a b c e b' f:Bool} {x:Int} (h:Sg a b c x) (g:imp a e=true) (i:imp b b'=true) (hc:imp c f=true):Sg e b' f x:=
 ⟨fun q=>Hb g (h.1 q),fun q=>Hb i (h.2.1 q),fun q=>Hb hc (h.2.2 q)⟩
def ajc (h:b.ok d) {a m c:Bool} {k:Nat} (e:b.DC= .z a m c k):Sg a m c d.zv/\Bz k d.zv/\d.sh=true:=by
 cases b with
 |z G F A t=>cases e;cases d<;>first|exact False.elim h|exact ⟨h.1,h.2,rfl⟩
 |y g F A t=>
  cases d<;>first|exact False.elim h|skip
  rename_i x D s;obtain ⟨C,f,o⟩:=h;subst C;cases D<;>cases e
  ·have:=of_decide_eq_false s
   exact ⟨⟨fun q=>absurd q this,f.2.1,f.2.2⟩,o,rfl⟩
  ·have:=of_decide_eq_true s
   exact ⟨⟨fun _=>rfl,fun q=>by change x=0 at q;omega,fun q=>by change 0<x at q;omega⟩,o,rfl⟩
 |n p t=>cases e
 |i l E=>cases e
 |u l E=>cases e
 |x=>cases e
 |ra=>cases e
def O7 (h:b.ok d) (l:nF b b'=true):b'.ok d\/(∃a m c k,b'= .z a m c k)/\b'.ok (.z d.zv):=by
 cases b<;>cases b'<;>first|(cases l;done)|skip
 all_goals (cases d<;>first|exact False.elim h|skip)
 ·obtain ⟨f,i⟩:=aY l
  exact .inl ⟨atL h.1 (aY f).1 (aY f).2 (aY i).1,DF h.2 (aZ (aY i).2)⟩
 ·rename_i g m c k D C u E x A t
  obtain ⟨f,i⟩:=aY l;obtain ⟨e,o,s⟩:=h;subst e;refine .inr ⟨⟨_,_,_,_,rfl⟩,?_,DF s (aZ i)⟩;cases A
  ·have:=of_decide_eq_false t
   have p:=aY (show (imp m C&&imp c u)=true from f);exact ⟨fun q=>absurd q this,fun q=>Hb p.1 (o.2.1 q),fun q=>Hb p.2 (o.2.2 q)⟩
  ·have:=of_decide_eq_true t
   exact ⟨fun _=>f,fun q=>by change x=0 at q;omega,fun q=>by change 0<x at q;omega⟩
 ·obtain ⟨f,i⟩:=aY l
  obtain ⟨e,o,s⟩:=h;have y:=ajb (aY f).1;subst e;subst y;exact .inl ⟨rfl,⟨o.1,fun q=>Hb (aY f).2 (o.2.1 q),fun q=>Hb (aY i).1 (o.2.2 q)⟩,DF s (aZ (aY i).2)⟩
 ·obtain ⟨f,i⟩:=aY l
  exact .inl ⟨fun q=>h.1 (Hb f q),Mi h.2 (aZ i)⟩
 ·obtain ⟨f,i⟩:=aY l
  have:=po f;have:=po i;exact .inl ⟨by have:=h.1;omega,by have:=h.2;omega⟩
 ·obtain ⟨f,i⟩:=aY l
  have:=po f;have:=po i;exact .inl ⟨by have:=h.1;omega,by have:=h.2;omega⟩
 simp_all
def atM (h:b.ok d) (h':b'.ok d\/b'.ok (.z d.zv)/\d.sh=true):(acG b b').ok d:=by
 cases b<;>cases d<;>first|exact False.elim h|skip
 all_goals (cases b'<;>first|exact h|skip)
 all_goals (rcases h' with h'|⟨h',g⟩<;>first|exact False.elim h'|(cases g;done)|skip)
 all_goals (simp only [acG,BD.ok,Sg,Mg,Mh,atI] at h h'⊢)
 ·grind
 ·exact ⟨⟨fun q=>by rw [h.1.1 q,h'.1.1 q];rfl,fun q=>by rw [h.1.2.1 q,h'.1.2.1 q];rfl,fun q=>by rw [h.1.2.2 q,h'.1.2.2 q];rfl⟩,by rw [Nat.min_def];split;exact h.2;exact h'.2⟩
 ·obtain ⟨e,a,f⟩:=h
  exact ⟨e,⟨a.1,fun q=>by rw [a.2.1 q];exact h'.1.2.1 q,fun q=>by rw [a.2.2 q];exact h'.1.2.2 q⟩,by rw [Nat.min_def];split;exact f;exact h'.2⟩
 all_goals grind
def atN (h:acH b=true): ¬b.ok d:=fun q=>by
 cases b<;>cases d<;>first|exact False.elim q|skip
 ·rename_i a m c k x
  have o:cond a false (cond m false (cond c false true))=true:=h;have p:a=false:=by simp_all
  have s:m=false:=by simp_all
  have i:c=false:=by simp_all
  have f:=q.1;rcases dm x 0 with t|t|t
  ·have:=f.1 t
   simp_all
  ·have:=f.2.1 t
   simp_all
  ·have:=f.2.2 t
   simp_all
 ·rename_i a m c k x g y
  have o:cond a false (cond m false (cond c false true))=true:=h;have p:a=false:=by simp_all
  have s:m=false:=by simp_all
  have i:c=false:=by simp_all
  have f:=q.2.1;rcases dm x 0 with t|t|t
  ·have:=f.1 t
   simp_all
  ·have:=f.2.1 t
   simp_all
  ·have:=f.2.2 t
   simp_all
 ·obtain ⟨p,s⟩:=aY h
  have:=q.1 p;have i:=q.2;rw [bE s] at i;exact absurd (show _<1 from i) (by omega)
 ·rename_i l u x
  have o:cond (gL l u) false true=true:=h;cases e:gL l u
  ·have:=X7 e;have:=q.1;have:=q.2;omega
  simp_all
 ·rename_i l u x
  have o:cond (gL l u) false true=true:=h;cases e:gL l u
  ·have:=X7 e;have:=q.1;have:=q.2;omega
  simp_all
 ·cases h
def ajd: ∀ {B:List BD} {L:List SD},O0 B=true-> ¬dY B L
 | [],_,h,_=>by cases h
 |b::B,_,h,⟨d,M,_,a,e⟩=>by
  rcases cX _ _▸(show (acH b||O0 B)=true from h) with q|q
  ·exact atN q a
  ·exact ajd q e
end
end
section
open Go.RowKit Go.Ev
section
variable {L K:List SD} {p:Bool} {d:SD} {j:Nat}
def z_o (h:d.sh=true):d≠ .o:=fun e=>by subst e;cases h
def atO {x:Bool} (h:d.sg x=true):d≠ .o:=fun e=>by subst e;cases x<;>cases h
def n_o (h:d.B7=true):d≠ .o:=fun e=>by subst e;cases h
def i_o (h:d.XK=true):d≠ .o:=fun e=>by subst e;cases h
def u_o (h:d.isU=true):d≠ .o:=fun e=>by subst e;cases h
def r_o (h:d.B6=true):d≠ .o:=fun e=>by subst e;cases h
def KZ.ext (e:Ext L K) {a:KZ} (h:a.ok L p=true):a.ok K p=true/\a.val K=a.val L:=by
 cases a with
 |z j=>have:=e j (z_o h);exact ⟨by show (aU K j).sh=true;rw [this];exact h,by show (aU K j).zv=_;rw [this];rfl⟩
 |o=>exact ⟨h,rfl⟩
 |s b j=>have:=e j (atO h);exact ⟨by show (aU K j).sg b=true;rw [this];exact h,by show (aU K j).zv=_;rw [this];rfl⟩
def KN.ext (e:Ext L K) {a:KN} (h:a.ok L p=true):a.ok K p=true/\a.val K=a.val L:=by
 cases a with
 |n j=>have:=e j (n_o h);exact ⟨by show (aU K j).B7=true;rw [this];exact h,by show (aU K j).nv=_;rw [this];rfl⟩
 |m j=>have:=e j (z_o h);exact ⟨by show (aU K j).sh=true;rw [this];exact h,by show (aU K j).nv=_;rw [this];rfl⟩
 |o=>exact ⟨h,rfl⟩
def KI.ext (e:Ext L K) {a:KI} (h:a.ok L=true):a.ok K=true/\a.val K=a.val L:=by
 cases a with
 |i j=>have:=e j (i_o h);exact ⟨by show (aU K j).XK=true;rw [this];exact h,by show (aU K j).iv=_;rw [this];rfl⟩
 |u j=>have:=e j (u_o h);exact ⟨by show (aU K j).isU=true;rw [this];exact h,by show (aU K j).iv=_;rw [this];rfl⟩
 |len j=>
  have:aU K j=aU L j:=e j (by
   rcases cX _ _▸(show ((aU L j).B7||(aU L j).sh)=true from h) with q|q
   ·exact n_o q
   ·exact z_o q)
  exact ⟨by show ((aU K j).B7||(aU K j).sh)=true;rw [this];exact h,by show ((m6 (aU K j).nv:Nat):Int)=_;rw [this];rfl⟩
 |l k=>exact ⟨rfl,rfl⟩
 |k d v=>exact ⟨rfl,rfl⟩
def KI.Fi (e:Ext L K) {a:KI} (h:(a.ok L&&a.w)=true):(a.ok K&&a.w)=true/\a.val K=a.val L:=by
 have:=KI.ext e (aY h).1;simp_all
def kQ {a b:Bool} (h:a=true) (h':b=true):(a&&b)=true:=by rw [h,h'];rfl
def Kd.ext (e:Ext L K) {k:Kd} (h:k.ok L p=true):k.ok K p=true/\k.rel K=k.rel L:=by
 induction k with
 |z a=>have:=KZ.ext e h;exact ⟨this.1,by simp only [Kd.rel,this.2]⟩
 |n a=>have:=KN.ext e h;exact ⟨this.1,by simp only [Kd.rel,this.2]⟩
 |i a=>have:=KI.ext e h;exact ⟨this.1,by simp only [Kd.rel,this.2]⟩
 |b x=>exact ⟨rfl,rfl⟩
 |d a x=>have g:=KZ.ext e (aY h).1;have m:=KI.Fi e (aY h).2;exact ⟨kQ g.1 m.1,by simp only [Kd.rel,g.2,m.2]⟩
 |r a q=>have g:=KZ.ext e (aY h).1;have m:=KN.ext e (aY h).2;exact ⟨kQ g.1 m.1,by simp only [Kd.rel,g.2,m.2]⟩
 |v a x c y=>
  have g:=KZ.ext e (aY (aY h).1).1;have m:=KI.Fi e (aY (aY h).1).2;have o:=KZ.ext e (aY (aY h).2).1;have u:=KI.Fi e (aY (aY h).2).2;exact ⟨kQ (kQ g.1 m.1) (kQ o.1 u.1),by simp only [Kd.rel,g.2,m.2,o.2,u.2]⟩
 |s a c=>have g:=KZ.ext e (aY h).1;have m:=KZ.ext e (aY h).2;exact ⟨kQ g.1 m.1,by simp only [Kd.rel,g.2,m.2]⟩
 |t a c A C=>have g:=A (aY h).1;have m:=C (aY h).2;exact ⟨kQ g.1 m.1,by simp only [Kd.rel,g.2,m.2]⟩
 |t3 a c x A C E=>have g:=A (aY h).1;have m:=C (aY (aY h).2).1;have o:=E (aY (aY h).2).2;exact ⟨kQ g.1 (kQ m.1 o.1),by simp only [Kd.rel,g.2,m.2,o.2]⟩
 |lit l=>exact ⟨h,rfl⟩
 |nd k a b n t=>have g:=KI.Fi e (aY h).1;have m:=KI.Fi e (aY (aY h).2).1;have o:=KI.Fi e (aY (aY h).2).2;exact ⟨kQ g.1 (kQ m.1 o.1),by simp only [Kd.rel,g.2,m.2,o.2]⟩
 |res a x y=>have g:=KZ.ext e (aY h).1;have m:=KN.ext e (aY (aY h).2).1;have o:=KI.Fi e (aY (aY h).2).2;exact ⟨kQ g.1 (kQ m.1 o.1),by simp only [Kd.rel,g.2,m.2,o.2]⟩
 |out a x c f y=>
  have g:=KZ.ext e (aY (aY h).1).1;have m:=KI.Fi e (aY (aY h).1).2;have o:=KZ.ext e (aY (aY (aY h).2).1).1;have u:=KI.Fi e (aY (aY (aY h).2).1).2;have D:=KI.Fi e (aY (aY h).2).2;exact ⟨kQ (kQ g.1 m.1) (kQ (kQ o.1 u.1) D.1),by simp only [Kd.rel,g.2,m.2,o.2,u.2,D.2]⟩
 |cat a c A C=>
  have g:=A (aY (aY h).1).1;have m:=C (aY (aY h).2).1;exact ⟨kQ (kQ g.1 (aY (aY h).1).2) (kQ m.1 (aY (aY h).2).2),by simp only [Kd.rel,g.2,m.2]⟩
 |nil=>exact ⟨rfl,rfl⟩
 |ra j=>have:=e j (r_o h);exact ⟨by show (aU K j).B6=true;rw [this];exact h,by show (aU K j).ar=_;rw [this];rfl⟩
 |fc f j=>have:=e j (r_o h);exact ⟨by show (aU K j).B6=true;rw [this];exact h,by show (fun w v=> ∃p,v=_/\(aU K j).ar w p)=_;rw [this];rfl⟩
 |lv v=>exact ⟨h,rfl⟩
def Ya (e:Ext L K): ∀ {l:List Kd},qY L p l=true->qY K p l=true/\l.map (Kd.rel K)=l.map (Kd.rel L)
 | [],_=>⟨rfl,rfl⟩
 |_::_,h=>by
  have a:=Kd.ext e (aY h).1;have f:=Ya e (aY h).2;exact ⟨kQ a.1 f.1,by simp_all⟩
def KF.ext (e:Ext L K) {f:KF} (h:f.ok L=true) (m:f.prop L):f.ok K=true/\f.prop K:=by
 cases f with
 |ar o a b c=>
  have i:=KI.ext e (aY (aY h).1).1;have k:=KI.ext e (aY (aY h).1).2;have l:=KI.ext e (aY (aY h).2).1;exact ⟨kQ (kQ i.1 k.1) (kQ l.1 (aY (aY h).2).2),by simp only [KF.prop,i.2,k.2,l.2];exact m⟩
 |cm o a b r=>
  have i:=KI.ext e (aY (aY h).1).1;have k:=KI.ext e (aY (aY h).1).2;exact ⟨kQ (kQ i.1 k.1) (aY h).2,by simp only [KF.prop,i.2,k.2];exact m⟩
 |ng a c=>
  have i:=KI.ext e (aY (aY h).1).1;have k:=KI.ext e (aY (aY h).1).2;exact ⟨kQ (kQ i.1 k.1) (aY h).2,by simp only [KF.prop,i.2,k.2];exact m⟩
 |cv a c=>
  have i:=KI.ext e (aY h).1;have k:=KI.ext e (aY h).2;exact ⟨kQ i.1 k.1,by simp only [KF.prop,i.2,k.2];exact m⟩
 |mx g a b c=>
  have i:=KI.ext e (aY (aY h).1).1;have k:=KI.ext e (aY (aY h).1).2;have l:=KI.ext e (aY (aY h).2).1;exact ⟨kQ (kQ i.1 k.1) (kQ l.1 (aY (aY h).2).2),by simp only [KF.prop,i.2,k.2,l.2];exact m⟩
def xd.ext (e:Ext L K) {F:List KF} (a:xd L F) (o:okF L F=true):xd K F/\okF K F=true:=by
 induction a with
 |nil=>exact ⟨.nil,rfl⟩
 |k h _ i=>
  have f:=KF.ext e (aY o).1 h;have g:=i (aY o).2;exact ⟨.k f.2 g.1,kQ f.1 g.2⟩
def uW.ext (e:Ext L K) {T:List KE} (a:uW L T) (o:tI L T=true):uW K T/\tI K T=true:=by
 induction a with
 |nil=>exact ⟨.nil,rfl⟩
 |@k x l hc _ i=>
  have g:=Ya e (aY (aY o).1).1;have h:=Kd.ext e (aY (aY o).1).2;have f:=i (aY o).2;exact ⟨.k (by grind) f.1,kQ (kQ g.1 h.1) f.2⟩
end
section
variable {B:List BD} {L L':List SD} {b:BD}
def Ag.sd (L:List SD) (b:BD):Ag->SD
 | .z a=>match b,a with
  | .y _ _ _ _,.s _ j=>aU L j
  |_,_=> .z (a.val L)
 | .n a=> .n (a.val L)
 | .i a=>match b with
  | .u _ _=> .u (a.val L).toNat
  |_=> .i (a.val L)
 | .ra j=>aU L j
def O8 (L:List SD) (d:SD):Ag->Prop
 | .z a=>d.zv=a.val L/\d.nv=(a.val L).natAbs
 | .n a=>d.nv=a.val L
 | .i a=>d.iv=a.val L
 | .ra j=>d=aU L j/\d.B6=true
def aje {a m c:Bool} {k:Nat} {d:SD} (h:Sg a m c d.zv) (f:Bz k d.zv) (e:nF (.z a m c k) b=true):b.ok (.z d.zv)/\ ∃a m c k,b= .z a m c k:=by
 have g:(BD.z a m c k).ok (.z d.zv):=⟨h,f⟩;cases b<;>first|(cases e;done)|skip
 refine ⟨?_,_,_,_,_,rfl⟩;rcases O7 g e with q|q
 ·exact q
 ·exact q.2
def acK (J:dY B L) {a:Ag} (G:nF (a.bd B) b=true):b.ok (a.sd L b)/\O8 L (a.sd L b) a/\ ∀i,a.ix=some i->(a.sd L b).val=(aU L i).val:=by
 have R: ∀b,nF .x b=true->False:=fun b h=>by cases b<;>cases h
 cases a with
 |z a=>
  cases a with
  |z j=>
   have A:nF (dN B j).DC b=true:=G;have N:dN B j≠ .x:=fun e=>by rw [e] at A;exact R _ A
   have f:=J.get N;cases e:(dN B j).DC with
   |z a m c k=>
    rw [e] at A;obtain ⟨D,M,F⟩:=ajc f e;obtain ⟨H,_,_,_,_,rfl⟩:=aje D M A;refine ⟨H,⟨rfl,rfl⟩,fun i C=> ?_⟩;cases C;show (aU L j).zv=_;revert F;cases aU L j<;>intro F<;>first|rfl|cases F
   |y g m c k=>exfalso;revert e;cases dN B j<;>intro e<;>first|(cases e;done)|(rename_i g _ _ _;cases g<;>cases e)
   |n p k=>exfalso;revert e;cases dN B j<;>intro e<;>first|(cases e;done)|(rename_i g _ _ _;cases g<;>cases e)
   |i l h=>exfalso;revert e;cases dN B j<;>intro e<;>first|(cases e;done)|(rename_i g _ _ _;cases g<;>cases e)
   |u l h=>exfalso;revert e;cases dN B j<;>intro e<;>first|(cases e;done)|(rename_i g _ _ _;cases g<;>cases e)
   |ra=>exfalso;revert e;cases dN B j<;>intro e<;>first|(cases e;done)|(rename_i g _ _ _;cases g<;>cases e)
   |x=>simp_all
  |s g j=>
   have A:nF (match dN B j with
    | .y h b c k=>cond (beq g h) (.y h b c k) .x
    |_=> .x) b=true:=G
   cases e:dN B j with
   |y h m c k=>
    rw [e] at A;have f:=J.get (j:=j) (by simp_all);rw [e] at f;cases T:beq g h with
    |false=>simp_all
    |true=>
     simp only [T] at A;have D: ∃x N,aU L j= .zs x h N:=by
      revert f;cases aU L j<;>intro f<;>first|exact False.elim f|skip
      obtain ⟨q,_⟩:=f;simp_all
     obtain ⟨x,N,E⟩:=D;rcases O7 f A with q|⟨⟨_,_,_,_,rfl⟩,q⟩
     ·cases b with
      |y g' Y S X=>
       refine ⟨q,⟨rfl,?_⟩,fun i C=>by cases C;rfl⟩;show (aU L j).nv=(aU L j).zv.natAbs;rw [E];rfl
      |z Z Y S X=>exfalso;rw [E] at q;exact q
      |_=>cases A
     ·refine ⟨q,⟨rfl,rfl⟩,fun i C=> ?_⟩
      cases C;show (aU L j).zv=_;rw [E];rfl
   |_=>simp_all
  |o=>
   have M:(BD.z false true false 0).ok (.z 0):=⟨⟨fun h=>absurd h (by decide),fun _=>rfl,fun h=>absurd h (by decide)⟩,by unfold Bz;decide⟩;obtain ⟨H,_,_,_,_,rfl⟩:=aje (d:= .z 0) M.1 M.2 (show nF (.z false true false 0) b=true from G);exact ⟨H,⟨rfl,rfl⟩,fun i C=>by cases C⟩
 |n a=>
  have I: ∀p k x,(BD.n p k).ok (.n x)->nF (.n p k) b=true->b.ok (.n x):=fun p k x f D=>by
   rcases O7 f D with q|⟨⟨_,_,_,_,rfl⟩,_⟩
   ·exact q
   ·cases D
  cases a with
  |n j=>
   have A:nF (match dN B j with
    | .n p k=> .n p k
    |_=> .x) b=true:=G
   cases e:dN B j with
   |n p k=>
    rw [e] at A;have f:=J.get (j:=j) (by simp_all);rw [e] at f;have D: ∃x,aU L j= .n x:=by
     revert f;cases aU L j<;>intro f<;>first|exact False.elim f|simp_all
    obtain ⟨x,E⟩:=D;rw [E] at f;refine ⟨?_,rfl,fun i C=> ?_⟩
    ·show b.ok (.n (aU L j).nv);rw [E];exact I _ _ _ f A
    ·cases C;show ((aU L j).nv:Int)=(aU L j).val;rw [E];rfl
   |_=>simp_all
  |m j=>
   have A:nF (match (dN B j).DC with
    | .z _ b _ k=> .n (cond b false true) k
    |_=> .x) b=true:=G
   cases e:(dN B j).DC with
   |z a m c k=>
    rw [e] at A;have N:dN B j≠ .x:=fun q=>by rw [q] at e;cases e
    obtain ⟨D,M,F⟩:=ajc (J.get N) e;refine ⟨I _ _ _ ⟨fun q=> ?_,?_⟩ A,rfl,fun i C=>by cases C⟩
    ·show 0<(aU L j).nv
     rw [SY F];rcases bT (aU L j).zv.natAbs with t|t
     ·have:=D.2.1 (by omega)
      rw [this] at q;cases q
     omega
    ·show (aU L j).nv<2^k
     rw [SY F];exact M
   |_=>simp_all
  |o=>exact ⟨I false 0 0 ⟨fun q=>(by cases q),(by show 0<2^0;decide)⟩ G,rfl,fun i C=>by cases C⟩
 |i a=>
  have I: ∀l h x,(BD.i l h).ok (.i x)->nF (.i l h) b=true->b.ok ((Ag.i a).sd L b)\/ ¬x=a.val L:=fun l h x f D=>by
   by_cases e:x=a.val L
   ·subst e
    cases b<;>first|(cases D;done)|skip
    exact .inl (by rcases O7 f D with q|⟨⟨_,_,_,_,q⟩,_⟩;exact q;cases q)
   omega
  have O: ∀l h x,(BD.u l h).ok (.u x)->nF (.u l h) b=true->(x:Int)=a.val L->b.ok ((Ag.i a).sd L b)/\((Ag.i a).sd L b).iv=a.val L/\((Ag.i a).sd L b).val=a.val L:=fun l h x f D e=>by
   cases b<;>first|(cases D;done)|skip
   refine ⟨?_,?_,?_⟩
   ·show (BD.u _ _).ok (.u (a.val L).toNat)
    rw [<-e];rcases O7 f D with q|⟨⟨_,_,_,_,q⟩,_⟩
    all_goals grind
   ·show ((a.val L).toNat:Int)=_;rw [<-e];rfl
   ·show ((a.val L).toNat:Int)=_;rw [<-e];rfl
  cases a with
  |i j=>
   have A:nF (match dN B j with
    | .i x y=> .i x y
    |_=> .x) b=true:=G
   cases e:dN B j with
   |i l h=>
    rw [e] at A;have f:=J.get (j:=j) (by simp_all);rw [e] at f;have D: ∃x,aU L j= .i x:=by
     revert f;cases aU L j<;>intro f<;>first|exact False.elim f|simp_all
    obtain ⟨x,E⟩:=D;rw [E] at f;have P:x=(KI.i j).val L:=by show x=(aU L j).iv;rw [E];rfl
    have F:b.ok ((Ag.i (.i j)).sd L b):=by grind
    have H:(Ag.i (.i j)).sd L b= .i ((KI.i j).val L):=by cases b<;>first|rfl|cases A
    refine ⟨F,by rw [H];rfl,fun i C=> ?_⟩;cases C;simp_all
   |_=>simp_all
  |u j=>
   have A:nF (match dN B j with
    | .u x y=> .u x y
    |_=> .x) b=true:=G
   cases e:dN B j with
   |u l h=>
    rw [e] at A;have f:=J.get (j:=j) (by simp_all);rw [e] at f;have D: ∃x,aU L j= .u x:=by
     revert f;cases aU L j<;>intro f<;>first|exact False.elim f|simp_all
    obtain ⟨x,E⟩:=D;rw [E] at f;have P:(x:Int)=(KI.u j).val L:=by show (x:Int)=(aU L j).iv;rw [E];rfl
    obtain ⟨F,H,Q⟩:=O _ _ _ f A P;refine ⟨F,H,fun i C=> ?_⟩;cases C;rw [Q,<-P,E];rfl
   |_=>simp_all
  |l x=>
   have F:b.ok ((Ag.i (.l x)).sd L b):=by rcases I x x x ⟨gD _,gD _⟩ G with q|q;exact q;exact absurd rfl q
   have H:(Ag.i (.l x)).sd L b= .i x:=by cases b<;>first|rfl|cases G
   exact ⟨F,by rw [H];rfl,fun i C=>by cases C⟩
  |k d v=>
   have A:nF (cond (nM d .u32&&gL 0 v) (.u v v) .x) b=true:=G;cases e:(nM d .u32&&gL 0 v) with
   |false=>simp_all
   |true=>
    rw [e] at A;have h0:=po (aY e).2;have P:((v.toNat:Nat):Int)=(KI.k d v).val L:=by show ((v.toNat:Nat):Int)=v;omega
    obtain ⟨F,H,Q⟩:=O v v v.toNat ⟨by omega,by omega⟩ A P;exact ⟨F,H,fun i C=>by cases C⟩
  |len j=>exact (R _ G).elim
 |ra j=>
  have A:nF (match dN B j with| .ra=>BD.ra|_=> .x) b=true:=G;cases e:dN B j with
  |ra=>
   rw [e] at A;have f:=J.get (j:=j) (by simp_all);rw [e] at f;have W:(aU L j).B6=true:=by
    revert f;cases aU L j<;>intro f<;>first|exact False.elim f|rfl
   have U:b= .ra:=by cases b<;>first|rfl|cases A
   subst U;exact ⟨f,⟨rfl,W⟩,fun i C=>by cases C⟩
  |_=>simp_all
end
end
section
open Go.RowKit Go.Ev
def RP:Nat->List Int->Prop
 |1,[m,e,n,f]=>ug m e n f<=0
 |2,[m,e]=>((eW m.natAbs:Nat):Int)+e<=33
 |3,[m,e]=>m=0->e=0
 |4,[m,e]=>m≠0-> -8192<=e/\kO m e<=2048
 |5,[m,e,t]=>t=kO m e
 |6,[m,e]=>0<=((eW m.natAbs:Nat):Int)+e/\((eW m.natAbs:Nat):Int)+e<=1
 |7,[m,e]=>((eW m.natAbs:Nat):Int)+e<=13
 |8,[m,e]=>0<m->kO m e<=13
 |9,[x,z]=>z= -x
 |10,[s,d]=>s=1->0<d
 |_,_=>False
def nZ (L:List SD) (x:Nat×List Nat):Prop:=RP x.1 (x.2.map fun j=>(aU L j).val)
def Ml (L:List SD) (x:Nat×List Nat):Prop:=nZ L x/\ ∀j∈x.2,aU L j≠ .o
def Holds (c:Cn):Prop:= ∀L,dY c.ps L->(∀x∈c.pr,nZ L x)-> ∃a∈c.al,∃M,dY a.nb M/\(∀x∈a.rf,x.2.ok (aU L x.1))/\(∀x∈a.rr,nZ (L++M) x)/\
 ∀f,c.f=some f->bH Tryz.prog bw f (c.ks.map (Kd.rel L)) (a.r.rel (L++M))
def Sat (s:St) (L:List SD):Prop:=dY s.b L/\(∀x∈s.r,Ml L x)/\(xd L s.f/\okF L s.f=true)/\uW L s.t/\tI L s.t=true
section
variable {B:List BD} {L L' K M:List SD} {g:List Ag} {ps nb:List BD} {n:Nat} {p:Bool}
def Mm (L:List SD):List BD->List Ag->List SD
 |b::ps,a::g=>a.sd L b::Mm L ps g
 |_,_=> []
def qg (L L':List SD) (g:List Ag):Prop:= ∀j a,pL g j=some a->O8 L (aU L' j) a/\(∀i,a.ix=some i->(aU L' j).val=(aU L i).val/\aU L i≠ .o)
def ajg {a:Ag} {d:SD} (e:Ext L K) (C:dY B L) (f:a.bd B≠ .x) (h:O8 L d a):O8 K d a:=by
 have t: ∀j,dN B j≠ .x->aU K j=aU L j:=fun j D=>e j fun q=>by
  have:=C.get D;rw [q] at this;exact X9 _ this
 cases a with
 |z a=>
  have:a.val K=a.val L:=by
   cases a with
   |z j=>show (aU K j).zv=(aU L j).zv;rw [t j fun q=>f (by show (dN B j).DC=_;rw [q];rfl)]
   |s b j=>show (aU K j).zv=(aU L j).zv;rw [t j fun q=>f (by show (match dN B j with| .y h A c k=>cond (beq b h) (BD.y h A c k) .x|_=> .x)=_;rw [q])]
   |o=>rfl
  exact ⟨h.1.trans this.symm,by rw [this];exact h.2⟩
 |n a=>
  have:a.val K=a.val L:=by
   cases a with
   |n j=>show (aU K j).nv=(aU L j).nv;rw [t j fun q=>f (by show (match dN B j with| .n p k=>BD.n p k|_=> .x)=_;rw [q])]
   |m j=>show (aU K j).nv=(aU L j).nv;rw [t j fun q=>f (by show (match (dN B j).DC with| .z _ b _ k=>BD.n (cond b false true) k|_=> .x)=_;rw [q];rfl)]
   |o=>rfl
  exact (show d.nv=_ from h).trans this.symm
 |i a=>
  have:a.val K=a.val L:=by
   cases a with
   |i j=>show (aU K j).iv=(aU L j).iv;rw [t j fun q=>f (by show (match dN B j with| .i x y=>BD.i x y|_=> .x)=_;rw [q])]
   |u j=>show (aU K j).iv=(aU L j).iv;rw [t j fun q=>f (by show (match dN B j with| .u x y=>BD.u x y|_=> .x)=_;rw [q])]
   |len j=>exact absurd rfl f
   |l k=>rfl
   |k d v=>rfl
  exact (show d.iv=_ from h).trans this.symm
 |ra j=>
  have:=t j fun q=>f (by show (match dN B j with| .ra=>BD.ra|_=> .x)=_;rw [q])
  exact ⟨h.1.trans this.symm,h.2⟩
def acL {a:Ag} {i:Nat} (e:a.ix=some i) (f:a.bd B≠ .x):dN B i≠ .x:=fun q=>by
 rcases a with a|a|a|a<;>first|(cases e;done)|(cases a<;>cases e<;>refine f ?_)
 ·show (dN B i).DC=_;rw [q];rfl
 ·rename_i b;show (match dN B i with| .y h d c k=>cond (beq b h) (BD.y h d c k) .x|_=> .x)=_;rw [q]
 ·show (match dN B i with| .n p k=>BD.n p k|_=> .x)=_;rw [q]
 ·show (match dN B i with| .i x y=>BD.i x y|_=> .x)=_;rw [q]
 ·show (match dN B i with| .u x y=>BD.u x y|_=> .x)=_;rw [q]
def Yb {a:Ag} {b:BD} (h:nF (a.bd B) b=true):a.bd B≠ .x:=fun q=>by rw [q] at h;cases b<;>cases h
def acM (f:dY B L): ∀ {g:List Ag} {ps:List BD},DD (A3 B g) ps=true->dY ps (Mm L ps g)/\qg L (Mm L ps g) g
 | [],[],_=>⟨rfl,fun j a h=>by cases h⟩
 | [],_::_,h=>by cases h
 |_::_,[],h=>by cases h
 |a::g,b::ps,h=>by
  obtain ⟨k,m⟩:=aY (show (nF (a.bd B) b&&DD (A3 B g) ps)=true from h);obtain ⟨s,t⟩:=acM f m;obtain ⟨u,x,y⟩:=acK f k;have z: ∀i,a.ix=some i->aU L i≠ .o:=fun i d q=>by
   have:=f.get (acL d (Yb k));rw [q] at this;exact X9 _ this
  refine ⟨⟨_,_,rfl,u,s⟩,fun j l e=> ?_⟩;cases j with
  |zero=>cases e;exact ⟨x,fun i d=>⟨y i d,z i d⟩⟩
  |succ j=>exact t j l e
def ajh: ∀ {g:List Ag} {ps:List BD},DD (A3 B g) ps=true-> ∀j a,pL g j=some a->a.bd B≠ .x
 | [],_,_,_,_,e=>by cases e
 |_::_,[],h,_,_,_=>by cases h
 |a::g,b::ps,h,j,d,e=>by
  obtain ⟨f,i⟩:=aY (show (nF (a.bd B) b&&DD (A3 B g) ps)=true from h);cases j with
  |zero=>cases e;exact Yb f
  |succ j=>exact ajh i j d e
def ext_get (e:Ext L K) (a:dY B L) {j:Nat} (h:dN B j≠ .x):aU K j=aU L j:=e j fun q=>by
 have:=a.get h;rw [q] at this;exact X9 _ this
def acN (e:Ext L K) (d:dY B L) (l:DD (A3 B g) ps=true) (h:qg L L' g):qg K L' g:=fun j a b=>by
 have k:=ajh l j a b;refine ⟨ajg e d k (h j a b).1,fun i f=> ?_⟩;rw [ext_get e d (acL f k)];exact (h j a b).2 i f
def Mn: ∀ {nb:List BD} {M N:List SD},dY nb M->qg (N++M) M (fresh N.length nb)
 | [],_,_,_=>fun j a h=>by cases h
 |b::nb,_,N,⟨d,M,e,s,t⟩=>by
  subst e;have k:aU (N++d::M) N.length=d:=O5 (j:=0);have q:N++d::M=(N++ [d])++M:=by simp
  have o:=Mn (N:=N++ [d]) t;rw [<-q,bp] at o;intro j a m;cases j with
  |succ j=>exact o j a m
  |zero=>
   have l:XX N.length b=a:=fk m;subst l;show O8 _ d _/\ ∀i,_->d.val=_/\_;cases b<;>cases d<;>first|exact False.elim s|skip
   ·exact ⟨⟨by show _=(aU _ _).zv;rw [k],by show _=((aU _ _).zv).natAbs;rw [k];rfl⟩,fun i f=>by cases f;grind⟩
   ·exact ⟨⟨by show _=(aU _ _).zv;rw [k],by show _=((aU _ _).zv).natAbs;rw [k];rfl⟩,fun i f=>by cases f;grind⟩
   ·exact ⟨by show _=(aU _ _).nv;rw [k],fun i f=>by cases f;grind⟩
   ·exact ⟨by show _=(aU _ _).iv;rw [k],fun i f=>by cases f;grind⟩
   ·exact ⟨by show _=(aU _ _).iv;rw [k],fun i f=>by cases f;grind⟩
   ·exact ⟨⟨by grind,rfl⟩,fun i f=>by cases f⟩
def aji: ∀ {g h:List Ag} {j:Nat} {a:Ag},pL (Ch g h) j=some a->(j<g.length/\pL g j=some a)\/(∃k,j=g.length+k/\pL h k=some a)
 | [],_,j,_,e=> .inr ⟨j,by simp,e⟩
 |_::_,_,0,_,e=> .inl ⟨by simp,e⟩
 |_::g,h,j+1,a,e=>by
  rcases aji (g:=g) (h:=h) (j:=j) e with ⟨q,r⟩|⟨k,q,r⟩
  ·exact .inl ⟨Nat.succ_lt_succ q,r⟩
  grind
def acO {b d:List SD} {h:List Ag} (l:b.length=g.length) (f:qg L b g) (i:qg L d h):qg L (b++d) (Ch g h):=fun j a e=>by
 rcases aji e with ⟨q,r⟩|⟨k,rfl,r⟩
 ·rw [X8 (by omega)];exact f j a r
 ·rw [<-l,O5];exact i k a r
def acP: ∀ {g:List Ag} {ps:List BD},DD (A3 B g) ps=true->(Mm L ps g).length=g.length
 | [],[],_=>rfl
 | [],_::_,h=>by cases h
 |_::_,[],h=>by cases h
 |_::_,_::_,h=>congrArg Nat.succ (acP (aY h).2)
def KZ.su (m:qg L L' g) (d:L.length<=n) {k:KZ} (h:(k.sb n g).ok L p=true):(k.sb n g).val L=k.val L':=by
 have f: ∀b,(KZ.z n).ok L b=true->False:=fun b q=>by
  have:(aU L n).sh=true:=q;rw [O6 d] at this;cases this
 cases k with
 |o=>rfl
 |z j=>
  simp only [KZ.sb] at h⊢;cases e:pL g j with
  |none=>grind
  |some a=>
   rw [e] at h;cases a with
   |z a=>exact (m j _ e).1.1.symm
   |n a=>grind
   |i a=>grind
   |ra a=>grind
 |s b j=>
  simp only [KZ.sb] at h⊢;cases e:pL g j with
  |none=>grind
  |some a=>
   rw [e] at h;cases a with
   |z a=>exact (m j _ e).1.1.symm
   |n a=>grind
   |i a=>grind
   |ra a=>grind
def KN.su (m:qg L L' g) (l:L.length<=n) {k:KN} (h:(k.sb n g).ok L p=true):(k.sb n g).val L=k.val L':=by
 have t: ∀b,(KN.n n).ok L b=true->False:=fun b q=>by
  have:(aU L n).B7=true:=q;rw [O6 l] at this;cases this
 cases k with
 |o=>rfl
 |n j=>
  simp only [KN.sb] at h⊢;cases e:pL g j with
  |none=>grind
  |some a=>
   rw [e] at h;cases a with
   |n a=>exact (show (aU L' j).nv=_ from (m j _ e).1).symm
   |z a=>grind
   |i a=>grind
   |ra a=>grind
 |m j=>
  simp only [KN.sb] at h⊢;cases e:pL g j with
  |none=>grind
  |some a=>
   rw [e] at h;cases a with
   |n a=>grind
   |i a=>grind
   |ra a=>grind
   |z a=>
    have d:=(m j _ e).1.2;cases a with
    |o=>exact d.symm
    |z k=>
     have f:(aU L k).sh=true:=h;show (aU L k).nv=(aU L' j).nv;rw [SY f,d];rfl
    |s b k=>
     have f:(aU L k).sh=true:=h;show (aU L k).nv=(aU L' j).nv;rw [SY f,d];rfl
def ajj {a b:IntKind} (h:nM a b=true):a=b:=by revert h;cases a<;>cases b<;>intro h<;>first|rfl|cases h
def KI.su (m:qg L L' g) (o:L.length<=n) {k:KI} (h:(k.sb n g).ok L=true):(k.sb n g).val L=k.val L'/\(k.sb n g).kd=k.kd:=by
 have f:(KI.i n).ok L=true->False:=fun q=>by
  have:(aU L n).XK=true:=q;rw [O6 o] at this;cases this
 cases k with
 |l k=>exact ⟨rfl,rfl⟩
 |k d v=>exact ⟨rfl,rfl⟩
 |len j=>exact (f h).elim
 |i j=>
  simp only [KI.sb] at h⊢;cases e:pL g j with
  |none=>simp_all
  |some a=>
   rw [e] at h;cases a with
   |n a=>simp_all
   |z a=>simp_all
   |ra a=>simp_all
   |i a=>
    simp only at h⊢;cases b:a.w with
    |false=>simp_all
    |true=>exact ⟨(show (aU L' j).iv=_ from (m j _ e).1).symm,KI.acA b⟩
 |u j=>
  simp only [KI.sb] at h⊢;cases e:pL g j with
  |none=>simp_all
  |some a=>
   rw [e] at h;cases a with
   |n a=>simp_all
   |z a=>simp_all
   |ra a=>simp_all
   |i a=>
    simp only at h⊢;cases b:nM a.kd .u32 with
    |false=>simp_all
    |true=>exact ⟨(show (aU L' j).iv=_ from (m j _ e).1).symm,ajj b⟩
def KI.Fj (m:qg L L' g) (a:L.length<=n) {k:KI} (h:((k.sb n g).ok L&&(k.sb n g).w)=true):(k.sb n g).val L=k.val L':=(KI.su m a (aY h).1).1
def ajk (m:qg L L' g) (b:L.length<=n) {j:Nat} (h:(aU L (Td n g j)).B6=true):aU L (Td n g j)=aU L' j:=by
 have d:(aU L n).B6=true->False:=fun q=>by rw [O6 b] at q;cases q
 unfold Td at h⊢;cases e:pL g j with
 |none=>simp_all
 |some a=>
  rw [e] at h;cases a with
  |ra i=>exact (show aU L' j=aU L i/\_ from (m j _ e).1).1.symm
  |_=>simp_all
def Kd.su (m:qg L L' g) (e:L.length<=n) {k:Kd} (h:(k.sb n g).ok L p=true):(k.sb n g).rel L=k.rel L':=by
 induction k with
 |z a=>simp only [Kd.sb,Kd.rel,KZ.su m e h]
 |n a=>simp only [Kd.sb,Kd.rel,KN.su m e h]
 |i a=>simp only [Kd.sb,Kd.rel,(KI.su m e h).1,(KI.su m e h).2]
 |b x=>rfl
 |d a x=>simp only [Kd.sb,Kd.rel,KZ.su m e (aY h).1,KI.Fj m e (aY h).2]
 |r a q=>simp only [Kd.sb,Kd.rel,KZ.su m e (aY h).1,KN.su m e (aY h).2]
 |v a x c y=>simp only [Kd.sb,Kd.rel,KZ.su m e (aY (aY h).1).1,KI.Fj m e (aY (aY h).1).2,KZ.su m e (aY (aY h).2).1,KI.Fj m e (aY (aY h).2).2]
 |s a c=>simp only [Kd.sb,Kd.rel,KZ.su m e (aY h).1,KZ.su m e (aY h).2]
 |t a c o u=>simp only [Kd.sb,Kd.rel,o (aY h).1,u (aY h).2]
 |t3 a c x o u A=>simp only [Kd.sb,Kd.rel,o (aY h).1,u (aY (aY h).2).1,A (aY (aY h).2).2]
 |lit l=>rfl
 |nd q a c x y=>simp only [Kd.sb,Kd.rel,KI.Fj m e (aY h).1,KI.Fj m e (aY (aY h).2).1,KI.Fj m e (aY (aY h).2).2]
 |res a x y=>simp only [Kd.sb,Kd.rel,KZ.su m e (aY h).1,KN.su m e (aY (aY h).2).1,KI.Fj m e (aY (aY h).2).2]
 |out a x c f y=>simp only [Kd.sb,Kd.rel,KZ.su m e (aY (aY h).1).1,KI.Fj m e (aY (aY h).1).2,KZ.su m e (aY (aY (aY h).2).1).1,KI.Fj m e (aY (aY (aY h).2).1).2,KI.Fj m e (aY (aY h).2).2]
 |cat a c o u=>simp only [Kd.sb,Kd.rel,o (aY (aY h).1).1,u (aY (aY h).2).1]
 |nil=>rfl
 |ra j=>simp only [Kd.sb,Kd.rel,ajk m e h]
 |fc f j=>simp only [Kd.sb,Kd.rel,ajk m e h]
 |lv v=>rfl
def ajl (m:qg L L' g) (a:L.length<=n): ∀ {l:List Kd},qY L p (Mc n g l)=true->(Mc n g l).map (Kd.rel L)=l.map (Kd.rel L')
 | [],_=>rfl
 |_::_,h=>by show _::_=_::_;rw [Kd.su m a (aY h).1];exact congrArg _ (ajl m a (aY h).2)
def Yc (m:qg L L' g): ∀ {l b:List Nat},O1 g l=some b->(l.map fun j=>(aU L' j).val)=(b.map fun j=>(aU L j).val)/\ ∀j∈b,aU L j≠ .o
 | [],_,h=>by cases h;simp_all
 |j::l,b,h=>by
  simp only [O1] at h;cases e:pL g j with
  |none=>simp_all
  |some a=>
   rw [e] at h;simp only at h;cases d:a.ix with
   |none=>simp_all
   |some i=>
    rw [d] at h;simp only at h;cases f:O1 g l with
    |none=>simp_all
    |some t=>
     rw [f] at h;cases h;rw [cJ,cJ,((m j a e).2 i d).1,(Yc m f).1];exact ⟨rfl,fun k s=>by rcases bq.1 s with rfl|q;exact ((m j a e).2 _ d).2;exact (Yc m f).2 k q⟩
def acQ (m:qg L L' g) {x y:Nat×List Nat} (h:Md g x=some y):(nZ L y↔nZ L' x)/\ ∀j∈y.2,aU L j≠ .o:=by
 unfold Md at h;cases e:O1 g x.2 with
 |none=>simp_all
 |some l=>
  rw [e] at h;cases h;unfold nZ;rw [(Yc m e).1];exact ⟨jY,(Yc m e).2⟩
def ajm: ∀ {a b:List Nat},XY a b=true->a=b
 | [],[],_=>rfl
 | [],_::_,h=>by cases h
 |_::_,[],h=>by cases h
 |_::_,_::_,h=>by rw [bE (aY h).1,ajm (aY h).2]
def ajn {x:Nat×List Nat} : ∀ {R:List (Nat×List Nat)},Te x R=true->x∈R
 | [],h=>by cases h
 |y::R,h=>by
  rcases cX _ _▸(show ((Nat.beq x.1 y.1&&XY x.2 y.2)||Te x R)=true from h) with q|q
  ·have:x=y:=Prod.ext (bE (aY q).1) (ajm (aY q).2)
   simp_all
  ·exact aw _ (ajn q)
def acR (m:qg L L' g) {R:List (Nat×List Nat)} (b: ∀x∈R,Ml L x): ∀ {l:List (Nat×List Nat)},Tf g R l=true-> ∀x∈l,nZ L' x
 | [],_,_,h=>by cases h
 |y::l,h,x,f=>by
  obtain ⟨a,d⟩:=aY (show ((match Md g y with|some z=>Te z R|none=>false)&&Tf g R l)=true from h);rcases bq.1 f with rfl|q
  ·cases e:Md g x with
   |none=>simp_all
   |some z=>rw [e] at a;exact (acQ m e).1.1 (b z (ajn a)).1
  ·exact acR m b d x q
def Th (m:qg L L' g) {R:List (Nat×List Nat)} (b: ∀x∈R,Ml L x): ∀ {l:List (Nat×List Nat)},(∀x∈l,nZ L' x)-> ∀x∈yp g l R,Ml L x
 | [],_,x,a=>b x a
 |y::l,h,x,a=>by
  have f:=Th m b (l:=l) fun z d=>h z (aw _ d)
  simp only [yp] at a;cases e:Md g y with
  |none=>simp_all
  |some z=>
   rw [e] at a;rcases bq.1 a with rfl|q
   ·exact ⟨(acQ m e).1.2 (h y aC),(acQ m e).2⟩
   simp_all
def Ml.ext (e:Ext L K) {x:Nat×List Nat} (h:Ml L x):Ml K x:=by
 have:(x.2.map fun j=>(aU K j).val)=x.2.map fun j=>(aU L j).val:=dy fun j a=>by rw [e j (h.2 j a)]
 exact ⟨by unfold nZ;rw [this];exact h.1,fun j a=>by rw [e j (h.2 j a)];exact h.2 j a⟩
def atP (s:dY B L) {a:Ag} {b:BD} {i:Nat} (l:nF (a.bd B) b=true) (e:a.ix=some i):a.sd L b=aU L i\/(a.sd L b= .z (aU L i).zv/\(aU L i).sh=true):=by
 have d:=s.get (acL e (Yb l));have o:=Yb l;rcases a with a|a|a|a<;>first|(cases e;done)|(cases a<;>cases e)
 ·refine .inr ⟨by cases b<;>rfl,?_⟩
  have j:(dN B i).DC≠ .x:=o;revert d j;cases dN B i<;>intro d j<;>first|exact absurd rfl j|skip
  all_goals (revert d;cases aU L i<;>intro d<;>first|exact False.elim d|rfl)
 ·rename_i q
  have j:(match dN B i with| .y h b c k=>cond (beq q h) (BD.y h b c k) .x|_=> .x)≠ .x:=o;have t:(aU L i).sh=true:=by
   revert d j;cases dN B i<;>intro d j<;>first|simp_all|skip
   all_goals (revert d;cases aU L i<;>intro d<;>first|exact False.elim d|rfl)
  cases b with
  |y g m c k=>exact .inl rfl
  |_=>exact .inr ⟨rfl,t⟩
 ·refine .inl ?_
  show SD.n (aU L i).nv=_;have j:(match dN B i with| .n p k=>BD.n p k|_=> .x)≠ .x:=o;revert d j;cases dN B i<;>intro d j<;>first|simp_all|skip
  all_goals (revert d;cases aU L i<;>intro d<;>first|exact False.elim d|rfl)
 ·have f:nF (match dN B i with| .i x y=>BD.i x y|_=> .x) b=true:=l
  refine .inl ?_;revert d f;cases dN B i<;>intro d f<;>first|(cases b<;>cases f;done)|skip
  cases b<;>first|(cases f;done)|skip
  show SD.i (aU L i).iv=_;revert d;cases aU L i<;>intro d<;>first|exact False.elim d|rfl
 ·have f:nF (match dN B i with| .u x y=>BD.u x y|_=> .x) b=true:=l
  refine .inl ?_;revert d f;cases dN B i<;>intro d f<;>first|(cases b<;>cases f;done)|skip
  cases b<;>first|(cases f;done)|skip
  show SD.u (aU L i).iv.toNat=_;revert d;cases aU L i<;>intro d<;>first|exact False.elim d|rfl
end
end
end Go.Proofs.YthleenhngcdgkaaGreatDoor
