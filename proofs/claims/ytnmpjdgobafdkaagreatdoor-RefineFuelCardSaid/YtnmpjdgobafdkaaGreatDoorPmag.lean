/- refineFuel_proved. -/
import Derived.OrdersHeld
import Derived.Lib.Bytealg
import Derived.Test.YtnmpjdgobafdkaaGreatDoorPmzz
set_option maxRecDepth 100000
set_option maxHeartbeats 16000000
set_option linter.all false
noncomputable section
namespace Go.Ev
section
inductive Pos where
 |one|o (p:Pos)|i (p:Pos)
 deriving DecidableEq,Inhabited
def Pos.succ:Pos->Pos
 | .one=> .o .one
 | .o p=> .i p
 | .i p=> .o p.succ
def Pos.gL:Pos->Pos->Bool:=fun p=>Pos.rec (motive:=fun _=>Pos->Bool)
 (fun q=>Pos.casesOn q true (fun _=>false) (fun _=>false))
 (fun _ a q=>Pos.casesOn q false (fun q=>a q) (fun _=>false))
 (fun _ a q=>Pos.casesOn q false (fun _=>false) (fun q=>a q)) p
def Pos.ofM:Nat->Nat->Pos:=fun f=>Nat.rec (motive:=fun _=>Nat->Pos)
 (fun _=> .one)
 (fun _ a m=>cond (Nat.ble m 1) .one (cond (Nat.beq (Nat.mod m 2) 0) (.o (a (Nat.div m 2))) (.i (a (Nat.div m 2))))) f
def pos (n:Nat):Pos:=Pos.ofM (Nat.succ n) (Nat.succ n)
inductive fX (α:Type) where
 |leaf
 |node (l:fX α) (v:α) (r:fX α)
 deriving Inhabited
namespace fX
variable {α:Type}
def get (d:α):Pos->fX α->α:=fun p=>Pos.rec (motive:=fun _=>fX α->α)
 (fun t=>fX.casesOn t d (fun _ v _=>v))
 (fun _ a t=>fX.casesOn t d (fun l _ _=>a l))
 (fun _ a t=>fX.casesOn t d (fun _ _ r=>a r)) p
def set (d:α) (x:α):Pos->fX α->fX α:=fun p=>Pos.rec (motive:=fun _=>fX α->fX α)
 (fun t=>fX.casesOn t (.node .leaf x .leaf) (fun l _ r=> .node l x r))
 (fun _ a t=>fX.casesOn t (.node (a .leaf) d .leaf) (fun l v r=> .node (a l) v r))
 (fun _ a t=>fX.casesOn t (.node .leaf d (a .leaf)) (fun l v r=> .node l v (a r))) p
def PR (d:α):List α->Nat->fX α->fX α
 | [],_,t=>t
 |x::l,k,t=>PR d l (k+1) (t.set d x (pos k))
def ofList (d:α) (l:List α):fX α:=PR d l 0 .leaf
end fX
inductive DN where
 |exact (c:Nat)
 |rest (d:Nat)
 deriving DecidableEq,Inhabited
inductive aj where
 |int (k:IntKind) (n:Int)
 |bool (b:Bool)
 |ptr (n:Pos) (off:Nat)
 |i7 (n:Pos) (off len:Nat) (cap:DN)
 |str (s:List UInt8)
 |agg (l:List aj)
 |fh (l:List aj)
 |vM
 |jP
 |u4
 |map (n:Pos)
 |func (fn:Fn) (first captured:List aj)
 |nilFunc
 |iface (t:TypeId) (v:aj)
 |nilIface
 |Ce (n:Pos)
 |x9 (v:Value)
 |sym (i:Nat)
 |atom (n:Pos)
 deriving Inhabited
mutual
def aj.ofValue:Value->aj
 | .bool b=> .bool b
 | .int k n=> .int k n
 | .string s=> .str s.data.toList
 | .pointer none=> .vM
 | .slice none 0 0=> .jP
 | .map none=> .u4
 | .nilFunc=> .nilFunc
 | .nilIface=> .nilIface
 | .agg ⟨cs⟩=> .agg (aj.ofValues cs)
 | .tuple ⟨cs⟩=> .fh (aj.ofValues cs)
 |v=> .x9 v
def aj.ofValues:List Value->List aj
 | []=> []
 |v::l=>aj.ofValue v::aj.ofValues l
end
def aj.cells:aj->List aj
 | .agg l=>l
 |v=> [v]
def DN.gL:DN->DN->Bool
 | .exact a,.exact b=>Nat.beq a b
 | .rest a,.rest b=>Nat.beq a b
 |_,_=>false
def aeC:IntKind->Nat
 | .i8=>0| .i16=>1| .i32=>2| .i64=>3| .u8=>4| .u16=>5| .u32=>6| .u64=>7
def nh (a b:IntKind):Bool:=Nat.beq (aeC a) (aeC b)
def Fo:Int->Int->Bool
 | .ofNat a,.ofNat b=>Nat.beq a b
 | .negSucc a,.negSucc b=>Nat.beq a b
 |_,_=>false
def J5:Bool->Bool->Bool
 |true,b=>b
 |false,b=>match b with|true=>false|false=>true
def DR:List UInt8->List UInt8->Bool:=fun x=>List.rec (motive:=fun _=>List UInt8->Bool)
 (fun y=>List.casesOn y true (fun _ _=>false))
 (fun a _ d y=>List.casesOn y false (fun b y=>cond (Nat.beq a.toNat b.toNat) (d y) false)) x
mutual
def aj.gL:aj->aj->Bool
 | .bool a,.bool b=>J5 a b
 | .int k a,.int j b=>nh k j&&Fo a b
 | .str a,.str b=>DR a b
 | .vM,.vM=>true
 | .ptr n a,.ptr m b=>n.gL m&&Nat.beq a b
 | .jP,.jP=>true
 | .i7 n a b c,.i7 m d e f=>n.gL m&&Nat.beq a d&&Nat.beq b e&&c.gL f
 | .u4,.u4=>true
 | .map n,.map m=>n.gL m
 | .nilFunc,.nilFunc=>true
 | .nilIface,.nilIface=>true
 | .agg x,.agg y=>aj.J6 x y
 | .fh x,.fh y=>aj.J6 x y
 | .sym a,.sym b=>Nat.beq a b
 | .atom n,.atom m=>n.gL m
 |_,_=>false
def aj.J6:List aj->List aj->Bool
 | [],[]=>true
 |a::x,b::y=>aj.gL a b&&aj.J6 x y
 |_,_=>false
end
structure lK where
 key:aj
 val:aj
 born:Nat
 deriving Inhabited
inductive jG where
 |free
 |cells (c:List aj) (elem:TypeId) (zt:Nat)
 |map (es:List lK) (clock:Nat)
 |sit (s:List UInt8) (pos:Nat)
 |xc (m:Option Pos) (since:Nat) (seen:List Nat) (last:Nat)
 |J7
 |uf
 |other
 |ga (id:Nat)
 deriving Inhabited
structure Cell where
 obj:jG
 rt:Pos
 deriving Inhabited
def noCell:Cell:=⟨.free,.one⟩
structure aP where
 t:fX Cell
 nx:Pos
 al:fX (List Pos)
 df:List Pos
 deriving Inhabited
def aP.at (h:aP) (n:Pos):Cell:=h.t.get noCell n
def aP.put (h:aP) (n:Pos) (c:Cell):fX Cell:=h.t.set noCell c n
def nth:Nat->List aj->Option aj:=fun n=>Nat.rec (motive:=fun _=>List aj->Option aj)
 (fun l=>List.casesOn l none (fun x _=>some x))
 (fun _ a l=>List.casesOn l none (fun _ l=>a l)) n
def Uw:Nat->List aj->List aj:=fun n=>Nat.rec (motive:=fun _=>List aj->List aj)
 (fun l=>l)
 (fun _ a l=>List.casesOn l [] (fun _ l=>a l)) n
def Hc:Nat->List aj->Option (List aj):=fun n=>Nat.rec (motive:=fun _=>List aj->Option (List aj))
 (fun _=>some [])
 (fun _ a l=>List.casesOn l none (fun x l=>Option.casesOn (a l) none (fun r=>some (x::r)))) n
def Ux:List aj->List aj->Option (List aj):=fun b=>List.rec (motive:=fun _=>List aj->Option (List aj))
 (fun l=>some l)
 (fun v _ a l=>List.casesOn l none (fun _ l=>Option.casesOn (a l) none (fun r=>some (v::r)))) b
def Hd (vs:List aj):Nat->List aj->Option (List aj):=fun n=>Nat.rec (motive:=fun _=>List aj->Option (List aj))
 (fun l=>Ux vs l)
 (fun _ a l=>List.casesOn l none (fun x l=>Option.casesOn (a l) none (fun r=>some (x::r)))) n
def Cf:List aj->List aj->List aj:=fun x=>List.rec (motive:=fun _=>List aj->List aj)
 (fun y=>y) (fun a _ b y=>a::b y) x
def cellsOf {R:Type} (o:jG) (a:R) (k:List aj->TypeId->Nat->R):R:=
 jG.casesOn o a k (fun _ _=>a) (fun _ _=>a) (fun _ _ _ _=>a) a a a (fun _=>a)
def aP.Uy (h:aP) (n:Pos) (off:Nat):Option aj:=cellsOf (h.at n).obj none fun c _ _=>nth off c
def aP.u5 (h:aP) (n:Pos) (off k:Nat):Option (List aj):=cellsOf (h.at n).obj none fun c _ _=>Hc k (Uw off c)
def forget (off:Nat) (a:Pos):List Pos->fX Cell->fX Cell
 | [],t=>t
 |m::l,t=>
  cond (m.gL a) (forget off a l t)
   (
    let c:=t.get noCell m
    forget off a l (cellsOf c.obj t fun x e s=>t.set noCell ⟨.cells (x.take off) e s,c.rt⟩ m))
def Uz (v:aj):Bool:=match v with
 | .agg _=>false
 | .fh _=>false
 | .x9 _=>false
 |_=>true
def MG:List aj->Bool:=fun l=>List.rec true (fun v _ a=>cond (Uz v) a false) l
def aP.store (h:aP) (n:Pos) (off:Nat) (vs:List aj):Option aP:=
 let c:=h.at n
 cellsOf c.obj none fun x e s=>
  Option.casesOn (cond (MG vs) (Hd vs off x) none) none fun y=>
   List.casesOn (h.al.get [] c.rt) (some ⟨h.put n ⟨.cells y e s,c.rt⟩,h.nx,h.al,h.df⟩)
    (fun m l=>some ⟨forget off n (m::l) (h.put n ⟨.cells y e s,c.rt⟩),h.nx,h.al,h.df⟩)
def aP.new (h:aP) (o:jG):aP:=⟨h.put h.nx ⟨o,h.nx⟩,h.nx.succ,h.al,h.df⟩
def aP.setObj (h:aP) (n:Pos) (o:jG):aP:=⟨h.put n ⟨o,(h.at n).rt⟩,h.nx,h.al,h.df⟩
def aP.again (h:aP) (n:Pos) (off:Nat) (y:List aj) (e:TypeId) (s:Nat):aP:=
 let r:=(h.at n).rt
 let l:=n::h.al.get [] r
 ⟨(forget off h.nx l h.t).set noCell ⟨.cells y e s,r⟩ h.nx,h.nx.succ,h.al.set [] (h.nx::l) r,h.df⟩
structure gb where
 g:Nat->Option (List Value)
 jf:Nat->World->Value->Prop
 len:Nat->Option aj
instance:Inhabited gb:=⟨⟨fun _=>none,fun _ _ _=>True,fun _=>none⟩⟩
inductive zu where
 |bin (o:BinOp)|neg|conv (k:IntKind)|mx (b:Bool)
 deriving Inhabited
def aeD:BinOp->Nat
 | .add=>0| .sub=>1| .mul=>2| .quo=>3| .rem=>4| .and=>5| .or=>6| .xor=>7| .shl=>8| .shr=>9| .andNot=>10
 | .eql=>11| .neq=>12| .lss=>13| .leq=>14| .gtr=>15| .geq=>16
def zu.gL:zu->zu->Bool
 | .bin a,.bin b=>Nat.beq (aeD a) (aeD b)
 | .neg,.neg=>true
 | .conv k,.conv j=>nh k j
 | .mx a,.mx b=>J5 a b
 |_,_=>false
structure Fact where
 op:zu
 a:aj
 b:aj
 r:aj
 deriving Inhabited
structure Env where
 tys:fX (Option TypeInfo)
 fns:fX (Option Func)
 gl:gb
 facts:List Fact
 gt:TypeId->Bool
 deriving Inhabited
def Env.ty (E:Env) (t:TypeId):Option TypeInfo:=E.tys.get none (pos t)
def Env.cQ (E:Env) (t:TypeId):Option TypeDesc:=
 match E.ty t with
 |some i=>match i.desc with
  | .named _ u=>match E.ty u with
   |some j=>some j.desc
   |none=>none
  |d=>some d
 |none=>none
def Env.size (E:Env) (t:TypeId):Option Nat:=match E.ty t with|some i=>some i.size|none=>none
def Env.zero (E:Env) (t:TypeId):Option aj:=
 match E.ty t with
 |some i=>match i.zero with
  |some v=>some (aj.ofValue v)
  |none=>none
 |none=>none
def Env.Fq (E:Env) (t:TypeId):Option Bool:=
 match E.cQ t with
 |some (.struct _)=>some true
 |some (.array _ _)=>some true
 |some _=>some false
 |none=>none
def oG:aj:= .fh []
structure Q0 where
 a:aj
 b:aj
 c:aj
 d:aj
structure Q1 where
 a:Q0
 b:Q0
 c:Q0
 d:Q0
structure Q2 where
 a:Q1
 b:Q1
 c:Q1
 d:Q1
structure Q3 where
 a:Q2
 b:Q2
 c:Q2
 d:Q2
structure Tm where
 q:Q3
 o:fX aj
structure G0 where
 f:Q0->aj
structure G1 where
 f:Q1->aj
structure G2 where
 f:Q2->aj
structure G3 where
 f:Q3->aj
def PT (n:Nat):G0:=cond (Nat.beq n 0) ⟨fun q=>q.a⟩ (cond (Nat.beq n 1) ⟨fun q=>q.b⟩ (cond (Nat.beq n 2) ⟨fun q=>q.c⟩ ⟨fun q=>q.d⟩))
def PU (k n:Nat):G1:=
 let g:=PT n
 cond (Nat.beq k 0) ⟨fun q=>g.f q.a⟩ (cond (Nat.beq k 1) ⟨fun q=>g.f q.b⟩ (cond (Nat.beq k 2) ⟨fun q=>g.f q.c⟩ ⟨fun q=>g.f q.d⟩))
def PV (k n:Nat):G2:=
 let g:=PU (Nat.div n 4) (Nat.mod n 4)
 cond (Nat.beq k 0) ⟨fun q=>g.f q.a⟩ (cond (Nat.beq k 1) ⟨fun q=>g.f q.b⟩ (cond (Nat.beq k 2) ⟨fun q=>g.f q.c⟩ ⟨fun q=>g.f q.d⟩))
def PW (k n:Nat):G3:=
 let g:=PV (Nat.div n 16) (Nat.mod n 16)
 cond (Nat.beq k 0) ⟨fun q=>g.f q.a⟩ (cond (Nat.beq k 1) ⟨fun q=>g.f q.b⟩ (cond (Nat.beq k 2) ⟨fun q=>g.f q.c⟩ ⟨fun q=>g.f q.d⟩))
structure P0 where
 f:Q0->aj->Q0
structure P1 where
 f:Q1->aj->Q1
structure P2 where
 f:Q2->aj->Q2
structure P3 where
 f:Q3->aj->Q3
def aeE (n:Nat):P0:=
 cond (Nat.beq n 0) ⟨Q0.rec (motive:=fun _=>aj->Q0) fun _ b c d v=>⟨v,b,c,d⟩⟩
  (cond (Nat.beq n 1) ⟨Q0.rec (motive:=fun _=>aj->Q0) fun a _ c d v=>⟨a,v,c,d⟩⟩
   (cond (Nat.beq n 2) ⟨Q0.rec (motive:=fun _=>aj->Q0) fun a b _ d v=>⟨a,b,v,d⟩⟩ ⟨Q0.rec (motive:=fun _=>aj->Q0) fun a b c _ v=>⟨a,b,c,v⟩⟩))
def aeF (k n:Nat):P1:=
 let p:=aeE n
 cond (Nat.beq k 0) ⟨Q1.rec (motive:=fun _=>aj->Q1) fun a b c d v=>⟨p.f a v,b,c,d⟩⟩
  (cond (Nat.beq k 1) ⟨Q1.rec (motive:=fun _=>aj->Q1) fun a b c d v=>⟨a,p.f b v,c,d⟩⟩
   (cond (Nat.beq k 2) ⟨Q1.rec (motive:=fun _=>aj->Q1) fun a b c d v=>⟨a,b,p.f c v,d⟩⟩ ⟨Q1.rec (motive:=fun _=>aj->Q1) fun a b c d v=>⟨a,b,c,p.f d v⟩⟩))
def aeG (k n:Nat):P2:=
 let p:=aeF (Nat.div n 4) (Nat.mod n 4)
 cond (Nat.beq k 0) ⟨Q2.rec (motive:=fun _=>aj->Q2) fun a b c d v=>⟨p.f a v,b,c,d⟩⟩
  (cond (Nat.beq k 1) ⟨Q2.rec (motive:=fun _=>aj->Q2) fun a b c d v=>⟨a,p.f b v,c,d⟩⟩
   (cond (Nat.beq k 2) ⟨Q2.rec (motive:=fun _=>aj->Q2) fun a b c d v=>⟨a,b,p.f c v,d⟩⟩ ⟨Q2.rec (motive:=fun _=>aj->Q2) fun a b c d v=>⟨a,b,c,p.f d v⟩⟩))
def Zz (k n:Nat):P3:=
 let p:=aeG (Nat.div n 16) (Nat.mod n 16)
 cond (Nat.beq k 0) ⟨Q3.rec (motive:=fun _=>aj->Q3) fun a b c d v=>⟨p.f a v,b,c,d⟩⟩
  (cond (Nat.beq k 1) ⟨Q3.rec (motive:=fun _=>aj->Q3) fun a b c d v=>⟨a,p.f b v,c,d⟩⟩
   (cond (Nat.beq k 2) ⟨Q3.rec (motive:=fun _=>aj->Q3) fun a b c d v=>⟨a,b,p.f c v,d⟩⟩ ⟨Q3.rec (motive:=fun _=>aj->Q3) fun a b c d v=>⟨a,b,c,p.f d v⟩⟩))
def PX:Q0:=⟨oG,oG,oG,oG⟩
def PY:Q1:=⟨PX,PX,PX,PX⟩
def PZ:Q2:=⟨PY,PY,PY,PY⟩
def zA:Tm:=⟨⟨PZ,PZ,PZ,PZ⟩,.leaf⟩
structure anG where
 f:Tm->aj
def UA (t:Nat):anG:=
 cond (Nat.blt t 256) (let g:=PW (Nat.div t 64) (Nat.mod t 64);⟨fun a=>g.f a.q⟩) (let p:=pos t;⟨fun a=>fX.get oG p a.o⟩)
def gW (t:Nat) (tm:Tm):aj:=(UA t).f tm
structure Cg where
 f:aj->Tm->Tm
def zB (t:Nat):Cg:=
 cond (Nat.blt t 256) (let g:=Zz (Nat.div t 64) (Nat.mod t 64);⟨fun v=>Tm.rec fun q o=>⟨g.f q v,o⟩⟩) (let p:=pos t;⟨fun v=>Tm.rec fun q o=>⟨q,o.set oG v p⟩⟩)
structure P5 where
 g:Tm->aj
def bP (a:Env):Operand->P5
 | .tmp t=>⟨(UA t).f⟩
 | .const v=>let u:=aj.ofValue v;⟨fun _=>u⟩
 | .global g=>let u:aj:= .x9 (.pointer (some ⟨g,0,none⟩));⟨fun _=>u⟩
 | .func f=>⟨fun _=> .func (.func f) [] []⟩
def sr:List P5->Tm->List aj
 | [],_=> []
 |s::l,a=>s.g a::sr l a
def sV (E:Env) (l:List Operand):List P5:=l.map (bP E)
def half:IntKind->Nat
 | .i8=>128| .u8=>256
 | .i16=>32768| .u16=>65536
 | .i32=>2147483648| .u32=>4294967296
 | .i64=>9223372036854775808| .u64=>18446744073709551616
def ya (k:IntKind) (n:Int):Int:=
 Int.casesOn n (fun m=>cond (Nat.blt m (half k)) (.ofNat m) (k.wrap (.ofNat m))) (fun m=>k.wrap (.negSucc m))
def Ch:Int->Int->Bool
 | .ofNat a,.ofNat b=>Nat.blt a b
 | .negSucc _,.ofNat _=>true
 | .ofNat _,.negSucc _=>false
 | .negSucc a,.negSucc b=>Nat.blt b a
def aeH:Int->Int->Int
 | .ofNat a,.ofNat b=> .ofNat (Nat.add a b)
 |x,y=>x+y
def P6:Int->Int->Int
 | .ofNat a,.ofNat b=>cond (Nat.ble b a) (.ofNat (Nat.sub a b)) (.negSucc (Nat.sub (Nat.sub b a) 1))
 |x,y=>x-y
def ZA:Int->Int->Int
 | .ofNat a,.ofNat b=> .ofNat (Nat.mul a b)
 |x,y=>x*y
def ZB:Int->Int->Int
 | .ofNat a,.ofNat b=> .ofNat (Nat.div a b)
 |x,y=>x.tdiv y
def ZC:Int->Int->Int
 | .ofNat a,.ofNat b=> .ofNat (Nat.mod a b)
 |x,y=>x.tmod y
def sW {α:Type} (n:Nat) (k:Nat->α):α:=Nat.casesOn n (k 0) (fun m=>k (Nat.succ m))
def oH (k:IntKind) (n:Int):Option aj:=
 Int.casesOn n (fun m=>Nat.casesOn m (some (.int k (.ofNat 0))) (fun m=>some (.int k (.ofNat (Nat.succ m)))))
  (fun m=>Nat.casesOn m (some (.int k (.negSucc 0))) (fun m=>some (.int k (.negSucc (Nat.succ m)))))
def anH (x y:Int) (k:Nat->Nat->Option aj):Option aj:=
 Int.casesOn x (fun a=>Int.casesOn y (fun b=>k a b) (fun _=>none)) (fun _=>none)
structure dN where
 f:IntKind->Int->Int->Option aj
def Fs (f:Nat->Nat->Nat):dN:=⟨fun k x y=>anH x y fun a b=>cond (Nat.blt a (half k)) (cond (Nat.blt b (half k)) (oH k (.ofNat (f a b))) none) none⟩
def aeI:dN:=⟨fun _ _ _=>none⟩
def u6:BinOp->dN
 | .add=>⟨fun k a b=>oH k (ya k (aeH a b))⟩
 | .sub=>⟨fun k a b=>oH k (ya k (P6 a b))⟩
 | .mul=>⟨fun k a b=>oH k (ya k (ZA a b))⟩
 | .quo=>⟨fun k a b=>cond (Fo b 0) none (oH k (ya k (ZB a b)))⟩
 | .rem=>⟨fun k a b=>cond (Fo b 0) none (oH k (ZC a b))⟩
 | .and=>Fs Nat.land
 | .or=>Fs Nat.lor
 | .xor=>Fs Nat.xor
 | .andNot=>Fs fun a b=>Nat.xor a (Nat.land a b)
 | .eql=>⟨fun _ a b=>some (.bool (Fo a b))⟩
 | .neq=>⟨fun _ a b=>some (.bool (cond (Fo a b) false true))⟩
 | .lss=>⟨fun _ a b=>some (.bool (Ch a b))⟩
 | .leq=>⟨fun _ a b=>some (.bool (cond (Ch b a) false true))⟩
 | .gtr=>⟨fun _ a b=>some (.bool (Ch b a))⟩
 | .geq=>⟨fun _ a b=>some (.bool (cond (Ch a b) false true))⟩
 |_=>aeI
def MH:BinOp->dN
 | .shl=>⟨fun k a b=>Int.casesOn b (fun b=>oH k (ya k (ZA a (.ofNat (Nat.pow 2 (Nat.min b k.bits)))))) (fun _=>none)⟩
 | .shr=>⟨fun k a b=>Int.casesOn b (fun b=>Int.casesOn a (fun a=>oH k (.ofNat (Nat.div a (Nat.pow 2 (Nat.min b k.bits))))) (fun a=>oH k ((Int.negSucc a).fdiv (.ofNat (Nat.pow 2 (Nat.min b k.bits)))))) (fun _=>none)⟩
 |_=>aeI
def MI:List UInt8->List UInt8->Bool:=fun x=>List.rec (motive:=fun _=>List UInt8->Bool)
 (fun y=>List.casesOn y false (fun _ _=>true))
 (fun a _ d y=>List.casesOn y false (fun b y=>cond (Nat.blt a.toNat b.toNat) true (cond (Nat.beq a.toNat b.toNat) (d y) false))) x
def UB:List UInt8->List UInt8->List UInt8:=fun x=>List.rec (motive:=fun _=>List UInt8->List UInt8)
 (fun y=>y) (fun a _ b y=>a::b y) x
structure anI where
 f:List UInt8->List UInt8->Option aj
def UC:BinOp->anI
 | .add=>⟨fun x y=>cond (Nat.blt (Nat.add x.length y.length) 4294967296) (some (.str (UB x y))) none⟩
 | .eql=>⟨fun x y=>some (.bool (DR x y))⟩
 | .neq=>⟨fun x y=>some (.bool (cond (DR x y) false true))⟩
 | .lss=>⟨fun x y=>some (.bool (MI x y))⟩
 | .leq=>⟨fun x y=>some (.bool (MI x y||DR x y))⟩
 | .gtr=>⟨fun x y=>some (.bool (cond (MI x y||DR x y) false true))⟩
 | .geq=>⟨fun x y=>some (.bool (cond (MI x y) false true))⟩
 |_=>⟨fun _ _=>none⟩
def sameKey:aj->aj->Option Bool
 | .int k a,.int j b=>cond (nh k j) (some (Fo a b)) none
 | .bool a,.bool b=>some (J5 a b)
 |_,_=>none
def uj:aj->aj->Option Bool
 | .str a,.str b=>some (DR a b)
 |a,b=>sameKey a b
def tJ (E:Env):Nat->List Field->List aj->Bool
 |_,[],[]=>true
 |k,f::a,v::b=>(match E.cQ f.type,v with
   |some (.int _),.int _ _=>true
   |some .string,.str _=>true
   |some .bool,.bool _=>true
   |_,_=>false)&&(Nat.beq f.offset k&& !(f.name== "_")&&tJ E (k+1) a b)
 |_,_,_=>false
def AR:List aj->List aj->Option Bool
 | [],[]=>some true
 |a::x,b::y=>match uj a b with
  |some true=>AR x y
  |some false=>some false
  |none=>none
 |_,_=>none
def Fu:aj->aj->Option Bool
 | .agg a,.agg b=>AR a b
 |a,b=>uj a b
structure EqK where
 f:aj->aj->Option Bool
def He (E:Env) (t:TypeId) (d:Bool):EqK:=
 match E.cQ t with
 |some .bool=>⟨fun x y=>match x,y with
  | .bool a,.bool b=>some (J5 a b)
  |_,_=>none⟩
 |some (.pointer e)=>
  let g:=(match E.size e with
   |some z=>Nat.blt 0 z
   |none=>false)
  ⟨fun x y=>match x,y with
  | .vM,.vM=>some true
  | .vM,.ptr _ _=>some false
  | .ptr _ _,.vM=>some false
  | .ptr n a,.ptr k b=>cond (g&&n.gL k) (some (Nat.beq a b)) none
  |_,_=>none⟩
 |some (.slice _)=>⟨fun x y=>match x,y with
  | .jP,.jP=>some true
  | .jP,.i7 _ _ _ _=>some false
  | .i7 _ _ _ _,.jP=>some false
  |_,_=>none⟩
 |some (.map _ _)=>⟨fun x y=>match x,y with
  | .u4,.u4=>some true
  | .u4,.map _=>some false
  | .map _,.u4=>some false
  |_,_=>none⟩
 |some (.func _ _ _)=>⟨fun x y=>match x,y with
  | .nilFunc,.nilFunc=>some true
  | .nilFunc,.func _ _ _=>some false
  | .func _ _ _,.nilFunc=>some false
  |_,_=>none⟩
 |some (.interface _)=>⟨fun x y=>match x,y with
  | .nilIface,.nilIface=>cond d (some true) none
  | .nilIface,.iface _ _=>some false
  | .iface _ _,.nilIface=>some false
  |_,_=>none⟩
 |some (.struct f)=>cond (E.gt t) ⟨fun x y=>match x,y with
  | .agg a,.agg b=>cond (tJ E 0 f.toList a&&tJ E 0 f.toList b) (AR a b) none
  |_,_=>none⟩ ⟨fun _ _=>none⟩
 |_=>⟨fun _ _=>none⟩
def zC:Operand->Bool
 | .const _=>true
 |_=>false
structure ZD where
 f:aj->aj->Option aj
def aeJ (E:Env) (op:BinOp) (t:TypeId) (d:Bool):ZD:=
 match op with
 | .shl=>let i:=MH .shl;⟨fun x y=>match x,y with
  | .int k a,.int _ b=>i.f k a b
  |_,_=>none⟩
 | .shr=>let i:=MH .shr;⟨fun x y=>match x,y with
  | .int k a,.int _ b=>i.f k a b
  |_,_=>none⟩
 | .eql=>match E.cQ t with
  |some (.int _)=>let i:=u6 .eql;⟨fun x y=>match x,y with
   | .int k a,.int j b=>cond (nh k j) (i.f k a b) none
   |_,_=>none⟩
  |some .string=>let s:=UC .eql;⟨fun x y=>match x,y with
   | .str a,.str b=>s.f a b
   |_,_=>none⟩
  |_=>let e:=He E t d;⟨fun x y=>Option.casesOn (e.f x y) none fun b=>some (.bool b)⟩
 | .neq=>match E.cQ t with
  |some (.int _)=>let i:=u6 .neq;⟨fun x y=>match x,y with
   | .int k a,.int j b=>cond (nh k j) (i.f k a b) none
   |_,_=>none⟩
  |some .string=>let s:=UC .neq;⟨fun x y=>match x,y with
   | .str a,.str b=>s.f a b
   |_,_=>none⟩
  |_=>let e:=He E t d;⟨fun x y=>Option.casesOn (e.f x y) none fun b=>some (.bool (cond b false true))⟩
 |op=>match E.cQ t with
  |some .string=>let s:=UC op;⟨fun x y=>match x,y with
   | .str a,.str b=>s.f a b
   |_,_=>none⟩
  |_=>let i:=u6 op;⟨fun x y=>match x,y with
   | .int k a,.int j b=>cond (nh k j) (i.f k a b) none
   |_,_=>none⟩
def unA (a:UnOp) (x:aj):Option aj:=
 match a,x with
 | .not,.bool b=>some (.bool (cond b false true))
 | .neg,.int k n=>oH k (ya k (P6 0 n))
 | .xor,.int k (.ofNat n)=>match k with
  | .u8| .u16| .u32| .u64=>cond (Nat.blt n (half k)) (oH k (.ofNat (Nat.sub (Nat.sub (half k) 1) n))) none
  |_=>none
 |_,_=>none
end
section
structure P7 where
 f:aj->Option aj
structure anJ where
 f:List aj->Option aj
def UE (E:Env) (t:TypeId) (off:Nat):anJ:=
 match E.Fq t with
 |some true=>match E.size t with
  |some k=>⟨fun l=>Option.casesOn (Hc k (Uw off l)) none fun r=>some (.agg r)⟩
  |none=>⟨fun _=>none⟩
 |some false=>⟨fun l=>nth off l⟩
 |none=>⟨fun _=>none⟩
def zD (a:Nat->Option (Nat×Nat)):List (Nat×P5)->Tm->List aj->Option (List aj)
 | [],_,l=>some l
 |(i,s)::b,d,l=>
  match a i with
  |none=>none
  |some (off,size)=>
   let v:=s.g d
   cond (Nat.beq v.cells.length size)
    (Option.casesOn (Hd v.cells off l) none fun l=>zD a b d l) none
def placeOf (E:Env) (a:List Field) (i:Nat):Option (Nat×Nat):=
 match a[i]? with
 |some f=>match E.size f.type with
  |some s=>some (f.offset,s)
  |none=>none
 |none=>none
structure TmK where
 f:Tm->Option aj
def Fv (E:Env) (a:Array (Nat×Operand)):List (Nat×P5):=a.toList.map fun p=>(p.1,bP E p.2)
def MJ (E:Env) (t:TypeId) (a:Array (Nat×Operand)):TmK:=
 match E.zero t,E.cQ t with
 |some z,some (.struct h)=>
  let b:=Fv E a
  let g:=z.cells
  cond (h.toList.all fun f=>(E.size f.type).isSome)
   ⟨fun d=>Option.casesOn (zD (placeOf E h.toList) b d g) none fun l=>some (.agg l)⟩ ⟨fun _=>none⟩
 |some z,some (.array _ e)=>match E.size e with
  |some s=>
   let b:=Fv E a
   let g:=z.cells
   ⟨fun d=>Option.casesOn (zD (fun i=>some (Nat.mul i s,s)) b d g) none fun l=>some (.agg l)⟩
  |none=>⟨fun _=>none⟩
 |_,_=>⟨fun _=>none⟩
def Ci (z:List aj):Nat->List aj:=fun n=>Nat.rec [] (fun _ a=>Cf z a) n
def yb {R:Type} (v:aj) (a:R) (k:Nat->R):R:=match v with
 | .int _ (.ofNat n)=>k n
 |_=>a
def aeK (E:Env) (t:TypeId):ZD:=
 match E.cQ t with
 |some (.slice e)=>match E.size e with
  |some a=>⟨fun x ix=>yb ix none fun i=>match x with
   | .i7 n off len _=>cond (Nat.blt i len) (sW (Nat.add off (Nat.mul i a)) fun k=>some (.ptr n k)) none
   |_=>none⟩
  |none=>⟨fun _ _=>none⟩
 |some (.array len e)=>match E.size e with
  |some a=>⟨fun x ix=>yb ix none fun i=>match x with
   | .ptr n off=>cond (Nat.blt i len) (sW (Nat.add off (Nat.mul i a)) fun k=>some (.ptr n k)) none
   | .x9 (.pointer (some ⟨g,off,none⟩))=>cond (Nat.blt i len) (sW (Nat.add off (Nat.mul i a)) fun k=>some (.x9 (.pointer (some ⟨g,k,none⟩)))) none
   |_=>none⟩
  |none=>⟨fun _ _=>none⟩
 |_=>⟨fun _ _=>none⟩
def aeL:Nat->List UInt8->Option UInt8:=fun n=>Nat.rec (motive:=fun _=>List UInt8->Option UInt8)
 (fun l=>List.casesOn l none (fun x _=>some x))
 (fun _ a l=>List.casesOn l none (fun _ l=>a l)) n
def aeM (E:Env) (t:TypeId):ZD:=
 match E.cQ t with
 |some .string=>⟨fun x ix=>yb ix none fun i=>match x with
  | .str s=>Option.casesOn (aeL i s) none fun b=>sW b.toNat fun k=>some (.int .u8 (.ofNat k))
  |_=>none⟩
 |some (.array len e)=>match E.size e with
  |some a=>⟨fun x ix=>yb ix none fun i=>match x with
   | .agg l=>cond (Nat.blt i len) ((UE E e (Nat.mul i a)).f l) none
   |_=>none⟩
  |none=>⟨fun _ _=>none⟩
 |_=>⟨fun _ _=>none⟩
def aeN (E:Env) (t:TypeId) (f:Nat):P7:=
 match E.cQ t with
 |some (.struct b)=>match b.toList[f]? with
  |some a=>match E.size a.type with
   |some (_+1)=>let d:=a.offset;⟨fun x=>match x with
    | .ptr n off=>sW (Nat.add off d) fun k=>some (.ptr n k)
    |_=>none⟩
   |_=>⟨fun _=>none⟩
  |none=>⟨fun _=>none⟩
 |_=>⟨fun _=>none⟩
def aeO (E:Env) (t:TypeId) (f:Nat):P7:=
 match E.cQ t with
 |some (.struct b)=>match b.toList[f]? with
  |some a=>let p:=UE E a.type a.offset;⟨fun x=>match x with
   | .agg l=>p.f l
   |_=>none⟩
  |none=>⟨fun _=>none⟩
 |_=>⟨fun _=>none⟩
def anK (v:aj):Option aj:=match v with
 | .ptr n o=>some (.ptr n o)
 | .func (.func f) x y=>some (.func (.func f) x y)
 | .iface t v=>some (.iface t v)
 | .i7 n a b c=>some (.i7 n a b c)
 |_=>none
def aeP (E:Env) (t:TypeId):P7:=
 match E.cQ t with
 |some (.interface _)=>⟨fun _=>none⟩
 |some _=>⟨fun x=>some (.iface t x)⟩
 |none=>⟨fun _=>none⟩
def aeQ (E:Env) (t:TypeId) (ok:Bool):P7:=
 match E.cQ t with
 |some (.interface _)=>⟨fun _=>none⟩
 |some _=>match E.zero t with
  |some z=>⟨fun x=>match x with
   | .iface u v=>cond (Nat.beq u t) (some (cond ok (.fh [v,.bool true]) v)) (cond ok (some (.fh [z,.bool false])) none)
   |_=>none⟩
  |none=>⟨fun _=>none⟩
 |none=>⟨fun _=>none⟩
def DU (d:Bool):List aj->aj->Option aj
 | [],x=>some x
 |y::l,x=>match x,y with
  | .int k a,.int _ b=>DU d l (.int k (cond d (cond (Ch a b) b a) (cond (Ch b a) b a)))
  |_,_=>none
def yc (E:Env) (t:TypeId):EqK:=
 match E.cQ t with
 |some (.int _)=>⟨fun k _=>match k with| .int _ _=>some true|_=>none⟩
 |some .string=>⟨fun k _=>match k with| .str _=>some true|_=>none⟩
 |some .bool=>⟨fun k _=>match k with| .bool _=>some true|_=>none⟩
 |some (.struct a)=>cond (E.gt t) ⟨fun k _=>match k with
  | .agg l=>cond (tJ E 0 a.toList l) (some true) none
  |_=>none⟩ ⟨fun _ _=>none⟩
 |_=>⟨fun _ _=>none⟩
def yd (k:aj):List lK->Nat->Option (Option (Nat×aj))
 | [],_=>some none
 |e::a,i=>match Fu k e.key with
  |some true=>some (some (i,e.val))
  |some false=>yd k a (i+1)
  |none=>none
def entries (h:aP) (v:aj):Option (List lK):=match v with
 | .u4=>some []
 | .map n=>match (h.at n).obj with
  | .map a _=>some a
  |_=>none
 |_=>none
structure anL where
 f:aP->aj->aj->Option aj
def ZE (E:Env) (t:TypeId) (ok:Bool):anL:=
 match E.cQ t with
 |some (.map d b)=>match E.zero b with
  |some z=>
   let q:=yc E d
   ⟨fun h x k=>Option.casesOn (q.f k k) none fun _=>
    Option.casesOn (entries h x) none fun a=>
     Option.casesOn (yd k a 0) none fun r=>
      Option.casesOn r (some (cond ok (.fh [z,.bool false]) z)) fun p=>some (cond ok (.fh [p.2,.bool true]) p.2)⟩
  |none=>⟨fun _ _ _=>none⟩
 |_=>⟨fun _ _ _=>none⟩
structure anM where
 f:aP->aj->Option aj
def aeR:Nat->List Value->Option Value:=fun n=>Nat.rec (motive:=fun _=>List Value->Option Value)
 (fun l=>List.casesOn l none (fun x _=>some x))
 (fun _ a l=>List.casesOn l none (fun _ l=>a l)) n
def P8 (E:Env) (t:TypeId):anM:=
 match E.Fq t with
 |some true=>match E.size t with
  |some k=>⟨fun h x=>match x with
   | .ptr n off=>Option.casesOn (h.u5 n off k) none fun l=>some (.agg l)
   |_=>none⟩
  |none=>⟨fun _ _=>none⟩
 |some false=>⟨fun h x=>match x with
  | .ptr n off=>h.Uy n off
  | .x9 (.pointer (some ⟨g,off,none⟩))=>Option.casesOn (E.gl.g g) none fun l=>Option.casesOn (aeR off l) none fun v=>some (aj.ofValue v)
  |_=>none⟩
 |none=>⟨fun _ _=>none⟩
def bytesOf:List aj->Option (List UInt8)
 | []=>some []
 |v::l=>match v with
  | .int .u8 (.ofNat n)=>Option.casesOn (bytesOf l) none fun r=>sW n fun n=>some (UInt8.ofNat n::r)
  |_=>none
def u7 (E:Env):Option Operand->Tm->Option aj
 |none,_=>none
 |some x,a=>some ((bP E x).g a)
def Fw {R:Type} (d:Nat) (v:Option aj) (a:R) (k:Nat->R):R:=match v with
 |none=>k d
 |some v=>yb v a k
structure anN where
 f:aP->aj->Option aj->Option aj->Option aj->Option aj
def UF {R:Type} (v:Option aj) (a:R) (k:R):R:=match v with
 |none=>k
 |some _=>a
def ZF {R:Type} (v:Option aj) (a:R) (k:R) (m:Nat->R):R:=match v with
 |none=>k
 |some v=>yb v a m
def ML {R:Type} (c:DN) (k:Nat->R) (m:Nat->R):R:=match c with
 | .exact c=>k c
 | .rest d=>m d
def aeS (a:Nat) (h:aP) (n:Pos) (off len:Nat) (cap:DN) (lo hi b:Option aj):Option aj:=
 Fw 0 lo none fun l=>Fw len hi none fun r=>
 ML cap
  (fun c=>ZF b none
   (cond (Nat.ble l r&&Nat.ble r c) (some (.i7 n (cond (Nat.beq c l) off (Nat.add off (Nat.mul l a))) (Nat.sub r l) (.exact (Nat.sub c l)))) none)
   (fun m=>cond (Nat.ble l r&&(Nat.ble r m&&Nat.ble m c)) (some (.i7 n (cond (Nat.beq m l) off (Nat.add off (Nat.mul l a))) (Nat.sub r l) (.exact (Nat.sub m l)))) none))
  (fun d=>cellsOf (h.at n).obj none fun x _ e=>
   cond (Nat.beq e a&&(Nat.blt 0 a&&Nat.ble l r))
    (ZF b none
     (cond (Nat.ble (Nat.mul (Nat.add r d) a) x.length&&(Nat.beq l 0||Nat.blt (Nat.mul (Nat.add l d) a) x.length))
      (some (.i7 n (Nat.add off (Nat.mul l a)) (Nat.sub r l) (.rest (Nat.add d l)))) none)
     (fun m=>cond (Nat.ble r m&&Nat.ble (Nat.mul (Nat.add m d) a) x.length)
      (some (.i7 n (cond (Nat.beq m l) off (Nat.add off (Nat.mul l a))) (Nat.sub r l) (.exact (Nat.sub m l)))) none)) none)
def ZG (E:Env) (t:TypeId):anN:=
 match E.cQ t with
 |some .string=>⟨fun _ x b a d=>match x with
  | .str s=>UF d none (Fw 0 b none fun l=>Fw s.length a none fun r=>
    cond (Nat.ble l r&&Nat.ble r s.length) (some (.str ((s.drop l).take (Nat.sub r l)))) none)
  |_=>none⟩
 |some (.slice e)=>match E.size e with
  |some f=>⟨fun h x b a d=>match x with
   | .jP=>UF d none (Fw 0 b none fun l=>Fw 0 a none fun r=>cond (Nat.beq r 0&&Nat.beq l 0) (some .jP) none)
   | .i7 n off len cap=>aeS f h n off len cap b a d
   |_=>none⟩
  |none=>⟨fun _ _ _ _ _=>none⟩
 |some (.array len e)=>match E.size e with
  |some f=>⟨fun _ x b a d=>match x with
   | .ptr n off=>UF d none (Fw 0 b none fun l=>Fw len a none fun r=>
     cond (Nat.ble l r&&Nat.ble r len) (some (.i7 n (cond (Nat.beq len l) off (Nat.add off (Nat.mul l f))) (Nat.sub r l) (.exact (Nat.sub len l)))) none)
   |_=>none⟩
  |none=>⟨fun _ _ _ _ _=>none⟩
 |_=>⟨fun _ _ _ _ _=>none⟩
inductive Mk where
 |ptr|i7 (len cap:Nat)|map
def Mk.mk:Mk->Pos->aj
 | .ptr,n=> .ptr n 0
 | .i7 l c,n=> .i7 n 0 l (.exact c)
 | .map,n=> .map n
def AU (E:Env) (e:TypeId) (n:Nat):Option (List aj):=
 match E.ty e with
 |some i=>match i.zero with
  |some v=>let z:=(aj.ofValue v).cells;cond (Nat.beq z.length i.size) (some (Ci z n)) none
  |none=>none
 |none=>none
inductive OR where
 |ok (v:aj) (h:aP)
 |call (f:FuncId) (args:List aj)
 |fail
 deriving Inhabited
def okU (o:Option aP):OR:=Option.casesOn o .fail fun h=> .ok oG h
def UG {R:Type} (x:aj) (a:R) (k:Nat->R):R:=match x with
 | .jP=>k 0
 | .i7 _ _ n _=>k n
 | .str s=>sW s.length k
 |_=>a
def uk:List UInt8->List aj
 | []=> []
 |b::l=>sW b.toNat fun k=> .int .u8 (.ofNat k)::uk l
def P9 (h:aP) (size n:Nat) (x:aj):Option (List aj):=match x with
 | .jP=>some []
 | .i7 m off _ _=>h.u5 m off (Nat.mul n size)
 | .str s=>cond (Nat.beq size 1) (some (uk (s.take n))) none
 |_=>none
structure anO where
 f:aP->aj->aj->OR
def roomy (a n:Nat):Bool:=Nat.ble (Nat.mul (Nat.add (Nat.mul 8 n) 4096) a) 281474976710656&&(Nat.ble n 281474976710656&&Nat.blt 0 a)
def ZH (e:TypeId) (size a:Nat) (h:aP) (s:aj) (n:Nat) (new:List aj):OR:=
 match s with
 | .jP=>cond (Nat.beq n 0) (.ok .jP h)
   (cond (roomy a n) (.ok (.i7 h.nx 0 n (.rest 0)) (h.new (.cells new e size))) .fail)
 | .i7 m off len cap=>
  sW (Nat.add len n) fun f=>
  ML cap
   (fun c=>cond (Nat.ble f c)
    (Option.casesOn (h.store m (Nat.add off (Nat.mul len size)) new) .fail fun h=> .ok (.i7 m off f (.exact c)) h)
    (cond (roomy a f)
     (Option.casesOn (h.u5 m off (Nat.mul len size)) .fail fun b=> .ok (.i7 h.nx 0 f (.rest 0)) (h.new (.cells (Cf b new) e size))) .fail))
   (fun d=>cond (Nat.beq d 0&&Nat.beq off 0)
    (cellsOf (h.at m).obj .fail fun x g i=>cond (Nat.beq g e&&(Nat.beq i size&&Nat.blt 0 size))
     (Option.casesOn (Hc (Nat.mul len size) x) .fail fun b=>
      cond (Nat.beq n 0) (.ok (.i7 m 0 len (.rest 0)) h)
       (cond (roomy a f&&MG new)
        (.ok (.i7 h.nx 0 f (.rest 0)) (h.again m (Nat.mul len size) (Cf b new) e size)) .fail)) .fail) .fail)
 |_=> .fail
def ZI (E:Env) (d:List TypeId):anO:=
 match d with
 | [b,f]=>
  match E.cQ b,E.cQ f with
  |some (.slice _),some (.int _)=>⟨fun _ _ _=> .fail⟩
  |some (.slice e),some _=>
   match E.ty e,AU E e 0 with
   |some i,some _=>
    let size:=i.size
    let a:=i.bytes
    ⟨fun h s x=>UG x .fail fun n=>Option.casesOn (P9 h size n x) .fail fun new=>ZH e size a h s n new⟩
   |_,_=>⟨fun _ _ _=> .fail⟩
  |_,_=>⟨fun _ _ _=> .fail⟩
 |_=>⟨fun _ _ _=> .fail⟩
def ye (v:aj) (k:aj):Nat->List lK->List lK
 |_,[]=> []
 |0,e::a=> {e with key:=k,val:=v} ::a
 |n+1,e::a=>e::ye v k n a
structure anP where
 f:aP->aj->aj->aj->OR
def UH (E:Env) (t:TypeId):anP:=
 match E.cQ t with
 |some (.map d _)=>
  let q:=yc E d
  ⟨fun h m k v=>match m with
   | .map n=>Option.casesOn (q.f k k) .fail fun _=>match (h.at n).obj with
    | .map b a=>Option.casesOn (yd k b 0) .fail fun r=>
      Option.casesOn r (.ok oG (h.setObj n (.map (b++ [⟨k,v,a⟩]) (a+1)))) fun p=> .ok oG (h.setObj n (.map (ye v k p.1 b) a))
    |_=> .fail
   |_=> .fail⟩
 |_=>⟨fun _ _ _ _=> .fail⟩
def UI (E:Env) (t:TypeId) (a:String):Option FuncId:=
 match E.ty t,E.cQ t with
 |some i,some d=>match i.methods.toList.find? (fun m=>m.name==a) with
  |some m=>match m.path.toList,m.func,d with
   | [],some (f,true),.pointer _=>some f
   | [],some (_,false),.pointer _=>none
   | [],some (f,false),_=>some f
   |_,_,_=>none
  |none=>none
 |_,_=>none
def ZJ (b a:String) (args:List aj):Option aj:=
 cond (b== "internal/bytealg.IndexByteString" &&a== "")
 (match args with
 | [.str s,.int .u8 (.ofNat c)]=>oH .i64 (Lib.indexByte s (Nat.toUInt8 c))
 |_=>none)
 (cond (b== "internal/abi.NoEscape" &&a== "")
 (match args with
 | [.ptr n off]=>some (.ptr n off)
 |_=>none) none)
structure FnK where
 f:aP->List aj->OR
def Fx (E:Env) (f:FuncId):FnK:=
 match E.fns.get none (pos f) with
 |some a=>match a.body with
  |some _=>cond (a.name== "runtime.NumGoroutine") ⟨fun _ _=> .fail⟩ ⟨fun _ args=> .call f args⟩
  |none=>let nm:=a.name;let b:=a.origin;⟨fun h args=>Option.casesOn (ZJ nm b args) .fail fun v=> .ok v h⟩
 |none=>⟨fun _ _=> .fail⟩
inductive oI where
 |pu (f:Tm->Option aj)
 |rd (f:Tm->aP->Option aj)
 |nw (f:Tm->Option (jG×Mk))
 |wr (f:Tm->aP->OR)
def oI.bad:oI:= .pu fun _=>none
def xf (E:Env) (f:aj->Option aj) (x:Operand):oI:=let s:=bP E x; .pu fun a=>f (s.g a)
def P' (E:Env) (f:aj->aj->Option aj) (x y:Operand):oI:=let s:=bP E x;let r:=bP E y; .pu fun a=>f (s.g a) (r.g a)
def MM (E:Env) (s d:TypeId) (x:Operand):oI:=
 match E.cQ s,E.cQ d with
 |some (.slice e),some .string=>match E.cQ e with
  |some (.int .u8)=>let s:=bP E x; .rd fun a h=>match s.g a with
   | .jP=>some (.str [])
   | .i7 n off len _=>Option.casesOn (h.u5 n off len) none fun l=>Option.casesOn (bytesOf l) none fun s=>some (.str s)
   |_=>none
  |_=> .bad
 |some .string,some (.slice e)=>match E.cQ e with
  |some (.int .u8)=>let s:=bP E x; .wr fun a h=>match s.g a with
   | .str l=>sW l.length fun n=> .ok (.i7 h.nx 0 n (.rest 0)) (h.new (.cells (uk l) e 1))
   |_=> .fail
  |_=> .bad
 |some _,some (.int k)=>xf E (fun v=>match v with
  | .int _ n=>oH k (ya k n)
  |_=>none) x
 |_,_=> .bad
def UJ (E:Env) (b:Builtin) (args:List Operand) (e:List TypeId):oI:=
 match b,args with
 | .len,[x]=>match e with
  |t::_=>match E.cQ t with
   |some .string=>xf E (fun v=>match v with
    | .str s=>sW s.length fun k=>some (.int .i64 (.ofNat k))
    |_=>none) x
   |some (.slice _)=>xf E (fun v=>match v with
    | .jP=>some (.int .i64 (.ofNat 0))
    | .i7 _ _ n _=>some (.int .i64 (.ofNat n))
    |_=>none) x
   |some (.map _ _)=>let s:=bP E x; .rd fun a h=>Option.casesOn (entries h (s.g a)) none fun i=>sW i.length fun k=>some (.int .i64 (.ofNat k))
   |_=> .bad
  |_=> .bad
 | .max,x::l=>let s:=bP E x;let d:=sV E l; .pu fun a=>DU true (sr d a) (s.g a)
 | .min,x::l=>let s:=bP E x;let d:=sV E l; .pu fun a=>DU false (sr d a) (s.g a)
 | .append,[x,y]=>let s:=bP E x;let r:=bP E y;let k:=ZI E e; .wr fun a h=>k.f h (s.g a) (r.g a)
 |_,_=> .bad
def Qa (E:Env) (c:Call):oI:=
 match c.callee with
 | .value (.func f)=>
  let i:=sV E c.args.toList
  let k:=Fx E f
  .wr fun d h=>k.f h (sr i d)
 | .value x=>
  let s:=bP E x
  let i:=sV E c.args.toList
  .wr fun d h=>match s.g d with
   | .func (.func f) first a=>(Fx E f).f h (Cf first (Cf (sr i d) a))
   |_=> .fail
 | .invoke r e=>
  let s:=bP E r
  let i:=sV E c.args.toList
  .wr fun d h=>match s.g d with
   | .iface t v=>Option.casesOn (UI E t e) .fail fun f=>(Fx E f).f h (v::sr i d)
   |_=> .fail
 | .builtin b=>UJ E b c.args.toList c.argTypes.toList
def MN (b:Nat):List Nat->Bool:=fun l=>List.rec false (fun x _ a=>cond (Nat.beq b x) true a) l
def yf (a:List Nat):List lK->List lK:=fun l=>List.rec (motive:=fun _=>List lK) [] (fun e _ b=>cond (MN e.born a) b (e::b)) l
def UK (b:Nat) (a:List Nat) (d:Nat) (f:List lK):Bool:=
 cond (List.rec (motive:=fun _=>Bool) true (fun e _ g=>cond (Nat.blt e.born b) g false) (yf a f))
  (List.casesOn a true fun _ _=>List.casesOn f true fun _ _=>List.rec (motive:=fun _=>Bool) false (fun e _ g=>cond (Nat.blt e.born d) true g) f) false
def UL:List Nat->Option Nat:=fun l=>List.rec (motive:=fun _=>Option Nat) none (fun x l a=>List.casesOn l (some x) (fun _ _=>a)) l
def Hf (b:Nat):List lK->Option lK:=fun l=>List.rec (motive:=fun _=>Option lK) none (fun e _ a=>cond (Nat.beq e.born b) (some e) a) l
def ZK (h:aP) (v:aj):Option aj:=match v with
 | .ptr n 0=>match (h.at n).obj with
  | .xc (some m) _ d a=>match (h.at m).obj with
   | .map g f=>cond (Nat.beq f a) (Option.casesOn (UL d) none fun b=>Option.casesOn (Hf b g) none fun e=>some (.fh [e.key,e.val])) none
   |_=>none
  |_=>none
 |_=>none
def lh (E:Env) (o:Op):oI:=
 match o with
 | .move x=>let s:=bP E x; .pu fun j=>some (s.g j)
 | .assign x=>let s:=bP E x; .pu fun j=>some (s.g j)
 | .pick c a b=>let s:=bP E c;let x:=bP E a;let y:=bP E b; .pu fun j=>match s.g j with
  | .bool c=>cond c (some (x.g j)) (some (y.g j))
  |_=>none
 | .build t p=>let k:=MJ E t p; .pu k.f
 | .nilCheck x=>xf E anK x
 | .unOp G _ x=>xf E (unA G) x
 | .binOp G t x y _=>let k:=aeJ E G t (zC x||zC y);P' E k.f x y
 | .convert s d x=>MM E s d x
 | .makeInterface t x=>let k:=aeP E t;xf E k.f x
 | .makeFunc (.func f) a b=>let x:=sV E a.toList;let y:=sV E b.toList; .pu fun j=>some (.func (.func f) (sr x j) (sr y j))
 | .fieldAddr t x f=>let k:=aeN E t f;xf E k.f x
 | .field t x f=>let k:=aeO E t f;xf E k.f x
 | .indexAddr t x i=>let k:=aeK E t;P' E k.f x i
 | .index t x i=>let k:=aeM E t;P' E k.f x i
 | .typeAssert x _ t ok=>let k:=aeQ E t ok;xf E k.f x
 | .extract t i=>let s:=bP E t; .pu fun j=>match s.g j with
  | .fh l=>nth i l
  |_=>none
 | .load t x=>let k:=P8 E t;let s:=bP E x; .rd fun j h=>k.f h (s.g j)
 | .lookup t x i ok=>let k:=ZE E t ok;let s:=bP E x;let r:=bP E i; .rd fun j h=>k.f h (s.g j) (r.g j)
 | .slice t x M I J=>cond (J.isNone||I.isSome) (let k:=ZG E t;let s:=bP E x; .rd fun j h=>k.f h (s.g j) (u7 E M j) (u7 E I j) (u7 E J j)) .bad
 | .alloc e=>match E.zero e with
  |some z=>let N:=jG.cells z.cells e z.cells.length; .nw fun _=>some (N,.ptr)
  |none=> .bad
 | .box e x=>let s:=bP E x; .nw fun j=>let c:=(s.g j).cells;some (.cells c e c.length,.ptr)
 | .buildSlice t len p=>match E.cQ t with
  |some (.slice e)=>match E.size e,AU E e len with
   |some s,some z=>
    let O:=Fv E p
    cond (Nat.ble (Nat.mul len s) 16777216)
     (.nw fun j=>Option.casesOn (zD (fun i=>some (Nat.mul i s,s)) O j z) none fun l=>some (.cells l e s,.i7 len len)) .bad
   |_,_=> .bad
  |_=> .bad
 | .makeMap _ none=> .nw fun _=>some (.map [] 0,.map)
 | .makeSlice t l c=>match E.cQ t with
  |some (.slice e)=>match E.ty e with
   |some i=>
    let sl:=bP E l
    let P:=bP E c
    let B:=i.bytes
    let size:=i.size
    .nw fun j=>yb (sl.g j) none fun l=>yb (P.g j) none fun c=>
     cond (Nat.ble l c&&(Nat.ble (Nat.mul c B) 1099511627776&&Nat.ble c 1099511627776))
      (Option.casesOn (AU E e c) none fun z=>some (.cells z e size,.i7 l c)) none
   |none=> .bad
  |_=> .bad
 | .store t a x=>match E.size t with
  |some k=>let s:=bP E a;let r:=bP E x; .wr fun j h=>match s.g j with
   | .ptr n off=>let v:=r.g j;cond (Nat.beq v.cells.length k) (okU (h.store n off v.cells)) .fail
   |_=> .fail
  |none=> .bad
 | .mapUpdate t m k v=>let u:=UH E t;let a:=bP E m;let b:=bP E k;let c:=bP E v; .wr fun j h=>u.f h (a.g j) (b.g j) (c.g j)
 | .insert t m k v=>let u:=UH E t;let a:=bP E m;let b:=bP E k;let c:=bP E v; .wr fun j h=>u.f h (a.g j) (b.g j) (c.g j)
 | .call c=>Qa E c
 | .range t x=>match E.cQ t with
  |some (.map _ _)=>let s:=bP E x; .wr fun j h=>match s.g j with
   | .u4=> .ok (.ptr h.nx 0) (h.new (.xc none 0 [] 0))
   | .map n=>match (h.at n).obj with
    | .map _ D=> .ok (.ptr h.nx 0) (h.new (.xc (some n) D [] D))
    |_=> .fail
   |_=> .fail
  |_=> .bad
 | .next F false=>let s:=bP E F; .wr fun j h=>match s.g j with
   | .ptr n 0=>match (h.at n).obj with
    | .xc none _ _ _=> .ok (.fh [.bool false]) h
    | .xc (some m) A q C=>match (h.at m).obj with
     | .map H D=>cond (UK A q C H) (match yf q H with
      | []=> .ok (.fh [.bool false]) h
      | [e]=> .ok (.fh [.bool true,e.key,e.val]) (h.setObj n (.xc (some m) A (q++ [e.born]) D))
      |_=> .fail) .fail
     |_=> .fail
    |_=> .fail
   |_=> .fail
 | .entry F=>let s:=bP E F; .rd fun j h=>ZK h (s.g j)
 |_=> .bad
def MO (c:zu) (a b:aj):List Fact->Option aj:=fun l=>List.rec none
 (fun F _ d=>cond (F.op.gL c) (cond (F.a.gL a) (cond (F.b.gL b) (some F.r) d) d) d) l
def J8 (E:Env) (o:Op):Option (zu×Operand×Operand):=
 match o with
 | .binOp a _ x y _=>some (.bin a,x,y)
 | .unOp .neg _ x=>some (.neg,x,x)
 | .convert s d x=>match E.cQ s,E.cQ d with
  |some (.int _),some (.int k)=>some (.conv k,x,x)
  |_,_=>none
 | .call c=>match c.callee,c.args.toList with
  | .builtin .max,[x,y]=>some (.mx true,x,y)
  | .builtin .min,[x,y]=>some (.mx false,x,y)
  |_,_=>none
 |_=>none
def Qb (E:Env) (o:Op):Option Operand:=
 match o with
 | .call c=>match c.callee,c.args.toList,c.argTypes.toList with
  | .builtin .len,[x],t::_=>match E.cQ t with
   |some (.slice _)=>some x
   |_=>none
  |_,_,_=>none
 |_=>none
def anQ (E:Env) (h:aP) (v:aj):Option aj:=match v with
 | .atom n=>match (h.at n).obj with
  | .ga id=>E.gl.len id
  |_=>none
 |_=>none
def UM (E:Env) (o:Op) (k:oI):oI:=
 match k with
 | .pu f=>match J8 E o with
  |some (c,x,y)=>let s:=bP E x;let r:=bP E y; .pu fun a=>Option.casesOn (f a) (MO c (s.g a) (r.g a) E.facts) some
  |none=>match Qb E o with
   |some x=>let s:=bP E x; .rd fun a h=>Option.casesOn (f a) (anQ E h (s.g a)) some
   |none=> .pu f
 |k=>k
def pG (E:Env) (o:Op):oI:=match E.facts with
 | []=>lh E o
 |_::_=>UM E o (lh E o)
inductive Out where
 |normal|ret|exit (id:Nat)
 deriving Inhabited
inductive CR where
 |ok (o:Out) (tm:Tm) (h:aP)
 |fail
 deriving Inhabited
inductive VR where
 |ok (v:aj) (h:aP)
 |fail
 deriving Inhabited
structure CK where
 f:(FuncId->List aj->aP->VR)->Tm->aP->CR
def CK.bad:CK:=⟨fun _ _ _=> .fail⟩
def yg (nt:Nat) (d:Option Tmp):Option Cg:=
 match d with
 |none=>some ⟨fun _ a=>a⟩
 |some d=>cond (Nat.blt d nt) (some (zB d)) none
structure UN where
 f:Tm->Option Bool
def um (all:List Oper) (g:Option (Nat×Bool)):Option UN:=
 match g with
 |none=>none
 |some (j,b)=>match all[j]? with
  |some o=>match o.dst with
   |some d=>some ⟨fun a=>match gW d a with
    | .bool c=>some (J5 c b)
    | .fh _=>some false
    |_=>none⟩
   |none=>some ⟨fun _=>none⟩
  |none=>some ⟨fun _=>none⟩
def carry (k:oI) (cf:(FuncId->List aj->aP->VR)) (tm:Tm) (h:aP) (next:aj->aP->CR):CR:=
 match k with
 | .pu f=>Option.casesOn (f tm) .fail fun v=>next v h
 | .rd f=>Option.casesOn (f tm h) .fail fun v=>next v h
 | .nw f=>Option.casesOn (f tm) .fail fun p=>next (p.2.mk h.nx) (h.new p.1)
 | .wr f=>OR.casesOn (f tm h) next (fun g args=>VR.casesOn (cf g args h) next .fail) .fail
def UO (w:Option UN) (k:oI) (p:Cg) (a:CK):CK:=
 match w,k with
 |none,.pu f=>⟨fun cf d h=>Option.casesOn (f d) .fail fun v=>a.f cf (p.f v d) h⟩
 |none,.rd f=>⟨fun cf d h=>Option.casesOn (f d h) .fail fun v=>a.f cf (p.f v d) h⟩
 |none,k=>⟨fun cf d h=>carry k cf d h fun v h=>a.f cf (p.f v d) h⟩
 |some w,k=>⟨fun cf d h=>Option.casesOn (w.f d) .fail fun b=>
   cond b (carry k cf d h fun v h=>a.f cf (p.f v d) h) (a.f cf (p.f oG d) h)⟩
def AV (E:Env) (nt:Nat) (all:List Oper):List Oper->CK
 | []=>⟨fun _ b h=> .ok .normal b h⟩
 |o::a=>match yg nt o.dst with
  |some p=>UO (um all o.guard) (pG E o.op) p (AV E nt all a)
  |none=> .bad
def DW (e:Edge):Bool:=match e.ground with
 | .gcOnly _=>false
 | .textOnly _=>false
 |_=>true
def Hg (a:List Nat) (s:Nat) (e:Edge):Nat:=cond (DW e) (Nat.lor s (Nat.lor (Nat.pow 2 e.on) (a.getD e.on 0))) s
def Hh:List Oper->List Nat->List Nat
 | [],a=>a
 |o::l,a=>Hh l (a++ [o.after.toList.foldl (Hg a) 0])
def sX (l:List Oper):List Nat:=Hh l []
def ZL:Operand->Nat
 | .tmp t=>Nat.pow 2 t
 |_=>0
def zF:Option Tmp->Nat
 |some d=>Nat.pow 2 d
 |none=>0
def Cj (all:List Oper):Option (Nat×Bool)->Nat
 |some (j,_)=>match all[j]? with
  |some o=>zF o.dst
  |none=>0
 |none=>0
def zG:List Operand->Nat->Nat
 | [],s=>s
 |x::l,s=>zG l (Nat.lor s (ZL x))
structure RW where
 ix:Nat
 rd:Nat
 wr:Nat
def MP (a wr pre:Nat):List RW->Bool
 | []=>true
 |x::l=>cond (Nat.beq (Nat.lor (Nat.land x.wr (Nat.lor a wr)) (Nat.land wr x.rd)) 0) (MP a wr pre l) (Nat.testBit pre x.ix&&MP a wr pre l)
def Fy (all:List Oper):List Oper->List Nat->Nat->List RW->Bool
 | [],[],_,_=>true
 |o::l,b::d,i,a=>
  Nat.blt b (Nat.pow 2 i)&&(MP (zG o.op.operands.toList (Cj all o.guard)) (zF o.dst) b a&&
   Fy all l d (Nat.succ i) (⟨i,zG o.op.operands.toList (Cj all o.guard),zF o.dst⟩::a))
 |_,_,_,_=>false
structure UR where
 ix:Nat
 f:aP->Option aj
 v:aj
structure su where
 ix:Nat
 n:Pos
 ob:jG
structure DS where
 tm:Tm
 h:aP
 qE:List (Nat×aP)
 chain:Nat
 held:List UR
 dz:List su
def ZM (o:Option aj) (v:aj):Bool:=match o with
 |some u=>u.gL v
 |none=>false
def J9 (pre:Nat) (h:aP):List UR->Bool
 | []=>true
 |x::l=>cond (Nat.testBit pre x.ix) true (ZM (x.f h) x.v)&&J9 pre h l
def Qc (pre:Nat) (a:Pos) (f:aP->Option aj) (v:aj):List (Nat×aP)->Bool
 | []=>true
 |(c,h)::l=>cond (Nat.testBit pre c) true (ZM (f ⟨h.t,a,h.al,h.df⟩) v&&Qc pre a f v l)
def Pos.num:Pos->Nat:=fun p=>Pos.rec (motive:=fun _=>Nat) 1 (fun _ a=>Nat.mul 2 a) (fun _ a=>Nat.succ (Nat.mul 2 a)) p
def aP.lay (h:aP) (p:su):aP:=match (h.at p.n).obj with
 | .free=>⟨h.put p.n ⟨p.ob,p.n⟩,h.nx,h.al,h.df⟩
 |_=>h
def gy (pre:Nat):List su->aP->aP
 | [],h=>h
 |p::l,h=>cond (Nat.testBit pre p.ix) (gy pre l (h.lay p)) (gy pre l h)
def zH {R:Type} (pre:Nat) (k:aP->R):List su->aP->R
 | [],h=>k h
 |p::l,h=>cond (Nat.testBit pre p.ix) (zH pre k l (h.lay p)) (zH pre k l h)
structure DK where
 f:(FuncId->List aj->aP->VR)->DS->Option DS
def Qd (i pre:Nat) (k:oI) (p:Cg):(FuncId->List aj->aP->VR)->DS->Option DS:=match k with
 | .pu f=>fun _ s=>Option.casesOn (f s.tm) none fun v=>some ⟨p.f v s.tm,s.h,s.qE,s.chain,s.held,s.dz⟩
 | .nw f=>fun _ s=>Option.casesOn (f s.tm) none fun q=>
   some ⟨p.f (q.2.mk s.h.nx) s.tm,⟨s.h.t,s.h.nx.succ,s.h.al,s.h.df⟩,s.qE,s.chain,s.held,⟨i,s.h.nx,q.1⟩::s.dz⟩
 | .rd f=>fun _ s=>
   let g:aP->Option aj:=zH pre (f s.tm) s.dz
   Option.casesOn (g s.h) none fun v=>
    cond (Qc pre s.h.nx g v s.qE) (some ⟨p.f v s.tm,s.h,s.qE,s.chain,⟨i,g,v⟩::s.held,s.dz⟩) none
 | .wr f=>fun cf s=>cond (Nat.beq (Nat.land s.chain pre) s.chain)
   (zH pre (fun h=>
    let next:aj->aP->Option DS:=fun v a=>cond (J9 pre a s.held&&Nat.ble h.nx.num a.nx.num) (some ⟨p.f v s.tm,a,(i,s.h)::s.qE,Nat.lor s.chain (Nat.pow 2 i),s.held,s.dz⟩) none
    OR.casesOn (f s.tm h) next (fun g args=>VR.casesOn (cf g args h) next none) none) s.dz s.h) none
def MQ (i pre:Nat) (w:Option UN) (k:oI) (p:Cg):DK:=
 let go:=Qd i pre k p
 match w with
 |none=>⟨go⟩
 |some w=>⟨fun cf s=>Option.casesOn (w.f s.tm) none fun b=>cond b (go cf s) (some ⟨p.f oG s.tm,s.h,s.qE,s.chain,s.held,s.dz⟩)⟩
def DX (E:Env) (nt:Nat) (all:List Oper):List Oper->List Nat->Nat->DK
 |o::l,b::d,i=>match yg nt o.dst with
  |some p=>
   let a:=MQ i b (um all o.guard) (pG E o.op) p
   let r:=DX E nt all l d (i+1)
   ⟨fun cf s=>Option.casesOn (a.f cf s) none fun s=>r.f cf s⟩
  |none=>⟨fun _ _=>none⟩
 | [],[],_=>⟨fun _ s=>some s⟩
 |_,_,_=>⟨fun _ _=>none⟩
def Qe (E:Env) (nt:Nat) (all:List Oper):CK:=
 match Fy all all (sX all) 0 [] with
 |true=>
  let d:=DX E nt all all (sX all) 0
  let a:=Nat.sub (Nat.pow 2 all.length) 1
  ⟨fun cf b h=>Option.casesOn (d.f cf ⟨b,h,[],0,[],[]⟩) .fail fun s=>zH a (fun h=> .ok .normal s.tm h) s.dz s.h⟩
 |false=> .bad
def loopGo (a:CK) (cf:(FuncId->List aj->aP->VR)):Nat->Tm->aP->CR:=fun n=>Nat.rec (motive:=fun _=>Tm->aP->CR)
 (fun _ _=> .fail)
 (fun _ d b h=>CR.casesOn (a.f cf b h) (fun o b h=>Out.casesOn o (d b h) (.ok .ret b h) (fun id=> .ok (.exit id) b h)) .fail) n
def fY (E:Env) (nt:Nat):Code->CK
 | .skip=>⟨fun _ e h=> .ok .normal e h⟩
 | .label _=>⟨fun _ e h=> .ok .normal e h⟩
 | .ret=>⟨fun _ e h=> .ok .ret e h⟩
 | .exit id=>⟨fun _ e h=> .ok (.exit id) e h⟩
 | .seq a b=>
  let x:=fY E nt a
  let y:=fY E nt b
  ⟨fun cf e h=>CR.casesOn (x.f cf e h) (fun o e h=>Out.casesOn o (y.f cf e h) (.ok .ret e h) (fun id=> .ok (.exit id) e h)) .fail⟩
 | .cond c a b=>
  let s:=bP E c
  let x:=fY E nt a
  let y:=fY E nt b
  ⟨fun cf e h=>match s.g e with
   | .bool b=>cond b (x.f cf e h) (y.f cf e h)
   |_=> .fail⟩
 | .block id a=>
  let x:=fY E nt a
  ⟨fun cf e h=>CR.casesOn (x.f cf e h) (fun o e h=>Out.casesOn o (.ok .normal e h) (.ok .ret e h) (fun j=>cond (Nat.beq j id) (.ok .normal e h) (.ok (.exit j) e h))) .fail⟩
 | .loop a=>
  let x:=fY E nt a
  ⟨fun cf e h=>loopGo x cf 1000000 e h⟩
 | .scope a=>fY E nt a
 | .region _ k m=>match m with
  |true=>Qe E nt k.toList
  |false=>AV E nt k.toList k.toList
 | .rangeFunc f _ _ _=>
  let s:=bP E f
  ⟨fun cf e h=>match s.g e with
   | .func (.func f) first i=>
    let d:=h.nx
    let q:=h.new .uf
    let l:=q.nx
    let u:=q.new .J7
    match (Fx E f).f u (Cf first (.Ce l::i)) with
    | .call f args=>match cf f args u with
     | .ok _ z=>match (z.at l).obj with
      | .J7=>let p:=z.setObj l .other; .ok .normal e ⟨p.t,p.nx,p.al,d::p.df⟩
      |_=> .fail
     | .fail=> .fail
    |_=> .fail
   |_=> .fail⟩
 |_=> .bad
structure Hj where
 f:Tm->aP->Option (List aj)
def xg (E:Env):List ResultVar->Hj
 | []=>⟨fun _ _=>some []⟩
 | .tmp t::l=>let r:=xg E l;⟨fun b h=>Option.casesOn (r.f b h) none fun x=>some (gW t b::x)⟩
 | .cell a t::l=>let r:=xg E l;let k:=P8 E t;⟨fun b h=>Option.casesOn (k.f h (gW a b)) none fun v=>Option.casesOn (r.f b h) none fun x=>some (v::x)⟩
def Fz:List aj->aj
 | [v]=>v
 |l=> .fh l
def FA:List aj->Nat->Tm->Tm
 | [],_,a=>a
 |v::l,k,a=>FA l (Nat.succ k) ((zB k).f v a)
def Hk:List Pos->aP->Option aP
 | [],h=>some h
 |d::l,h=>match (h.at d).obj with
  | .uf=>Hk l (h.setObj d .other)
  |_=>none
structure anR where
 f:(FuncId->List aj->aP->VR)->List aj->aP->VR
def J' (E:Env) (f:FuncId):anR:=
 match E.fns.get none (pos f) with
 |some d=>
  match d.body with
  |some c=>
   let e:=d.ntmps
   let b:=fY E e c
   let r:=xg E d.results.toList
   ⟨fun cf args h=>cond (Nat.ble args.length e)
    (CR.casesOn (b.f cf (FA args 0 zA) ⟨h.t,h.nx,h.al,[]⟩)
     (fun o g a=>Out.casesOn o
      (Option.casesOn (Hk a.df a) .fail fun a=>Option.casesOn (r.f g a) .fail fun l=> .ok (Fz l) ⟨a.t,a.nx,a.al,h.df⟩)
      (Option.casesOn (Hk a.df a) .fail fun a=>Option.casesOn (r.f g a) .fail fun l=> .ok (Fz l) ⟨a.t,a.nx,a.al,h.df⟩)
      (fun _=> .fail)) .fail) .fail⟩
  |none=>⟨fun _ _ _=> .fail⟩
 |none=>⟨fun _ _ _=> .fail⟩
def zI (E:Env):Nat->(FuncId->List aj->aP->VR):=fun n=>Nat.rec (motive:=fun _=>(FuncId->List aj->aP->VR))
 (fun _ _ _=> .fail)
 (fun _ a f args h=>(J' E f).f a args h) n
def Env.sy (P:Program) (G:gb) (F:List Fact):Env:=
 {tys:= .ofList none (P.types.toList.map some),fns:= .ofList none (P.funcs.toList.map some),gl:=G,facts:=F,gt:=fun t=> !P.stoodInHeld t&& !P.eqGuardType P.depth t}
def Env.of (P:Program) (G:gb):Env:=Env.sy P G []
def sY (n:Nat):aP:= {t:= .leaf,nx:=pos n,al:= .leaf,df:= []}
end
end Go.Ev
