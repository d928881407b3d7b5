/- refineCopies_proved. -/
import Derived.OrdersHeld
import Derived.Lib.Bytealg
import Derived.Test.YthleenhngcdgkaaGreatDoorPmzz
set_option maxRecDepth 100000
set_option maxHeartbeats 16000000
set_option linter.all false
noncomputable section
namespace Go.Ev
section
inductive Pos where
 |one|o (p:Pos)|i (p:Pos)
 deriving DecidableEq,Inhabited
def Pos.succ:Pos->Pos
 | .one=> .o .one
 | .o p=> .i p
 | .i p=> .o p.succ
def Pos.gU:Pos->Pos->Bool:=fun p=>Pos.rec (motive:=fun _=>Pos->Bool)
 (fun q=>Pos.casesOn q true (fun _=>false) (fun _=>false))
 (fun _ a q=>Pos.casesOn q false (fun q=>a q) (fun _=>false))
 (fun _ a q=>Pos.casesOn q false (fun _=>false) (fun q=>a q)) p
def Pos.ofM:Nat->Nat->Pos:=fun f=>Nat.rec (motive:=fun _=>Nat->Pos)
 (fun _=> .one)
 (fun _ a m=>cond (Nat.ble m 1) .one (cond (Nat.beq (Nat.mod m 2) 0) (.o (a (Nat.div m 2))) (.i (a (Nat.div m 2))))) f
def pos (n:Nat):Pos:=Pos.ofM (Nat.succ n) (Nat.succ n)
inductive gz (α:Type) where
 |leaf
 |node (l:gz α) (v:α) (r:gz α)
 deriving Inhabited
namespace gz
variable {α:Type}
def get (d:α):Pos->gz α->α:=fun p=>Pos.rec (motive:=fun _=>gz α->α)
 (fun t=>gz.casesOn t d (fun _ v _=>v))
 (fun _ a t=>gz.casesOn t d (fun l _ _=>a l))
 (fun _ a t=>gz.casesOn t d (fun _ _ r=>a r)) p
def set (d:α) (x:α):Pos->gz α->gz α:=fun p=>Pos.rec (motive:=fun _=>gz α->gz α)
 (fun t=>gz.casesOn t (.node .leaf x .leaf) (fun l _ r=> .node l x r))
 (fun _ a t=>gz.casesOn t (.node (a .leaf) d .leaf) (fun l v r=> .node (a l) v r))
 (fun _ a t=>gz.casesOn t (.node .leaf d (a .leaf)) (fun l v r=> .node l v (a r))) p
def QQ (d:α):List α->Nat->gz α->gz α
 | [],_,t=>t
 |x::l,k,t=>QQ d l (k+1) (t.set d x (pos k))
def ofList (d:α) (l:List α):gz α:=QQ d l 0 .leaf
end gz
inductive Ez where
 |exact (c:Nat)
 |rest (d:Nat)
 deriving DecidableEq,Inhabited
inductive ai where
 |int (k:IntKind) (n:Int)
 |bool (b:Bool)
 |ptr (n:Pos) (off:Nat)
 |jm (n:Pos) (off len:Nat) (cap:Ez)
 |str (s:List UInt8)
 |agg (l:List ai)
 |fm (l:List ai)
 |wK
 |j7
 |vu
 |map (n:Pos)
 |func (fn:Fn) (first captured:List ai)
 |nilFunc
 |iface (t:TypeId) (v:ai)
 |nilIface
 |CT (n:Pos)
 |yK (v:Value)
 |sym (i:Nat)
 |atom (n:Pos)
 deriving Inhabited
mutual
def ai.ofValue:Value->ai
 | .bool b=> .bool b
 | .int k n=> .int k n
 | .string s=> .str s.data.toList
 | .pointer none=> .wK
 | .slice none 0 0=> .j7
 | .map none=> .vu
 | .nilFunc=> .nilFunc
 | .nilIface=> .nilIface
 | .agg ⟨cs⟩=> .agg (ai.ofValues cs)
 | .tuple ⟨cs⟩=> .fm (ai.ofValues cs)
 |v=> .yK v
def ai.ofValues:List Value->List ai
 | []=> []
 |v::l=>ai.ofValue v::ai.ofValues l
end
def ai.cells:ai->List ai
 | .agg l=>l
 |v=> [v]
def Ez.gU:Ez->Ez->Bool
 | .exact a,.exact b=>Nat.beq a b
 | .rest a,.rest b=>Nat.beq a b
 |_,_=>false
def aft:IntKind->Nat
 | .i8=>0| .i16=>1| .i32=>2| .i64=>3| .u8=>4| .u16=>5| .u32=>6| .u64=>7
def nM (a b:IntKind):Bool:=Nat.beq (aft a) (aft b)
def F7:Int->Int->Bool
 | .ofNat a,.ofNat b=>Nat.beq a b
 | .negSucc a,.negSucc b=>Nat.beq a b
 |_,_=>false
def K1:Bool->Bool->Bool
 |true,b=>b
 |false,b=>match b with|true=>false|false=>true
def EA:List UInt8->List UInt8->Bool:=fun x=>List.rec (motive:=fun _=>List UInt8->Bool)
 (fun y=>List.casesOn y true (fun _ _=>false))
 (fun a _ d y=>List.casesOn y false (fun b y=>cond (Nat.beq a.toNat b.toNat) (d y) false)) x
mutual
def ai.gU:ai->ai->Bool
 | .bool a,.bool b=>K1 a b
 | .int k a,.int j b=>nM k j&&F7 a b
 | .str a,.str b=>EA a b
 | .wK,.wK=>true
 | .ptr n a,.ptr m b=>n.gU m&&Nat.beq a b
 | .j7,.j7=>true
 | .jm n a b c,.jm m d e f=>n.gU m&&Nat.beq a d&&Nat.beq b e&&c.gU f
 | .vu,.vu=>true
 | .map n,.map m=>n.gU m
 | .nilFunc,.nilFunc=>true
 | .nilIface,.nilIface=>true
 | .agg x,.agg y=>ai.K2 x y
 | .fm x,.fm y=>ai.K2 x y
 | .sym a,.sym b=>Nat.beq a b
 | .atom n,.atom m=>n.gU m
 |_,_=>false
def ai.K2:List ai->List ai->Bool
 | [],[]=>true
 |a::x,b::y=>ai.gU a b&&ai.K2 x y
 |_,_=>false
end
structure ml where
 key:ai
 val:ai
 born:Nat
 deriving Inhabited
inductive jR where
 |free
 |cells (c:List ai) (elem:TypeId) (Aj:Nat)
 |map (es:List ml) (clock:Nat)
 |sit (s:List UInt8) (pos:Nat)
 |xV (m:Option Pos) (since:Nat) (seen:List Nat) (last:Nat)
 |K3
 |uC
 |other
 |gH (id:Nat)
 deriving Inhabited
structure Cell where
 obj:jR
 rt:Pos
 deriving Inhabited
def noCell:Cell:=⟨.free,.one⟩
structure aP where
 t:gz Cell
 nx:Pos
 al:gz (List Pos)
 df:List Pos
 deriving Inhabited
def aP.at (h:aP) (n:Pos):Cell:=h.t.get noCell n
def aP.put (h:aP) (n:Pos) (c:Cell):gz Cell:=h.t.set noCell c n
def nth:Nat->List ai->Option ai:=fun n=>Nat.rec (motive:=fun _=>List ai->Option ai)
 (fun l=>List.casesOn l none (fun x _=>some x))
 (fun _ a l=>List.casesOn l none (fun _ l=>a l)) n
def Vs:Nat->List ai->List ai:=fun n=>Nat.rec (motive:=fun _=>List ai->List ai)
 (fun l=>l)
 (fun _ a l=>List.casesOn l [] (fun _ l=>a l)) n
def Iu:Nat->List ai->Option (List ai):=fun n=>Nat.rec (motive:=fun _=>List ai->Option (List ai))
 (fun _=>some [])
 (fun _ a l=>List.casesOn l none (fun x l=>Option.casesOn (a l) none (fun r=>some (x::r)))) n
def Vt:List ai->List ai->Option (List ai):=fun b=>List.rec (motive:=fun _=>List ai->Option (List ai))
 (fun l=>some l)
 (fun v _ a l=>List.casesOn l none (fun _ l=>Option.casesOn (a l) none (fun r=>some (v::r)))) b
def Iv (vs:List ai):Nat->List ai->Option (List ai):=fun n=>Nat.rec (motive:=fun _=>List ai->Option (List ai))
 (fun l=>Vt vs l)
 (fun _ a l=>List.casesOn l none (fun x l=>Option.casesOn (a l) none (fun r=>some (x::r)))) n
def CU:List ai->List ai->List ai:=fun x=>List.rec (motive:=fun _=>List ai->List ai)
 (fun y=>y) (fun a _ b y=>a::b y) x
def cellsOf {R:Type} (o:jR) (a:R) (k:List ai->TypeId->Nat->R):R:=
 jR.casesOn o a k (fun _ _=>a) (fun _ _=>a) (fun _ _ _ _=>a) a a a (fun _=>a)
def aP.Vu (h:aP) (n:Pos) (off:Nat):Option ai:=cellsOf (h.at n).obj none fun c _ _=>nth off c
def aP.vw (h:aP) (n:Pos) (off k:Nat):Option (List ai):=cellsOf (h.at n).obj none fun c _ _=>Iu k (Vs off c)
def forget (off:Nat) (a:Pos):List Pos->gz Cell->gz Cell
 | [],t=>t
 |m::l,t=>
  cond (m.gU a) (forget off a l t)
   (
    let c:=t.get noCell m
    forget off a l (cellsOf c.obj t fun x e s=>t.set noCell ⟨.cells (x.take off) e s,c.rt⟩ m))
def Vv (v:ai):Bool:=match v with
 | .agg _=>false
 | .fm _=>false
 | .yK _=>false
 |_=>true
def NM:List ai->Bool:=fun l=>List.rec true (fun v _ a=>cond (Vv v) a false) l
def aP.store (h:aP) (n:Pos) (off:Nat) (vs:List ai):Option aP:=
 let c:=h.at n
 cellsOf c.obj none fun x e s=>
  Option.casesOn (cond (NM vs) (Iv vs off x) none) none fun y=>
   List.casesOn (h.al.get [] c.rt) (some ⟨h.put n ⟨.cells y e s,c.rt⟩,h.nx,h.al,h.df⟩)
    (fun m l=>some ⟨forget off n (m::l) (h.put n ⟨.cells y e s,c.rt⟩),h.nx,h.al,h.df⟩)
def aP.new (h:aP) (o:jR):aP:=⟨h.put h.nx ⟨o,h.nx⟩,h.nx.succ,h.al,h.df⟩
def aP.setObj (h:aP) (n:Pos) (o:jR):aP:=⟨h.put n ⟨o,(h.at n).rt⟩,h.nx,h.al,h.df⟩
def aP.again (h:aP) (n:Pos) (off:Nat) (y:List ai) (e:TypeId) (s:Nat):aP:=
 let r:=(h.at n).rt
 let l:=n::h.al.get [] r
 ⟨(forget off h.nx l h.t).set noCell ⟨.cells y e s,r⟩ h.nx,h.nx.succ,h.al.set [] (h.nx::l) r,h.df⟩
structure gI where
 g:Nat->Option (List Value)
 jt:Nat->World->Value->Prop
 len:Nat->Option ai
instance:Inhabited gI:=⟨⟨fun _=>none,fun _ _ _=>True,fun _=>none⟩⟩
inductive Ak where
 |bin (o:BinOp)|neg|conv (k:IntKind)|mx (b:Bool)
 deriving Inhabited
def afu:BinOp->Nat
 | .add=>0| .sub=>1| .mul=>2| .quo=>3| .rem=>4| .and=>5| .or=>6| .xor=>7| .shl=>8| .shr=>9| .andNot=>10
 | .eql=>11| .neq=>12| .lss=>13| .leq=>14| .gtr=>15| .geq=>16
def Ak.gU:Ak->Ak->Bool
 | .bin a,.bin b=>Nat.beq (afu a) (afu b)
 | .neg,.neg=>true
 | .conv k,.conv j=>nM k j
 | .mx a,.mx b=>K1 a b
 |_,_=>false
structure Fact where
 op:Ak
 a:ai
 b:ai
 r:ai
 deriving Inhabited
structure Env where
 tys:gz (Option TypeInfo)
 fns:gz (Option Func)
 gl:gI
 facts:List Fact
 gt:TypeId->Bool
 deriving Inhabited
def Env.ty (E:Env) (t:TypeId):Option TypeInfo:=E.tys.get none (pos t)
def Env.cU (E:Env) (t:TypeId):Option TypeDesc:=
 match E.ty t with
 |some i=>match i.desc with
  | .named _ u=>match E.ty u with
   |some j=>some j.desc
   |none=>none
  |d=>some d
 |none=>none
def Env.size (E:Env) (t:TypeId):Option Nat:=match E.ty t with|some i=>some i.size|none=>none
def Env.zero (E:Env) (t:TypeId):Option ai:=
 match E.ty t with
 |some i=>match i.zero with
  |some v=>some (ai.ofValue v)
  |none=>none
 |none=>none
def Env.F8 (E:Env) (t:TypeId):Option Bool:=
 match E.cU t with
 |some (.struct _)=>some true
 |some (.array _ _)=>some true
 |some _=>some false
 |none=>none
def oY:ai:= .fm []
structure Q0 where
 a:ai
 b:ai
 c:ai
 d:ai
structure Q1 where
 a:Q0
 b:Q0
 c:Q0
 d:Q0
structure Q2 where
 a:Q1
 b:Q1
 c:Q1
 d:Q1
structure Q3 where
 a:Q2
 b:Q2
 c:Q2
 d:Q2
structure Tm where
 q:Q3
 o:gz ai
structure G0 where
 f:Q0->ai
structure G1 where
 f:Q1->ai
structure G2 where
 f:Q2->ai
structure G3 where
 f:Q3->ai
def QR (n:Nat):G0:=cond (Nat.beq n 0) ⟨fun q=>q.a⟩ (cond (Nat.beq n 1) ⟨fun q=>q.b⟩ (cond (Nat.beq n 2) ⟨fun q=>q.c⟩ ⟨fun q=>q.d⟩))
def QS (k n:Nat):G1:=
 let g:=QR n
 cond (Nat.beq k 0) ⟨fun q=>g.f q.a⟩ (cond (Nat.beq k 1) ⟨fun q=>g.f q.b⟩ (cond (Nat.beq k 2) ⟨fun q=>g.f q.c⟩ ⟨fun q=>g.f q.d⟩))
def QT (k n:Nat):G2:=
 let g:=QS (Nat.div n 4) (Nat.mod n 4)
 cond (Nat.beq k 0) ⟨fun q=>g.f q.a⟩ (cond (Nat.beq k 1) ⟨fun q=>g.f q.b⟩ (cond (Nat.beq k 2) ⟨fun q=>g.f q.c⟩ ⟨fun q=>g.f q.d⟩))
def QU (k n:Nat):G3:=
 let g:=QT (Nat.div n 16) (Nat.mod n 16)
 cond (Nat.beq k 0) ⟨fun q=>g.f q.a⟩ (cond (Nat.beq k 1) ⟨fun q=>g.f q.b⟩ (cond (Nat.beq k 2) ⟨fun q=>g.f q.c⟩ ⟨fun q=>g.f q.d⟩))
structure P0 where
 f:Q0->ai->Q0
structure P1 where
 f:Q1->ai->Q1
structure P2 where
 f:Q2->ai->Q2
structure P3 where
 f:Q3->ai->Q3
def afv (n:Nat):P0:=
 cond (Nat.beq n 0) ⟨Q0.rec (motive:=fun _=>ai->Q0) fun _ b c d v=>⟨v,b,c,d⟩⟩
  (cond (Nat.beq n 1) ⟨Q0.rec (motive:=fun _=>ai->Q0) fun a _ c d v=>⟨a,v,c,d⟩⟩
   (cond (Nat.beq n 2) ⟨Q0.rec (motive:=fun _=>ai->Q0) fun a b _ d v=>⟨a,b,v,d⟩⟩ ⟨Q0.rec (motive:=fun _=>ai->Q0) fun a b c _ v=>⟨a,b,c,v⟩⟩))
def afw (k n:Nat):P1:=
 let p:=afv n
 cond (Nat.beq k 0) ⟨Q1.rec (motive:=fun _=>ai->Q1) fun a b c d v=>⟨p.f a v,b,c,d⟩⟩
  (cond (Nat.beq k 1) ⟨Q1.rec (motive:=fun _=>ai->Q1) fun a b c d v=>⟨a,p.f b v,c,d⟩⟩
   (cond (Nat.beq k 2) ⟨Q1.rec (motive:=fun _=>ai->Q1) fun a b c d v=>⟨a,b,p.f c v,d⟩⟩ ⟨Q1.rec (motive:=fun _=>ai->Q1) fun a b c d v=>⟨a,b,c,p.f d v⟩⟩))
def afx (k n:Nat):P2:=
 let p:=afw (Nat.div n 4) (Nat.mod n 4)
 cond (Nat.beq k 0) ⟨Q2.rec (motive:=fun _=>ai->Q2) fun a b c d v=>⟨p.f a v,b,c,d⟩⟩
  (cond (Nat.beq k 1) ⟨Q2.rec (motive:=fun _=>ai->Q2) fun a b c d v=>⟨a,p.f b v,c,d⟩⟩
   (cond (Nat.beq k 2) ⟨Q2.rec (motive:=fun _=>ai->Q2) fun a b c d v=>⟨a,b,p.f c v,d⟩⟩ ⟨Q2.rec (motive:=fun _=>ai->Q2) fun a b c d v=>⟨a,b,c,p.f d v⟩⟩))
def aak (k n:Nat):P3:=
 let p:=afx (Nat.div n 16) (Nat.mod n 16)
 cond (Nat.beq k 0) ⟨Q3.rec (motive:=fun _=>ai->Q3) fun a b c d v=>⟨p.f a v,b,c,d⟩⟩
  (cond (Nat.beq k 1) ⟨Q3.rec (motive:=fun _=>ai->Q3) fun a b c d v=>⟨a,p.f b v,c,d⟩⟩
   (cond (Nat.beq k 2) ⟨Q3.rec (motive:=fun _=>ai->Q3) fun a b c d v=>⟨a,b,p.f c v,d⟩⟩ ⟨Q3.rec (motive:=fun _=>ai->Q3) fun a b c d v=>⟨a,b,c,p.f d v⟩⟩))
def QV:Q0:=⟨oY,oY,oY,oY⟩
def QW:Q1:=⟨QV,QV,QV,QV⟩
def QX:Q2:=⟨QW,QW,QW,QW⟩
def Ao:Tm:=⟨⟨QX,QX,QX,QX⟩,.leaf⟩
structure aoy where
 f:Tm->ai
def Vw (t:Nat):aoy:=
 cond (Nat.blt t 256) (let g:=QU (Nat.div t 64) (Nat.mod t 64);⟨fun a=>g.f a.q⟩) (let p:=pos t;⟨fun a=>gz.get oY p a.o⟩)
def ig (t:Nat) (tm:Tm):ai:=(Vw t).f tm
structure CV where
 f:ai->Tm->Tm
def Ap (t:Nat):CV:=
 cond (Nat.blt t 256) (let g:=aak (Nat.div t 64) (Nat.mod t 64);⟨fun v=>Tm.rec fun q o=>⟨g.f q v,o⟩⟩) (let p:=pos t;⟨fun v=>Tm.rec fun q o=>⟨q,o.set oY v p⟩⟩)
structure QY where
 g:Tm->ai
def bR (a:Env):Operand->QY
 | .tmp t=>⟨(Vw t).f⟩
 | .const v=>let u:=ai.ofValue v;⟨fun _=>u⟩
 | .global g=>let u:ai:= .yK (.pointer (some ⟨g,0,none⟩));⟨fun _=>u⟩
 | .func f=>⟨fun _=> .func (.func f) [] []⟩
def sK:List QY->Tm->List ai
 | [],_=> []
 |s::l,a=>s.g a::sK l a
def tg (E:Env) (l:List Operand):List QY:=l.map (bR E)
def half:IntKind->Nat
 | .i8=>128| .u8=>256
 | .i16=>32768| .u16=>65536
 | .i32=>2147483648| .u32=>4294967296
 | .i64=>9223372036854775808| .u64=>18446744073709551616
def yL (k:IntKind) (n:Int):Int:=
 Int.casesOn n (fun m=>cond (Nat.blt m (half k)) (.ofNat m) (k.wrap (.ofNat m))) (fun m=>k.wrap (.negSucc m))
def CW:Int->Int->Bool
 | .ofNat a,.ofNat b=>Nat.blt a b
 | .negSucc _,.ofNat _=>true
 | .ofNat _,.negSucc _=>false
 | .negSucc a,.negSucc b=>Nat.blt b a
def afy:Int->Int->Int
 | .ofNat a,.ofNat b=> .ofNat (Nat.add a b)
 |x,y=>x+y
def QZ:Int->Int->Int
 | .ofNat a,.ofNat b=>cond (Nat.ble b a) (.ofNat (Nat.sub a b)) (.negSucc (Nat.sub (Nat.sub b a) 1))
 |x,y=>x-y
def aal:Int->Int->Int
 | .ofNat a,.ofNat b=> .ofNat (Nat.mul a b)
 |x,y=>x*y
def aam:Int->Int->Int
 | .ofNat a,.ofNat b=> .ofNat (Nat.div a b)
 |x,y=>x.tdiv y
def aan:Int->Int->Int
 | .ofNat a,.ofNat b=> .ofNat (Nat.mod a b)
 |x,y=>x.tmod y
def th {α:Type} (n:Nat) (k:Nat->α):α:=Nat.casesOn n (k 0) (fun m=>k (Nat.succ m))
def oZ (k:IntKind) (n:Int):Option ai:=
 Int.casesOn n (fun m=>Nat.casesOn m (some (.int k (.ofNat 0))) (fun m=>some (.int k (.ofNat (Nat.succ m)))))
  (fun m=>Nat.casesOn m (some (.int k (.negSucc 0))) (fun m=>some (.int k (.negSucc (Nat.succ m)))))
def aoz (x y:Int) (k:Nat->Nat->Option ai):Option ai:=
 Int.casesOn x (fun a=>Int.casesOn y (fun b=>k a b) (fun _=>none)) (fun _=>none)
structure dU where
 f:IntKind->Int->Int->Option ai
def F9 (f:Nat->Nat->Nat):dU:=⟨fun k x y=>aoz x y fun a b=>cond (Nat.blt a (half k)) (cond (Nat.blt b (half k)) (oZ k (.ofNat (f a b))) none) none⟩
def afz:dU:=⟨fun _ _ _=>none⟩
def vy:BinOp->dU
 | .add=>⟨fun k a b=>oZ k (yL k (afy a b))⟩
 | .sub=>⟨fun k a b=>oZ k (yL k (QZ a b))⟩
 | .mul=>⟨fun k a b=>oZ k (yL k (aal a b))⟩
 | .quo=>⟨fun k a b=>cond (F7 b 0) none (oZ k (yL k (aam a b)))⟩
 | .rem=>⟨fun k a b=>cond (F7 b 0) none (oZ k (aan a b))⟩
 | .and=>F9 Nat.land
 | .or=>F9 Nat.lor
 | .xor=>F9 Nat.xor
 | .andNot=>F9 fun a b=>Nat.xor a (Nat.land a b)
 | .eql=>⟨fun _ a b=>some (.bool (F7 a b))⟩
 | .neq=>⟨fun _ a b=>some (.bool (cond (F7 a b) false true))⟩
 | .lss=>⟨fun _ a b=>some (.bool (CW a b))⟩
 | .leq=>⟨fun _ a b=>some (.bool (cond (CW b a) false true))⟩
 | .gtr=>⟨fun _ a b=>some (.bool (CW b a))⟩
 | .geq=>⟨fun _ a b=>some (.bool (cond (CW a b) false true))⟩
 |_=>afz
def NP:BinOp->dU
 | .shl=>⟨fun k a b=>Int.casesOn b (fun b=>oZ k (yL k (aal a (.ofNat (Nat.pow 2 (Nat.min b k.bits)))))) (fun _=>none)⟩
 | .shr=>⟨fun k a b=>Int.casesOn b (fun b=>Int.casesOn a (fun a=>oZ k (.ofNat (Nat.div a (Nat.pow 2 (Nat.min b k.bits))))) (fun a=>oZ k ((Int.negSucc a).fdiv (.ofNat (Nat.pow 2 (Nat.min b k.bits)))))) (fun _=>none)⟩
 |_=>afz
def NQ:List UInt8->List UInt8->Bool:=fun x=>List.rec (motive:=fun _=>List UInt8->Bool)
 (fun y=>List.casesOn y false (fun _ _=>true))
 (fun a _ d y=>List.casesOn y false (fun b y=>cond (Nat.blt a.toNat b.toNat) true (cond (Nat.beq a.toNat b.toNat) (d y) false))) x
def Vx:List UInt8->List UInt8->List UInt8:=fun x=>List.rec (motive:=fun _=>List UInt8->List UInt8)
 (fun y=>y) (fun a _ b y=>a::b y) x
structure aoA where
 f:List UInt8->List UInt8->Option ai
def Vy:BinOp->aoA
 | .add=>⟨fun x y=>cond (Nat.blt (Nat.add x.length y.length) 4294967296) (some (.str (Vx x y))) none⟩
 | .eql=>⟨fun x y=>some (.bool (EA x y))⟩
 | .neq=>⟨fun x y=>some (.bool (cond (EA x y) false true))⟩
 | .lss=>⟨fun x y=>some (.bool (NQ x y))⟩
 | .leq=>⟨fun x y=>some (.bool (NQ x y||EA x y))⟩
 | .gtr=>⟨fun x y=>some (.bool (cond (NQ x y||EA x y) false true))⟩
 | .geq=>⟨fun x y=>some (.bool (cond (NQ x y) false true))⟩
 |_=>⟨fun _ _=>none⟩
def sameKey:ai->ai->Option Bool
 | .int k a,.int j b=>cond (nM k j) (some (F7 a b)) none
 | .bool a,.bool b=>some (K1 a b)
 |_,_=>none
def uH:ai->ai->Option Bool
 | .str a,.str b=>some (EA a b)
 |a,b=>sameKey a b
def tZ (E:Env):Nat->List Field->List ai->Bool
 |_,[],[]=>true
 |k,f::a,v::b=>(match E.cU f.type,v with
   |some (.int _),.int _ _=>true
   |some .string,.str _=>true
   |some .bool,.bool _=>true
   |_,_=>false)&&(Nat.beq f.offset k&& !(f.name== "_")&&tZ E (k+1) a b)
 |_,_,_=>false
def Bx:List ai->List ai->Option Bool
 | [],[]=>some true
 |a::x,b::y=>match uH a b with
  |some true=>Bx x y
  |some false=>some false
  |none=>none
 |_,_=>none
def Ga:ai->ai->Option Bool
 | .agg a,.agg b=>Bx a b
 |a,b=>uH a b
structure EqK where
 f:ai->ai->Option Bool
def Iw (E:Env) (t:TypeId) (d:Bool):EqK:=
 match E.cU t with
 |some .bool=>⟨fun x y=>match x,y with
  | .bool a,.bool b=>some (K1 a b)
  |_,_=>none⟩
 |some (.pointer e)=>
  let g:=(match E.size e with
   |some z=>Nat.blt 0 z
   |none=>false)
  ⟨fun x y=>match x,y with
  | .wK,.wK=>some true
  | .wK,.ptr _ _=>some false
  | .ptr _ _,.wK=>some false
  | .ptr n a,.ptr k b=>cond (g&&n.gU k) (some (Nat.beq a b)) none
  |_,_=>none⟩
 |some (.slice _)=>⟨fun x y=>match x,y with
  | .j7,.j7=>some true
  | .j7,.jm _ _ _ _=>some false
  | .jm _ _ _ _,.j7=>some false
  |_,_=>none⟩
 |some (.map _ _)=>⟨fun x y=>match x,y with
  | .vu,.vu=>some true
  | .vu,.map _=>some false
  | .map _,.vu=>some false
  |_,_=>none⟩
 |some (.func _ _ _)=>⟨fun x y=>match x,y with
  | .nilFunc,.nilFunc=>some true
  | .nilFunc,.func _ _ _=>some false
  | .func _ _ _,.nilFunc=>some false
  |_,_=>none⟩
 |some (.interface _)=>⟨fun x y=>match x,y with
  | .nilIface,.nilIface=>cond d (some true) none
  | .nilIface,.iface _ _=>some false
  | .iface _ _,.nilIface=>some false
  |_,_=>none⟩
 |some (.struct f)=>cond (E.gt t) ⟨fun x y=>match x,y with
  | .agg a,.agg b=>cond (tZ E 0 f.toList a&&tZ E 0 f.toList b) (Bx a b) none
  |_,_=>none⟩ ⟨fun _ _=>none⟩
 |_=>⟨fun _ _=>none⟩
def Aq:Operand->Bool
 | .const _=>true
 |_=>false
structure Bin where
 f:ai->ai->Option ai
def afA (E:Env) (op:BinOp) (t:TypeId) (d:Bool):Bin:=
 match op with
 | .shl=>let i:=NP .shl;⟨fun x y=>match x,y with
  | .int k a,.int _ b=>i.f k a b
  |_,_=>none⟩
 | .shr=>let i:=NP .shr;⟨fun x y=>match x,y with
  | .int k a,.int _ b=>i.f k a b
  |_,_=>none⟩
 | .eql=>match E.cU t with
  |some (.int _)=>let i:=vy .eql;⟨fun x y=>match x,y with
   | .int k a,.int j b=>cond (nM k j) (i.f k a b) none
   |_,_=>none⟩
  |some .string=>let s:=Vy .eql;⟨fun x y=>match x,y with
   | .str a,.str b=>s.f a b
   |_,_=>none⟩
  |_=>let e:=Iw E t d;⟨fun x y=>Option.casesOn (e.f x y) none fun b=>some (.bool b)⟩
 | .neq=>match E.cU t with
  |some (.int _)=>let i:=vy .neq;⟨fun x y=>match x,y with
   | .int k a,.int j b=>cond (nM k j) (i.f k a b) none
   |_,_=>none⟩
  |some .string=>let s:=Vy .neq;⟨fun x y=>match x,y with
   | .str a,.str b=>s.f a b
   |_,_=>none⟩
  |_=>let e:=Iw E t d;⟨fun x y=>Option.casesOn (e.f x y) none fun b=>some (.bool (cond b false true))⟩
 |op=>match E.cU t with
  |some .string=>let s:=Vy op;⟨fun x y=>match x,y with
   | .str a,.str b=>s.f a b
   |_,_=>none⟩
  |_=>let i:=vy op;⟨fun x y=>match x,y with
   | .int k a,.int j b=>cond (nM k j) (i.f k a b) none
   |_,_=>none⟩
def unA (a:UnOp) (x:ai):Option ai:=
 match a,x with
 | .not,.bool b=>some (.bool (cond b false true))
 | .neg,.int k n=>oZ k (yL k (QZ 0 n))
 | .xor,.int k (.ofNat n)=>match k with
  | .u8| .u16| .u32| .u64=>cond (Nat.blt n (half k)) (oZ k (.ofNat (Nat.sub (Nat.sub (half k) 1) n))) none
  |_=>none
 |_,_=>none
end
section
structure Q4 where
 f:ai->Option ai
structure aoB where
 f:List ai->Option ai
def VA (E:Env) (t:TypeId) (off:Nat):aoB:=
 match E.F8 t with
 |some true=>match E.size t with
  |some k=>⟨fun l=>Option.casesOn (Iu k (Vs off l)) none fun r=>some (.agg r)⟩
  |none=>⟨fun _=>none⟩
 |some false=>⟨fun l=>nth off l⟩
 |none=>⟨fun _=>none⟩
def Ar (a:Nat->Option (Nat×Nat)):List (Nat×QY)->Tm->List ai->Option (List ai)
 | [],_,l=>some l
 |(i,s)::b,e,l=>
  match a i with
  |none=>none
  |some (d,size)=>
   let v:=s.g e
   cond (Nat.beq v.cells.length size)
    (Option.casesOn (Iv v.cells d l) none fun l=>Ar a b e l) none
def placeOf (E:Env) (a:List Field) (i:Nat):Option (Nat×Nat):=
 match a[i]? with
 |some f=>match E.size f.type with
  |some s=>some (f.offset,s)
  |none=>none
 |none=>none
structure TmK where
 f:Tm->Option ai
def Gb (E:Env) (a:Array (Nat×Operand)):List (Nat×QY):=a.toList.map fun p=>(p.1,bR E p.2)
def NR (E:Env) (t:TypeId) (a:Array (Nat×Operand)):TmK:=
 match E.zero t,E.cU t with
 |some z,some (.struct h)=>
  let b:=Gb E a
  let g:=z.cells
  cond (h.toList.all fun f=>(E.size f.type).isSome)
   ⟨fun d=>Option.casesOn (Ar (placeOf E h.toList) b d g) none fun l=>some (.agg l)⟩ ⟨fun _=>none⟩
 |some z,some (.array _ e)=>match E.size e with
  |some s=>
   let b:=Gb E a
   let g:=z.cells
   ⟨fun d=>Option.casesOn (Ar (fun i=>some (Nat.mul i s,s)) b d g) none fun l=>some (.agg l)⟩
  |none=>⟨fun _=>none⟩
 |_,_=>⟨fun _=>none⟩
def CX (z:List ai):Nat->List ai:=fun n=>Nat.rec [] (fun _ a=>CU z a) n
def yM {R:Type} (v:ai) (a:R) (k:Nat->R):R:=match v with
 | .int _ (.ofNat n)=>k n
 |_=>a
def afB (E:Env) (t:TypeId):Bin:=
 match E.cU t with
 |some (.slice e)=>match E.size e with
  |some b=>⟨fun x ix=>yM ix none fun i=>match x with
   | .jm n a len _=>cond (Nat.blt i len) (th (Nat.add a (Nat.mul i b)) fun k=>some (.ptr n k)) none
   |_=>none⟩
  |none=>⟨fun _ _=>none⟩
 |some (.array len e)=>match E.size e with
  |some b=>⟨fun x ix=>yM ix none fun i=>match x with
   | .ptr n a=>cond (Nat.blt i len) (th (Nat.add a (Nat.mul i b)) fun k=>some (.ptr n k)) none
   | .yK (.pointer (some ⟨g,a,none⟩))=>cond (Nat.blt i len) (th (Nat.add a (Nat.mul i b)) fun k=>some (.yK (.pointer (some ⟨g,k,none⟩)))) none
   |_=>none⟩
  |none=>⟨fun _ _=>none⟩
 |_=>⟨fun _ _=>none⟩
def afC:Nat->List UInt8->Option UInt8:=fun n=>Nat.rec (motive:=fun _=>List UInt8->Option UInt8)
 (fun l=>List.casesOn l none (fun x _=>some x))
 (fun _ a l=>List.casesOn l none (fun _ l=>a l)) n
def afD (E:Env) (t:TypeId):Bin:=
 match E.cU t with
 |some .string=>⟨fun x ix=>yM ix none fun i=>match x with
  | .str s=>Option.casesOn (afC i s) none fun b=>th b.toNat fun k=>some (.int .u8 (.ofNat k))
  |_=>none⟩
 |some (.array len e)=>match E.size e with
  |some a=>⟨fun x ix=>yM ix none fun i=>match x with
   | .agg l=>cond (Nat.blt i len) ((VA E e (Nat.mul i a)).f l) none
   |_=>none⟩
  |none=>⟨fun _ _=>none⟩
 |_=>⟨fun _ _=>none⟩
def afE (E:Env) (t:TypeId) (f:Nat):Q4:=
 match E.cU t with
 |some (.struct e)=>match e.toList[f]? with
  |some b=>match E.size b.type with
   |some (_+1)=>let d:=b.offset;⟨fun x=>match x with
    | .ptr n a=>th (Nat.add a d) fun k=>some (.ptr n k)
    |_=>none⟩
   |_=>⟨fun _=>none⟩
  |none=>⟨fun _=>none⟩
 |_=>⟨fun _=>none⟩
def afF (E:Env) (t:TypeId) (f:Nat):Q4:=
 match E.cU t with
 |some (.struct b)=>match b.toList[f]? with
  |some a=>let p:=VA E a.type a.offset;⟨fun x=>match x with
   | .agg l=>p.f l
   |_=>none⟩
  |none=>⟨fun _=>none⟩
 |_=>⟨fun _=>none⟩
def aoC (v:ai):Option ai:=match v with
 | .ptr n o=>some (.ptr n o)
 | .func (.func f) x y=>some (.func (.func f) x y)
 | .iface t v=>some (.iface t v)
 | .jm n a b c=>some (.jm n a b c)
 |_=>none
def afG (E:Env) (t:TypeId):Q4:=
 match E.cU t with
 |some (.interface _)=>⟨fun _=>none⟩
 |some _=>⟨fun x=>some (.iface t x)⟩
 |none=>⟨fun _=>none⟩
def afH (E:Env) (t:TypeId) (ok:Bool):Q4:=
 match E.cU t with
 |some (.interface _)=>⟨fun _=>none⟩
 |some _=>match E.zero t with
  |some z=>⟨fun x=>match x with
   | .iface u v=>cond (Nat.beq u t) (some (cond ok (.fm [v,.bool true]) v)) (cond ok (some (.fm [z,.bool false])) none)
   |_=>none⟩
  |none=>⟨fun _=>none⟩
 |none=>⟨fun _=>none⟩
def EC (d:Bool):List ai->ai->Option ai
 | [],x=>some x
 |y::l,x=>match x,y with
  | .int k a,.int _ b=>EC d l (.int k (cond d (cond (CW a b) b a) (cond (CW b a) b a)))
  |_,_=>none
def yN (E:Env) (t:TypeId):EqK:=
 match E.cU t with
 |some (.int _)=>⟨fun k _=>match k with| .int _ _=>some true|_=>none⟩
 |some .string=>⟨fun k _=>match k with| .str _=>some true|_=>none⟩
 |some .bool=>⟨fun k _=>match k with| .bool _=>some true|_=>none⟩
 |some (.struct a)=>cond (E.gt t) ⟨fun k _=>match k with
  | .agg l=>cond (tZ E 0 a.toList l) (some true) none
  |_=>none⟩ ⟨fun _ _=>none⟩
 |_=>⟨fun _ _=>none⟩
def yO (k:ai):List ml->Nat->Option (Option (Nat×ai))
 | [],_=>some none
 |e::a,i=>match Ga k e.key with
  |some true=>some (some (i,e.val))
  |some false=>yO k a (i+1)
  |none=>none
def entries (h:aP) (v:ai):Option (List ml):=match v with
 | .vu=>some []
 | .map n=>match (h.at n).obj with
  | .map a _=>some a
  |_=>none
 |_=>none
structure aoD where
 f:aP->ai->ai->Option ai
def aao (E:Env) (t:TypeId) (ok:Bool):aoD:=
 match E.cU t with
 |some (.map d b)=>match E.zero b with
  |some z=>
   let q:=yN E d
   ⟨fun h x k=>Option.casesOn (q.f k k) none fun _=>
    Option.casesOn (entries h x) none fun a=>
     Option.casesOn (yO k a 0) none fun r=>
      Option.casesOn r (some (cond ok (.fm [z,.bool false]) z)) fun p=>some (cond ok (.fm [p.2,.bool true]) p.2)⟩
  |none=>⟨fun _ _ _=>none⟩
 |_=>⟨fun _ _ _=>none⟩
structure aoE where
 f:aP->ai->Option ai
def afI:Nat->List Value->Option Value:=fun n=>Nat.rec (motive:=fun _=>List Value->Option Value)
 (fun l=>List.casesOn l none (fun x _=>some x))
 (fun _ a l=>List.casesOn l none (fun _ l=>a l)) n
def Q5 (E:Env) (t:TypeId):aoE:=
 match E.F8 t with
 |some true=>match E.size t with
  |some k=>⟨fun h x=>match x with
   | .ptr n a=>Option.casesOn (h.vw n a k) none fun l=>some (.agg l)
   |_=>none⟩
  |none=>⟨fun _ _=>none⟩
 |some false=>⟨fun h x=>match x with
  | .ptr n a=>h.Vu n a
  | .yK (.pointer (some ⟨g,a,none⟩))=>Option.casesOn (E.gl.g g) none fun l=>Option.casesOn (afI a l) none fun v=>some (ai.ofValue v)
  |_=>none⟩
 |none=>⟨fun _ _=>none⟩
def bytesOf:List ai->Option (List UInt8)
 | []=>some []
 |v::l=>match v with
  | .int .u8 (.ofNat n)=>Option.casesOn (bytesOf l) none fun r=>th n fun n=>some (UInt8.ofNat n::r)
  |_=>none
def vz (E:Env):Option Operand->Tm->Option ai
 |none,_=>none
 |some x,a=>some ((bR E x).g a)
def Gc {R:Type} (d:Nat) (v:Option ai) (a:R) (k:Nat->R):R:=match v with
 |none=>k d
 |some v=>yM v a k
structure aoF where
 f:aP->ai->Option ai->Option ai->Option ai->Option ai
def VB {R:Type} (v:Option ai) (a:R) (k:R):R:=match v with
 |none=>k
 |some _=>a
def aap {R:Type} (v:Option ai) (a:R) (k:R) (m:Nat->R):R:=match v with
 |none=>k
 |some v=>yM v a m
def NS {R:Type} (c:Ez) (k:Nat->R) (m:Nat->R):R:=match c with
 | .exact c=>k c
 | .rest d=>m d
def afJ (a:Nat) (h:aP) (n:Pos) (off len:Nat) (cap:Ez) (lo hi b:Option ai):Option ai:=
 Gc 0 lo none fun l=>Gc len hi none fun r=>
 NS cap
  (fun c=>aap b none
   (cond (Nat.ble l r&&Nat.ble r c) (some (.jm n (cond (Nat.beq c l) off (Nat.add off (Nat.mul l a))) (Nat.sub r l) (.exact (Nat.sub c l)))) none)
   (fun m=>cond (Nat.ble l r&&(Nat.ble r m&&Nat.ble m c)) (some (.jm n (cond (Nat.beq m l) off (Nat.add off (Nat.mul l a))) (Nat.sub r l) (.exact (Nat.sub m l)))) none))
  (fun d=>cellsOf (h.at n).obj none fun x _ e=>
   cond (Nat.beq e a&&(Nat.blt 0 a&&Nat.ble l r))
    (aap b none
     (cond (Nat.ble (Nat.mul (Nat.add r d) a) x.length&&(Nat.beq l 0||Nat.blt (Nat.mul (Nat.add l d) a) x.length))
      (some (.jm n (Nat.add off (Nat.mul l a)) (Nat.sub r l) (.rest (Nat.add d l)))) none)
     (fun m=>cond (Nat.ble r m&&Nat.ble (Nat.mul (Nat.add m d) a) x.length)
      (some (.jm n (cond (Nat.beq m l) off (Nat.add off (Nat.mul l a))) (Nat.sub r l) (.exact (Nat.sub m l)))) none)) none)
def aaq (E:Env) (t:TypeId):aoF:=
 match E.cU t with
 |some .string=>⟨fun _ x d b f=>match x with
  | .str s=>VB f none (Gc 0 d none fun l=>Gc s.length b none fun r=>
    cond (Nat.ble l r&&Nat.ble r s.length) (some (.str ((s.drop l).take (Nat.sub r l)))) none)
  |_=>none⟩
 |some (.slice e)=>match E.size e with
  |some g=>⟨fun h x d b f=>match x with
   | .j7=>VB f none (Gc 0 d none fun l=>Gc 0 b none fun r=>cond (Nat.beq r 0&&Nat.beq l 0) (some .j7) none)
   | .jm n a len cap=>afJ g h n a len cap d b f
   |_=>none⟩
  |none=>⟨fun _ _ _ _ _=>none⟩
 |some (.array len e)=>match E.size e with
  |some g=>⟨fun _ x d b f=>match x with
   | .ptr n a=>VB f none (Gc 0 d none fun l=>Gc len b none fun r=>
     cond (Nat.ble l r&&Nat.ble r len) (some (.jm n (cond (Nat.beq len l) a (Nat.add a (Nat.mul l g))) (Nat.sub r l) (.exact (Nat.sub len l)))) none)
   |_=>none⟩
  |none=>⟨fun _ _ _ _ _=>none⟩
 |_=>⟨fun _ _ _ _ _=>none⟩
inductive Mk where
 |ptr|jm (len cap:Nat)|map
def Mk.mk:Mk->Pos->ai
 | .ptr,n=> .ptr n 0
 | .jm l c,n=> .jm n 0 l (.exact c)
 | .map,n=> .map n
def BA (E:Env) (e:TypeId) (n:Nat):Option (List ai):=
 match E.ty e with
 |some i=>match i.zero with
  |some v=>let z:=(ai.ofValue v).cells;cond (Nat.beq z.length i.size) (some (CX z n)) none
  |none=>none
 |none=>none
inductive OR where
 |ok (v:ai) (h:aP)
 |call (f:FuncId) (args:List ai)
 |fail
 deriving Inhabited
def okU (o:Option aP):OR:=Option.casesOn o .fail fun h=> .ok oY h
def VC {R:Type} (x:ai) (a:R) (k:Nat->R):R:=match x with
 | .j7=>k 0
 | .jm _ _ n _=>k n
 | .str s=>th s.length k
 |_=>a
def uI:List UInt8->List ai
 | []=> []
 |b::l=>th b.toNat fun k=> .int .u8 (.ofNat k)::uI l
def Q6 (h:aP) (size n:Nat) (x:ai):Option (List ai):=match x with
 | .j7=>some []
 | .jm m a _ _=>h.vw m a (Nat.mul n size)
 | .str s=>cond (Nat.beq size 1) (some (uI (s.take n))) none
 |_=>none
structure aoG where
 f:aP->ai->ai->OR
def roomy (a n:Nat):Bool:=Nat.ble (Nat.mul (Nat.add (Nat.mul 8 n) 4096) a) 281474976710656&&(Nat.ble n 281474976710656&&Nat.blt 0 a)
def aar (e:TypeId) (size a:Nat) (h:aP) (s:ai) (n:Nat) (new:List ai):OR:=
 match s with
 | .j7=>cond (Nat.beq n 0) (.ok .j7 h)
   (cond (roomy a n) (.ok (.jm h.nx 0 n (.rest 0)) (h.new (.cells new e size))) .fail)
 | .jm m b len cap=>
  th (Nat.add len n) fun g=>
  NS cap
   (fun c=>cond (Nat.ble g c)
    (Option.casesOn (h.store m (Nat.add b (Nat.mul len size)) new) .fail fun h=> .ok (.jm m b g (.exact c)) h)
    (cond (roomy a g)
     (Option.casesOn (h.vw m b (Nat.mul len size)) .fail fun f=> .ok (.jm h.nx 0 g (.rest 0)) (h.new (.cells (CU f new) e size))) .fail))
   (fun d=>cond (Nat.beq d 0&&Nat.beq b 0)
    (cellsOf (h.at m).obj .fail fun x i j=>cond (Nat.beq i e&&(Nat.beq j size&&Nat.blt 0 size))
     (Option.casesOn (Iu (Nat.mul len size) x) .fail fun f=>
      cond (Nat.beq n 0) (.ok (.jm m 0 len (.rest 0)) h)
       (cond (roomy a g&&NM new)
        (.ok (.jm h.nx 0 g (.rest 0)) (h.again m (Nat.mul len size) (CU f new) e size)) .fail)) .fail) .fail)
 |_=> .fail
def aas (E:Env) (d:List TypeId):aoG:=
 match d with
 | [b,f]=>
  match E.cU b,E.cU f with
  |some (.slice _),some (.int _)=>⟨fun _ _ _=> .fail⟩
  |some (.slice e),some _=>
   match E.ty e,BA E e 0 with
   |some i,some _=>
    let size:=i.size
    let a:=i.bytes
    ⟨fun h s x=>VC x .fail fun n=>Option.casesOn (Q6 h size n x) .fail fun new=>aar e size a h s n new⟩
   |_,_=>⟨fun _ _ _=> .fail⟩
  |_,_=>⟨fun _ _ _=> .fail⟩
 |_=>⟨fun _ _ _=> .fail⟩
def yP (v:ai) (k:ai):Nat->List ml->List ml
 |_,[]=> []
 |0,e::a=> {e with key:=k,val:=v} ::a
 |n+1,e::a=>e::yP v k n a
structure aoH where
 f:aP->ai->ai->ai->OR
def VD (E:Env) (t:TypeId):aoH:=
 match E.cU t with
 |some (.map d _)=>
  let q:=yN E d
  ⟨fun h m k v=>match m with
   | .map n=>Option.casesOn (q.f k k) .fail fun _=>match (h.at n).obj with
    | .map b a=>Option.casesOn (yO k b 0) .fail fun r=>
      Option.casesOn r (.ok oY (h.setObj n (.map (b++ [⟨k,v,a⟩]) (a+1)))) fun p=> .ok oY (h.setObj n (.map (yP v k p.1 b) a))
    |_=> .fail
   |_=> .fail⟩
 |_=>⟨fun _ _ _ _=> .fail⟩
def VE (E:Env) (t:TypeId) (name:String):Option FuncId:=
 match E.ty t,E.cU t with
 |some i,some d=>match i.methods.toList.find? (fun m=>m.name==name) with
  |some m=>match m.path.toList,m.func,d with
   | [],some (f,true),.pointer _=>some f
   | [],some (_,false),.pointer _=>none
   | [],some (f,false),_=>some f
   |_,_,_=>none
  |none=>none
 |_,_=>none
def aat (name a:String) (args:List ai):Option ai:=
 cond (name== "internal/bytealg.IndexByteString" &&a== "")
 (match args with
 | [.str s,.int .u8 (.ofNat c)]=>oZ .i64 (Lib.indexByte s (Nat.toUInt8 c))
 |_=>none)
 (cond (name== "internal/abi.NoEscape" &&a== "")
 (match args with
 | [.ptr n b]=>some (.ptr n b)
 |_=>none) none)
structure FnK where
 f:aP->List ai->OR
def Gd (E:Env) (f:FuncId):FnK:=
 match E.fns.get none (pos f) with
 |some a=>match a.body with
  |some _=>cond (a.name== "runtime.NumGoroutine") ⟨fun _ _=> .fail⟩ ⟨fun _ args=> .call f args⟩
  |none=>let nm:=a.name;let b:=a.origin;⟨fun h args=>Option.casesOn (aat nm b args) .fail fun v=> .ok v h⟩
 |none=>⟨fun _ _=> .fail⟩
inductive o7 where
 |pu (f:Tm->Option ai)
 |rd (f:Tm->aP->Option ai)
 |nw (f:Tm->Option (jR×Mk))
 |wr (f:Tm->aP->OR)
def o7.bad:o7:= .pu fun _=>none
def xX (E:Env) (f:ai->Option ai) (x:Operand):o7:=let s:=bR E x; .pu fun a=>f (s.g a)
def Q7 (E:Env) (f:ai->ai->Option ai) (x y:Operand):o7:=let s:=bR E x;let r:=bR E y; .pu fun a=>f (s.g a) (r.g a)
def NT (E:Env) (s d:TypeId) (x:Operand):o7:=
 match E.cU s,E.cU d with
 |some (.slice e),some .string=>match E.cU e with
  |some (.int .u8)=>let s:=bR E x; .rd fun b h=>match s.g b with
   | .j7=>some (.str [])
   | .jm n a len _=>Option.casesOn (h.vw n a len) none fun l=>Option.casesOn (bytesOf l) none fun s=>some (.str s)
   |_=>none
  |_=> .bad
 |some .string,some (.slice e)=>match E.cU e with
  |some (.int .u8)=>let s:=bR E x; .wr fun b h=>match s.g b with
   | .str l=>th l.length fun n=> .ok (.jm h.nx 0 n (.rest 0)) (h.new (.cells (uI l) e 1))
   |_=> .fail
  |_=> .bad
 |some _,some (.int k)=>xX E (fun v=>match v with
  | .int _ n=>oZ k (yL k n)
  |_=>none) x
 |_,_=> .bad
def VF (E:Env) (b:Builtin) (args:List Operand) (e:List TypeId):o7:=
 match b,args with
 | .len,[x]=>match e with
  |t::_=>match E.cU t with
   |some .string=>xX E (fun v=>match v with
    | .str s=>th s.length fun k=>some (.int .i64 (.ofNat k))
    |_=>none) x
   |some (.slice _)=>xX E (fun v=>match v with
    | .j7=>some (.int .i64 (.ofNat 0))
    | .jm _ _ n _=>some (.int .i64 (.ofNat n))
    |_=>none) x
   |some (.map _ _)=>let s:=bR E x; .rd fun a h=>Option.casesOn (entries h (s.g a)) none fun i=>th i.length fun k=>some (.int .i64 (.ofNat k))
   |_=> .bad
  |_=> .bad
 | .max,x::l=>let s:=bR E x;let d:=tg E l; .pu fun a=>EC true (sK d a) (s.g a)
 | .min,x::l=>let s:=bR E x;let d:=tg E l; .pu fun a=>EC false (sK d a) (s.g a)
 | .append,[x,y]=>let s:=bR E x;let r:=bR E y;let k:=aas E e; .wr fun a h=>k.f h (s.g a) (r.g a)
 |_,_=> .bad
def Q8 (E:Env) (c:Call):o7:=
 match c.callee with
 | .value (.func f)=>
  let e:=tg E c.args.toList
  let k:=Gd E f
  .wr fun d h=>k.f h (sK e d)
 | .value x=>
  let s:=bR E x
  let e:=tg E c.args.toList
  .wr fun d h=>match s.g d with
   | .func (.func f) first a=>(Gd E f).f h (CU first (CU (sK e d) a))
   |_=> .fail
 | .invoke r name=>
  let s:=bR E r
  let e:=tg E c.args.toList
  .wr fun d h=>match s.g d with
   | .iface t v=>Option.casesOn (VE E t name) .fail fun f=>(Gd E f).f h (v::sK e d)
   |_=> .fail
 | .builtin b=>VF E b c.args.toList c.argTypes.toList
def NU (b:Nat):List Nat->Bool:=fun l=>List.rec false (fun x _ a=>cond (Nat.beq b x) true a) l
def yQ (a:List Nat):List ml->List ml:=fun l=>List.rec (motive:=fun _=>List ml) [] (fun e _ b=>cond (NU e.born a) b (e::b)) l
def VG (b:Nat) (a:List Nat) (d:Nat) (f:List ml):Bool:=
 cond (List.rec (motive:=fun _=>Bool) true (fun e _ g=>cond (Nat.blt e.born b) g false) (yQ a f))
  (List.casesOn a true fun _ _=>List.casesOn f true fun _ _=>List.rec (motive:=fun _=>Bool) false (fun e _ g=>cond (Nat.blt e.born d) true g) f) false
def VH:List Nat->Option Nat:=fun l=>List.rec (motive:=fun _=>Option Nat) none (fun x l a=>List.casesOn l (some x) (fun _ _=>a)) l
def Ix (b:Nat):List ml->Option ml:=fun l=>List.rec (motive:=fun _=>Option ml) none (fun e _ a=>cond (Nat.beq e.born b) (some e) a) l
def aau (h:aP) (v:ai):Option ai:=match v with
 | .ptr n 0=>match (h.at n).obj with
  | .xV (some m) _ d a=>match (h.at m).obj with
   | .map g f=>cond (Nat.beq f a) (Option.casesOn (VH d) none fun b=>Option.casesOn (Ix b g) none fun e=>some (.fm [e.key,e.val])) none
   |_=>none
  |_=>none
 |_=>none
def lO (E:Env) (o:Op):o7:=
 match o with
 | .move x=>let s:=bR E x; .pu fun j=>some (s.g j)
 | .assign x=>let s:=bR E x; .pu fun j=>some (s.g j)
 | .pick c a b=>let s:=bR E c;let x:=bR E a;let y:=bR E b; .pu fun j=>match s.g j with
  | .bool c=>cond c (some (x.g j)) (some (y.g j))
  |_=>none
 | .build t p=>let k:=NR E t p; .pu k.f
 | .nilCheck x=>xX E aoC x
 | .unOp H _ x=>xX E (unA H) x
 | .binOp H t x y _=>let k:=afA E H t (Aq x||Aq y);Q7 E k.f x y
 | .convert s d x=>NT E s d x
 | .makeInterface t x=>let k:=afG E t;xX E k.f x
 | .makeFunc (.func f) a b=>let x:=tg E a.toList;let y:=tg E b.toList; .pu fun j=>some (.func (.func f) (sK x j) (sK y j))
 | .fieldAddr t x f=>let k:=afE E t f;xX E k.f x
 | .field t x f=>let k:=afF E t f;xX E k.f x
 | .indexAddr t x i=>let k:=afB E t;Q7 E k.f x i
 | .index t x i=>let k:=afD E t;Q7 E k.f x i
 | .typeAssert x _ t ok=>let k:=afH E t ok;xX E k.f x
 | .extract t i=>let s:=bR E t; .pu fun j=>match s.g j with
  | .fm l=>nth i l
  |_=>none
 | .load t x=>let k:=Q5 E t;let s:=bR E x; .rd fun j h=>k.f h (s.g j)
 | .lookup t x i ok=>let k:=aao E t ok;let s:=bR E x;let r:=bR E i; .rd fun j h=>k.f h (s.g j) (r.g j)
 | .slice t x N J M=>cond (M.isNone||J.isSome) (let k:=aaq E t;let s:=bR E x; .rd fun j h=>k.f h (s.g j) (vz E N j) (vz E J j) (vz E M j)) .bad
 | .alloc e=>match E.zero e with
  |some z=>let O:=jR.cells z.cells e z.cells.length; .nw fun _=>some (O,.ptr)
  |none=> .bad
 | .box e x=>let s:=bR E x; .nw fun j=>let c:=(s.g j).cells;some (.cells c e c.length,.ptr)
 | .buildSlice t len p=>match E.cU t with
  |some (.slice e)=>match E.size e,BA E e len with
   |some s,some z=>
    let P:=Gb E p
    cond (Nat.ble (Nat.mul len s) 16777216)
     (.nw fun j=>Option.casesOn (Ar (fun i=>some (Nat.mul i s,s)) P j z) none fun l=>some (.cells l e s,.jm len len)) .bad
   |_,_=> .bad
  |_=> .bad
 | .makeMap _ none=> .nw fun _=>some (.map [] 0,.map)
 | .makeSlice t l c=>match E.cU t with
  |some (.slice e)=>match E.ty e with
   |some i=>
    let sl:=bR E l
    let Q:=bR E c
    let B:=i.bytes
    let size:=i.size
    .nw fun j=>yM (sl.g j) none fun l=>yM (Q.g j) none fun c=>
     cond (Nat.ble l c&&(Nat.ble (Nat.mul c B) 1099511627776&&Nat.ble c 1099511627776))
      (Option.casesOn (BA E e c) none fun z=>some (.cells z e size,.jm l c)) none
   |none=> .bad
  |_=> .bad
 | .store t a x=>match E.size t with
  |some k=>let s:=bR E a;let r:=bR E x; .wr fun j h=>match s.g j with
   | .ptr n G=>let v:=r.g j;cond (Nat.beq v.cells.length k) (okU (h.store n G v.cells)) .fail
   |_=> .fail
  |none=> .bad
 | .mapUpdate t m k v=>let u:=VD E t;let a:=bR E m;let b:=bR E k;let c:=bR E v; .wr fun j h=>u.f h (a.g j) (b.g j) (c.g j)
 | .insert t m k v=>let u:=VD E t;let a:=bR E m;let b:=bR E k;let c:=bR E v; .wr fun j h=>u.f h (a.g j) (b.g j) (c.g j)
 | .call c=>Q8 E c
 | .range t x=>match E.cU t with
  |some (.map _ _)=>let s:=bR E x; .wr fun j h=>match s.g j with
   | .vu=> .ok (.ptr h.nx 0) (h.new (.xV none 0 [] 0))
   | .map n=>match (h.at n).obj with
    | .map _ D=> .ok (.ptr h.nx 0) (h.new (.xV (some n) D [] D))
    |_=> .fail
   |_=> .fail
  |_=> .bad
 | .next F false=>let s:=bR E F; .wr fun j h=>match s.g j with
   | .ptr n 0=>match (h.at n).obj with
    | .xV none _ _ _=> .ok (.fm [.bool false]) h
    | .xV (some m) A q C=>match (h.at m).obj with
     | .map I D=>cond (VG A q C I) (match yQ q I with
      | []=> .ok (.fm [.bool false]) h
      | [e]=> .ok (.fm [.bool true,e.key,e.val]) (h.setObj n (.xV (some m) A (q++ [e.born]) D))
      |_=> .fail) .fail
     |_=> .fail
    |_=> .fail
   |_=> .fail
 | .entry F=>let s:=bR E F; .rd fun j h=>aau h (s.g j)
 |_=> .bad
def NV (c:Ak) (a b:ai):List Fact->Option ai:=fun l=>List.rec none
 (fun F _ d=>cond (F.op.gU c) (cond (F.a.gU a) (cond (F.b.gU b) (some F.r) d) d) d) l
def K4 (E:Env) (o:Op):Option (Ak×Operand×Operand):=
 match o with
 | .binOp a _ x y _=>some (.bin a,x,y)
 | .unOp .neg _ x=>some (.neg,x,x)
 | .convert s d x=>match E.cU s,E.cU d with
  |some (.int _),some (.int k)=>some (.conv k,x,x)
  |_,_=>none
 | .call c=>match c.callee,c.args.toList with
  | .builtin .max,[x,y]=>some (.mx true,x,y)
  | .builtin .min,[x,y]=>some (.mx false,x,y)
  |_,_=>none
 |_=>none
def Q9 (E:Env) (o:Op):Option Operand:=
 match o with
 | .call c=>match c.callee,c.args.toList,c.argTypes.toList with
  | .builtin .len,[x],t::_=>match E.cU t with
   |some (.slice _)=>some x
   |_=>none
  |_,_,_=>none
 |_=>none
def aoI (E:Env) (h:aP) (v:ai):Option ai:=match v with
 | .atom n=>match (h.at n).obj with
  | .gH id=>E.gl.len id
  |_=>none
 |_=>none
def VI (E:Env) (o:Op) (k:o7):o7:=
 match k with
 | .pu f=>match K4 E o with
  |some (c,x,y)=>let s:=bR E x;let r:=bR E y; .pu fun a=>Option.casesOn (f a) (NV c (s.g a) (r.g a) E.facts) some
  |none=>match Q9 E o with
   |some x=>let s:=bR E x; .rd fun a h=>Option.casesOn (f a) (aoI E h (s.g a)) some
   |none=> .pu f
 |k=>k
def pW (E:Env) (o:Op):o7:=match E.facts with
 | []=>lO E o
 |_::_=>VI E o (lO E o)
inductive Out where
 |normal|ret|exit (id:Nat)
 deriving Inhabited
inductive CR where
 |ok (o:Out) (tm:Tm) (h:aP)
 |fail
 deriving Inhabited
inductive VR where
 |ok (v:ai) (h:aP)
 |fail
 deriving Inhabited
structure CK where
 f:(FuncId->List ai->aP->VR)->Tm->aP->CR
def CK.bad:CK:=⟨fun _ _ _=> .fail⟩
def yR (nt:Nat) (d:Option Tmp):Option CV:=
 match d with
 |none=>some ⟨fun _ a=>a⟩
 |some d=>cond (Nat.blt d nt) (some (Ap d)) none
structure VJ where
 f:Tm->Option Bool
def uJ (all:List Oper) (g:Option (Nat×Bool)):Option VJ:=
 match g with
 |none=>none
 |some (j,b)=>match all[j]? with
  |some o=>match o.dst with
   |some d=>some ⟨fun a=>match ig d a with
    | .bool c=>some (K1 c b)
    | .fm _=>some false
    |_=>none⟩
   |none=>some ⟨fun _=>none⟩
  |none=>some ⟨fun _=>none⟩
def carry (k:o7) (cf:(FuncId->List ai->aP->VR)) (tm:Tm) (h:aP) (next:ai->aP->CR):CR:=
 match k with
 | .pu f=>Option.casesOn (f tm) .fail fun v=>next v h
 | .rd f=>Option.casesOn (f tm h) .fail fun v=>next v h
 | .nw f=>Option.casesOn (f tm) .fail fun p=>next (p.2.mk h.nx) (h.new p.1)
 | .wr f=>OR.casesOn (f tm h) next (fun g args=>VR.casesOn (cf g args h) next .fail) .fail
def VK (w:Option VJ) (k:o7) (p:CV) (a:CK):CK:=
 match w,k with
 |none,.pu f=>⟨fun cf d h=>Option.casesOn (f d) .fail fun v=>a.f cf (p.f v d) h⟩
 |none,.rd f=>⟨fun cf d h=>Option.casesOn (f d h) .fail fun v=>a.f cf (p.f v d) h⟩
 |none,k=>⟨fun cf d h=>carry k cf d h fun v h=>a.f cf (p.f v d) h⟩
 |some w,k=>⟨fun cf d h=>Option.casesOn (w.f d) .fail fun b=>
   cond b (carry k cf d h fun v h=>a.f cf (p.f v d) h) (a.f cf (p.f oY d) h)⟩
def BB (E:Env) (nt:Nat) (all:List Oper):List Oper->CK
 | []=>⟨fun _ b h=> .ok .normal b h⟩
 |o::a=>match yR nt o.dst with
  |some p=>VK (uJ all o.guard) (pW E o.op) p (BB E nt all a)
  |none=> .bad
def ED (e:Edge):Bool:=match e.ground with
 | .gcOnly _=>false
 | .textOnly _=>false
 |_=>true
def Iy (a:List Nat) (s:Nat) (e:Edge):Nat:=cond (ED e) (Nat.lor s (Nat.lor (Nat.pow 2 e.on) (a.getD e.on 0))) s
def Iz:List Oper->List Nat->List Nat
 | [],a=>a
 |o::l,a=>Iz l (a++ [o.after.toList.foldl (Iy a) 0])
def tk (l:List Oper):List Nat:=Iz l []
def aav:Operand->Nat
 | .tmp t=>Nat.pow 2 t
 |_=>0
def Av:Option Tmp->Nat
 |some d=>Nat.pow 2 d
 |none=>0
def CY (all:List Oper):Option (Nat×Bool)->Nat
 |some (j,_)=>match all[j]? with
  |some o=>Av o.dst
  |none=>0
 |none=>0
def Aw:List Operand->Nat->Nat
 | [],s=>s
 |x::l,s=>Aw l (Nat.lor s (aav x))
structure RW where
 ix:Nat
 rd:Nat
 wr:Nat
def NW (a wr pre:Nat):List RW->Bool
 | []=>true
 |x::l=>cond (Nat.beq (Nat.lor (Nat.land x.wr (Nat.lor a wr)) (Nat.land wr x.rd)) 0) (NW a wr pre l) (Nat.testBit pre x.ix&&NW a wr pre l)
def Gg (all:List Oper):List Oper->List Nat->Nat->List RW->Bool
 | [],[],_,_=>true
 |o::l,b::d,i,a=>
  Nat.blt b (Nat.pow 2 i)&&(NW (Aw o.op.operands.toList (CY all o.guard)) (Av o.dst) b a&&
   Gg all l d (Nat.succ i) (⟨i,Aw o.op.operands.toList (CY all o.guard),Av o.dst⟩::a))
 |_,_,_,_=>false
structure VM where
 ix:Nat
 f:aP->Option ai
 v:ai
structure sL where
 ix:Nat
 n:Pos
 ob:jR
structure DS where
 tm:Tm
 h:aP
 qM:List (Nat×aP)
 chain:Nat
 held:List VM
 dA:List sL
def aaw (o:Option ai) (v:ai):Bool:=match o with
 |some u=>u.gU v
 |none=>false
def K5 (pre:Nat) (h:aP):List VM->Bool
 | []=>true
 |x::l=>cond (Nat.testBit pre x.ix) true (aaw (x.f h) x.v)&&K5 pre h l
def Ra (pre:Nat) (a:Pos) (f:aP->Option ai) (v:ai):List (Nat×aP)->Bool
 | []=>true
 |(c,h)::l=>cond (Nat.testBit pre c) true (aaw (f ⟨h.t,a,h.al,h.df⟩) v&&Ra pre a f v l)
def Pos.num:Pos->Nat:=fun p=>Pos.rec (motive:=fun _=>Nat) 1 (fun _ a=>Nat.mul 2 a) (fun _ a=>Nat.succ (Nat.mul 2 a)) p
def aP.lay (h:aP) (p:sL):aP:=match (h.at p.n).obj with
 | .free=>⟨h.put p.n ⟨p.ob,p.n⟩,h.nx,h.al,h.df⟩
 |_=>h
def gM (pre:Nat):List sL->aP->aP
 | [],h=>h
 |p::l,h=>cond (Nat.testBit pre p.ix) (gM pre l (h.lay p)) (gM pre l h)
def Ax {R:Type} (pre:Nat) (k:aP->R):List sL->aP->R
 | [],h=>k h
 |p::l,h=>cond (Nat.testBit pre p.ix) (Ax pre k l (h.lay p)) (Ax pre k l h)
structure DK where
 f:(FuncId->List ai->aP->VR)->DS->Option DS
def Rb (i pre:Nat) (k:o7) (p:CV):(FuncId->List ai->aP->VR)->DS->Option DS:=match k with
 | .pu f=>fun _ s=>Option.casesOn (f s.tm) none fun v=>some ⟨p.f v s.tm,s.h,s.qM,s.chain,s.held,s.dA⟩
 | .nw f=>fun _ s=>Option.casesOn (f s.tm) none fun q=>
   some ⟨p.f (q.2.mk s.h.nx) s.tm,⟨s.h.t,s.h.nx.succ,s.h.al,s.h.df⟩,s.qM,s.chain,s.held,⟨i,s.h.nx,q.1⟩::s.dA⟩
 | .rd f=>fun _ s=>
   let g:aP->Option ai:=Ax pre (f s.tm) s.dA
   Option.casesOn (g s.h) none fun v=>
    cond (Ra pre s.h.nx g v s.qM) (some ⟨p.f v s.tm,s.h,s.qM,s.chain,⟨i,g,v⟩::s.held,s.dA⟩) none
 | .wr f=>fun cf s=>cond (Nat.beq (Nat.land s.chain pre) s.chain)
   (Ax pre (fun h=>
    let next:ai->aP->Option DS:=fun v a=>cond (K5 pre a s.held&&Nat.ble h.nx.num a.nx.num) (some ⟨p.f v s.tm,a,(i,s.h)::s.qM,Nat.lor s.chain (Nat.pow 2 i),s.held,s.dA⟩) none
    OR.casesOn (f s.tm h) next (fun g args=>VR.casesOn (cf g args h) next none) none) s.dA s.h) none
def NX (i pre:Nat) (w:Option VJ) (k:o7) (p:CV):DK:=
 let go:=Rb i pre k p
 match w with
 |none=>⟨go⟩
 |some w=>⟨fun cf s=>Option.casesOn (w.f s.tm) none fun b=>cond b (go cf s) (some ⟨p.f oY s.tm,s.h,s.qM,s.chain,s.held,s.dA⟩)⟩
def EE (E:Env) (nt:Nat) (all:List Oper):List Oper->List Nat->Nat->DK
 |o::l,b::d,i=>match yR nt o.dst with
  |some p=>
   let a:=NX i b (uJ all o.guard) (pW E o.op) p
   let r:=EE E nt all l d (i+1)
   ⟨fun cf s=>Option.casesOn (a.f cf s) none fun s=>r.f cf s⟩
  |none=>⟨fun _ _=>none⟩
 | [],[],_=>⟨fun _ s=>some s⟩
 |_,_,_=>⟨fun _ _=>none⟩
def Rc (E:Env) (nt:Nat) (all:List Oper):CK:=
 match Gg all all (tk all) 0 [] with
 |true=>
  let d:=EE E nt all all (tk all) 0
  let a:=Nat.sub (Nat.pow 2 all.length) 1
  ⟨fun cf b h=>Option.casesOn (d.f cf ⟨b,h,[],0,[],[]⟩) .fail fun s=>Ax a (fun h=> .ok .normal s.tm h) s.dA s.h⟩
 |false=> .bad
def loopGo (a:CK) (cf:(FuncId->List ai->aP->VR)):Nat->Tm->aP->CR:=fun n=>Nat.rec (motive:=fun _=>Tm->aP->CR)
 (fun _ _=> .fail)
 (fun _ d b h=>CR.casesOn (a.f cf b h) (fun o b h=>Out.casesOn o (d b h) (.ok .ret b h) (fun id=> .ok (.exit id) b h)) .fail) n
def gA (E:Env) (nt:Nat):Code->CK
 | .skip=>⟨fun _ e h=> .ok .normal e h⟩
 | .label _=>⟨fun _ e h=> .ok .normal e h⟩
 | .ret=>⟨fun _ e h=> .ok .ret e h⟩
 | .exit id=>⟨fun _ e h=> .ok (.exit id) e h⟩
 | .seq a b=>
  let x:=gA E nt a
  let y:=gA E nt b
  ⟨fun cf e h=>CR.casesOn (x.f cf e h) (fun o e h=>Out.casesOn o (y.f cf e h) (.ok .ret e h) (fun id=> .ok (.exit id) e h)) .fail⟩
 | .cond c a b=>
  let s:=bR E c
  let x:=gA E nt a
  let y:=gA E nt b
  ⟨fun cf e h=>match s.g e with
   | .bool b=>cond b (x.f cf e h) (y.f cf e h)
   |_=> .fail⟩
 | .block id a=>
  let x:=gA E nt a
  ⟨fun cf e h=>CR.casesOn (x.f cf e h) (fun o e h=>Out.casesOn o (.ok .normal e h) (.ok .ret e h) (fun j=>cond (Nat.beq j id) (.ok .normal e h) (.ok (.exit j) e h))) .fail⟩
 | .loop a=>
  let x:=gA E nt a
  ⟨fun cf e h=>loopGo x cf 1000000 e h⟩
 | .scope a=>gA E nt a
 | .region _ k m=>match m with
  |true=>Rc E nt k.toList
  |false=>BB E nt k.toList k.toList
 | .rangeFunc f _ _ _=>
  let s:=bR E f
  ⟨fun cf e h=>match s.g e with
   | .func (.func f) first i=>
    let d:=h.nx
    let q:=h.new .uC
    let l:=q.nx
    let u:=q.new .K3
    match (Gd E f).f u (CU first (.CT l::i)) with
    | .call f args=>match cf f args u with
     | .ok _ z=>match (z.at l).obj with
      | .K3=>let p:=z.setObj l .other; .ok .normal e ⟨p.t,p.nx,p.al,d::p.df⟩
      |_=> .fail
     | .fail=> .fail
    |_=> .fail
   |_=> .fail⟩
 |_=> .bad
structure IA where
 f:Tm->aP->Option (List ai)
def xY (E:Env):List ResultVar->IA
 | []=>⟨fun _ _=>some []⟩
 | .tmp t::l=>let r:=xY E l;⟨fun b h=>Option.casesOn (r.f b h) none fun x=>some (ig t b::x)⟩
 | .cell a t::l=>let r:=xY E l;let k:=Q5 E t;⟨fun b h=>Option.casesOn (k.f h (ig a b)) none fun v=>Option.casesOn (r.f b h) none fun x=>some (v::x)⟩
def Gh:List ai->ai
 | [v]=>v
 |l=> .fm l
def Gi:List ai->Nat->Tm->Tm
 | [],_,a=>a
 |v::l,k,a=>Gi l (Nat.succ k) ((Ap k).f v a)
def IB:List Pos->aP->Option aP
 | [],h=>some h
 |d::l,h=>match (h.at d).obj with
  | .uC=>IB l (h.setObj d .other)
  |_=>none
structure aoJ where
 f:(FuncId->List ai->aP->VR)->List ai->aP->VR
def K6 (E:Env) (f:FuncId):aoJ:=
 match E.fns.get none (pos f) with
 |some d=>
  match d.body with
  |some c=>
   let e:=d.ntmps
   let b:=gA E e c
   let r:=xY E d.results.toList
   ⟨fun cf args h=>cond (Nat.ble args.length e)
    (CR.casesOn (b.f cf (Gi args 0 Ao) ⟨h.t,h.nx,h.al,[]⟩)
     (fun o g a=>Out.casesOn o
      (Option.casesOn (IB a.df a) .fail fun a=>Option.casesOn (r.f g a) .fail fun l=> .ok (Gh l) ⟨a.t,a.nx,a.al,h.df⟩)
      (Option.casesOn (IB a.df a) .fail fun a=>Option.casesOn (r.f g a) .fail fun l=> .ok (Gh l) ⟨a.t,a.nx,a.al,h.df⟩)
      (fun _=> .fail)) .fail) .fail⟩
  |none=>⟨fun _ _ _=> .fail⟩
 |none=>⟨fun _ _ _=> .fail⟩
def vB (E:Env):Nat->(FuncId->List ai->aP->VR):=fun n=>Nat.rec (motive:=fun _=>(FuncId->List ai->aP->VR))
 (fun _ _ _=> .fail)
 (fun _ a f args h=>(K6 E f).f a args h) n
def Env.sy (P:Program) (G:gI) (F:List Fact):Env:=
 {tys:= .ofList none (P.types.toList.map some),fns:= .ofList none (P.funcs.toList.map some),gl:=G,facts:=F,gt:=fun t=> !P.stoodInHeld t&& !P.eqGuardType P.depth t}
def Env.of (P:Program) (G:gI):Env:=Env.sy P G []
def qs (n:Nat):aP:= {t:= .leaf,nx:=pos n,al:= .leaf,df:= []}
end
end Go.Ev
