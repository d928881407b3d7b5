/- The evaluator of closed calls, part 1: what the program computes on given inputs, read by the kernel; sound in every world (part 8). -/
import Derived.OrdersHeld
import Derived.Lib.Bytealg
namespace Go.Ev

/-! ### Names and trees -/
inductive Pos where
  | one | o (p : Pos) | i (p : Pos)
  deriving DecidableEq, Inhabited
def Pos.succ : Pos → Pos
  | .one => .o .one
  | .o p => .i p
  | .i p => .o p.succ
noncomputable def Pos.eqb : Pos → Pos → Bool := fun p => Pos.rec (motive := fun _ => Pos → Bool)
  (fun q => Pos.casesOn q true (fun _ => false) (fun _ => false))
  (fun _ ih q => Pos.casesOn q false (fun q => ih q) (fun _ => false))
  (fun _ ih q => Pos.casesOn q false (fun _ => false) (fun q => ih q)) p
noncomputable def Pos.ofM : Nat → Nat → Pos := fun f => Nat.rec (motive := fun _ => Nat → Pos)
  (fun _ => .one)
  (fun _ ih m => cond (Nat.ble m 1) .one (cond (Nat.beq (Nat.mod m 2) 0) (.o (ih (Nat.div m 2))) (.i (ih (Nat.div m 2))))) f
noncomputable def pos (n : Nat) : Pos := Pos.ofM (Nat.succ n) (Nat.succ n)

inductive DTree (α : Type) where
  | leaf
  | node (l : DTree α) (v : α) (r : DTree α)
  deriving Inhabited
namespace DTree
variable {α : Type}
noncomputable def get (d : α) : Pos → DTree α → α := fun p => Pos.rec (motive := fun _ => DTree α → α)
  (fun t => DTree.casesOn t d (fun _ v _ => v))
  (fun _ ih t => DTree.casesOn t d (fun l _ _ => ih l))
  (fun _ ih t => DTree.casesOn t d (fun _ _ r => ih r)) p
noncomputable def set (d : α) (x : α) : Pos → DTree α → DTree α := fun p => Pos.rec (motive := fun _ => DTree α → DTree α)
  (fun t => DTree.casesOn t (.node .leaf x .leaf) (fun l _ r => .node l x r))
  (fun _ ih t => DTree.casesOn t (.node (ih .leaf) d .leaf) (fun l v r => .node (ih l) v r))
  (fun _ ih t => DTree.casesOn t (.node .leaf d (ih .leaf)) (fun l v r => .node l v (ih r))) p
noncomputable def ofListFrom (d : α) : List α → Nat → DTree α → DTree α
  | [], _, t => t
  | x :: l, k, t => ofListFrom d l (k + 1) (t.set d x (pos k))
noncomputable def ofList (d : α) (l : List α) : DTree α := ofListFrom d l 0 .leaf
end DTree

/-! ### Values -/
inductive Cap where
  | exact (c : Nat)
  | rest (d : Nat)
  deriving DecidableEq, Inhabited
inductive AVal where
  | int (k : IntKind) (n : Int)
  | bool (b : Bool)
  | ptr (n : Pos) (off : Nat)
  | slc (n : Pos) (off len : Nat) (cap : Cap)
  | str (s : List UInt8)
  | agg (l : List AVal)
  | tup (l : List AVal)
  | ptrNil
  | slcNil
  | mapNil
  | map (n : Pos)
  | func (fn : Fn) (first captured : List AVal)
  | nilFunc
  | iface (t : TypeId) (v : AVal)
  | nilIface
  | yld (n : Pos)
  | opq (v : Value)
  | sym (i : Nat)
  | atom (n : Pos)
  deriving Inhabited
mutual
def AVal.ofValue : Value → AVal
  | .bool b => .bool b
  | .int k n => .int k n
  | .string s => .str s.data.toList
  | .pointer none => .ptrNil
  | .slice none 0 0 => .slcNil
  | .map none => .mapNil
  | .nilFunc => .nilFunc
  | .nilIface => .nilIface
  | .agg ⟨cs⟩ => .agg (AVal.ofValues cs)
  | .tuple ⟨cs⟩ => .tup (AVal.ofValues cs)
  | v => .opq v
def AVal.ofValues : List Value → List AVal
  | [] => []
  | v :: l => AVal.ofValue v :: AVal.ofValues l
end
def AVal.cells : AVal → List AVal
  | .agg l => l
  | v => [v]
def Cap.eqb : Cap → Cap → Bool
  | .exact a, .exact b => Nat.beq a b
  | .rest a, .rest b => Nat.beq a b
  | _, _ => false
def ikNo : IntKind → Nat
  | .i8 => 0 | .i16 => 1 | .i32 => 2 | .i64 => 3 | .u8 => 4 | .u16 => 5 | .u32 => 6 | .u64 => 7
def ikEqb (a b : IntKind) : Bool := Nat.beq (ikNo a) (ikNo b)
def intEqb : Int → Int → Bool
  | .ofNat a, .ofNat b => Nat.beq a b
  | .negSucc a, .negSucc b => Nat.beq a b
  | _, _ => false
def boolEqb : Bool → Bool → Bool
  | true, b => b
  | false, b => match b with | true => false | false => true
noncomputable def bytesEqb : List UInt8 → List UInt8 → Bool := fun x => List.rec (motive := fun _ => List UInt8 → Bool)
  (fun y => List.casesOn y true (fun _ _ => false))
  (fun a _ ih y => List.casesOn y false (fun b y => cond (Nat.beq a.toNat b.toNat) (ih y) false)) x
mutual
noncomputable def AVal.eqb : AVal → AVal → Bool
  | .bool a, .bool b => boolEqb a b
  | .int k a, .int j b => ikEqb k j && intEqb a b
  | .str a, .str b => bytesEqb a b
  | .ptrNil, .ptrNil => true
  | .ptr n a, .ptr m b => n.eqb m && Nat.beq a b
  | .slcNil, .slcNil => true
  | .slc n a b c, .slc m d e f => n.eqb m && Nat.beq a d && Nat.beq b e && c.eqb f
  | .mapNil, .mapNil => true
  | .map n, .map m => n.eqb m
  | .nilFunc, .nilFunc => true
  | .nilIface, .nilIface => true
  | .agg x, .agg y => AVal.eqbs x y
  | .tup x, .tup y => AVal.eqbs x y
  | .sym a, .sym b => Nat.beq a b
  | .atom n, .atom m => n.eqb m
  | _, _ => false
noncomputable def AVal.eqbs : List AVal → List AVal → Bool
  | [], [] => true
  | a :: x, b :: y => AVal.eqb a b && AVal.eqbs x y
  | _, _ => false
end

/-! ### The heap -/
structure MEnt where
  key : AVal
  val : AVal
  born : Nat
  deriving Inhabited
inductive AObj where
  | free
  | cells (c : List AVal) (elem : TypeId) (esz : Nat)
  | map (es : List MEnt) (clock : Nat)
  | sit (s : List UInt8) (pos : Nat)
  | mit (m : Option Pos)
  | loopR
  | defN
  | other
  | vat (id : Nat)
  deriving Inhabited
structure Cell where
  obj : AObj
  rt : Pos
  deriving Inhabited
def noCell : Cell := ⟨.free, .one⟩
structure Heap where
  t : DTree Cell
  nx : Pos
  al : DTree (List Pos)
  df : List Pos
  deriving Inhabited
noncomputable def Heap.at (h : Heap) (n : Pos) : Cell := h.t.get noCell n
noncomputable def Heap.put (h : Heap) (n : Pos) (c : Cell) : DTree Cell := h.t.set noCell c n

noncomputable def nth : Nat → List AVal → Option AVal := fun n => Nat.rec (motive := fun _ => List AVal → Option AVal)
  (fun l => List.casesOn l none (fun x _ => some x))
  (fun _ ih l => List.casesOn l none (fun _ l => ih l)) n
noncomputable def dropA : Nat → List AVal → List AVal := fun n => Nat.rec (motive := fun _ => List AVal → List AVal)
  (fun l => l)
  (fun _ ih l => List.casesOn l [] (fun _ l => ih l)) n
noncomputable def takeA : Nat → List AVal → Option (List AVal) := fun n => Nat.rec (motive := fun _ => List AVal → Option (List AVal))
  (fun _ => some [])
  (fun _ ih l => List.casesOn l none (fun x l => Option.casesOn (ih l) none (fun r => some (x :: r)))) n
/-- vs over the first cells -/
noncomputable def overGo : List AVal → List AVal → Option (List AVal) := fun vs => List.rec (motive := fun _ => List AVal → Option (List AVal))
  (fun l => some l)
  (fun v _ ih l => List.casesOn l none (fun _ l => Option.casesOn (ih l) none (fun r => some (v :: r)))) vs
noncomputable def overA (vs : List AVal) : Nat → List AVal → Option (List AVal) := fun n => Nat.rec (motive := fun _ => List AVal → Option (List AVal))
  (fun l => overGo vs l)
  (fun _ ih l => List.casesOn l none (fun x l => Option.casesOn (ih l) none (fun r => some (x :: r)))) n
noncomputable def appA : List AVal → List AVal → List AVal := fun x => List.rec (motive := fun _ => List AVal → List AVal)
  (fun y => y) (fun a _ ih y => a :: ih y) x

def cellsOf {R : Type} (o : AObj) (no : R) (k : List AVal → TypeId → Nat → R) : R :=
  AObj.casesOn o no k (fun _ _ => no) (fun _ _ => no) (fun _ => no) no no no (fun _ => no)
noncomputable def Heap.load1 (h : Heap) (n : Pos) (off : Nat) : Option AVal := cellsOf (h.at n).obj none fun c _ _ => nth off c
noncomputable def Heap.loadN (h : Heap) (n : Pos) (off k : Nat) : Option (List AVal) := cellsOf (h.at n).obj none fun c _ _ => takeA k (dropA off c)
/-- The fellows of a class forget what lies at or behind 'off'. -/
noncomputable def forget (off : Nat) (but : Pos) : List Pos → DTree Cell → DTree Cell
  | [], t => t
  | m :: l, t =>
    cond (m.eqb but) (forget off but l t)
      (let c := t.get noCell m
       forget off but l (cellsOf c.obj t fun x e s => t.set noCell ⟨.cells (x.take off) e s, c.rt⟩ m))
def flat1 (v : AVal) : Bool := match v with
  | .agg _ => false
  | .tup _ => false
  | .opq _ => false
  | _ => true
noncomputable def flats : List AVal → Bool := fun l => List.rec true (fun v _ ih => cond (flat1 v) ih false) l
noncomputable def Heap.store (h : Heap) (n : Pos) (off : Nat) (vs : List AVal) : Option Heap :=
  let c := h.at n
  cellsOf c.obj none fun x e s =>
    Option.casesOn (cond (flats vs) (overA vs off x) none) none fun y =>
      List.casesOn (h.al.get [] c.rt) (some ⟨h.put n ⟨.cells y e s, c.rt⟩, h.nx, h.al, h.df⟩)
        (fun m l => some ⟨forget off n (m :: l) (h.put n ⟨.cells y e s, c.rt⟩), h.nx, h.al, h.df⟩)
noncomputable def Heap.new (h : Heap) (o : AObj) : Heap := ⟨h.put h.nx ⟨o, h.nx⟩, h.nx.succ, h.al, h.df⟩
noncomputable def Heap.setObj (h : Heap) (n : Pos) (o : AObj) : Heap := ⟨h.put n ⟨o, (h.at n).rt⟩, h.nx, h.al, h.df⟩
/-- A new name in the class of n (an append to a row whose room is not known): all fellows forget what lies at or behind 'off'. -/
noncomputable def Heap.again (h : Heap) (n : Pos) (off : Nat) (y : List AVal) (e : TypeId) (s : Nat) : Heap :=
  let r := (h.at n).rt
  let l := n :: h.al.get [] r
  ⟨(forget off h.nx l h.t).set noCell ⟨.cells y e s, r⟩ h.nx, h.nx.succ, h.al.set [] (h.nx :: l) r, h.df⟩

/-! ### Tables -/
/-- The package's tables: what the cells of a global variable hold, and go on holding (g); what is known of the values that an atom of a kind stands for (sem), and how long such a slice is (len). -/
structure Tabs where
  g : Nat → Option (List Value)
  sem : Nat → World → Value → Prop
  len : Nat → Option AVal
instance : Inhabited Tabs := ⟨⟨fun _ => none, fun _ _ _ => True, fun _ => none⟩⟩
/-- The operations on symbols that a fact may speak of. -/
inductive FOp where
  | bin (o : BinOp) | neg | conv (k : IntKind) | mx (b : Bool)
  deriving Inhabited
def binNo : BinOp → Nat
  | .add => 0 | .sub => 1 | .mul => 2 | .quo => 3 | .rem => 4 | .and => 5 | .or => 6 | .xor => 7 | .shl => 8 | .shr => 9 | .andNot => 10
  | .eql => 11 | .neq => 12 | .lss => 13 | .leq => 14 | .gtr => 15 | .geq => 16
def FOp.eqb : FOp → FOp → Bool
  | .bin a, .bin b => Nat.beq (binNo a) (binNo b)
  | .neg, .neg => true
  | .conv k, .conv j => ikEqb k j
  | .mx a, .mx b => boolEqb a b
  | _, _ => false
/-- A fact of arithmetic on symbols: the operation, its operands, its value. -/
structure Fact where
  op : FOp
  a : AVal
  b : AVal
  r : AVal
  deriving Inhabited
structure Env where
  tys : DTree (Option TypeInfo)
  fns : DTree (Option Func)
  gl : Tabs
  facts : List Fact
  gt : TypeId → Bool        -- '==' at a struct's type is plain
  deriving Inhabited
noncomputable def Env.ty (E : Env) (t : TypeId) : Option TypeInfo := E.tys.get none (pos t)
noncomputable def Env.und (E : Env) (t : TypeId) : Option TypeDesc :=
  match E.ty t with
  | some i => match i.desc with
    | .named _ u => match E.ty u with
      | some j => some j.desc
      | none => none
    | d => some d
  | none => none
noncomputable def Env.size (E : Env) (t : TypeId) : Option Nat := match E.ty t with | some i => some i.size | none => none
noncomputable def Env.zero (E : Env) (t : TypeId) : Option AVal :=
  match E.ty t with
  | some i => match i.zero with
    | some v => some (AVal.ofValue v)
    | none => none
  | none => none
noncomputable def Env.agg? (E : Env) (t : TypeId) : Option Bool :=
  match E.und t with
  | some (.struct _) => some true
  | some (.array _ _) => some true
  | some _ => some false
  | none => none
noncomputable def gname (g : Nat) : Pos := pos g

def undefA : AVal := .tup []
/-! A frame: 256 slots in four levels of four, the others in a tree. -/
structure Q0 where
  a : AVal
  b : AVal
  c : AVal
  d : AVal
structure Q1 where
  a : Q0
  b : Q0
  c : Q0
  d : Q0
structure Q2 where
  a : Q1
  b : Q1
  c : Q1
  d : Q1
structure Q3 where
  a : Q2
  b : Q2
  c : Q2
  d : Q2
structure Tm where
  q : Q3
  o : DTree AVal
structure G0 where
  f : Q0 → AVal
structure G1 where
  f : Q1 → AVal
structure G2 where
  f : Q2 → AVal
structure G3 where
  f : Q3 → AVal
def get0 (n : Nat) : G0 := cond (Nat.beq n 0) ⟨fun q => q.a⟩ (cond (Nat.beq n 1) ⟨fun q => q.b⟩ (cond (Nat.beq n 2) ⟨fun q => q.c⟩ ⟨fun q => q.d⟩))
def get1 (k n : Nat) : G1 :=
  let g := get0 n
  cond (Nat.beq k 0) ⟨fun q => g.f q.a⟩ (cond (Nat.beq k 1) ⟨fun q => g.f q.b⟩ (cond (Nat.beq k 2) ⟨fun q => g.f q.c⟩ ⟨fun q => g.f q.d⟩))
def get2 (k n : Nat) : G2 :=
  let g := get1 (Nat.div n 4) (Nat.mod n 4)
  cond (Nat.beq k 0) ⟨fun q => g.f q.a⟩ (cond (Nat.beq k 1) ⟨fun q => g.f q.b⟩ (cond (Nat.beq k 2) ⟨fun q => g.f q.c⟩ ⟨fun q => g.f q.d⟩))
def get3 (k n : Nat) : G3 :=
  let g := get2 (Nat.div n 16) (Nat.mod n 16)
  cond (Nat.beq k 0) ⟨fun q => g.f q.a⟩ (cond (Nat.beq k 1) ⟨fun q => g.f q.b⟩ (cond (Nat.beq k 2) ⟨fun q => g.f q.c⟩ ⟨fun q => g.f q.d⟩))
structure P0 where
  f : Q0 → AVal → Q0
structure P1 where
  f : Q1 → AVal → Q1
structure P2 where
  f : Q2 → AVal → Q2
structure P3 where
  f : Q3 → AVal → Q3
noncomputable def put0 (n : Nat) : P0 :=
  cond (Nat.beq n 0) ⟨Q0.rec (motive := fun _ => AVal → Q0) fun _ b c d v => ⟨v, b, c, d⟩⟩
    (cond (Nat.beq n 1) ⟨Q0.rec (motive := fun _ => AVal → Q0) fun a _ c d v => ⟨a, v, c, d⟩⟩
      (cond (Nat.beq n 2) ⟨Q0.rec (motive := fun _ => AVal → Q0) fun a b _ d v => ⟨a, b, v, d⟩⟩ ⟨Q0.rec (motive := fun _ => AVal → Q0) fun a b c _ v => ⟨a, b, c, v⟩⟩))
noncomputable def put1 (k n : Nat) : P1 :=
  let p := put0 n
  cond (Nat.beq k 0) ⟨Q1.rec (motive := fun _ => AVal → Q1) fun a b c d v => ⟨p.f a v, b, c, d⟩⟩
    (cond (Nat.beq k 1) ⟨Q1.rec (motive := fun _ => AVal → Q1) fun a b c d v => ⟨a, p.f b v, c, d⟩⟩
      (cond (Nat.beq k 2) ⟨Q1.rec (motive := fun _ => AVal → Q1) fun a b c d v => ⟨a, b, p.f c v, d⟩⟩ ⟨Q1.rec (motive := fun _ => AVal → Q1) fun a b c d v => ⟨a, b, c, p.f d v⟩⟩))
noncomputable def put2 (k n : Nat) : P2 :=
  let p := put1 (Nat.div n 4) (Nat.mod n 4)
  cond (Nat.beq k 0) ⟨Q2.rec (motive := fun _ => AVal → Q2) fun a b c d v => ⟨p.f a v, b, c, d⟩⟩
    (cond (Nat.beq k 1) ⟨Q2.rec (motive := fun _ => AVal → Q2) fun a b c d v => ⟨a, p.f b v, c, d⟩⟩
      (cond (Nat.beq k 2) ⟨Q2.rec (motive := fun _ => AVal → Q2) fun a b c d v => ⟨a, b, p.f c v, d⟩⟩ ⟨Q2.rec (motive := fun _ => AVal → Q2) fun a b c d v => ⟨a, b, c, p.f d v⟩⟩))
noncomputable def put3 (k n : Nat) : P3 :=
  let p := put2 (Nat.div n 16) (Nat.mod n 16)
  cond (Nat.beq k 0) ⟨Q3.rec (motive := fun _ => AVal → Q3) fun a b c d v => ⟨p.f a v, b, c, d⟩⟩
    (cond (Nat.beq k 1) ⟨Q3.rec (motive := fun _ => AVal → Q3) fun a b c d v => ⟨a, p.f b v, c, d⟩⟩
      (cond (Nat.beq k 2) ⟨Q3.rec (motive := fun _ => AVal → Q3) fun a b c d v => ⟨a, b, p.f c v, d⟩⟩ ⟨Q3.rec (motive := fun _ => AVal → Q3) fun a b c d v => ⟨a, b, c, p.f d v⟩⟩))
def q0e : Q0 := ⟨undefA, undefA, undefA, undefA⟩
def q1e : Q1 := ⟨q0e, q0e, q0e, q0e⟩
def q2e : Q2 := ⟨q1e, q1e, q1e, q1e⟩
def tm0 : Tm := ⟨⟨q2e, q2e, q2e, q2e⟩, .leaf⟩
structure GetK where
  f : Tm → AVal
noncomputable def getK (t : Nat) : GetK :=
  cond (Nat.blt t 256) (let g := get3 (Nat.div t 64) (Nat.mod t 64); ⟨fun tm => g.f tm.q⟩) (let p := pos t; ⟨fun tm => DTree.get undefA p tm.o⟩)
noncomputable def tget (t : Nat) (tm : Tm) : AVal := (getK t).f tm
structure PutK where
  f : AVal → Tm → Tm
noncomputable def setK (t : Nat) : PutK :=
  cond (Nat.blt t 256) (let g := put3 (Nat.div t 64) (Nat.mod t 64); ⟨fun v => Tm.rec fun q o => ⟨g.f q v, o⟩⟩) (let p := pos t; ⟨fun v => Tm.rec fun q o => ⟨q, o.set undefA v p⟩⟩)
structure SrcK where
  g : Tm → AVal
noncomputable def srcK (_E : Env) : Operand → SrcK
  | .tmp t => ⟨(getK t).f⟩
  | .const v => let u := AVal.ofValue v; ⟨fun _ => u⟩
  | .global g => let u : AVal := .opq (.pointer (some ⟨g, 0, none⟩)); ⟨fun _ => u⟩
  | .func f => ⟨fun _ => .func (.func f) [] []⟩
def srcsG : List SrcK → Tm → List AVal
  | [], _ => []
  | s :: l, tm => s.g tm :: srcsG l tm
noncomputable def srcsK (E : Env) (l : List Operand) : List SrcK := l.map (srcK E)

/-! ### Arithmetic -/
def half : IntKind → Nat
  | .i8 => 128 | .u8 => 256
  | .i16 => 32768 | .u16 => 65536
  | .i32 => 2147483648 | .u32 => 4294967296
  | .i64 => 9223372036854775808 | .u64 => 18446744073709551616
/-- The wrap, quick where nothing is to be done. -/
def wrapA (k : IntKind) (n : Int) : Int :=
  Int.casesOn n (fun m => cond (Nat.blt m (half k)) (.ofNat m) (k.wrap (.ofNat m))) (fun m => k.wrap (.negSucc m))
def ltA : Int → Int → Bool
  | .ofNat a, .ofNat b => Nat.blt a b
  | .negSucc _, .ofNat _ => true
  | .ofNat _, .negSucc _ => false
  | .negSucc a, .negSucc b => Nat.blt b a
def addA : Int → Int → Int
  | .ofNat a, .ofNat b => .ofNat (Nat.add a b)
  | x, y => x + y
def subA : Int → Int → Int
  | .ofNat a, .ofNat b => cond (Nat.ble b a) (.ofNat (Nat.sub a b)) (.negSucc (Nat.sub (Nat.sub b a) 1))
  | x, y => x - y
def mulA : Int → Int → Int
  | .ofNat a, .ofNat b => .ofNat (Nat.mul a b)
  | x, y => x * y
def quoA : Int → Int → Int
  | .ofNat a, .ofNat b => .ofNat (Nat.div a b)
  | x, y => x.tdiv y
def remA : Int → Int → Int
  | .ofNat a, .ofNat b => .ofNat (Nat.mod a b)
  | x, y => x.tmod y
/-- Forced to a numeral. -/
def forceN {α : Type} (n : Nat) (k : Nat → α) : α := Nat.casesOn n (k 0) (fun m => k (Nat.succ m))
def intOut (k : IntKind) (n : Int) : Option AVal :=
  Int.casesOn n (fun m => Nat.casesOn m (some (.int k (.ofNat 0))) (fun m => some (.int k (.ofNat (Nat.succ m)))))
    (fun m => Nat.casesOn m (some (.int k (.negSucc 0))) (fun m => some (.int k (.negSucc (Nat.succ m)))))
def bothNat (x y : Int) (k : Nat → Nat → Option AVal) : Option AVal :=
  Int.casesOn x (fun a => Int.casesOn y (fun b => k a b) (fun _ => none)) (fun _ => none)
structure IntK where
  f : IntKind → Int → Int → Option AVal
def bitK (f : Nat → Nat → Nat) : IntK := ⟨fun k x y => bothNat x y fun a b => cond (Nat.blt a (half k)) (cond (Nat.blt b (half k)) (intOut k (.ofNat (f a b))) none) none⟩
def noInt : IntK := ⟨fun _ _ _ => none⟩
def intK : BinOp → IntK
  | .add => ⟨fun k a b => intOut k (wrapA k (addA a b))⟩
  | .sub => ⟨fun k a b => intOut k (wrapA k (subA a b))⟩
  | .mul => ⟨fun k a b => intOut k (wrapA k (mulA a b))⟩
  | .quo => ⟨fun k a b => cond (intEqb b 0) none (intOut k (wrapA k (quoA a b)))⟩
  | .rem => ⟨fun k a b => cond (intEqb b 0) none (intOut k (remA a b))⟩
  | .and => bitK Nat.land
  | .or => bitK Nat.lor
  | .xor => bitK Nat.xor
  | .andNot => bitK fun a b => Nat.xor a (Nat.land a b)
  | .eql => ⟨fun _ a b => some (.bool (intEqb a b))⟩
  | .neq => ⟨fun _ a b => some (.bool (cond (intEqb a b) false true))⟩
  | .lss => ⟨fun _ a b => some (.bool (ltA a b))⟩
  | .leq => ⟨fun _ a b => some (.bool (cond (ltA b a) false true))⟩
  | .gtr => ⟨fun _ a b => some (.bool (ltA b a))⟩
  | .geq => ⟨fun _ a b => some (.bool (cond (ltA a b) false true))⟩
  | _ => noInt
def shiftK : BinOp → IntK
  | .shl => ⟨fun k a b => Int.casesOn b (fun b => intOut k (wrapA k (mulA a (.ofNat (Nat.pow 2 (Nat.min b k.bits)))))) (fun _ => none)⟩
  | .shr => ⟨fun k a b => Int.casesOn b (fun b => Int.casesOn a (fun a => intOut k (.ofNat (Nat.div a (Nat.pow 2 (Nat.min b k.bits))))) (fun a => intOut k ((Int.negSucc a).fdiv (.ofNat (Nat.pow 2 (Nat.min b k.bits)))))) (fun _ => none)⟩
  | _ => noInt
noncomputable def strLess : List UInt8 → List UInt8 → Bool := fun x => List.rec (motive := fun _ => List UInt8 → Bool)
  (fun y => List.casesOn y false (fun _ _ => true))
  (fun a _ ih y => List.casesOn y false (fun b y => cond (Nat.blt a.toNat b.toNat) true (cond (Nat.beq a.toNat b.toNat) (ih y) false))) x
noncomputable def appB : List UInt8 → List UInt8 → List UInt8 := fun x => List.rec (motive := fun _ => List UInt8 → List UInt8)
  (fun y => y) (fun a _ ih y => a :: ih y) x
structure StrK where
  f : List UInt8 → List UInt8 → Option AVal
noncomputable def strK : BinOp → StrK
  | .add => ⟨fun x y => cond (Nat.blt (Nat.add x.length y.length) 4294967296) (some (.str (appB x y))) none⟩
  | .eql => ⟨fun x y => some (.bool (bytesEqb x y))⟩
  | .neq => ⟨fun x y => some (.bool (cond (bytesEqb x y) false true))⟩
  | .lss => ⟨fun x y => some (.bool (strLess x y))⟩
  | .leq => ⟨fun x y => some (.bool (strLess x y || bytesEqb x y))⟩
  | .gtr => ⟨fun x y => some (.bool (cond (strLess x y || bytesEqb x y) false true))⟩
  | .geq => ⟨fun x y => some (.bool (cond (strLess x y) false true))⟩
  | _ => ⟨fun _ _ => none⟩

def sameKey : AVal → AVal → Option Bool
  | .int k a, .int j b => cond (ikEqb k j) (some (intEqb a b)) none
  | .bool a, .bool b => some (boolEqb a b)
  | _, _ => none
noncomputable def sameKeyS : AVal → AVal → Option Bool
  | .str a, .str b => some (bytesEqb a b)
  | a, b => sameKey a b
/-- the fields of a struct that is a key: integers, strings and bools alone -/
noncomputable def plainFields (E : Env) : Nat → List Field → List AVal → Bool
  | _, [], [] => true
  | k, f :: fs, v :: vs => (match E.und f.type, v with
      | some (.int _), .int _ _ => true
      | some .string, .str _ => true
      | some .bool, .bool _ => true
      | _, _ => false) && (Nat.beq f.offset k && !(f.name == "_") && plainFields E (k + 1) fs vs)
  | _, _, _ => false
noncomputable def sameKeys : List AVal → List AVal → Option Bool
  | [], [] => some true
  | a :: x, b :: y => match sameKeyS a b with
    | some true => sameKeys x y
    | some false => some false
    | none => none
  | _, _ => none
noncomputable def sameK : AVal → AVal → Option Bool
  | .agg a, .agg b => sameKeys a b
  | a, b => sameKeyS a b

/-- '==' of two values that are no integers and no strings; by the type. -/
structure EqK where
  f : AVal → AVal → Option Bool
noncomputable def eqK (E : Env) (t : TypeId) (constant : Bool) : EqK :=
  match E.und t with
  | some .bool => ⟨fun x y => match x, y with
    | .bool a, .bool b => some (boolEqb a b)
    | _, _ => none⟩
  | some (.pointer _) => ⟨fun x y => match x, y with
    | .ptrNil, .ptrNil => some true
    | .ptrNil, .ptr _ _ => some false
    | .ptr _ _, .ptrNil => some false
    | _, _ => none⟩
  | some (.slice _) => ⟨fun x y => match x, y with
    | .slcNil, .slcNil => some true
    | .slcNil, .slc _ _ _ _ => some false
    | .slc _ _ _ _, .slcNil => some false
    | _, _ => none⟩
  | some (.map _ _) => ⟨fun x y => match x, y with
    | .mapNil, .mapNil => some true
    | .mapNil, .map _ => some false
    | .map _, .mapNil => some false
    | _, _ => none⟩
  | some (.func _ _ _) => ⟨fun x y => match x, y with
    | .nilFunc, .nilFunc => some true
    | .nilFunc, .func _ _ _ => some false
    | .func _ _ _, .nilFunc => some false
    | _, _ => none⟩
  | some (.interface _) => ⟨fun x y => match x, y with
    | .nilIface, .nilIface => cond constant (some true) none
    | .nilIface, .iface _ _ => some false
    | .iface _ _, .nilIface => some false
    | _, _ => none⟩
  | some (.struct fs) => cond (E.gt t) ⟨fun x y => match x, y with
    | .agg a, .agg b => cond (plainFields E 0 fs.toList a && plainFields E 0 fs.toList b) (sameKeys a b) none
    | _, _ => none⟩ ⟨fun _ _ => none⟩
  | _ => ⟨fun _ _ => none⟩
def isK : Operand → Bool
  | .const _ => true
  | _ => false
structure Bin where
  f : AVal → AVal → Option AVal
noncomputable def binK (E : Env) (op : BinOp) (t : TypeId) (constant : Bool) : Bin :=
  match op with
  | .shl => let i := shiftK .shl; ⟨fun x y => match x, y with
    | .int k a, .int _ b => i.f k a b
    | _, _ => none⟩
  | .shr => let i := shiftK .shr; ⟨fun x y => match x, y with
    | .int k a, .int _ b => i.f k a b
    | _, _ => none⟩
  | .eql => match E.und t with
    | some (.int _) => let i := intK .eql; ⟨fun x y => match x, y with
      | .int k a, .int j b => cond (ikEqb k j) (i.f k a b) none
      | _, _ => none⟩
    | some .string => let s := strK .eql; ⟨fun x y => match x, y with
      | .str a, .str b => s.f a b
      | _, _ => none⟩
    | _ => let e := eqK E t constant; ⟨fun x y => Option.casesOn (e.f x y) none fun b => some (.bool b)⟩
  | .neq => match E.und t with
    | some (.int _) => let i := intK .neq; ⟨fun x y => match x, y with
      | .int k a, .int j b => cond (ikEqb k j) (i.f k a b) none
      | _, _ => none⟩
    | some .string => let s := strK .neq; ⟨fun x y => match x, y with
      | .str a, .str b => s.f a b
      | _, _ => none⟩
    | _ => let e := eqK E t constant; ⟨fun x y => Option.casesOn (e.f x y) none fun b => some (.bool (cond b false true))⟩
  | op => match E.und t with
    | some .string => let s := strK op; ⟨fun x y => match x, y with
      | .str a, .str b => s.f a b
      | _, _ => none⟩
    | _ => let i := intK op; ⟨fun x y => match x, y with
      | .int k a, .int j b => cond (ikEqb k j) (i.f k a b) none
      | _, _ => none⟩
def unA (op : UnOp) (x : AVal) : Option AVal :=
  match op, x with
  | .not, .bool b => some (.bool (cond b false true))
  | .neg, .int k n => intOut k (wrapA k (subA 0 n))
  | .xor, .int k (.ofNat n) => match k with
    | .u8 | .u16 | .u32 | .u64 => cond (Nat.blt n (half k)) (intOut k (.ofNat (Nat.sub (Nat.sub (half k) 1) n))) none
    | _ => none
  | _, _ => none
end Go.Ev

namespace Go.Ev

/-! ### Operations that do not look at memory -/
structure OnA where
  f : AVal → Option AVal
structure PartK where
  f : List AVal → Option AVal
noncomputable def partK (E : Env) (t : TypeId) (off : Nat) : PartK :=
  match E.agg? t with
  | some true => match E.size t with
    | some k => ⟨fun l => Option.casesOn (takeA k (dropA off l)) none fun r => some (.agg r)⟩
    | none => ⟨fun _ => none⟩
  | some false => ⟨fun l => nth off l⟩
  | none => ⟨fun _ => none⟩
/-- One part after the other laid over the cells. -/
noncomputable def fillA (places : Nat → Option (Nat × Nat)) : List (Nat × SrcK) → Tm → List AVal → Option (List AVal)
  | [], _, l => some l
  | (i, s) :: rest, tm, l =>
    match places i with
    | none => none
    | some (off, size) =>
      let v := s.g tm
      cond (Nat.beq v.cells.length size)
        (Option.casesOn (overA v.cells off l) none fun l => fillA places rest tm l) none
noncomputable def placeOf (E : Env) (fs : List Field) (i : Nat) : Option (Nat × Nat) :=
  match fs[i]? with
  | some f => match E.size f.type with
    | some s => some (f.offset, s)
    | none => none
  | none => none
structure TmK where
  f : Tm → Option AVal
noncomputable def partsK (E : Env) (parts : Array (Nat × Operand)) : List (Nat × SrcK) := parts.toList.map fun p => (p.1, srcK E p.2)
noncomputable def buildK (E : Env) (t : TypeId) (parts : Array (Nat × Operand)) : TmK :=
  match E.zero t, E.und t with
  | some z, some (.struct fs) =>
    let ps := partsK E parts
    let zs := z.cells
    cond (fs.toList.all fun f => (E.size f.type).isSome)
      ⟨fun tm => Option.casesOn (fillA (placeOf E fs.toList) ps tm zs) none fun l => some (.agg l)⟩ ⟨fun _ => none⟩
  | some z, some (.array _ e) => match E.size e with
    | some s =>
      let ps := partsK E parts
      let zs := z.cells
      ⟨fun tm => Option.casesOn (fillA (fun i => some (Nat.mul i s, s)) ps tm zs) none fun l => some (.agg l)⟩
    | none => ⟨fun _ => none⟩
  | _, _ => ⟨fun _ => none⟩
noncomputable def repA (z : List AVal) : Nat → List AVal := fun n => Nat.rec [] (fun _ ih => appA z ih) n

def natOf {R : Type} (v : AVal) (no : R) (k : Nat → R) : R := match v with
  | .int _ (.ofNat n) => k n
  | _ => no
noncomputable def indexAddrK (E : Env) (t : TypeId) : Bin :=
  match E.und t with
  | some (.slice e) => match E.size e with
    | some sz => ⟨fun x ix => natOf ix none fun i => match x with
      | .slc n off len _ => cond (Nat.blt i len) (forceN (Nat.add off (Nat.mul i sz)) fun k => some (.ptr n k)) none
      | _ => none⟩
    | none => ⟨fun _ _ => none⟩
  | some (.array len e) => match E.size e with
    | some sz => ⟨fun x ix => natOf ix none fun i => match x with
      | .ptr n off => cond (Nat.blt i len) (forceN (Nat.add off (Nat.mul i sz)) fun k => some (.ptr n k)) none
      | .opq (.pointer (some ⟨g, off, none⟩)) => cond (Nat.blt i len) (forceN (Nat.add off (Nat.mul i sz)) fun k => some (.opq (.pointer (some ⟨g, k, none⟩)))) none
      | _ => none⟩
    | none => ⟨fun _ _ => none⟩
  | _ => ⟨fun _ _ => none⟩
noncomputable def nthB : Nat → List UInt8 → Option UInt8 := fun n => Nat.rec (motive := fun _ => List UInt8 → Option UInt8)
  (fun l => List.casesOn l none (fun x _ => some x))
  (fun _ ih l => List.casesOn l none (fun _ l => ih l)) n
noncomputable def indexK (E : Env) (t : TypeId) : Bin :=
  match E.und t with
  | some .string => ⟨fun x ix => natOf ix none fun i => match x with
    | .str s => Option.casesOn (nthB i s) none fun b => forceN b.toNat fun k => some (.int .u8 (.ofNat k))
    | _ => none⟩
  | some (.array len e) => match E.size e with
    | some sz => ⟨fun x ix => natOf ix none fun i => match x with
      | .agg l => cond (Nat.blt i len) ((partK E e (Nat.mul i sz)).f l) none
      | _ => none⟩
    | none => ⟨fun _ _ => none⟩
  | _ => ⟨fun _ _ => none⟩
noncomputable def fieldAddrK (E : Env) (t : TypeId) (f : Nat) : OnA :=
  match E.und t with
  | some (.struct fs) => match fs.toList[f]? with
    | some fd => match E.size fd.type with
      | some (_ + 1) => let d := fd.offset; ⟨fun x => match x with
        | .ptr n off => forceN (Nat.add off d) fun k => some (.ptr n k)
        | _ => none⟩
      | _ => ⟨fun _ => none⟩
    | none => ⟨fun _ => none⟩
  | _ => ⟨fun _ => none⟩
noncomputable def fieldK (E : Env) (t : TypeId) (f : Nat) : OnA :=
  match E.und t with
  | some (.struct fs) => match fs.toList[f]? with
    | some fd => let p := partK E fd.type fd.offset; ⟨fun x => match x with
      | .agg l => p.f l
      | _ => none⟩
    | none => ⟨fun _ => none⟩
  | _ => ⟨fun _ => none⟩
def nilCheckA (v : AVal) : Option AVal := match v with
  | .ptr n o => some (.ptr n o)
  | .func (.func f) x y => some (.func (.func f) x y)
  | .iface t v => some (.iface t v)
  | .slc n a b c => some (.slc n a b c)
  | _ => none
noncomputable def makeIfaceK (E : Env) (t : TypeId) : OnA :=
  match E.und t with
  | some (.interface _) => ⟨fun _ => none⟩
  | some _ => ⟨fun x => some (.iface t x)⟩
  | none => ⟨fun _ => none⟩
noncomputable def typeAssertK (E : Env) (t : TypeId) (ok : Bool) : OnA :=
  match E.und t with
  | some (.interface _) => ⟨fun _ => none⟩
  | some _ => match E.zero t with
    | some z => ⟨fun x => match x with
      | .iface u v => cond (Nat.beq u t) (some (cond ok (.tup [v, .bool true]) v)) (cond ok (some (.tup [z, .bool false])) none)
      | _ => none⟩
    | none => ⟨fun _ => none⟩
  | none => ⟨fun _ => none⟩
def lenA (v : AVal) : Option AVal := match v with
  | .str s => forceN s.length fun k => some (.int .i64 (.ofNat k))
  | .slcNil => some (.int .i64 (.ofNat 0))
  | .slc _ _ n _ => some (.int .i64 (.ofNat n))
  | _ => none
def mnmx (mx : Bool) : List AVal → AVal → Option AVal
  | [], x => some x
  | y :: l, x => match x, y with
    | .int k a, .int _ b => mnmx mx l (.int k (cond mx (cond (ltA a b) b a) (cond (ltA b a) b a)))
    | _, _ => none
def capA (v : AVal) : Option AVal := match v with
  | .slc _ _ _ (.exact c) => some (.int .i64 (.ofNat c))
  | .slcNil => some (.int .i64 (.ofNat 0))
  | _ => none

/-! ### Operations that look at memory -/
noncomputable def keyOkK (E : Env) (t : TypeId) : EqK :=
  match E.und t with
  | some (.int _) => ⟨fun k _ => match k with | .int _ _ => some true | _ => none⟩
  | some .string => ⟨fun k _ => match k with | .str _ => some true | _ => none⟩
  | some .bool => ⟨fun k _ => match k with | .bool _ => some true | _ => none⟩
  | some (.struct fs) => cond (E.gt t) ⟨fun k _ => match k with
    | .agg l => cond (plainFields E 0 fs.toList l) (some true) none
    | _ => none⟩ ⟨fun _ _ => none⟩
  | _ => ⟨fun _ _ => none⟩
noncomputable def findA (k : AVal) : List MEnt → Nat → Option (Option (Nat × AVal))
  | [], _ => some none
  | e :: es, i => match sameK k e.key with
    | some true => some (some (i, e.val))
    | some false => findA k es (i + 1)
    | none => none
noncomputable def entries (h : Heap) (v : AVal) : Option (List MEnt) := match v with
  | .mapNil => some []
  | .map n => match (h.at n).obj with
    | .map es _ => some es
    | _ => none
  | _ => none
structure LookK where
  f : Heap → AVal → AVal → Option AVal
noncomputable def lookupK (E : Env) (t : TypeId) (ok : Bool) : LookK :=
  match E.und t with
  | some (.map kt et) => match E.zero et with
    | some z =>
      let q := keyOkK E kt
      ⟨fun h x k => Option.casesOn (q.f k k) none fun _ =>
        Option.casesOn (entries h x) none fun es =>
          Option.casesOn (findA k es 0) none fun r =>
            Option.casesOn r (some (cond ok (.tup [z, .bool false]) z)) fun p => some (cond ok (.tup [p.2, .bool true]) p.2)⟩
    | none => ⟨fun _ _ _ => none⟩
  | _ => ⟨fun _ _ _ => none⟩
structure LoadK where
  f : Heap → AVal → Option AVal
noncomputable def nthV : Nat → List Value → Option Value := fun n => Nat.rec (motive := fun _ => List Value → Option Value)
  (fun l => List.casesOn l none (fun x _ => some x))
  (fun _ ih l => List.casesOn l none (fun _ l => ih l)) n
noncomputable def loadK (E : Env) (t : TypeId) : LoadK :=
  match E.agg? t with
  | some true => match E.size t with
    | some k => ⟨fun h x => match x with
      | .ptr n off => Option.casesOn (h.loadN n off k) none fun l => some (.agg l)
      | _ => none⟩
    | none => ⟨fun _ _ => none⟩
  | some false => ⟨fun h x => match x with
    | .ptr n off => h.load1 n off
    | .opq (.pointer (some ⟨g, off, none⟩)) => Option.casesOn (E.gl.g g) none fun l => Option.casesOn (nthV off l) none fun v => some (AVal.ofValue v)
    | _ => none⟩
  | none => ⟨fun _ _ => none⟩
def bytesOf : List AVal → Option (List UInt8)
  | [] => some []
  | v :: l => match v with
    | .int .u8 (.ofNat n) => Option.casesOn (bytesOf l) none fun r => forceN n fun n => some (UInt8.ofNat n :: r)
    | _ => none
structure SrcO where
  f : Tm → Option AVal
noncomputable def srcO (E : Env) : Option Operand → Tm → Option AVal
  | none, _ => none
  | some x, tm => some ((srcK E x).g tm)
def boundOr {R : Type} (d : Nat) (v : Option AVal) (no : R) (k : Nat → R) : R := match v with
  | none => k d
  | some v => natOf v no k
/-- x[lo:hi:max] -/
structure SliceK where
  f : Heap → AVal → Option AVal → Option AVal → Option AVal → Option AVal
def nilMx {R : Type} (v : Option AVal) (no : R) (k : R) : R := match v with
  | none => k
  | some _ => no
def mxOr {R : Type} (v : Option AVal) (no : R) (k : R) (m : Nat → R) : R := match v with
  | none => k
  | some v => natOf v no m
def capOr {R : Type} (c : Cap) (k : Nat → R) (m : Nat → R) : R := match c with
  | .exact c => k c
  | .rest d => m d
noncomputable def reslice (sz : Nat) (h : Heap) (n : Pos) (off len : Nat) (cap : Cap) (lo hi mx : Option AVal) : Option AVal :=
  boundOr 0 lo none fun l => boundOr len hi none fun r =>
  capOr cap
    (fun c => mxOr mx none
      (cond (Nat.ble l r && Nat.ble r c) (some (.slc n (cond (Nat.beq c l) off (Nat.add off (Nat.mul l sz))) (Nat.sub r l) (.exact (Nat.sub c l)))) none)
      (fun m => cond (Nat.ble l r && (Nat.ble r m && Nat.ble m c)) (some (.slc n (cond (Nat.beq m l) off (Nat.add off (Nat.mul l sz))) (Nat.sub r l) (.exact (Nat.sub m l)))) none))
    (fun d => cellsOf (h.at n).obj none fun x _ esz =>
      cond (Nat.beq esz sz && (Nat.blt 0 sz && Nat.ble l r))
        (mxOr mx none
          (cond (Nat.ble (Nat.mul (Nat.add r d) sz) x.length && (Nat.beq l 0 || Nat.blt (Nat.mul (Nat.add l d) sz) x.length))
            (some (.slc n (Nat.add off (Nat.mul l sz)) (Nat.sub r l) (.rest (Nat.add d l)))) none)
          (fun m => cond (Nat.ble r m && Nat.ble (Nat.mul (Nat.add m d) sz) x.length)
            (some (.slc n (cond (Nat.beq m l) off (Nat.add off (Nat.mul l sz))) (Nat.sub r l) (.exact (Nat.sub m l)))) none)) none)
noncomputable def sliceK (E : Env) (t : TypeId) : SliceK :=
  match E.und t with
  | some .string => ⟨fun _ x lo hi mx => match x with
    | .str s => nilMx mx none (boundOr 0 lo none fun l => boundOr s.length hi none fun r =>
        cond (Nat.ble l r && Nat.ble r s.length) (some (.str ((s.drop l).take (Nat.sub r l)))) none)
    | _ => none⟩
  | some (.slice e) => match E.size e with
    | some sz => ⟨fun h x lo hi mx => match x with
      | .slcNil => nilMx mx none (boundOr 0 lo none fun l => boundOr 0 hi none fun r => cond (Nat.beq r 0 && Nat.beq l 0) (some .slcNil) none)
      | .slc n off len cap => reslice sz h n off len cap lo hi mx
      | _ => none⟩
    | none => ⟨fun _ _ _ _ _ => none⟩
  | some (.array len e) => match E.size e with
    | some sz => ⟨fun _ x lo hi mx => match x with
      | .ptr n off => nilMx mx none (boundOr 0 lo none fun l => boundOr len hi none fun r =>
          cond (Nat.ble l r && Nat.ble r len) (some (.slc n (cond (Nat.beq len l) off (Nat.add off (Nat.mul l sz))) (Nat.sub r l) (.exact (Nat.sub len l)))) none)
      | _ => none⟩
    | none => ⟨fun _ _ _ _ _ => none⟩
  | _ => ⟨fun _ _ _ _ _ => none⟩

/-! ### New memory -/
inductive Mk where
  | ptr | slc (len cap : Nat) | map
def Mk.mk : Mk → Pos → AVal
  | .ptr, n => .ptr n 0
  | .slc l c, n => .slc n 0 l (.exact c)
  | .map, n => .map n
/-- n times the zero value of a type, cell by cell. -/
noncomputable def zerosOf (E : Env) (e : TypeId) (n : Nat) : Option (List AVal) :=
  match E.ty e with
  | some i => match i.zero with
    | some v => let z := (AVal.ofValue v).cells; cond (Nat.beq z.length i.size) (some (repA z n)) none
    | none => none
  | none => none

/-! ### Operations that write -/
inductive OR where
  | ok (v : AVal) (h : Heap)
  | call (f : FuncId) (args : List AVal)
  | fail
  deriving Inhabited
def okU (o : Option Heap) : OR := Option.casesOn o .fail fun h => .ok undefA h
def srcLen {R : Type} (x : AVal) (no : R) (k : Nat → R) : R := match x with
  | .slcNil => k 0
  | .slc _ _ n _ => k n
  | .str s => forceN s.length k
  | _ => no
def byteVals : List UInt8 → List AVal
  | [] => []
  | b :: l => forceN b.toNat fun k => .int .u8 (.ofNat k) :: byteVals l
noncomputable def srcCells (h : Heap) (size n : Nat) (x : AVal) : Option (List AVal) := match x with
  | .slcNil => some []
  | .slc m off _ _ => h.loadN m off (Nat.mul n size)
  | .str s => cond (Nat.beq size 1) (some (byteVals (s.take n))) none
  | _ => none
structure WrK2 where
  f : Heap → AVal → AVal → OR
def roomy (bytes n : Nat) : Bool := Nat.ble (Nat.mul (Nat.add (Nat.mul 8 n) 4096) bytes) 281474976710656 && (Nat.ble n 281474976710656 && Nat.blt 0 bytes)
noncomputable def appendTo (e : TypeId) (size bytes : Nat) (h : Heap) (s : AVal) (n : Nat) (new : List AVal) : OR :=
  match s with
  | .slcNil => cond (Nat.beq n 0) (.ok .slcNil h)
      (cond (roomy bytes n) (.ok (.slc h.nx 0 n (.rest 0)) (h.new (.cells new e size))) .fail)
  | .slc m off len cap =>
    forceN (Nat.add len n) fun ln =>
    capOr cap
      (fun c => cond (Nat.ble ln c)
        (Option.casesOn (h.store m (Nat.add off (Nat.mul len size)) new) .fail fun h => .ok (.slc m off ln (.exact c)) h)
        (cond (roomy bytes ln)
          (Option.casesOn (h.loadN m off (Nat.mul len size)) .fail fun old => .ok (.slc h.nx 0 ln (.rest 0)) (h.new (.cells (appA old new) e size))) .fail))
      (fun d => cond (Nat.beq d 0 && Nat.beq off 0)
        (cellsOf (h.at m).obj .fail fun x e' s' => cond (Nat.beq e' e && (Nat.beq s' size && Nat.blt 0 size))
          (Option.casesOn (takeA (Nat.mul len size) x) .fail fun old =>
            cond (Nat.beq n 0) (.ok (.slc m 0 len (.rest 0)) h)
              (cond (roomy bytes ln && flats new)
                (.ok (.slc h.nx 0 ln (.rest 0)) (h.again m (Nat.mul len size) (appA old new) e size)) .fail)) .fail) .fail)
  | _ => .fail
noncomputable def appendK (E : Env) (ts : List TypeId) : WrK2 :=
  match ts with
  | [st, xt] =>
    match E.und st, E.und xt with
    | some (.slice _), some (.int _) => ⟨fun _ _ _ => .fail⟩
    | some (.slice e), some _ =>
      match E.ty e, zerosOf E e 0 with
      | some i, some _ =>
        let size := i.size
        let bytes := i.bytes
        ⟨fun h s x => srcLen x .fail fun n => Option.casesOn (srcCells h size n x) .fail fun new => appendTo e size bytes h s n new⟩
      | _, _ => ⟨fun _ _ _ => .fail⟩
    | _, _ => ⟨fun _ _ _ => .fail⟩
  | _ => ⟨fun _ _ _ => .fail⟩
noncomputable def copyK (E : Env) (ts : List TypeId) : WrK2 :=
  match ts with
  | t :: _ => match E.und t with
    | some (.slice e) => match E.size e with
      | some s => ⟨fun h d x => srcLen x .fail fun n => match d with
        | .slc m off len _ =>
          forceN (Nat.min n len) fun k =>
          Option.casesOn (srcCells h s k x) .fail fun l =>
            Option.casesOn (h.store m off l) .fail fun h => .ok (.int .i64 (.ofNat k)) h
        | .slcNil => .ok (.int .i64 (.ofNat 0)) h
        | _ => .fail⟩
      | none => ⟨fun _ _ _ => .fail⟩
    | _ => ⟨fun _ _ _ => .fail⟩
  | _ => ⟨fun _ _ _ => .fail⟩
def setEnt (v : AVal) (k : AVal) : Nat → List MEnt → List MEnt
  | _, [] => []
  | 0, e :: es => { e with key := k, val := v } :: es
  | n + 1, e :: es => e :: setEnt v k n es
structure WrK3 where
  f : Heap → AVal → AVal → AVal → OR
noncomputable def updateK (E : Env) (t : TypeId) : WrK3 :=
  match E.und t with
  | some (.map kt _) =>
    let q := keyOkK E kt
    ⟨fun h m k v => match m with
      | .map n => Option.casesOn (q.f k k) .fail fun _ => match (h.at n).obj with
        | .map es cl => Option.casesOn (findA k es 0) .fail fun r =>
            Option.casesOn r (.ok undefA (h.setObj n (.map (es ++ [⟨k, v, cl⟩]) (cl + 1)))) fun p => .ok undefA (h.setObj n (.map (setEnt v k p.1 es) cl))
        | _ => .fail
      | _ => .fail⟩
  | _ => ⟨fun _ _ _ _ => .fail⟩
def eraseEnt : Nat → List MEnt → List MEnt
  | _, [] => []
  | 0, _ :: es => es
  | n + 1, e :: es => e :: eraseEnt n es
noncomputable def deleteK (E : Env) (ts : List TypeId) : WrK2 :=
  match ts with
  | t :: _ => match E.und t with
    | some (.map kt _) =>
      let q := keyOkK E kt
      ⟨fun h m k => match m with
      | .map n => Option.casesOn (q.f k k) .fail fun _ => match (h.at n).obj with
        | .map es cl => Option.casesOn (findA k es 0) .fail fun r =>
            Option.casesOn r (.ok undefA (h.setObj n (.map es cl))) fun p => .ok undefA (h.setObj n (.map (eraseEnt p.1 es) cl))
        | _ => .fail
      | _ => .fail⟩
    | _ => ⟨fun _ _ _ => .fail⟩
  | _ => ⟨fun _ _ _ => .fail⟩
noncomputable def methodA (E : Env) (t : TypeId) (name : String) : Option FuncId :=
  match E.ty t, E.und t with
  | some i, some d => match i.methods.toList.find? (fun m => m.name == name) with
    | some m => match m.path.toList, m.func, d with
      | [], some (f, true), .pointer _ => some f
      | [], some (_, false), .pointer _ => none
      | [], some (f, false), _ => some f
      | _, _, _ => none
    | none => none
  | _, _ => none
/-- The functions without a body that the model answers itself. -/
noncomputable def externA (name origin : String) (args : List AVal) : Option AVal :=
  cond (name == "internal/bytealg.IndexByteString" && origin == "")
  (match args with
  | [.str s, .int .u8 (.ofNat c)] => intOut .i64 (Lib.indexByte s (Nat.toUInt8 c))
  | _ => none) none
structure FnK where
  f : Heap → List AVal → OR
noncomputable def callFnK (E : Env) (f : FuncId) : FnK :=
  match E.fns.get none (pos f) with
  | some fn => match fn.body with
    | some _ => cond (fn.name == "runtime.NumGoroutine") ⟨fun _ _ => .fail⟩ ⟨fun _ args => .call f args⟩
    | none => let nm := fn.name; let og := fn.origin; ⟨fun h args => Option.casesOn (externA nm og args) .fail fun v => .ok v h⟩
  | none => ⟨fun _ _ => .fail⟩

/-! ### The four kinds of operations -/
inductive OpK where
  | pu (f : Tm → Option AVal)
  | rd (f : Tm → Heap → Option AVal)
  | nw (f : Tm → Option (AObj × Mk))
  | wr (f : Tm → Heap → OR)
def OpK.bad : OpK := .pu fun _ => none
noncomputable def on1 (E : Env) (f : AVal → Option AVal) (x : Operand) : OpK := let s := srcK E x; .pu fun tm => f (s.g tm)
noncomputable def on2 (E : Env) (f : AVal → AVal → Option AVal) (x y : Operand) : OpK := let s := srcK E x; let r := srcK E y; .pu fun tm => f (s.g tm) (r.g tm)
noncomputable def convertK (E : Env) (s d : TypeId) (x : Operand) : OpK :=
  match E.und s, E.und d with
  | some (.slice e), some .string => match E.und e with
    | some (.int .u8) => let s := srcK E x; .rd fun tm h => match s.g tm with
      | .slcNil => some (.str [])
      | .slc n off len _ => Option.casesOn (h.loadN n off len) none fun l => Option.casesOn (bytesOf l) none fun s => some (.str s)
      | _ => none
    | _ => .bad
  | some .string, some (.slice e) => match E.und e with
    | some (.int .u8) => let s := srcK E x; .wr fun tm h => match s.g tm with
      | .str l => forceN l.length fun n => .ok (.slc h.nx 0 n (.rest 0)) (h.new (.cells (byteVals l) e 1))
      | _ => .fail
    | _ => .bad
  | some _, some (.int k) => on1 E (fun v => match v with
    | .int _ n => intOut k (wrapA k n)
    | _ => none) x
  | some _, some .string => on1 E (fun v => match v with
    | .int _ n => some (.str (Utf8.encode n).data.toList)
    | .str l => some (.str l)
    | _ => none) x
  | _, _ => .bad
noncomputable def builtinK (E : Env) (b : Builtin) (args : List Operand) (ts : List TypeId) : OpK :=
  match b, args with
  | .len, [x] => match ts with
    | t :: _ => match E.und t with
      | some .string => on1 E (fun v => match v with
        | .str s => forceN s.length fun k => some (.int .i64 (.ofNat k))
        | _ => none) x
      | some (.slice _) => on1 E (fun v => match v with
        | .slcNil => some (.int .i64 (.ofNat 0))
        | .slc _ _ n _ => some (.int .i64 (.ofNat n))
        | _ => none) x
      | some (.map _ _) => let s := srcK E x; .rd fun tm h => Option.casesOn (entries h (s.g tm)) none fun es => forceN es.length fun k => some (.int .i64 (.ofNat k))
      | _ => .bad
    | _ => .bad
  | .cap, [x] => match ts with
    | t :: _ => match E.und t with
      | some (.slice _) => on1 E capA x
      | _ => .bad
    | _ => .bad
  | .max, x :: l => let s := srcK E x; let ss := srcsK E l; .pu fun tm => mnmx true (srcsG ss tm) (s.g tm)
  | .min, x :: l => let s := srcK E x; let ss := srcsK E l; .pu fun tm => mnmx false (srcsG ss tm) (s.g tm)
  | .append, [x, y] => let s := srcK E x; let r := srcK E y; let k := appendK E ts; .wr fun tm h => k.f h (s.g tm) (r.g tm)
  | .copy, [x, y] => let s := srcK E x; let r := srcK E y; let k := copyK E ts; .wr fun tm h => k.f h (s.g tm) (r.g tm)
  | .delete, [x, y] => let s := srcK E x; let r := srcK E y; let k := deleteK E ts; .wr fun tm h => k.f h (s.g tm) (r.g tm)
  | _, _ => .bad
noncomputable def callK (E : Env) (c : Call) : OpK :=
  match c.callee with
  | .value (.func f) =>
    let ss := srcsK E c.args.toList
    let k := callFnK E f
    .wr fun tm h => k.f h (srcsG ss tm)
  | .value x =>
    let s := srcK E x
    let ss := srcsK E c.args.toList
    .wr fun tm h => match s.g tm with
      | .func (.func f) first captured => (callFnK E f).f h (appA first (appA (srcsG ss tm) captured))
      | _ => .fail
  | .invoke r name =>
    let s := srcK E r
    let ss := srcsK E c.args.toList
    .wr fun tm h => match s.g tm with
      | .iface t v => Option.casesOn (methodA E t name) .fail fun f => (callFnK E f).f h (v :: srcsG ss tm)
      | _ => .fail
  | .builtin b => builtinK E b c.args.toList c.argTypes.toList
noncomputable def opK0 (E : Env) (o : Op) : OpK :=
  match o with
  | .move x => let s := srcK E x; .pu fun tm => some (s.g tm)
  | .assign x => let s := srcK E x; .pu fun tm => some (s.g tm)
  | .pick c a b => let s := srcK E c; let x := srcK E a; let y := srcK E b; .pu fun tm => match s.g tm with
    | .bool c => cond c (some (x.g tm)) (some (y.g tm))
    | _ => none
  | .build t parts => let k := buildK E t parts; .pu k.f
  | .nilCheck x => on1 E nilCheckA x
  | .unOp op _ x => on1 E (unA op) x
  | .binOp op t x y _ => let k := binK E op t (isK x || isK y); on2 E k.f x y
  | .convert s d x => convertK E s d x
  | .makeInterface t x => let k := makeIfaceK E t; on1 E k.f x
  | .makeFunc (.func f) a b => let x := srcsK E a.toList; let y := srcsK E b.toList; .pu fun tm => some (.func (.func f) (srcsG x tm) (srcsG y tm))
  | .fieldAddr t x f => let k := fieldAddrK E t f; on1 E k.f x
  | .field t x f => let k := fieldK E t f; on1 E k.f x
  | .indexAddr t x i => let k := indexAddrK E t; on2 E k.f x i
  | .index t x i => let k := indexK E t; on2 E k.f x i
  | .typeAssert x _ t ok => let k := typeAssertK E t ok; on1 E k.f x
  | .extract t i => let s := srcK E t; .pu fun tm => match s.g tm with
    | .tup l => nth i l
    | _ => none
  | .load t x => let k := loadK E t; let s := srcK E x; .rd fun tm h => k.f h (s.g tm)
  | .lookup t x i ok => let k := lookupK E t ok; let s := srcK E x; let r := srcK E i; .rd fun tm h => k.f h (s.g tm) (r.g tm)
  | .slice t x lo hi mx => cond (mx.isNone || hi.isSome) (let k := sliceK E t; let s := srcK E x; .rd fun tm h => k.f h (s.g tm) (srcO E lo tm) (srcO E hi tm) (srcO E mx tm)) .bad
  | .alloc e => match E.zero e with
    | some z => let ob := AObj.cells z.cells e z.cells.length; .nw fun _ => some (ob, .ptr)
    | none => .bad
  | .box e x => let s := srcK E x; .nw fun tm => let c := (s.g tm).cells; some (.cells c e c.length, .ptr)
  | .buildSlice t len parts => match E.und t with
    | some (.slice e) => match E.size e, zerosOf E e len with
      | some s, some z =>
        let ps := partsK E parts
        cond (Nat.ble (Nat.mul len s) 16777216)
          (.nw fun tm => Option.casesOn (fillA (fun i => some (Nat.mul i s, s)) ps tm z) none fun l => some (.cells l e s, .slc len len)) .bad
      | _, _ => .bad
    | _ => .bad
  | .makeMap _ none => .nw fun _ => some (.map [] 0, .map)
  | .makeSlice t l c => match E.und t with
    | some (.slice e) => match E.ty e with
      | some i =>
        let sl := srcK E l
        let sc := srcK E c
        let bytes := i.bytes
        let size := i.size
        .nw fun tm => natOf (sl.g tm) none fun l => natOf (sc.g tm) none fun c =>
          cond (Nat.ble l c && (Nat.ble (Nat.mul c bytes) 1099511627776 && Nat.ble c 1099511627776))
            (Option.casesOn (zerosOf E e c) none fun z => some (.cells z e size, .slc l c)) none
      | none => .bad
    | _ => .bad
  | .store t a x => match E.size t with
    | some k => let s := srcK E a; let r := srcK E x; .wr fun tm h => match s.g tm with
      | .ptr n off => let v := r.g tm; cond (Nat.beq v.cells.length k) (okU (h.store n off v.cells)) .fail
      | _ => .fail
    | none => .bad
  | .mapUpdate t m k v => let u := updateK E t; let a := srcK E m; let b := srcK E k; let c := srcK E v; .wr fun tm h => u.f h (a.g tm) (b.g tm) (c.g tm)
  | .insert t m k v => let u := updateK E t; let a := srcK E m; let b := srcK E k; let c := srcK E v; .wr fun tm h => u.f h (a.g tm) (b.g tm) (c.g tm)
  | .call c => callK E c
  | .range t x => match E.und t with
    | some (.map _ _) => let s := srcK E x; .wr fun tm h => match s.g tm with
      | .mapNil => .ok (.ptr h.nx 0) (h.new (.mit none))
      | .map n => match (h.at n).obj with
        | .map _ _ => .ok (.ptr h.nx 0) (h.new (.mit (some n)))
        | _ => .fail
      | _ => .fail
    | some .string => let s := srcK E x; .wr fun tm h => match s.g tm with
      | .str l => .ok (.ptr h.nx 0) (h.new (.sit l 0))
      | _ => .fail
    | _ => .bad
  | .next it false => let s := srcK E it; .wr fun tm h => match s.g tm with
      | .ptr n 0 => match (h.at n).obj with
        | .mit none => .ok (.tup [.bool false]) h
        | .mit (some m) => match (h.at m).obj with
          | .map [] _ => .ok (.tup [.bool false]) h
          | _ => .fail
        | _ => .fail
      | _ => .fail
  | .next it true => let s := srcK E it; .wr fun tm h => match s.g tm with
      | .ptr n 0 => match (h.at n).obj with
        | .sit l p => Option.casesOn (nthB p l) (.ok (.tup [.bool false]) h) fun b =>
            cond (Nat.blt b.toNat 128)
              (forceN (Nat.succ p) fun q => forceN b.toNat fun c => .ok (.tup [.bool true, .int .i64 (.ofNat p), .int .i32 (.ofNat c)]) (h.setObj n (.sit l q))) .fail
        | _ => .fail
      | _ => .fail
  | _ => .bad
/-! ### Facts on symbols -/
noncomputable def lookF (c : FOp) (a b : AVal) : List Fact → Option AVal := fun l => List.rec none
  (fun F _ ih => cond (F.op.eqb c) (cond (F.a.eqb a) (cond (F.b.eqb b) (some F.r) ih) ih) ih) l
/-- The operation of a fact, and its operands. -/
noncomputable def fkey (E : Env) (o : Op) : Option (FOp × Operand × Operand) :=
  match o with
  | .binOp op _ x y _ => some (.bin op, x, y)
  | .unOp .neg _ x => some (.neg, x, x)
  | .convert s d x => match E.und s, E.und d with
    | some (.int _), some (.int k) => some (.conv k, x, x)
    | _, _ => none
  | .call c => match c.callee, c.args.toList with
    | .builtin .max, [x, y] => some (.mx true, x, y)
    | .builtin .min, [x, y] => some (.mx false, x, y)
    | _, _ => none
  | _ => none
/-- The length of a slice that is an atom. -/
noncomputable def lkey (E : Env) (o : Op) : Option Operand :=
  match o with
  | .call c => match c.callee, c.args.toList, c.argTypes.toList with
    | .builtin .len, [x], t :: _ => match E.und t with
      | some (.slice _) => some x
      | _ => none
    | _, _, _ => none
  | _ => none
noncomputable def atomLen (E : Env) (h : Heap) (v : AVal) : Option AVal := match v with
  | .atom n => match (h.at n).obj with
    | .vat id => E.gl.len id
    | _ => none
  | _ => none
noncomputable def augK (E : Env) (o : Op) (k : OpK) : OpK :=
  match k with
  | .pu f => match fkey E o with
    | some (c, x, y) => let s := srcK E x; let r := srcK E y; .pu fun tm => Option.casesOn (f tm) (lookF c (s.g tm) (r.g tm) E.facts) some
    | none => match lkey E o with
      | some x => let s := srcK E x; .rd fun tm h => Option.casesOn (f tm) (atomLen E h (s.g tm)) some
      | none => .pu f
  | k => k
noncomputable def opK (E : Env) (o : Op) : OpK := match E.facts with
  | [] => opK0 E o
  | _ :: _ => augK E o (opK0 E o)
end Go.Ev

namespace Go.Ev

/-! ### Code -/
inductive Out where
  | normal | ret | exit (id : Nat)
  deriving Inhabited
inductive CR where
  | ok (o : Out) (tm : Tm) (h : Heap)
  | fail
  deriving Inhabited
inductive VR where
  | ok (v : AVal) (h : Heap)
  | fail
  deriving Inhabited
structure CK where
  f : (FuncId → List AVal → Heap → VR) → Tm → Heap → CR
def CK.bad : CK := ⟨fun _ _ _ => .fail⟩

noncomputable def putK (nt : Nat) (d : Option Tmp) : Option PutK :=
  match d with
  | none => some ⟨fun _ tm => tm⟩
  | some d => cond (Nat.blt d nt) (some (setK d)) none
/-- Is the operation carried out? -/
structure WantK where
  f : Tm → Option Bool
noncomputable def wantK (all : List Oper) (g : Option (Nat × Bool)) : Option WantK :=
  match g with
  | none => none
  | some (j, b) => match all[j]? with
    | some o => match o.dst with
      | some d => some ⟨fun tm => match tget d tm with
        | .bool c => some (boolEqb c b)
        | .tup _ => some false
        | _ => none⟩
      | none => some ⟨fun _ => none⟩
    | none => some ⟨fun _ => none⟩
/-- One operation in its place: what follows is handed the value and the memory. -/
noncomputable def carry (k : OpK) (cf : (FuncId → List AVal → Heap → VR)) (tm : Tm) (h : Heap) (next : AVal → Heap → CR) : CR :=
  match k with
  | .pu f => Option.casesOn (f tm) .fail fun v => next v h
  | .rd f => Option.casesOn (f tm h) .fail fun v => next v h
  | .nw f => Option.casesOn (f tm) .fail fun p => next (p.2.mk h.nx) (h.new p.1)
  | .wr f => OR.casesOn (f tm h) next (fun g args => VR.casesOn (cf g args h) next .fail) .fail
noncomputable def stepK (w : Option WantK) (k : OpK) (p : PutK) (rest : CK) : CK :=
  match w, k with
  | none, .pu f => ⟨fun cf tm h => Option.casesOn (f tm) .fail fun v => rest.f cf (p.f v tm) h⟩
  | none, .rd f => ⟨fun cf tm h => Option.casesOn (f tm h) .fail fun v => rest.f cf (p.f v tm) h⟩
  | none, k => ⟨fun cf tm h => carry k cf tm h fun v h => rest.f cf (p.f v tm) h⟩
  | some w, k => ⟨fun cf tm h => Option.casesOn (w.f tm) .fail fun b =>
      cond b (carry k cf tm h fun v h => rest.f cf (p.f v tm) h) (rest.f cf (p.f undefA tm) h)⟩
noncomputable def opsK (E : Env) (nt : Nat) (all : List Oper) : List Oper → CK
  | [] => ⟨fun _ tm h => .ok .normal tm h⟩
  | o :: rest => match putK nt o.dst with
    | some p => stepK (wantK all o.guard) (opK E o.op) p (opsK E nt all rest)
    | none => .bad

/-! A region whose order is drawn. -/
def binding (e : Edge) : Bool := match e.ground with
  | .gcOnly _ => false
  | .textOnly _ => false
  | _ => true
def edgeMask (acc : List Nat) (s : Nat) (e : Edge) : Nat := cond (binding e) (Nat.lor s (Nat.lor (Nat.pow 2 e.on) (acc.getD e.on 0))) s
def beforesFrom : List Oper → List Nat → List Nat
  | [], acc => acc
  | o :: l, acc => beforesFrom l (acc ++ [o.after.toList.foldl (edgeMask acc) 0])
def befores (l : List Oper) : List Nat := beforesFrom l []
/-! Which temporaries an operation reads and writes. -/
def tmask : Operand → Nat
  | .tmp t => Nat.pow 2 t
  | _ => 0
def dstMask : Option Tmp → Nat
  | some d => Nat.pow 2 d
  | none => 0
def guardMask (all : List Oper) : Option (Nat × Bool) → Nat
  | some (j, _) => match all[j]? with
    | some o => dstMask o.dst
    | none => 0
  | none => 0
def readsMask : List Operand → Nat → Nat
  | [], s => s
  | x :: l, s => readsMask l (Nat.lor s (tmask x))
structure RW where
  ix : Nat
  rd : Nat
  wr : Nat
def apartFrom (rd wr pre : Nat) : List RW → Bool
  | [] => true
  | x :: l => cond (Nat.beq (Nat.lor (Nat.land x.wr (Nat.lor rd wr)) (Nat.land wr x.rd)) 0) (apartFrom rd wr pre l) (Nat.testBit pre x.ix && apartFrom rd wr pre l)
def tempsOk (all : List Oper) : List Oper → List Nat → Nat → List RW → Bool
  | [], [], _, _ => true
  | o :: l, pre :: ps, i, acc =>
    Nat.blt pre (Nat.pow 2 i) && (apartFrom (readsMask o.op.operands.toList (guardMask all o.guard)) (dstMask o.dst) pre acc &&
      tempsOk all l ps (Nat.succ i) (⟨i, readsMask o.op.operands.toList (guardMask all o.guard), dstMask o.dst⟩ :: acc))
  | _, _, _, _ => false
structure Held where
  ix : Nat
  f : Heap → Option AVal
  v : AVal
structure Pend where
  ix : Nat
  n : Pos
  ob : AObj
structure DS where
  tm : Tm
  h : Heap
  hist : List (Nat × Heap)
  chain : Nat
  held : List Held
  fls : List Pend
noncomputable def same? (o : Option AVal) (v : AVal) : Bool := match o with
  | some u => u.eqb v
  | none => false
noncomputable def stillHeld (pre : Nat) (h : Heap) : List Held → Bool
  | [] => true
  | x :: l => cond (Nat.testBit pre x.ix) true (same? (x.f h) x.v) && stillHeld pre h l
noncomputable def backHeld (pre : Nat) (nx : Pos) (f : Heap → Option AVal) (v : AVal) : List (Nat × Heap) → Bool
  | [] => true
  | (c, h) :: l => cond (Nat.testBit pre c) true (same? (f ⟨h.t, nx, h.al, h.df⟩) v && backHeld pre nx f v l)
noncomputable def Pos.num : Pos → Nat := fun p => Pos.rec (motive := fun _ => Nat) 1 (fun _ ih => Nat.mul 2 ih) (fun _ ih => Nat.succ (Nat.mul 2 ih)) p
noncomputable def Heap.lay (h : Heap) (p : Pend) : Heap := match (h.at p.n).obj with
  | .free => ⟨h.put p.n ⟨p.ob, p.n⟩, h.nx, h.al, h.df⟩
  | _ => h
noncomputable def layFrees (pre : Nat) : List Pend → Heap → Heap
  | [], h => h
  | p :: l, h => cond (Nat.testBit pre p.ix) (layFrees pre l (h.lay p)) (layFrees pre l h)
noncomputable def layK {R : Type} (pre : Nat) (k : Heap → R) : List Pend → Heap → R
  | [], h => k h
  | p :: l, h => cond (Nat.testBit pre p.ix) (layK pre k l (h.lay p)) (layK pre k l h)
structure DK where
  f : (FuncId → List AVal → Heap → VR) → DS → Option DS
noncomputable def drawGo (i pre : Nat) (k : OpK) (p : PutK) : (FuncId → List AVal → Heap → VR) → DS → Option DS := match k with
    | .pu f => fun _ s => Option.casesOn (f s.tm) none fun v => some ⟨p.f v s.tm, s.h, s.hist, s.chain, s.held, s.fls⟩
    | .nw f => fun _ s => Option.casesOn (f s.tm) none fun q =>
        some ⟨p.f (q.2.mk s.h.nx) s.tm, ⟨s.h.t, s.h.nx.succ, s.h.al, s.h.df⟩, s.hist, s.chain, s.held, ⟨i, s.h.nx, q.1⟩ :: s.fls⟩
    | .rd f => fun _ s =>
        let g : Heap → Option AVal := layK pre (f s.tm) s.fls
        Option.casesOn (g s.h) none fun v =>
          cond (backHeld pre s.h.nx g v s.hist) (some ⟨p.f v s.tm, s.h, s.hist, s.chain, ⟨i, g, v⟩ :: s.held, s.fls⟩) none
    | .wr f => fun cf s => cond (Nat.beq (Nat.land s.chain pre) s.chain)
        (layK pre (fun h =>
          let next : AVal → Heap → Option DS := fun v h' => cond (stillHeld pre h' s.held && Nat.ble h.nx.num h'.nx.num) (some ⟨p.f v s.tm, h', (i, s.h) :: s.hist, Nat.lor s.chain (Nat.pow 2 i), s.held, s.fls⟩) none
          OR.casesOn (f s.tm h) next (fun g args => VR.casesOn (cf g args h) next none) none) s.fls s.h) none
noncomputable def drawK (i pre : Nat) (w : Option WantK) (k : OpK) (p : PutK) : DK :=
  let go := drawGo i pre k p
  match w with
  | none => ⟨go⟩
  | some w => ⟨fun cf s => Option.casesOn (w.f s.tm) none fun b => cond b (go cf s) (some ⟨p.f undefA s.tm, s.h, s.hist, s.chain, s.held, s.fls⟩)⟩
noncomputable def drawOpsK (E : Env) (nt : Nat) (all : List Oper) : List Oper → List Nat → Nat → DK
  | o :: l, pre :: ps, i => match putK nt o.dst with
    | some p =>
      let a := drawK i pre (wantK all o.guard) (opK E o.op) p
      let r := drawOpsK E nt all l ps (i + 1)
      ⟨fun cf s => Option.casesOn (a.f cf s) none fun s => r.f cf s⟩
    | none => ⟨fun _ _ => none⟩
  | [], [], _ => ⟨fun _ s => some s⟩
  | _, _, _ => ⟨fun _ _ => none⟩
noncomputable def regionK (E : Env) (nt : Nat) (all : List Oper) : CK :=
  match tempsOk all all (befores all) 0 [] with
  | true =>
    let d := drawOpsK E nt all all (befores all) 0
    let pre := Nat.sub (Nat.pow 2 all.length) 1
    ⟨fun cf tm h => Option.casesOn (d.f cf ⟨tm, h, [], 0, [], []⟩) .fail fun s => layK pre (fun h => .ok .normal s.tm h) s.fls s.h⟩
  | false => .bad

noncomputable def loopGo (body : CK) (cf : (FuncId → List AVal → Heap → VR)) : Nat → Tm → Heap → CR := fun n => Nat.rec (motive := fun _ => Tm → Heap → CR)
  (fun _ _ => .fail)
  (fun _ ih tm h => CR.casesOn (body.f cf tm h) (fun o tm h => Out.casesOn o (ih tm h) (.ok .ret tm h) (fun id => .ok (.exit id) tm h)) .fail) n
noncomputable def codeK (E : Env) (nt : Nat) : Code → CK
  | .skip => ⟨fun _ tm h => .ok .normal tm h⟩
  | .label _ => ⟨fun _ tm h => .ok .normal tm h⟩
  | .ret => ⟨fun _ tm h => .ok .ret tm h⟩
  | .exit id => ⟨fun _ tm h => .ok (.exit id) tm h⟩
  | .seq a b =>
    let x := codeK E nt a
    let y := codeK E nt b
    ⟨fun cf tm h => CR.casesOn (x.f cf tm h) (fun o tm h => Out.casesOn o (y.f cf tm h) (.ok .ret tm h) (fun id => .ok (.exit id) tm h)) .fail⟩
  | .cond c a b =>
    let s := srcK E c
    let x := codeK E nt a
    let y := codeK E nt b
    ⟨fun cf tm h => match s.g tm with
      | .bool b => cond b (x.f cf tm h) (y.f cf tm h)
      | _ => .fail⟩
  | .block id a =>
    let x := codeK E nt a
    ⟨fun cf tm h => CR.casesOn (x.f cf tm h) (fun o tm h => Out.casesOn o (.ok .normal tm h) (.ok .ret tm h) (fun j => cond (Nat.beq j id) (.ok .normal tm h) (.ok (.exit j) tm h))) .fail⟩
  | .loop a =>
    let x := codeK E nt a
    ⟨fun cf tm h => loopGo x cf 1000000 tm h⟩
  | .scope a => codeK E nt a
  | .region _ ops draw => match draw with
    | true => regionK E nt ops.toList
    | false => opsK E nt ops.toList ops.toList
  | .rangeFunc f _ _ _ =>
    let s := srcK E f
    ⟨fun cf tm h => match s.g tm with
      | .func (.func f) first captured =>
        let d := h.nx
        let h1 := h.new .defN
        let l := h1.nx
        let h2 := h1.new .loopR
        match (callFnK E f).f h2 (appA first (.yld l :: captured)) with
        | .call f args => match cf f args h2 with
          | .ok _ h3 => match (h3.at l).obj with
            | .loopR => let h4 := h3.setObj l .other; .ok .normal tm ⟨h4.t, h4.nx, h4.al, d :: h4.df⟩
            | _ => .fail
          | .fail => .fail
        | _ => .fail
      | _ => .fail⟩
  | _ => .bad

structure ResK where
  f : Tm → Heap → Option (List AVal)
noncomputable def resK (E : Env) : List ResultVar → ResK
  | [] => ⟨fun _ _ => some []⟩
  | .tmp t :: l => let r := resK E l; ⟨fun tm h => Option.casesOn (r.f tm h) none fun x => some (tget t tm :: x)⟩
  | .cell a t :: l => let r := resK E l; let k := loadK E t; ⟨fun tm h => Option.casesOn (k.f h (tget a tm)) none fun v => Option.casesOn (r.f tm h) none fun x => some (v :: x)⟩
def oneOrTup : List AVal → AVal
  | [v] => v
  | l => .tup l
noncomputable def layArgs : List AVal → Nat → Tm → Tm
  | [], _, tm => tm
  | v :: l, k, tm => layArgs l (Nat.succ k) ((setK k).f v tm)
noncomputable def undefer : List Pos → Heap → Option Heap
  | [], h => some h
  | d :: l, h => match (h.at d).obj with
    | .defN => undefer l (h.setObj d .other)
    | _ => none
structure FunK where
  f : (FuncId → List AVal → Heap → VR) → List AVal → Heap → VR
noncomputable def funK (E : Env) (f : FuncId) : FunK :=
  match E.fns.get none (pos f) with
  | some fn =>
    match fn.body with
    | some c =>
      let nt := fn.ntmps
      let b := codeK E nt c
      let r := resK E fn.results.toList
      ⟨fun cf args h => cond (Nat.ble args.length nt)
        (CR.casesOn (b.f cf (layArgs args 0 tm0) ⟨h.t, h.nx, h.al, []⟩)
          (fun o tm h' => Out.casesOn o
            (Option.casesOn (undefer h'.df h') .fail fun h' => Option.casesOn (r.f tm h') .fail fun l => .ok (oneOrTup l) ⟨h'.t, h'.nx, h'.al, h.df⟩)
            (Option.casesOn (undefer h'.df h') .fail fun h' => Option.casesOn (r.f tm h') .fail fun l => .ok (oneOrTup l) ⟨h'.t, h'.nx, h'.al, h.df⟩)
            (fun _ => .fail)) .fail) .fail⟩
    | none => ⟨fun _ _ _ => .fail⟩
  | none => ⟨fun _ _ _ => .fail⟩
noncomputable def callG (E : Env) : Nat → (FuncId → List AVal → Heap → VR) := fun n => Nat.rec (motive := fun _ => (FuncId → List AVal → Heap → VR))
  (fun _ _ _ => .fail)
  (fun _ ih f args h => (funK E f).f ih args h) n

noncomputable def Env.sy (P : Program) (G : Tabs) (F : List Fact) : Env :=
  { tys := .ofList none (P.types.toList.map some), fns := .ofList none (P.funcs.toList.map some), gl := G, facts := F, gt := fun t => !P.stoodInHeld t && !P.eqGuardType P.depth t }
noncomputable def Env.of (P : Program) (G : Tabs) : Env := Env.sy P G []
noncomputable def emptyHeap (n : Nat) : Heap := { t := .leaf, nx := pos n, al := .leaf, df := [] }
end Go.Ev
