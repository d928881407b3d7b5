/- The evaluator of closed calls, part Ea: what the program computes on given inputs, read by the kernel; sound in every world (part Gh). -/
import Derived.OrdersHeld
set_option linter.unusedVariables false
set_option linter.unusedSimpArgs false
set_option linter.unnecessarySimpa false
namespace Go.Ev

/-! ### Names and trees -/
inductive Pos where
  | one | o (p : Pos) | i (p : Pos)
  deriving DecidableEq, Inhabited
def Pos.succ : Pos → Pos
  | .one => .o .one
  | .o p => .i p
  | .i p => .o p.succ
noncomputable def Pos.eqb : Pos → Pos → Bool := fun p => Pos.rec (motive := fun _ => Pos → Bool)
  (fun q => Pos.casesOn q true (fun _ => false) (fun _ => false))
  (fun _ ih q => Pos.casesOn q false (fun q => ih q) (fun _ => false))
  (fun _ ih q => Pos.casesOn q false (fun _ => false) (fun q => ih q)) p
noncomputable def Pos.ofM : Nat → Nat → Pos := fun f => Nat.rec (motive := fun _ => Nat → Pos)
  (fun _ => .one)
  (fun _ ih m => cond (Nat.ble m 1) .one (cond (Nat.beq (Nat.mod m 2) 0) (.o (ih (Nat.div m 2))) (.i (ih (Nat.div m 2))))) f
noncomputable def pos (n : Nat) : Pos := Pos.ofM (Nat.succ n) (Nat.succ n)

inductive DTree (α : Type) where
  | leaf
  | node (l : DTree α) (v : α) (r : DTree α)
  deriving Inhabited
namespace DTree
variable {α : Type}
noncomputable def get (d : α) : Pos → DTree α → α := fun p => Pos.rec (motive := fun _ => DTree α → α)
  (fun t => DTree.casesOn t d (fun _ v _ => v))
  (fun _ ih t => DTree.casesOn t d (fun l _ _ => ih l))
  (fun _ ih t => DTree.casesOn t d (fun _ _ r => ih r)) p
noncomputable def set (d : α) (x : α) : Pos → DTree α → DTree α := fun p => Pos.rec (motive := fun _ => DTree α → DTree α)
  (fun t => DTree.casesOn t (.node .leaf x .leaf) (fun l _ r => .node l x r))
  (fun _ ih t => DTree.casesOn t (.node (ih .leaf) d .leaf) (fun l v r => .node (ih l) v r))
  (fun _ ih t => DTree.casesOn t (.node .leaf d (ih .leaf)) (fun l v r => .node l v (ih r))) p
noncomputable def ofListFrom (d : α) : List α → Nat → DTree α → DTree α
  | [], _, t => t
  | x :: l, k, t => ofListFrom d l (k + 1) (t.set d x (pos k))
noncomputable def ofList (d : α) (l : List α) : DTree α := ofListFrom d l 0 .leaf
end DTree

/-! ### Values -/
inductive Cap where
  | exact (c : Nat)
  | rest (d : Nat)
  deriving DecidableEq, Inhabited
inductive AVal where
  | int (k : IntKind) (n : Int)
  | bool (b : Bool)
  | ptr (n : Pos) (off : Nat)
  | slc (n : Pos) (off len : Nat) (cap : Cap)
  | str (s : List UInt8)
  | agg (l : List AVal)
  | tup (l : List AVal)
  | ptrNil
  | slcNil
  | mapNil
  | map (n : Pos)
  | func (fn : Fn) (first captured : List AVal)
  | nilFunc
  | iface (t : TypeId) (v : AVal)
  | nilIface
  | yld (n : Pos)
  | opq (v : Value)
  deriving Inhabited
mutual
def AVal.ofValue : Value → AVal
  | .bool b => .bool b
  | .int k n => .int k n
  | .string s => .str s.data.toList
  | .pointer none => .ptrNil
  | .slice none 0 0 => .slcNil
  | .map none => .mapNil
  | .nilFunc => .nilFunc
  | .nilIface => .nilIface
  | .agg ⟨cs⟩ => .agg (AVal.ofValues cs)
  | .tuple ⟨cs⟩ => .tup (AVal.ofValues cs)
  | v => .opq v
def AVal.ofValues : List Value → List AVal
  | [] => []
  | v :: l => AVal.ofValue v :: AVal.ofValues l
end
def AVal.cells : AVal → List AVal
  | .agg l => l
  | v => [v]
def Cap.eqb : Cap → Cap → Bool
  | .exact a, .exact b => Nat.beq a b
  | .rest a, .rest b => Nat.beq a b
  | _, _ => false
def ikNo : IntKind → Nat
  | .i8 => 0 | .i16 => 1 | .i32 => 2 | .i64 => 3 | .u8 => 4 | .u16 => 5 | .u32 => 6 | .u64 => 7
def ikEqb (a b : IntKind) : Bool := Nat.beq (ikNo a) (ikNo b)
def intEqb : Int → Int → Bool
  | .ofNat a, .ofNat b => Nat.beq a b
  | .negSucc a, .negSucc b => Nat.beq a b
  | _, _ => false
def boolEqb : Bool → Bool → Bool
  | true, b => b
  | false, b => match b with | true => false | false => true
noncomputable def bytesEqb : List UInt8 → List UInt8 → Bool := fun x => List.rec (motive := fun _ => List UInt8 → Bool)
  (fun y => List.casesOn y true (fun _ _ => false))
  (fun a _ ih y => List.casesOn y false (fun b y => cond (Nat.beq a.toNat b.toNat) (ih y) false)) x
mutual
noncomputable def AVal.eqb : AVal → AVal → Bool
  | .bool a, .bool b => boolEqb a b
  | .int k a, .int j b => ikEqb k j && intEqb a b
  | .str a, .str b => bytesEqb a b
  | .ptrNil, .ptrNil => true
  | .ptr n a, .ptr m b => n.eqb m && Nat.beq a b
  | .slcNil, .slcNil => true
  | .slc n a b c, .slc m d e f => n.eqb m && Nat.beq a d && Nat.beq b e && c.eqb f
  | .mapNil, .mapNil => true
  | .map n, .map m => n.eqb m
  | .nilFunc, .nilFunc => true
  | .nilIface, .nilIface => true
  | .agg x, .agg y => AVal.eqbs x y
  | .tup x, .tup y => AVal.eqbs x y
  | _, _ => false
noncomputable def AVal.eqbs : List AVal → List AVal → Bool
  | [], [] => true
  | a :: x, b :: y => AVal.eqb a b && AVal.eqbs x y
  | _, _ => false
end

/-! ### The heap -/
structure MEnt where
  key : AVal
  val : AVal
  born : Nat
  deriving Inhabited
inductive AObj where
  | free
  | cells (c : List AVal) (elem : TypeId) (esz : Nat)
  | map (es : List MEnt) (clock : Nat)
  | sit (s : List UInt8) (pos : Nat)
  | mit (m : Option Pos)
  | loopR
  | defN
  | other
  deriving Inhabited
structure Cell where
  obj : AObj
  rt : Pos
  deriving Inhabited
def noCell : Cell := ⟨.free, .one⟩
structure Heap where
  t : DTree Cell
  nx : Pos
  al : DTree (List Pos)
  df : List Pos
  deriving Inhabited
noncomputable def Heap.at (h : Heap) (n : Pos) : Cell := h.t.get noCell n
noncomputable def Heap.put (h : Heap) (n : Pos) (c : Cell) : DTree Cell := h.t.set noCell c n

noncomputable def nth : Nat → List AVal → Option AVal := fun n => Nat.rec (motive := fun _ => List AVal → Option AVal)
  (fun l => List.casesOn l none (fun x _ => some x))
  (fun _ ih l => List.casesOn l none (fun _ l => ih l)) n
noncomputable def dropA : Nat → List AVal → List AVal := fun n => Nat.rec (motive := fun _ => List AVal → List AVal)
  (fun l => l)
  (fun _ ih l => List.casesOn l [] (fun _ l => ih l)) n
noncomputable def takeA : Nat → List AVal → Option (List AVal) := fun n => Nat.rec (motive := fun _ => List AVal → Option (List AVal))
  (fun _ => some [])
  (fun _ ih l => List.casesOn l none (fun x l => Option.casesOn (ih l) none (fun r => some (x :: r)))) n
/-- vs over the first cells -/
noncomputable def overGo : List AVal → List AVal → Option (List AVal) := fun vs => List.rec (motive := fun _ => List AVal → Option (List AVal))
  (fun l => some l)
  (fun v _ ih l => List.casesOn l none (fun _ l => Option.casesOn (ih l) none (fun r => some (v :: r)))) vs
noncomputable def overA (vs : List AVal) : Nat → List AVal → Option (List AVal) := fun n => Nat.rec (motive := fun _ => List AVal → Option (List AVal))
  (fun l => overGo vs l)
  (fun _ ih l => List.casesOn l none (fun x l => Option.casesOn (ih l) none (fun r => some (x :: r)))) n
noncomputable def appA : List AVal → List AVal → List AVal := fun x => List.rec (motive := fun _ => List AVal → List AVal)
  (fun y => y) (fun a _ ih y => a :: ih y) x

def cellsOf {R : Type} (o : AObj) (no : R) (k : List AVal → TypeId → Nat → R) : R :=
  AObj.casesOn o no k (fun _ _ => no) (fun _ _ => no) (fun _ => no) no no no
noncomputable def Heap.load1 (h : Heap) (n : Pos) (off : Nat) : Option AVal := cellsOf (h.at n).obj none fun c _ _ => nth off c
noncomputable def Heap.loadN (h : Heap) (n : Pos) (off k : Nat) : Option (List AVal) := cellsOf (h.at n).obj none fun c _ _ => takeA k (dropA off c)
/-- The fellows of a class forget what lies at or behind 'off'. -/
noncomputable def forget (off : Nat) (but : Pos) : List Pos → DTree Cell → DTree Cell
  | [], t => t
  | m :: l, t =>
    cond (m.eqb but) (forget off but l t)
      (let c := t.get noCell m
       forget off but l (cellsOf c.obj t fun x e s => t.set noCell ⟨.cells (x.take off) e s, c.rt⟩ m))
def flat1 (v : AVal) : Bool := match v with
  | .agg _ => false
  | .tup _ => false
  | .opq _ => false
  | _ => true
noncomputable def flats : List AVal → Bool := fun l => List.rec true (fun v _ ih => cond (flat1 v) ih false) l
noncomputable def Heap.store (h : Heap) (n : Pos) (off : Nat) (vs : List AVal) : Option Heap :=
  let c := h.at n
  cellsOf c.obj none fun x e s =>
    Option.casesOn (cond (flats vs) (overA vs off x) none) none fun y =>
      List.casesOn (h.al.get [] c.rt) (some ⟨h.put n ⟨.cells y e s, c.rt⟩, h.nx, h.al, h.df⟩)
        (fun m l => some ⟨forget off n (m :: l) (h.put n ⟨.cells y e s, c.rt⟩), h.nx, h.al, h.df⟩)
noncomputable def Heap.new (h : Heap) (o : AObj) : Heap := ⟨h.put h.nx ⟨o, h.nx⟩, h.nx.succ, h.al, h.df⟩
noncomputable def Heap.setObj (h : Heap) (n : Pos) (o : AObj) : Heap := ⟨h.put n ⟨o, (h.at n).rt⟩, h.nx, h.al, h.df⟩
/-- A new name in the class of n (an append to a row whose room is not known): all fellows forget what lies at or behind 'off'. -/
noncomputable def Heap.again (h : Heap) (n : Pos) (off : Nat) (y : List AVal) (e : TypeId) (s : Nat) : Heap :=
  let r := (h.at n).rt
  let l := n :: h.al.get [] r
  ⟨(forget off h.nx l h.t).set noCell ⟨.cells y e s, r⟩ h.nx, h.nx.succ, h.al.set [] (h.nx :: l) r, h.df⟩

/-! ### Tables -/
/-- The package's tables: what the cells of a global variable hold, and go on holding. -/
@[reducible] def Tabs := Nat → Option (List Value)
structure Env where
  tys : DTree (Option TypeInfo)
  fns : DTree (Option Func)
  gl : Tabs
  gt : TypeId → Bool        -- '==' at a struct's type is plain
  deriving Inhabited
noncomputable def Env.ty (E : Env) (t : TypeId) : Option TypeInfo := E.tys.get none (pos t)
noncomputable def Env.und (E : Env) (t : TypeId) : Option TypeDesc :=
  match E.ty t with
  | some i => match i.desc with
    | .named _ u => match E.ty u with
      | some j => some j.desc
      | none => none
    | d => some d
  | none => none
noncomputable def Env.size (E : Env) (t : TypeId) : Option Nat := match E.ty t with | some i => some i.size | none => none
noncomputable def Env.zero (E : Env) (t : TypeId) : Option AVal :=
  match E.ty t with
  | some i => match i.zero with
    | some v => some (AVal.ofValue v)
    | none => none
  | none => none
noncomputable def Env.agg? (E : Env) (t : TypeId) : Option Bool :=
  match E.und t with
  | some (.struct _) => some true
  | some (.array _ _) => some true
  | some _ => some false
  | none => none
noncomputable def gname (g : Nat) : Pos := pos g

@[reducible] def Tm := DTree AVal
def undefA : AVal := .tup []
noncomputable def tget (t : Nat) (tm : Tm) : AVal := DTree.get undefA (pos t) tm
structure SrcK where
  g : Tm → AVal
noncomputable def srcK (E : Env) : Operand → SrcK
  | .tmp t => ⟨fun tm => DTree.get undefA (pos t) tm⟩
  | .const v => let u := AVal.ofValue v; ⟨fun _ => u⟩
  | .global g => let u : AVal := .opq (.pointer (some ⟨g, 0, none⟩)); ⟨fun _ => u⟩
  | .func f => ⟨fun _ => .func (.func f) [] []⟩
def srcsG : List SrcK → Tm → List AVal
  | [], _ => []
  | s :: l, tm => s.g tm :: srcsG l tm
noncomputable def srcsK (E : Env) (l : List Operand) : List SrcK := l.map (srcK E)

/-! ### Arithmetic -/
def half : IntKind → Nat
  | .i8 => 128 | .u8 => 256
  | .i16 => 32768 | .u16 => 65536
  | .i32 => 2147483648 | .u32 => 4294967296
  | .i64 => 9223372036854775808 | .u64 => 18446744073709551616
/-- The wrap, quick where nothing is to be done. -/
def wrapA (k : IntKind) (n : Int) : Int :=
  Int.casesOn n (fun m => cond (Nat.blt m (half k)) (.ofNat m) (k.wrap (.ofNat m))) (fun m => k.wrap (.negSucc m))
def ltA : Int → Int → Bool
  | .ofNat a, .ofNat b => Nat.blt a b
  | .negSucc _, .ofNat _ => true
  | .ofNat _, .negSucc _ => false
  | .negSucc a, .negSucc b => Nat.blt b a
def addA : Int → Int → Int
  | .ofNat a, .ofNat b => .ofNat (Nat.add a b)
  | x, y => x + y
def subA : Int → Int → Int
  | .ofNat a, .ofNat b => cond (Nat.ble b a) (.ofNat (Nat.sub a b)) (.negSucc (Nat.sub (Nat.sub b a) 1))
  | x, y => x - y
def mulA : Int → Int → Int
  | .ofNat a, .ofNat b => .ofNat (Nat.mul a b)
  | x, y => x * y
def quoA : Int → Int → Int
  | .ofNat a, .ofNat b => .ofNat (Nat.div a b)
  | x, y => x.tdiv y
def remA : Int → Int → Int
  | .ofNat a, .ofNat b => .ofNat (Nat.mod a b)
  | x, y => x.tmod y
/-- Forced to a numeral. -/
def forceN {α : Type} (n : Nat) (k : Nat → α) : α := Nat.casesOn n (k 0) (fun m => k (Nat.succ m))
def intOut (k : IntKind) (n : Int) : Option AVal :=
  Int.casesOn n (fun m => Nat.casesOn m (some (.int k (.ofNat 0))) (fun m => some (.int k (.ofNat (Nat.succ m)))))
    (fun m => Nat.casesOn m (some (.int k (.negSucc 0))) (fun m => some (.int k (.negSucc (Nat.succ m)))))
def bothNat (x y : Int) (k : Nat → Nat → Option AVal) : Option AVal :=
  Int.casesOn x (fun a => Int.casesOn y (fun b => k a b) (fun _ => none)) (fun _ => none)
structure IntK where
  f : IntKind → Int → Int → Option AVal
def bitK (f : Nat → Nat → Nat) : IntK := ⟨fun k x y => bothNat x y fun a b => cond (Nat.blt a (half k)) (cond (Nat.blt b (half k)) (intOut k (.ofNat (f a b))) none) none⟩
def noInt : IntK := ⟨fun _ _ _ => none⟩
def intK : BinOp → IntK
  | .add => ⟨fun k a b => intOut k (wrapA k (addA a b))⟩
  | .sub => ⟨fun k a b => intOut k (wrapA k (subA a b))⟩
  | .mul => ⟨fun k a b => intOut k (wrapA k (mulA a b))⟩
  | .quo => ⟨fun k a b => cond (intEqb b 0) none (intOut k (wrapA k (quoA a b)))⟩
  | .rem => ⟨fun k a b => cond (intEqb b 0) none (intOut k (remA a b))⟩
  | .and => bitK Nat.land
  | .or => bitK Nat.lor
  | .xor => bitK Nat.xor
  | .andNot => bitK fun a b => Nat.xor a (Nat.land a b)
  | .eql => ⟨fun _ a b => some (.bool (intEqb a b))⟩
  | .neq => ⟨fun _ a b => some (.bool (cond (intEqb a b) false true))⟩
  | .lss => ⟨fun _ a b => some (.bool (ltA a b))⟩
  | .leq => ⟨fun _ a b => some (.bool (cond (ltA b a) false true))⟩
  | .gtr => ⟨fun _ a b => some (.bool (ltA b a))⟩
  | .geq => ⟨fun _ a b => some (.bool (cond (ltA a b) false true))⟩
  | _ => noInt
def shiftK : BinOp → IntK
  | .shl => ⟨fun k a b => Int.casesOn b (fun b => intOut k (wrapA k (mulA a (.ofNat (Nat.pow 2 (Nat.min b k.bits)))))) (fun _ => none)⟩
  | .shr => ⟨fun k a b => Int.casesOn b (fun b => Int.casesOn a (fun a => intOut k (.ofNat (Nat.div a (Nat.pow 2 (Nat.min b k.bits))))) (fun a => intOut k ((Int.negSucc a).fdiv (.ofNat (Nat.pow 2 (Nat.min b k.bits)))))) (fun _ => none)⟩
  | _ => noInt
noncomputable def strLess : List UInt8 → List UInt8 → Bool := fun x => List.rec (motive := fun _ => List UInt8 → Bool)
  (fun y => List.casesOn y false (fun _ _ => true))
  (fun a _ ih y => List.casesOn y false (fun b y => cond (Nat.blt a.toNat b.toNat) true (cond (Nat.beq a.toNat b.toNat) (ih y) false))) x
noncomputable def appB : List UInt8 → List UInt8 → List UInt8 := fun x => List.rec (motive := fun _ => List UInt8 → List UInt8)
  (fun y => y) (fun a _ ih y => a :: ih y) x
structure StrK where
  f : List UInt8 → List UInt8 → Option AVal
noncomputable def strK : BinOp → StrK
  | .add => ⟨fun x y => cond (Nat.blt (Nat.add x.length y.length) 4294967296) (some (.str (appB x y))) none⟩
  | .eql => ⟨fun x y => some (.bool (bytesEqb x y))⟩
  | .neq => ⟨fun x y => some (.bool (cond (bytesEqb x y) false true))⟩
  | .lss => ⟨fun x y => some (.bool (strLess x y))⟩
  | .leq => ⟨fun x y => some (.bool (strLess x y || bytesEqb x y))⟩
  | .gtr => ⟨fun x y => some (.bool (cond (strLess x y || bytesEqb x y) false true))⟩
  | .geq => ⟨fun x y => some (.bool (cond (strLess x y) false true))⟩
  | _ => ⟨fun _ _ => none⟩

def sameKey : AVal → AVal → Option Bool
  | .int k a, .int j b => cond (ikEqb k j) (some (intEqb a b)) none
  | .bool a, .bool b => some (boolEqb a b)
  | _, _ => none
noncomputable def sameKeyS : AVal → AVal → Option Bool
  | .str a, .str b => some (bytesEqb a b)
  | a, b => sameKey a b
/-- the fields of a struct that is a key: integers, strings and bools alone -/
noncomputable def plainFields (E : Env) : Nat → List Field → List AVal → Bool
  | _, [], [] => true
  | k, f :: fs, v :: vs => (match E.und f.type, v with
      | some (.int _), .int _ _ => true
      | some .string, .str _ => true
      | some .bool, .bool _ => true
      | _, _ => false) && (Nat.beq f.offset k && !(f.name == "_") && plainFields E (k + 1) fs vs)
  | _, _, _ => false
noncomputable def sameKeys : List AVal → List AVal → Option Bool
  | [], [] => some true
  | a :: x, b :: y => match sameKeyS a b with
    | some true => sameKeys x y
    | some false => some false
    | none => none
  | _, _ => none
noncomputable def sameK : AVal → AVal → Option Bool
  | .agg a, .agg b => sameKeys a b
  | a, b => sameKeyS a b

/-- '==' of two values that are no integers and no strings; by the type. -/
structure EqK where
  f : AVal → AVal → Option Bool
noncomputable def eqK (E : Env) (t : TypeId) (constant : Bool) : EqK :=
  match E.und t with
  | some .bool => ⟨fun x y => match x, y with
    | .bool a, .bool b => some (boolEqb a b)
    | _, _ => none⟩
  | some (.pointer _) => ⟨fun x y => match x, y with
    | .ptrNil, .ptrNil => some true
    | .ptrNil, .ptr _ _ => some false
    | .ptr _ _, .ptrNil => some false
    | _, _ => none⟩
  | some (.slice _) => ⟨fun x y => match x, y with
    | .slcNil, .slcNil => some true
    | .slcNil, .slc _ _ _ _ => some false
    | .slc _ _ _ _, .slcNil => some false
    | _, _ => none⟩
  | some (.map _ _) => ⟨fun x y => match x, y with
    | .mapNil, .mapNil => some true
    | .mapNil, .map _ => some false
    | .map _, .mapNil => some false
    | _, _ => none⟩
  | some (.func _ _ _) => ⟨fun x y => match x, y with
    | .nilFunc, .nilFunc => some true
    | .nilFunc, .func _ _ _ => some false
    | .func _ _ _, .nilFunc => some false
    | _, _ => none⟩
  | some (.interface _) => ⟨fun x y => match x, y with
    | .nilIface, .nilIface => cond constant (some true) none
    | .nilIface, .iface _ _ => some false
    | .iface _ _, .nilIface => some false
    | _, _ => none⟩
  | some (.struct fs) => cond (E.gt t) ⟨fun x y => match x, y with
    | .agg a, .agg b => cond (plainFields E 0 fs.toList a && plainFields E 0 fs.toList b) (sameKeys a b) none
    | _, _ => none⟩ ⟨fun _ _ => none⟩
  | _ => ⟨fun _ _ => none⟩
def isK : Operand → Bool
  | .const _ => true
  | _ => false
structure Bin where
  f : AVal → AVal → Option AVal
noncomputable def binK (E : Env) (op : BinOp) (t : TypeId) (constant : Bool) : Bin :=
  match op with
  | .shl => let i := shiftK .shl; ⟨fun x y => match x, y with
    | .int k a, .int _ b => i.f k a b
    | _, _ => none⟩
  | .shr => let i := shiftK .shr; ⟨fun x y => match x, y with
    | .int k a, .int _ b => i.f k a b
    | _, _ => none⟩
  | .eql => match E.und t with
    | some (.int _) => let i := intK .eql; ⟨fun x y => match x, y with
      | .int k a, .int j b => cond (ikEqb k j) (i.f k a b) none
      | _, _ => none⟩
    | some .string => let s := strK .eql; ⟨fun x y => match x, y with
      | .str a, .str b => s.f a b
      | _, _ => none⟩
    | _ => let e := eqK E t constant; ⟨fun x y => Option.casesOn (e.f x y) none fun b => some (.bool b)⟩
  | .neq => match E.und t with
    | some (.int _) => let i := intK .neq; ⟨fun x y => match x, y with
      | .int k a, .int j b => cond (ikEqb k j) (i.f k a b) none
      | _, _ => none⟩
    | some .string => let s := strK .neq; ⟨fun x y => match x, y with
      | .str a, .str b => s.f a b
      | _, _ => none⟩
    | _ => let e := eqK E t constant; ⟨fun x y => Option.casesOn (e.f x y) none fun b => some (.bool (cond b false true))⟩
  | op => match E.und t with
    | some .string => let s := strK op; ⟨fun x y => match x, y with
      | .str a, .str b => s.f a b
      | _, _ => none⟩
    | _ => let i := intK op; ⟨fun x y => match x, y with
      | .int k a, .int j b => cond (ikEqb k j) (i.f k a b) none
      | _, _ => none⟩
def unA (op : UnOp) (x : AVal) : Option AVal :=
  match op, x with
  | .not, .bool b => some (.bool (cond b false true))
  | .neg, .int k n => intOut k (wrapA k (subA 0 n))
  | .xor, .int k (.ofNat n) => match k with
    | .u8 | .u16 | .u32 | .u64 => cond (Nat.blt n (half k)) (intOut k (.ofNat (Nat.sub (Nat.sub (half k) 1) n))) none
    | _ => none
  | _, _ => none
end Go.Ev
