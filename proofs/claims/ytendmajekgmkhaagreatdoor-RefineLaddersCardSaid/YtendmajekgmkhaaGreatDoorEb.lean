/- The evaluator of closed calls, part Eb: what the program computes on given inputs, read by the kernel; sound in every world (part Gh). -/
import Derived.Test.YtendmajekgmkhaaGreatDoorEa
import Derived.Lib.Bytealg
set_option linter.unusedVariables false
set_option linter.unusedSimpArgs false
set_option linter.unnecessarySimpa false
namespace Go.Ev

/-! ### Operations that do not look at memory -/
structure OnA where
  f : AVal → Option AVal
structure PartK where
  f : List AVal → Option AVal
noncomputable def partK (E : Env) (t : TypeId) (off : Nat) : PartK :=
  match E.agg? t with
  | some true => match E.size t with
    | some k => ⟨fun l => Option.casesOn (takeA k (dropA off l)) none fun r => some (.agg r)⟩
    | none => ⟨fun _ => none⟩
  | some false => ⟨fun l => nth off l⟩
  | none => ⟨fun _ => none⟩
/-- One part after the other laid over the cells. -/
noncomputable def fillA (places : Nat → Option (Nat × Nat)) : List (Nat × SrcK) → Tm → List AVal → Option (List AVal)
  | [], _, l => some l
  | (i, s) :: rest, tm, l =>
    match places i with
    | none => none
    | some (off, size) =>
      let v := s.g tm
      cond (Nat.beq v.cells.length size)
        (Option.casesOn (overA v.cells off l) none fun l => fillA places rest tm l) none
noncomputable def placeOf (E : Env) (fs : List Field) (i : Nat) : Option (Nat × Nat) :=
  match fs[i]? with
  | some f => match E.size f.type with
    | some s => some (f.offset, s)
    | none => none
  | none => none
structure TmK where
  f : Tm → Option AVal
noncomputable def partsK (E : Env) (parts : Array (Nat × Operand)) : List (Nat × SrcK) := parts.toList.map fun p => (p.1, srcK E p.2)
noncomputable def buildK (E : Env) (t : TypeId) (parts : Array (Nat × Operand)) : TmK :=
  match E.zero t, E.und t with
  | some z, some (.struct fs) =>
    let ps := partsK E parts
    let zs := z.cells
    cond (fs.toList.all fun f => (E.size f.type).isSome)
      ⟨fun tm => Option.casesOn (fillA (placeOf E fs.toList) ps tm zs) none fun l => some (.agg l)⟩ ⟨fun _ => none⟩
  | some z, some (.array _ e) => match E.size e with
    | some s =>
      let ps := partsK E parts
      let zs := z.cells
      ⟨fun tm => Option.casesOn (fillA (fun i => some (Nat.mul i s, s)) ps tm zs) none fun l => some (.agg l)⟩
    | none => ⟨fun _ => none⟩
  | _, _ => ⟨fun _ => none⟩
noncomputable def repA (z : List AVal) : Nat → List AVal := fun n => Nat.rec [] (fun _ ih => appA z ih) n

def natOf {R : Type} (v : AVal) (no : R) (k : Nat → R) : R := match v with
  | .int _ (.ofNat n) => k n
  | _ => no
noncomputable def indexAddrK (E : Env) (t : TypeId) : Bin :=
  match E.und t with
  | some (.slice e) => match E.size e with
    | some sz => ⟨fun x ix => natOf ix none fun i => match x with
      | .slc n off len _ => cond (Nat.blt i len) (forceN (Nat.add off (Nat.mul i sz)) fun k => some (.ptr n k)) none
      | _ => none⟩
    | none => ⟨fun _ _ => none⟩
  | some (.array len e) => match E.size e with
    | some sz => ⟨fun x ix => natOf ix none fun i => match x with
      | .ptr n off => cond (Nat.blt i len) (forceN (Nat.add off (Nat.mul i sz)) fun k => some (.ptr n k)) none
      | .opq (.pointer (some ⟨g, off, none⟩)) => cond (Nat.blt i len) (forceN (Nat.add off (Nat.mul i sz)) fun k => some (.opq (.pointer (some ⟨g, k, none⟩)))) none
      | _ => none⟩
    | none => ⟨fun _ _ => none⟩
  | _ => ⟨fun _ _ => none⟩
noncomputable def nthB : Nat → List UInt8 → Option UInt8 := fun n => Nat.rec (motive := fun _ => List UInt8 → Option UInt8)
  (fun l => List.casesOn l none (fun x _ => some x))
  (fun _ ih l => List.casesOn l none (fun _ l => ih l)) n
noncomputable def indexK (E : Env) (t : TypeId) : Bin :=
  match E.und t with
  | some .string => ⟨fun x ix => natOf ix none fun i => match x with
    | .str s => Option.casesOn (nthB i s) none fun b => forceN b.toNat fun k => some (.int .u8 (.ofNat k))
    | _ => none⟩
  | some (.array len e) => match E.size e with
    | some sz => ⟨fun x ix => natOf ix none fun i => match x with
      | .agg l => cond (Nat.blt i len) ((partK E e (Nat.mul i sz)).f l) none
      | _ => none⟩
    | none => ⟨fun _ _ => none⟩
  | _ => ⟨fun _ _ => none⟩
noncomputable def fieldAddrK (E : Env) (t : TypeId) (f : Nat) : OnA :=
  match E.und t with
  | some (.struct fs) => match fs.toList[f]? with
    | some fd => match E.size fd.type with
      | some (_ + 1) => let d := fd.offset; ⟨fun x => match x with
        | .ptr n off => forceN (Nat.add off d) fun k => some (.ptr n k)
        | _ => none⟩
      | _ => ⟨fun _ => none⟩
    | none => ⟨fun _ => none⟩
  | _ => ⟨fun _ => none⟩
noncomputable def fieldK (E : Env) (t : TypeId) (f : Nat) : OnA :=
  match E.und t with
  | some (.struct fs) => match fs.toList[f]? with
    | some fd => let p := partK E fd.type fd.offset; ⟨fun x => match x with
      | .agg l => p.f l
      | _ => none⟩
    | none => ⟨fun _ => none⟩
  | _ => ⟨fun _ => none⟩
def nilCheckA (v : AVal) : Option AVal := match v with
  | .ptr n o => some (.ptr n o)
  | .func (.func f) x y => some (.func (.func f) x y)
  | .iface t v => some (.iface t v)
  | .slc n a b c => some (.slc n a b c)
  | _ => none
noncomputable def makeIfaceK (E : Env) (t : TypeId) : OnA :=
  match E.und t with
  | some (.interface _) => ⟨fun _ => none⟩
  | some _ => ⟨fun x => some (.iface t x)⟩
  | none => ⟨fun _ => none⟩
noncomputable def typeAssertK (E : Env) (t : TypeId) (ok : Bool) : OnA :=
  match E.und t with
  | some (.interface _) => ⟨fun _ => none⟩
  | some _ => match E.zero t with
    | some z => ⟨fun x => match x with
      | .iface u v => cond (Nat.beq u t) (some (cond ok (.tup [v, .bool true]) v)) (cond ok (some (.tup [z, .bool false])) none)
      | _ => none⟩
    | none => ⟨fun _ => none⟩
  | none => ⟨fun _ => none⟩
def lenA (v : AVal) : Option AVal := match v with
  | .str s => forceN s.length fun k => some (.int .i64 (.ofNat k))
  | .slcNil => some (.int .i64 (.ofNat 0))
  | .slc _ _ n _ => some (.int .i64 (.ofNat n))
  | _ => none
def mnmx (mx : Bool) : List AVal → AVal → Option AVal
  | [], x => some x
  | y :: l, x => match x, y with
    | .int k a, .int _ b => mnmx mx l (.int k (cond mx (cond (ltA a b) b a) (cond (ltA b a) b a)))
    | _, _ => none
def capA (v : AVal) : Option AVal := match v with
  | .slc _ _ _ (.exact c) => some (.int .i64 (.ofNat c))
  | .slcNil => some (.int .i64 (.ofNat 0))
  | _ => none

/-! ### Operations that look at memory -/
noncomputable def keyOkK (E : Env) (t : TypeId) : EqK :=
  match E.und t with
  | some (.int _) => ⟨fun k _ => match k with | .int _ _ => some true | _ => none⟩
  | some .string => ⟨fun k _ => match k with | .str _ => some true | _ => none⟩
  | some .bool => ⟨fun k _ => match k with | .bool _ => some true | _ => none⟩
  | some (.struct fs) => cond (E.gt t) ⟨fun k _ => match k with
    | .agg l => cond (plainFields E 0 fs.toList l) (some true) none
    | _ => none⟩ ⟨fun _ _ => none⟩
  | _ => ⟨fun _ _ => none⟩
noncomputable def findA (k : AVal) : List MEnt → Nat → Option (Option (Nat × AVal))
  | [], _ => some none
  | e :: es, i => match sameK k e.key with
    | some true => some (some (i, e.val))
    | some false => findA k es (i + 1)
    | none => none
noncomputable def entries (h : Heap) (v : AVal) : Option (List MEnt) := match v with
  | .mapNil => some []
  | .map n => match (h.at n).obj with
    | .map es _ => some es
    | _ => none
  | _ => none
structure LookK where
  f : Heap → AVal → AVal → Option AVal
noncomputable def lookupK (E : Env) (t : TypeId) (ok : Bool) : LookK :=
  match E.und t with
  | some (.map kt et) => match E.zero et with
    | some z =>
      let q := keyOkK E kt
      ⟨fun h x k => Option.casesOn (q.f k k) none fun _ =>
        Option.casesOn (entries h x) none fun es =>
          Option.casesOn (findA k es 0) none fun r =>
            Option.casesOn r (some (cond ok (.tup [z, .bool false]) z)) fun p => some (cond ok (.tup [p.2, .bool true]) p.2)⟩
    | none => ⟨fun _ _ _ => none⟩
  | _ => ⟨fun _ _ _ => none⟩
structure LoadK where
  f : Heap → AVal → Option AVal
noncomputable def nthV : Nat → List Value → Option Value := fun n => Nat.rec (motive := fun _ => List Value → Option Value)
  (fun l => List.casesOn l none (fun x _ => some x))
  (fun _ ih l => List.casesOn l none (fun _ l => ih l)) n
noncomputable def loadK (E : Env) (t : TypeId) : LoadK :=
  match E.agg? t with
  | some true => match E.size t with
    | some k => ⟨fun h x => match x with
      | .ptr n off => Option.casesOn (h.loadN n off k) none fun l => some (.agg l)
      | _ => none⟩
    | none => ⟨fun _ _ => none⟩
  | some false => ⟨fun h x => match x with
    | .ptr n off => h.load1 n off
    | .opq (.pointer (some ⟨g, off, none⟩)) => Option.casesOn (E.gl g) none fun l => Option.casesOn (nthV off l) none fun v => some (AVal.ofValue v)
    | _ => none⟩
  | none => ⟨fun _ _ => none⟩
def bytesOf : List AVal → Option (List UInt8)
  | [] => some []
  | v :: l => match v with
    | .int .u8 (.ofNat n) => Option.casesOn (bytesOf l) none fun r => forceN n fun n => some (UInt8.ofNat n :: r)
    | _ => none
structure SrcO where
  f : Tm → Option AVal
noncomputable def srcO (E : Env) : Option Operand → Tm → Option AVal
  | none, _ => none
  | some x, tm => some ((srcK E x).g tm)
def boundOr {R : Type} (d : Nat) (v : Option AVal) (no : R) (k : Nat → R) : R := match v with
  | none => k d
  | some v => natOf v no k
/-- x[lo:hi:max] -/
structure SliceK where
  f : Heap → AVal → Option AVal → Option AVal → Option AVal → Option AVal
def nilMx {R : Type} (v : Option AVal) (no : R) (k : R) : R := match v with
  | none => k
  | some _ => no
def mxOr {R : Type} (v : Option AVal) (no : R) (k : R) (m : Nat → R) : R := match v with
  | none => k
  | some v => natOf v no m
def capOr {R : Type} (c : Cap) (k : Nat → R) (m : Nat → R) : R := match c with
  | .exact c => k c
  | .rest d => m d
noncomputable def reslice (sz : Nat) (h : Heap) (n : Pos) (off len : Nat) (cap : Cap) (lo hi mx : Option AVal) : Option AVal :=
  boundOr 0 lo none fun l => boundOr len hi none fun r =>
  capOr cap
    (fun c => mxOr mx none
      (cond (Nat.ble l r && Nat.ble r c) (some (.slc n (cond (Nat.beq c l) off (Nat.add off (Nat.mul l sz))) (Nat.sub r l) (.exact (Nat.sub c l)))) none)
      (fun m => cond (Nat.ble l r && (Nat.ble r m && Nat.ble m c)) (some (.slc n (cond (Nat.beq m l) off (Nat.add off (Nat.mul l sz))) (Nat.sub r l) (.exact (Nat.sub m l)))) none))
    (fun d => cellsOf (h.at n).obj none fun x _ esz =>
      cond (Nat.beq esz sz && (Nat.blt 0 sz && Nat.ble l r))
        (mxOr mx none
          (cond (Nat.ble (Nat.mul (Nat.add r d) sz) x.length && (Nat.beq l 0 || Nat.blt (Nat.mul (Nat.add l d) sz) x.length))
            (some (.slc n (Nat.add off (Nat.mul l sz)) (Nat.sub r l) (.rest (Nat.add d l)))) none)
          (fun m => cond (Nat.ble r m && Nat.ble (Nat.mul (Nat.add m d) sz) x.length)
            (some (.slc n (cond (Nat.beq m l) off (Nat.add off (Nat.mul l sz))) (Nat.sub r l) (.exact (Nat.sub m l)))) none)) none)
noncomputable def sliceK (E : Env) (t : TypeId) : SliceK :=
  match E.und t with
  | some .string => ⟨fun _ x lo hi mx => match x with
    | .str s => nilMx mx none (boundOr 0 lo none fun l => boundOr s.length hi none fun r =>
        cond (Nat.ble l r && Nat.ble r s.length) (some (.str ((s.drop l).take (Nat.sub r l)))) none)
    | _ => none⟩
  | some (.slice e) => match E.size e with
    | some sz => ⟨fun h x lo hi mx => match x with
      | .slcNil => nilMx mx none (boundOr 0 lo none fun l => boundOr 0 hi none fun r => cond (Nat.beq r 0 && Nat.beq l 0) (some .slcNil) none)
      | .slc n off len cap => reslice sz h n off len cap lo hi mx
      | _ => none⟩
    | none => ⟨fun _ _ _ _ _ => none⟩
  | some (.array len e) => match E.size e with
    | some sz => ⟨fun _ x lo hi mx => match x with
      | .ptr n off => nilMx mx none (boundOr 0 lo none fun l => boundOr len hi none fun r =>
          cond (Nat.ble l r && Nat.ble r len) (some (.slc n (cond (Nat.beq len l) off (Nat.add off (Nat.mul l sz))) (Nat.sub r l) (.exact (Nat.sub len l)))) none)
      | _ => none⟩
    | none => ⟨fun _ _ _ _ _ => none⟩
  | _ => ⟨fun _ _ _ _ _ => none⟩

/-! ### New memory -/
inductive Mk where
  | ptr | slc (len cap : Nat) | map
def Mk.mk : Mk → Pos → AVal
  | .ptr, n => .ptr n 0
  | .slc l c, n => .slc n 0 l (.exact c)
  | .map, n => .map n
/-- n times the zero value of a type, cell by cell. -/
noncomputable def zerosOf (E : Env) (e : TypeId) (n : Nat) : Option (List AVal) :=
  match E.ty e with
  | some i => match i.zero with
    | some v => let z := (AVal.ofValue v).cells; cond (Nat.beq z.length i.size) (some (repA z n)) none
    | none => none
  | none => none

/-! ### Operations that write -/
inductive OR where
  | ok (v : AVal) (h : Heap)
  | call (f : FuncId) (args : List AVal)
  | fail
  deriving Inhabited
def okU (o : Option Heap) : OR := Option.casesOn o .fail fun h => .ok undefA h
def srcLen {R : Type} (x : AVal) (no : R) (k : Nat → R) : R := match x with
  | .slcNil => k 0
  | .slc _ _ n _ => k n
  | .str s => forceN s.length k
  | _ => no
def byteVals : List UInt8 → List AVal
  | [] => []
  | b :: l => forceN b.toNat fun k => .int .u8 (.ofNat k) :: byteVals l
noncomputable def srcCells (h : Heap) (size n : Nat) (x : AVal) : Option (List AVal) := match x with
  | .slcNil => some []
  | .slc m off _ _ => h.loadN m off (Nat.mul n size)
  | .str s => cond (Nat.beq size 1) (some (byteVals (s.take n))) none
  | _ => none
structure WrK2 where
  f : Heap → AVal → AVal → OR
def roomy (bytes n : Nat) : Bool := Nat.ble (Nat.mul (Nat.add (Nat.mul 8 n) 4096) bytes) 281474976710656 && (Nat.ble n 281474976710656 && Nat.blt 0 bytes)
noncomputable def appendTo (e : TypeId) (size bytes : Nat) (h : Heap) (s : AVal) (n : Nat) (new : List AVal) : OR :=
  match s with
  | .slcNil => cond (Nat.beq n 0) (.ok .slcNil h)
      (cond (roomy bytes n) (.ok (.slc h.nx 0 n (.rest 0)) (h.new (.cells new e size))) .fail)
  | .slc m off len cap =>
    forceN (Nat.add len n) fun ln =>
    capOr cap
      (fun c => cond (Nat.ble ln c)
        (Option.casesOn (h.store m (Nat.add off (Nat.mul len size)) new) .fail fun h => .ok (.slc m off ln (.exact c)) h)
        (cond (roomy bytes ln)
          (Option.casesOn (h.loadN m off (Nat.mul len size)) .fail fun old => .ok (.slc h.nx 0 ln (.rest 0)) (h.new (.cells (appA old new) e size))) .fail))
      (fun d => cond (Nat.beq d 0 && Nat.beq off 0)
        (cellsOf (h.at m).obj .fail fun x e' s' => cond (Nat.beq e' e && (Nat.beq s' size && Nat.blt 0 size))
          (Option.casesOn (takeA (Nat.mul len size) x) .fail fun old =>
            cond (Nat.beq n 0) (.ok (.slc m 0 len (.rest 0)) h)
              (cond (roomy bytes ln && flats new)
                (.ok (.slc h.nx 0 ln (.rest 0)) (h.again m (Nat.mul len size) (appA old new) e size)) .fail)) .fail) .fail)
  | _ => .fail
noncomputable def appendK (E : Env) (ts : List TypeId) : WrK2 :=
  match ts with
  | [st, xt] =>
    match E.und st, E.und xt with
    | some (.slice _), some (.int _) => ⟨fun _ _ _ => .fail⟩
    | some (.slice e), some _ =>
      match E.ty e, zerosOf E e 0 with
      | some i, some _ =>
        let size := i.size
        let bytes := i.bytes
        ⟨fun h s x => srcLen x .fail fun n => Option.casesOn (srcCells h size n x) .fail fun new => appendTo e size bytes h s n new⟩
      | _, _ => ⟨fun _ _ _ => .fail⟩
    | _, _ => ⟨fun _ _ _ => .fail⟩
  | _ => ⟨fun _ _ _ => .fail⟩
noncomputable def copyK (E : Env) (ts : List TypeId) : WrK2 :=
  match ts with
  | t :: _ => match E.und t with
    | some (.slice e) => match E.size e with
      | some s => ⟨fun h d x => srcLen x .fail fun n => match d with
        | .slc m off len _ =>
          forceN (Nat.min n len) fun k =>
          Option.casesOn (srcCells h s k x) .fail fun l =>
            Option.casesOn (h.store m off l) .fail fun h => .ok (.int .i64 (.ofNat k)) h
        | .slcNil => .ok (.int .i64 (.ofNat 0)) h
        | _ => .fail⟩
      | none => ⟨fun _ _ _ => .fail⟩
    | _ => ⟨fun _ _ _ => .fail⟩
  | _ => ⟨fun _ _ _ => .fail⟩
def setEnt (v : AVal) (k : AVal) : Nat → List MEnt → List MEnt
  | _, [] => []
  | 0, e :: es => { e with key := k, val := v } :: es
  | n + 1, e :: es => e :: setEnt v k n es
structure WrK3 where
  f : Heap → AVal → AVal → AVal → OR
noncomputable def updateK (E : Env) (t : TypeId) : WrK3 :=
  match E.und t with
  | some (.map kt _) =>
    let q := keyOkK E kt
    ⟨fun h m k v => match m with
      | .map n => Option.casesOn (q.f k k) .fail fun _ => match (h.at n).obj with
        | .map es cl => Option.casesOn (findA k es 0) .fail fun r =>
            Option.casesOn r (.ok undefA (h.setObj n (.map (es ++ [⟨k, v, cl⟩]) (cl + 1)))) fun p => .ok undefA (h.setObj n (.map (setEnt v k p.1 es) cl))
        | _ => .fail
      | _ => .fail⟩
  | _ => ⟨fun _ _ _ _ => .fail⟩
def eraseEnt : Nat → List MEnt → List MEnt
  | _, [] => []
  | 0, _ :: es => es
  | n + 1, e :: es => e :: eraseEnt n es
noncomputable def deleteK (E : Env) (ts : List TypeId) : WrK2 :=
  match ts with
  | t :: _ => match E.und t with
    | some (.map kt _) =>
      let q := keyOkK E kt
      ⟨fun h m k => match m with
      | .map n => Option.casesOn (q.f k k) .fail fun _ => match (h.at n).obj with
        | .map es cl => Option.casesOn (findA k es 0) .fail fun r =>
            Option.casesOn r (.ok undefA (h.setObj n (.map es cl))) fun p => .ok undefA (h.setObj n (.map (eraseEnt p.1 es) cl))
        | _ => .fail
      | _ => .fail⟩
    | _ => ⟨fun _ _ _ => .fail⟩
  | _ => ⟨fun _ _ _ => .fail⟩
noncomputable def methodA (E : Env) (t : TypeId) (name : String) : Option FuncId :=
  match E.ty t, E.und t with
  | some i, some d => match i.methods.toList.find? (fun m => m.name == name) with
    | some m => match m.path.toList, m.func, d with
      | [], some (f, true), .pointer _ => some f
      | [], some (_, false), .pointer _ => none
      | [], some (f, false), _ => some f
      | _, _, _ => none
    | none => none
  | _, _ => none
/-- The functions without a body that the model answers itself. -/
noncomputable def externA (name origin : String) (args : List AVal) : Option AVal :=
  cond (name == "internal/bytealg.IndexByteString" && origin == "")
  (match args with
  | [.str s, .int .u8 (.ofNat c)] => intOut .i64 (Lib.indexByte s (Nat.toUInt8 c))
  | _ => none) none
structure FnK where
  f : Heap → List AVal → OR
noncomputable def callFnK (E : Env) (f : FuncId) : FnK :=
  match E.fns.get none (pos f) with
  | some fn => match fn.body with
    | some _ => cond (fn.name == "runtime.NumGoroutine") ⟨fun _ _ => .fail⟩ ⟨fun _ args => .call f args⟩
    | none => let nm := fn.name; let og := fn.origin; ⟨fun h args => Option.casesOn (externA nm og args) .fail fun v => .ok v h⟩
  | none => ⟨fun _ _ => .fail⟩

/-! ### The four kinds of operations -/
inductive OpK where
  | pu (f : Tm → Option AVal)
  | rd (f : Tm → Heap → Option AVal)
  | nw (f : Tm → Option (AObj × Mk))
  | wr (f : Tm → Heap → OR)
def OpK.bad : OpK := .pu fun _ => none
noncomputable def on1 (E : Env) (f : AVal → Option AVal) (x : Operand) : OpK := let s := srcK E x; .pu fun tm => f (s.g tm)
noncomputable def on2 (E : Env) (f : AVal → AVal → Option AVal) (x y : Operand) : OpK := let s := srcK E x; let r := srcK E y; .pu fun tm => f (s.g tm) (r.g tm)
noncomputable def convertK (E : Env) (s d : TypeId) (x : Operand) : OpK :=
  match E.und s, E.und d with
  | some (.slice e), some .string => match E.und e with
    | some (.int .u8) => let s := srcK E x; .rd fun tm h => match s.g tm with
      | .slcNil => some (.str [])
      | .slc n off len _ => Option.casesOn (h.loadN n off len) none fun l => Option.casesOn (bytesOf l) none fun s => some (.str s)
      | _ => none
    | _ => .bad
  | some .string, some (.slice e) => match E.und e with
    | some (.int .u8) => let s := srcK E x; .wr fun tm h => match s.g tm with
      | .str l => forceN l.length fun n => .ok (.slc h.nx 0 n (.rest 0)) (h.new (.cells (byteVals l) e 1))
      | _ => .fail
    | _ => .bad
  | some _, some (.int k) => on1 E (fun v => match v with
    | .int _ n => intOut k (wrapA k n)
    | _ => none) x
  | some _, some .string => on1 E (fun v => match v with
    | .int _ n => some (.str (Utf8.encode n).data.toList)
    | .str l => some (.str l)
    | _ => none) x
  | _, _ => .bad
noncomputable def builtinK (E : Env) (b : Builtin) (args : List Operand) (ts : List TypeId) : OpK :=
  match b, args with
  | .len, [x] => match ts with
    | t :: _ => match E.und t with
      | some .string => on1 E (fun v => match v with
        | .str s => forceN s.length fun k => some (.int .i64 (.ofNat k))
        | _ => none) x
      | some (.slice _) => on1 E (fun v => match v with
        | .slcNil => some (.int .i64 (.ofNat 0))
        | .slc _ _ n _ => some (.int .i64 (.ofNat n))
        | _ => none) x
      | some (.map _ _) => let s := srcK E x; .rd fun tm h => Option.casesOn (entries h (s.g tm)) none fun es => forceN es.length fun k => some (.int .i64 (.ofNat k))
      | _ => .bad
    | _ => .bad
  | .cap, [x] => match ts with
    | t :: _ => match E.und t with
      | some (.slice _) => on1 E capA x
      | _ => .bad
    | _ => .bad
  | .max, x :: l => let s := srcK E x; let ss := srcsK E l; .pu fun tm => mnmx true (srcsG ss tm) (s.g tm)
  | .min, x :: l => let s := srcK E x; let ss := srcsK E l; .pu fun tm => mnmx false (srcsG ss tm) (s.g tm)
  | .append, [x, y] => let s := srcK E x; let r := srcK E y; let k := appendK E ts; .wr fun tm h => k.f h (s.g tm) (r.g tm)
  | .copy, [x, y] => let s := srcK E x; let r := srcK E y; let k := copyK E ts; .wr fun tm h => k.f h (s.g tm) (r.g tm)
  | .delete, [x, y] => let s := srcK E x; let r := srcK E y; let k := deleteK E ts; .wr fun tm h => k.f h (s.g tm) (r.g tm)
  | _, _ => .bad
noncomputable def callK (E : Env) (c : Call) : OpK :=
  match c.callee with
  | .value (.func f) =>
    let ss := srcsK E c.args.toList
    let k := callFnK E f
    .wr fun tm h => k.f h (srcsG ss tm)
  | .value x =>
    let s := srcK E x
    let ss := srcsK E c.args.toList
    .wr fun tm h => match s.g tm with
      | .func (.func f) first captured => (callFnK E f).f h (appA first (appA (srcsG ss tm) captured))
      | _ => .fail
  | .invoke r name =>
    let s := srcK E r
    let ss := srcsK E c.args.toList
    .wr fun tm h => match s.g tm with
      | .iface t v => Option.casesOn (methodA E t name) .fail fun f => (callFnK E f).f h (v :: srcsG ss tm)
      | _ => .fail
  | .builtin b => builtinK E b c.args.toList c.argTypes.toList
noncomputable def opK (E : Env) (o : Op) : OpK :=
  match o with
  | .move x => let s := srcK E x; .pu fun tm => some (s.g tm)
  | .assign x => let s := srcK E x; .pu fun tm => some (s.g tm)
  | .pick c a b => let s := srcK E c; let x := srcK E a; let y := srcK E b; .pu fun tm => match s.g tm with
    | .bool c => cond c (some (x.g tm)) (some (y.g tm))
    | _ => none
  | .build t parts => let k := buildK E t parts; .pu k.f
  | .nilCheck x => on1 E nilCheckA x
  | .unOp op _ x => on1 E (unA op) x
  | .binOp op t x y _ => let k := binK E op t (isK x || isK y); on2 E k.f x y
  | .convert s d x => convertK E s d x
  | .makeInterface t x => let k := makeIfaceK E t; on1 E k.f x
  | .makeFunc (.func f) a b => let x := srcsK E a.toList; let y := srcsK E b.toList; .pu fun tm => some (.func (.func f) (srcsG x tm) (srcsG y tm))
  | .fieldAddr t x f => let k := fieldAddrK E t f; on1 E k.f x
  | .field t x f => let k := fieldK E t f; on1 E k.f x
  | .indexAddr t x i => let k := indexAddrK E t; on2 E k.f x i
  | .index t x i => let k := indexK E t; on2 E k.f x i
  | .typeAssert x _ t ok => let k := typeAssertK E t ok; on1 E k.f x
  | .extract t i => let s := srcK E t; .pu fun tm => match s.g tm with
    | .tup l => nth i l
    | _ => none
  | .load t x => let k := loadK E t; let s := srcK E x; .rd fun tm h => k.f h (s.g tm)
  | .lookup t x i ok => let k := lookupK E t ok; let s := srcK E x; let r := srcK E i; .rd fun tm h => k.f h (s.g tm) (r.g tm)
  | .slice t x lo hi mx => cond (mx.isNone || hi.isSome) (let k := sliceK E t; let s := srcK E x; .rd fun tm h => k.f h (s.g tm) (srcO E lo tm) (srcO E hi tm) (srcO E mx tm)) .bad
  | .alloc e => match E.zero e with
    | some z => let ob := AObj.cells z.cells e z.cells.length; .nw fun _ => some (ob, .ptr)
    | none => .bad
  | .box e x => let s := srcK E x; .nw fun tm => let c := (s.g tm).cells; some (.cells c e c.length, .ptr)
  | .buildSlice t len parts => match E.und t with
    | some (.slice e) => match E.size e, zerosOf E e len with
      | some s, some z =>
        let ps := partsK E parts
        cond (Nat.ble (Nat.mul len s) 16777216)
          (.nw fun tm => Option.casesOn (fillA (fun i => some (Nat.mul i s, s)) ps tm z) none fun l => some (.cells l e s, .slc len len)) .bad
      | _, _ => .bad
    | _ => .bad
  | .makeMap _ none => .nw fun _ => some (.map [] 0, .map)
  | .makeSlice t l c => match E.und t with
    | some (.slice e) => match E.ty e with
      | some i =>
        let sl := srcK E l
        let sc := srcK E c
        let bytes := i.bytes
        let size := i.size
        .nw fun tm => natOf (sl.g tm) none fun l => natOf (sc.g tm) none fun c =>
          cond (Nat.ble l c && (Nat.ble (Nat.mul c bytes) 1099511627776 && Nat.ble c 1099511627776))
            (Option.casesOn (zerosOf E e c) none fun z => some (.cells z e size, .slc l c)) none
      | none => .bad
    | _ => .bad
  | .store t a x => match E.size t with
    | some k => let s := srcK E a; let r := srcK E x; .wr fun tm h => match s.g tm with
      | .ptr n off => let v := r.g tm; cond (Nat.beq v.cells.length k) (okU (h.store n off v.cells)) .fail
      | _ => .fail
    | none => .bad
  | .mapUpdate t m k v => let u := updateK E t; let a := srcK E m; let b := srcK E k; let c := srcK E v; .wr fun tm h => u.f h (a.g tm) (b.g tm) (c.g tm)
  | .insert t m k v => let u := updateK E t; let a := srcK E m; let b := srcK E k; let c := srcK E v; .wr fun tm h => u.f h (a.g tm) (b.g tm) (c.g tm)
  | .call c => callK E c
  | .range t x => match E.und t with
    | some (.map _ _) => let s := srcK E x; .wr fun tm h => match s.g tm with
      | .mapNil => .ok (.ptr h.nx 0) (h.new (.mit none))
      | .map n => match (h.at n).obj with
        | .map _ _ => .ok (.ptr h.nx 0) (h.new (.mit (some n)))
        | _ => .fail
      | _ => .fail
    | some .string => let s := srcK E x; .wr fun tm h => match s.g tm with
      | .str l => .ok (.ptr h.nx 0) (h.new (.sit l 0))
      | _ => .fail
    | _ => .bad
  | .next it false => let s := srcK E it; .wr fun tm h => match s.g tm with
      | .ptr n 0 => match (h.at n).obj with
        | .mit none => .ok (.tup [.bool false]) h
        | .mit (some m) => match (h.at m).obj with
          | .map [] _ => .ok (.tup [.bool false]) h
          | _ => .fail
        | _ => .fail
      | _ => .fail
  | .next it true => let s := srcK E it; .wr fun tm h => match s.g tm with
      | .ptr n 0 => match (h.at n).obj with
        | .sit l p => Option.casesOn (nthB p l) (.ok (.tup [.bool false]) h) fun b =>
            cond (Nat.blt b.toNat 128)
              (forceN (Nat.succ p) fun q => forceN b.toNat fun c => .ok (.tup [.bool true, .int .i64 (.ofNat p), .int .i32 (.ofNat c)]) (h.setObj n (.sit l q))) .fail
        | _ => .fail
      | _ => .fail
  | _ => .bad
end Go.Ev
