/- The evaluator of closed calls, part Ec: what the program computes on given inputs, read by the kernel; sound in every world (part Gh). -/
import Derived.Test.YtendmajekgmkhaaGreatDoorEb
set_option linter.unusedVariables false
set_option linter.unusedSimpArgs false
set_option linter.unnecessarySimpa false
namespace Go.Ev

/-! ### Code -/
inductive Out where
  | normal | ret | exit (id : Nat)
  deriving Inhabited
inductive CR where
  | ok (o : Out) (tm : Tm) (h : Heap)
  | fail
  deriving Inhabited
inductive VR where
  | ok (v : AVal) (h : Heap)
  | fail
  deriving Inhabited
@[reducible] def CF := FuncId → List AVal → Heap → VR
structure CK where
  f : CF → Tm → Heap → CR
def CK.bad : CK := ⟨fun _ _ _ => .fail⟩

structure PutK where
  f : AVal → Tm → Tm
noncomputable def putK (nt : Nat) (d : Option Tmp) : Option PutK :=
  match d with
  | none => some ⟨fun _ tm => tm⟩
  | some d => cond (Nat.blt d nt) (some ⟨fun v tm => tm.set undefA v (pos d)⟩) none
/-- Is the operation carried out? -/
structure WantK where
  f : Tm → Option Bool
noncomputable def wantK (all : List Oper) (g : Option (Nat × Bool)) : Option WantK :=
  match g with
  | none => none
  | some (j, b) => match all[j]? with
    | some o => match o.dst with
      | some d => some ⟨fun tm => match tget d tm with
        | .bool c => some (boolEqb c b)
        | .tup _ => some false
        | _ => none⟩
      | none => some ⟨fun _ => none⟩
    | none => some ⟨fun _ => none⟩
/-- One operation in its place: what follows is handed the value and the memory. -/
noncomputable def carry (k : OpK) (cf : CF) (tm : Tm) (h : Heap) (next : AVal → Heap → CR) : CR :=
  match k with
  | .pu f => Option.casesOn (f tm) .fail fun v => next v h
  | .rd f => Option.casesOn (f tm h) .fail fun v => next v h
  | .nw f => Option.casesOn (f tm) .fail fun p => next (p.2.mk h.nx) (h.new p.1)
  | .wr f => OR.casesOn (f tm h) next (fun g args => VR.casesOn (cf g args h) next .fail) .fail
noncomputable def stepK (w : Option WantK) (k : OpK) (p : PutK) (rest : CK) : CK :=
  match w, k with
  | none, .pu f => ⟨fun cf tm h => Option.casesOn (f tm) .fail fun v => rest.f cf (p.f v tm) h⟩
  | none, .rd f => ⟨fun cf tm h => Option.casesOn (f tm h) .fail fun v => rest.f cf (p.f v tm) h⟩
  | none, k => ⟨fun cf tm h => carry k cf tm h fun v h => rest.f cf (p.f v tm) h⟩
  | some w, k => ⟨fun cf tm h => Option.casesOn (w.f tm) .fail fun b =>
      cond b (carry k cf tm h fun v h => rest.f cf (p.f v tm) h) (rest.f cf (p.f undefA tm) h)⟩
noncomputable def opsK (E : Env) (nt : Nat) (all : List Oper) : List Oper → CK
  | [] => ⟨fun _ tm h => .ok .normal tm h⟩
  | o :: rest => match putK nt o.dst with
    | some p => stepK (wantK all o.guard) (opK E o.op) p (opsK E nt all rest)
    | none => .bad

/-! A region whose order is drawn. -/
def binding (e : Edge) : Bool := match e.ground with
  | .gcOnly _ => false
  | .textOnly _ => false
  | _ => true
def edgeMask (acc : List Nat) (s : Nat) (e : Edge) : Nat := cond (binding e) (Nat.lor s (Nat.lor (Nat.pow 2 e.on) (acc.getD e.on 0))) s
def beforesFrom : List Oper → List Nat → List Nat
  | [], acc => acc
  | o :: l, acc => beforesFrom l (acc ++ [o.after.toList.foldl (edgeMask acc) 0])
def befores (l : List Oper) : List Nat := beforesFrom l []
/-! Which temporaries an operation reads and writes. -/
def tmask : Operand → Nat
  | .tmp t => Nat.pow 2 t
  | _ => 0
def dstMask : Option Tmp → Nat
  | some d => Nat.pow 2 d
  | none => 0
def guardMask (all : List Oper) : Option (Nat × Bool) → Nat
  | some (j, _) => match all[j]? with
    | some o => dstMask o.dst
    | none => 0
  | none => 0
def readsMask : List Operand → Nat → Nat
  | [], s => s
  | x :: l, s => readsMask l (Nat.lor s (tmask x))
structure RW where
  ix : Nat
  rd : Nat
  wr : Nat
def apartFrom (rd wr pre : Nat) : List RW → Bool
  | [] => true
  | x :: l => cond (Nat.beq (Nat.lor (Nat.land x.wr (Nat.lor rd wr)) (Nat.land wr x.rd)) 0) (apartFrom rd wr pre l) (Nat.testBit pre x.ix && apartFrom rd wr pre l)
def tempsOk (all : List Oper) : List Oper → List Nat → Nat → List RW → Bool
  | [], [], _, _ => true
  | o :: l, pre :: ps, i, acc =>
    Nat.blt pre (Nat.pow 2 i) && (apartFrom (readsMask o.op.operands.toList (guardMask all o.guard)) (dstMask o.dst) pre acc &&
      tempsOk all l ps (Nat.succ i) (⟨i, readsMask o.op.operands.toList (guardMask all o.guard), dstMask o.dst⟩ :: acc))
  | _, _, _, _ => false
structure Held where
  ix : Nat
  f : Heap → Option AVal
  v : AVal
structure Pend where
  ix : Nat
  n : Pos
  ob : AObj
structure DS where
  tm : Tm
  h : Heap
  hist : List (Nat × Heap)
  chain : Nat
  held : List Held
  fls : List Pend
noncomputable def same? (o : Option AVal) (v : AVal) : Bool := match o with
  | some u => u.eqb v
  | none => false
noncomputable def stillHeld (pre : Nat) (h : Heap) : List Held → Bool
  | [] => true
  | x :: l => cond (Nat.testBit pre x.ix) true (same? (x.f h) x.v) && stillHeld pre h l
noncomputable def backHeld (pre : Nat) (nx : Pos) (f : Heap → Option AVal) (v : AVal) : List (Nat × Heap) → Bool
  | [] => true
  | (c, h) :: l => cond (Nat.testBit pre c) true (same? (f ⟨h.t, nx, h.al, h.df⟩) v && backHeld pre nx f v l)
noncomputable def Pos.num : Pos → Nat := fun p => Pos.rec (motive := fun _ => Nat) 1 (fun _ ih => Nat.mul 2 ih) (fun _ ih => Nat.succ (Nat.mul 2 ih)) p
noncomputable def Heap.lay (h : Heap) (p : Pend) : Heap := match (h.at p.n).obj with
  | .free => ⟨h.put p.n ⟨p.ob, p.n⟩, h.nx, h.al, h.df⟩
  | _ => h
noncomputable def layFrees (pre : Nat) : List Pend → Heap → Heap
  | [], h => h
  | p :: l, h => cond (Nat.testBit pre p.ix) (layFrees pre l (h.lay p)) (layFrees pre l h)
noncomputable def layK {R : Type} (pre : Nat) (k : Heap → R) : List Pend → Heap → R
  | [], h => k h
  | p :: l, h => cond (Nat.testBit pre p.ix) (layK pre k l (h.lay p)) (layK pre k l h)
structure DK where
  f : CF → DS → Option DS
noncomputable def drawGo (i pre : Nat) (k : OpK) (p : PutK) : CF → DS → Option DS := match k with
    | .pu f => fun _ s => Option.casesOn (f s.tm) none fun v => some ⟨p.f v s.tm, s.h, s.hist, s.chain, s.held, s.fls⟩
    | .nw f => fun _ s => Option.casesOn (f s.tm) none fun q =>
        some ⟨p.f (q.2.mk s.h.nx) s.tm, ⟨s.h.t, s.h.nx.succ, s.h.al, s.h.df⟩, s.hist, s.chain, s.held, ⟨i, s.h.nx, q.1⟩ :: s.fls⟩
    | .rd f => fun _ s =>
        let g : Heap → Option AVal := layK pre (f s.tm) s.fls
        Option.casesOn (g s.h) none fun v =>
          cond (backHeld pre s.h.nx g v s.hist) (some ⟨p.f v s.tm, s.h, s.hist, s.chain, ⟨i, g, v⟩ :: s.held, s.fls⟩) none
    | .wr f => fun cf s => cond (Nat.beq (Nat.land s.chain pre) s.chain)
        (layK pre (fun h =>
          let next : AVal → Heap → Option DS := fun v h' => cond (stillHeld pre h' s.held && Nat.ble h.nx.num h'.nx.num) (some ⟨p.f v s.tm, h', (i, s.h) :: s.hist, Nat.lor s.chain (Nat.pow 2 i), s.held, s.fls⟩) none
          OR.casesOn (f s.tm h) next (fun g args => VR.casesOn (cf g args h) next none) none) s.fls s.h) none
noncomputable def drawK (i pre : Nat) (w : Option WantK) (k : OpK) (p : PutK) : DK :=
  let go := drawGo i pre k p
  match w with
  | none => ⟨go⟩
  | some w => ⟨fun cf s => Option.casesOn (w.f s.tm) none fun b => cond b (go cf s) (some ⟨p.f undefA s.tm, s.h, s.hist, s.chain, s.held, s.fls⟩)⟩
noncomputable def drawOpsK (E : Env) (nt : Nat) (all : List Oper) : List Oper → List Nat → Nat → DK
  | o :: l, pre :: ps, i => match putK nt o.dst with
    | some p =>
      let a := drawK i pre (wantK all o.guard) (opK E o.op) p
      let r := drawOpsK E nt all l ps (i + 1)
      ⟨fun cf s => Option.casesOn (a.f cf s) none fun s => r.f cf s⟩
    | none => ⟨fun _ _ => none⟩
  | [], [], _ => ⟨fun _ s => some s⟩
  | _, _, _ => ⟨fun _ _ => none⟩
noncomputable def regionK (E : Env) (nt : Nat) (all : List Oper) : CK :=
  match tempsOk all all (befores all) 0 [] with
  | true =>
    let d := drawOpsK E nt all all (befores all) 0
    let pre := Nat.sub (Nat.pow 2 all.length) 1
    ⟨fun cf tm h => Option.casesOn (d.f cf ⟨tm, h, [], 0, [], []⟩) .fail fun s => layK pre (fun h => .ok .normal s.tm h) s.fls s.h⟩
  | false => .bad

noncomputable def loopGo (body : CK) (cf : CF) : Nat → Tm → Heap → CR := fun n => Nat.rec (motive := fun _ => Tm → Heap → CR)
  (fun _ _ => .fail)
  (fun _ ih tm h => CR.casesOn (body.f cf tm h) (fun o tm h => Out.casesOn o (ih tm h) (.ok .ret tm h) (fun id => .ok (.exit id) tm h)) .fail) n
noncomputable def codeK (E : Env) (nt : Nat) : Code → CK
  | .skip => ⟨fun _ tm h => .ok .normal tm h⟩
  | .label _ => ⟨fun _ tm h => .ok .normal tm h⟩
  | .ret => ⟨fun _ tm h => .ok .ret tm h⟩
  | .exit id => ⟨fun _ tm h => .ok (.exit id) tm h⟩
  | .seq a b =>
    let x := codeK E nt a
    let y := codeK E nt b
    ⟨fun cf tm h => CR.casesOn (x.f cf tm h) (fun o tm h => Out.casesOn o (y.f cf tm h) (.ok .ret tm h) (fun id => .ok (.exit id) tm h)) .fail⟩
  | .cond c a b =>
    let s := srcK E c
    let x := codeK E nt a
    let y := codeK E nt b
    ⟨fun cf tm h => match s.g tm with
      | .bool b => cond b (x.f cf tm h) (y.f cf tm h)
      | _ => .fail⟩
  | .block id a =>
    let x := codeK E nt a
    ⟨fun cf tm h => CR.casesOn (x.f cf tm h) (fun o tm h => Out.casesOn o (.ok .normal tm h) (.ok .ret tm h) (fun j => cond (Nat.beq j id) (.ok .normal tm h) (.ok (.exit j) tm h))) .fail⟩
  | .loop a =>
    let x := codeK E nt a
    ⟨fun cf tm h => loopGo x cf 1000000 tm h⟩
  | .scope a => codeK E nt a
  | .region _ ops draw => match draw with
    | true => regionK E nt ops.toList
    | false => opsK E nt ops.toList ops.toList
  | .rangeFunc f _ _ _ =>
    let s := srcK E f
    ⟨fun cf tm h => match s.g tm with
      | .func (.func f) first captured =>
        let d := h.nx
        let h1 := h.new .defN
        let l := h1.nx
        let h2 := h1.new .loopR
        match (callFnK E f).f h2 (appA first (.yld l :: captured)) with
        | .call f args => match cf f args h2 with
          | .ok _ h3 => match (h3.at l).obj with
            | .loopR => let h4 := h3.setObj l .other; .ok .normal tm ⟨h4.t, h4.nx, h4.al, d :: h4.df⟩
            | _ => .fail
          | .fail => .fail
        | _ => .fail
      | _ => .fail⟩
  | _ => .bad

structure ResK where
  f : Tm → Heap → Option (List AVal)
noncomputable def resK (E : Env) : List ResultVar → ResK
  | [] => ⟨fun _ _ => some []⟩
  | .tmp t :: l => let r := resK E l; ⟨fun tm h => Option.casesOn (r.f tm h) none fun x => some (tget t tm :: x)⟩
  | .cell a t :: l => let r := resK E l; let k := loadK E t; ⟨fun tm h => Option.casesOn (k.f h (tget a tm)) none fun v => Option.casesOn (r.f tm h) none fun x => some (v :: x)⟩
def oneOrTup : List AVal → AVal
  | [v] => v
  | l => .tup l
noncomputable def layArgs : List AVal → Nat → Tm → Tm
  | [], _, tm => tm
  | v :: l, k, tm => layArgs l (Nat.succ k) (tm.set undefA v (pos k))
noncomputable def undefer : List Pos → Heap → Option Heap
  | [], h => some h
  | d :: l, h => match (h.at d).obj with
    | .defN => undefer l (h.setObj d .other)
    | _ => none
structure FunK where
  f : CF → List AVal → Heap → VR
noncomputable def funK (E : Env) (f : FuncId) : FunK :=
  match E.fns.get none (pos f) with
  | some fn =>
    match fn.body with
    | some c =>
      let nt := fn.ntmps
      let b := codeK E nt c
      let r := resK E fn.results.toList
      ⟨fun cf args h => cond (Nat.ble args.length nt)
        (CR.casesOn (b.f cf (layArgs args 0 .leaf) ⟨h.t, h.nx, h.al, []⟩)
          (fun o tm h' => Out.casesOn o
            (Option.casesOn (undefer h'.df h') .fail fun h' => Option.casesOn (r.f tm h') .fail fun l => .ok (oneOrTup l) ⟨h'.t, h'.nx, h'.al, h.df⟩)
            (Option.casesOn (undefer h'.df h') .fail fun h' => Option.casesOn (r.f tm h') .fail fun l => .ok (oneOrTup l) ⟨h'.t, h'.nx, h'.al, h.df⟩)
            (fun _ => .fail)) .fail) .fail⟩
    | none => ⟨fun _ _ _ => .fail⟩
  | none => ⟨fun _ _ _ => .fail⟩
noncomputable def callG (E : Env) : Nat → CF := fun n => Nat.rec (motive := fun _ => CF)
  (fun _ _ _ => .fail)
  (fun _ ih f args h => (funK E f).f ih args h) n

noncomputable def Env.of (P : Program) (G : Tabs) : Env :=
  { tys := .ofList none (P.types.toList.map some), fns := .ofList none (P.funcs.toList.map some), gl := G, gt := fun t => !P.stoodInHeld t && !P.eqGuardType P.depth t }
noncomputable def emptyHeap (n : Nat) : Heap := { t := .leaf, nx := pos n, al := .leaf, df := [] }
end Go.Ev
