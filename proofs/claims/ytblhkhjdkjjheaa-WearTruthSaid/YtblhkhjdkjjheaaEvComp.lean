/- From the model's code to the evaluator's instructions (own work). -/
import Derived.Test.YtblhkhjdkjjheaaEvCore
set_option linter.unusedVariables false
set_option linter.unusedSimpArgs false
set_option linter.unnecessarySimpa false
set_option linter.unusedSectionVars false
namespace Go.Ev
open Go

def szT (P : Program) (t : TypeId) : Nat :=
  match P.info? t with
  | some i => i.size
  | none => 0
def byT (P : Program) (t : TypeId) : Nat :=
  match P.info? t with
  | some i => i.bytes
  | none => 0
def agT (P : Program) (t : TypeId) : Bool :=
  match P.underlying t with
  | some (.struct _) | some (.array _ _) => true
  | _ => false
def zeT (P : Program) (t : TypeId) : Option (List AVal) :=
  match P.info? t with
  | some i => match i.zero with
    | some z => if z.cells.toList.all oneV then some (z.cells.toList.map .v) else none
    | none => none
  | none => none

/-- a type's zero has as many cells as its size -/
def zeFits (P : Program) (t : TypeId) : Bool :=
  match P.info? t with
  | some i => match i.zero with
    | some z => Nat.beq z.cells.size i.size
    | none => false
  | none => false

/-- the kinds of a type's cells -/
def kindsT (P : Program) (sl : Bool) : Nat → TypeId → List CK
  | 0, t => List.replicate (szT P t) .any
  | d + 1, t => match P.underlying t with
    | some (.int k) => [.int k]
    | some .bool => [.bool]
    | some (.slice e) => match sl with
      | true => [.sl (szT P e)]
      | false => [.any]
    | some (.struct fs) => fs.toList.flatMap fun f => kindsT P sl d f.type
    | some (.array n e) => (List.replicate n (kindsT P sl d e)).flatten
    | _ => List.replicate (szT P t) .any

def cArg : Operand → Arg
  | .tmp t => .t t
  | .const v => .c (ofVal v)
  | .global g => .g g
  | .func f => .c (.fn f [])

/-- place and size of a part -/
def placeT (P : Program) (t : TypeId) (i : Nat) : Option (Nat × Nat) :=
  match P.underlying t with
  | some (.struct fs) => match fs[i]? with
    | some f => some (f.offset, szT P f.type)
    | none => none
  | some (.array _ e) => some (i * szT P e, szT P e)
  | some (.slice e) => some (i * szT P e, szT P e)
  | _ => none
def cParts (P : Program) (t : TypeId) : List (Nat × Operand) → Option (List (Nat × Nat × Arg))
  | [] => some []
  | (i, x) :: r => match placeT P t i with
    | some (off, size) => match cParts P t r with
      | some l => some ((off, size, cArg x) :: l)
      | none => none
    | none => none

def bareO (o : Oper) : Oper := { o with dst := none, pos := "", after := #[], guard := none }
def tmpsOf : List Operand → Option (List Nat)
  | [] => some []
  | .tmp t :: r => match tmpsOf r with
    | some l => some (t :: l)
    | none => none
  | .global _ :: _ => none
  | _ :: r => tmpsOf r
def infoAll (P : Program) (t : TypeId) : Bool :=
  match P.underlying t with
  | some (.struct fs) => fs.all fun f => (P.info? f.type).isSome
  | some (.array _ e) => (P.info? e).isSome
  | _ => false
def cGen (o : Oper) : PO :=
  match tmpsOf o.op.operands.toList with
  | some ts => .gen (bareO o) ts
  | none => .bad

/-- the cells of a type of plain numbers and bools, in the order in which they are compared -/
def catAll : List (Option (List (Nat × CK))) → Option (List (Nat × CK))
  | [] => some []
  | x :: r => match x, catAll r with
    | some a, some b => some (a ++ b)
    | _, _ => none
def shiftE (off n : Nat) (x : Option (List (Nat × CK))) : Option (List (Nat × CK)) := match x with
  | some l => if l.all (fun p => Nat.blt p.1 n) then some (l.map fun p => (off + p.1, p.2)) else none
  | none => none
def flatE (P : Program) : Nat → TypeId → Option (List (Nat × CK))
  | 0, _ => none
  | d + 1, t => match P.underlying t with
    | some (.int k) => some [(0, .int k)]
    | some .bool => some [(0, .bool)]
    | some (.struct fs) => if P.stoodInHeld t then none else catAll (fs.toList.map fun f => if f.name = "_" then none else shiftE f.offset (szT P f.type) (flatE P d f.type))
    | some (.array n e) => if (P.info? e).isSome then catAll ((List.range n).map fun i => shiftE (i * szT P e) (szT P e) (flatE P d e)) else none
    | _ => none

def nilKind (P : Program) (t : TypeId) : Nat :=
  match P.underlying t with
  | some (.slice _) => 0
  | some (.pointer _) => 1
  | some (.func _ _ _) => 2
  | _ => 3
def cEqn (P : Program) (o : Oper) (op : BinOp) (t : TypeId) (x y : Operand) : PO :=
  match op with
  | .eql => if agT P t then (match flatE P 9 t with | some fl => if P.eqGuardType P.depth t then .bad else .eqc false fl (cArg x) (cArg y) | none => .bad) else match tmpsOf o.op.operands.toList with
    | some ts => .eqn (nilKind P t) false (cArg x) (cArg y) (bareO o) ts
    | none => .bad
  | .neq => if agT P t then (match flatE P 9 t with | some fl => if P.eqGuardType P.depth t then .bad else .eqc true fl (cArg x) (cArg y) | none => .bad) else match tmpsOf o.op.operands.toList with
    | some ts => .eqn (nilKind P t) true (cArg x) (cArg y) (bareO o) ts
    | none => .bad
  | _ => cGen o
def cAppend (P : Program) : List Operand → List TypeId → PO
  | [s, x], [t, u] => match P.underlying t with
    | some (.slice e) => if Nat.blt 0 (szT P e) && Nat.blt 0 (byT P e) && zeFits P e && !(Nat.beq e 0) && Nat.beq t u then .append e (szT P e) (byT P e) (cArg s) (cArg x) else .bad
    | _ => .bad
  | _, _ => .bad
def cCopy (P : Program) : List Operand → List TypeId → PO
  | [d, s], [t, _] => match P.underlying t with
    | some (.slice e) => if (P.info? e).isSome then .copy (szT P e) (cArg d) (cArg s) else .bad
    | _ => .bad
  | _, _ => .bad
def cLen (P : Program) (o : Oper) : List Operand → List TypeId → PO
  | [x], [t] => match P.underlying t with
    | some (.slice _) => .len (cArg x)
    | some (.array n _) => .mv (.c (.v (.int .i64 n)))
    | some .string => cGen o
    | _ => .bad
  | _, _ => .bad
def cOp (P : Program) (o : Oper) : PO :=
  match o.op with
  | .move x | .assign x => .mv (cArg x)
  | .nilCheck x => .nilck (cArg x)
  | .pick c x y => .pick (cArg c) (cArg x) (cArg y)
  | .alloc t => match zeT P t with
    | some z => .alloc z
    | none => .bad
  | .box _ x => .box (cArg x)
  | .build t parts => match zeT P t with
    | some z => match cParts P t parts.toList with
      | some l => if infoAll P t then .build z l else .bad
      | none => .bad
    | none => .bad
  | .buildSlice t n parts => match P.underlying t with
    | some (.slice e) => match zeT P e with
      | some z => match cParts P t parts.toList with
        | some l => if Nat.ble (n * szT P e) 16777216 && Nat.beq z.length (szT P e) && Nat.blt 0 (szT P e) then .bslice e (szT P e) n (List.replicate n z).flatten l else .bad
        | none => .bad
      | none => .bad
    | _ => .bad
  | .load t x => match P.underlying t with
    | some _ => .load (kindsT P true 8 t) (szT P t) (agT P t) (cArg x)
    | none => .bad
  | .store t x y => if Nat.beq (szT P t) 0 then .bad else .store (szT P t) (cArg x) (cArg y)
  | .fieldAddr s x f => match P.underlying s with
    | some (.struct fs) => match fs[f]? with
      | some fd => if Nat.beq (szT P fd.type) 0 then .bad else .fld fd.offset (cArg x)
      | none => .bad
    | _ => .bad
  | .indexAddr t x i => match P.underlying t with
    | some (.array n e) => if (P.info? e).isSome then .idxA n (szT P e) (cArg x) (cArg i) else .bad
    | some (.slice e) => if (P.info? e).isSome then .idxS (szT P e) (cArg x) (cArg i) else .bad
    | _ => .bad
  | .slice t x lo hi mx => match P.underlying t, mx with
    | some (.slice e), none => if (P.info? e).isSome then .slice (szT P e) (cArg x) (lo.map cArg) (hi.map cArg) else .bad
    | some .string, none => cGen o
    | _, _ => .bad
  | .makeSlice t l c => match P.underlying t with
    | some (.slice e) => match zeT P e with
      | some z => if Nat.beq z.length (szT P e) && Nat.blt 0 (szT P e) then .mksl e (szT P e) (byT P e) z (cArg l) (cArg c) else .bad
      | none => .bad
    | _ => .bad
  | .makeFunc (.func f) first caps => if first.isEmpty then .mkfn f (caps.toList.map cArg) else .bad
  | .extract x i => .ext (cArg x) i
  | .field t x f => match P.underlying t with
    | some (.struct fs) => match fs[f]? with
      | some fd => if (P.underlying fd.type).isSome then .field fd.offset (szT P fd.type) (agT P fd.type) (cArg x) else .bad
      | none => .bad
    | _ => .bad
  | .index t x i => match P.underlying t with
    | some (.array n e) => if (P.underlying e).isSome then .index (kindsT P false 8 e) n (szT P e) (agT P e) (cArg x) (cArg i) else .bad
    | some .string => cGen o
    | _ => .bad
  | .binOp op t x y _ =>
    let plain := cGen o
    match P.underlying t with
    | some (.int _) => match op with
      | .add | .sub | .mul | .quo | .rem | .lss | .leq | .gtr | .geq | .eql | .neq => .bin op (cArg x) (cArg y)
      | _ => plain
    | _ => cEqn P o op t x y
  | .unOp op t x =>
    match op, P.underlying t with
    | .not, _ => .not (cArg x)
    | .neg, some (.int _) => .neg (cArg x)
    | _, _ => cGen o
  | .call c => match c.callee with
    | .value (.func f) => .call f (c.args.toList.map cArg)
    | .value x => .calld (cArg x) (c.args.toList.map cArg)
    | .invoke _ _ => .bad
    | .builtin b => match b with
      | .append => cAppend P c.args.toList c.argTypes.toList
      | .copy => cCopy P c.args.toList c.argTypes.toList
      | .len => cLen P o c.args.toList c.argTypes.toList
      | .max => cGen o
      | .min => cGen o
      | _ => .bad
  | .convert _ _ _ => cGen o
  | .makeInterface _ _ => cGen o
  | .typeAssert _ _ _ _ => cGen o
  | _ => .bad

def cGuard (ops : Array Oper) (o : Oper) : Option (Option (Nat × Bool)) :=
  match o.guard with
  | none => some none
  | some (j, want) => match ops[j]? with
    | some oj => match oj.dst with
      | some d => some (some (d, want))
      | none => none
    | none => none
def cOps (P : Program) (ops : Array Oper) : List Oper → Option (List PI)
  | [] => some []
  | o :: r => match cGuard ops o with
    | some g => match cOps P ops r with
      | some l => some (⟨o.dst, g, [], cOp P o⟩ :: l)
      | none => none
    | none => none

/-! ### a region whose order is open -/
def isAlloc (o : Oper) : Bool := match o.op with
  | .alloc _ => o.guard.isNone
  | _ => false
def isFloat : PO → Bool
  | .mv _ | .nilck _ | .pick .. | .build .. | .tslice .. | .load .. | .fld .. | .idxA .. | .idxS .. | .slice .. | .mkfn .. | .ext .. | .field .. | .index .. | .bin .. | .eqn .. | .eqc .. | .not _ | .neg _ | .gen .. | .len _ => true
  | _ => false
/-- the slots that an operation reads -/
def aSlots : Arg → List Nat
  | .t n => [n]
  | _ => []
def oSlots : Option Arg → List Nat
  | some x => aSlots x
  | none => []
def poSlots : PO → List Nat
  | .mv x | .nilck x | .box x | .load _ _ _ x | .fld _ x | .ext x _ | .field _ _ _ x | .not x | .neg x | .len x => aSlots x
  | .pick c x y => aSlots c ++ aSlots x ++ aSlots y
  | .alloc _ | .bad => []
  | .build _ ps | .bslice _ _ _ _ ps | .tslice _ _ _ ps => ps.flatMap fun p => aSlots p.2.2
  | .store _ x y | .idxA _ _ x y | .idxS _ x y | .mksl _ _ _ _ x y | .index _ _ _ _ x y | .bin _ x y | .eqc _ _ x y | .append _ _ _ x y | .copy _ x y => aSlots x ++ aSlots y
  | .eqn _ _ x y _ ts => aSlots x ++ aSlots y ++ ts
  | .slice _ x lo hi => aSlots x ++ oSlots lo ++ oSlots hi
  | .mkfn _ xs | .call _ xs => xs.flatMap aSlots
  | .gen _ ts => ts
  | .calld x xs => aSlots x ++ xs.flatMap aSlots
def gSlots : Option (Nat × Bool) → List Nat
  | some (d, _) => [d]
  | none => []
/-- the edges that bind an operation -/
def direct (o : Oper) : List Nat := (o.after.toList.filter fun e => Region.binds .any e).map (·.on)
/-- M's row j lists (as bits) who comes before j whatever the order -/
def rowsOk (ops : Array Oper) (M : List Nat) : Bool :=
  (List.range ops.size).all fun j => match ops[j]? with
    | some o => (direct o).all (Nat.blt · j) && (List.range ops.size).all fun i => !(M.getD j 0).testBit i || (direct o).any fun m => Nat.beq m i || (M.getD m 0).testBit i
    | none => false
def isBefore (M : List Nat) (i j : Nat) : Bool := (M.getD j 0).testBit i

/-- an operation whose blocks do not matter at the end -/
def isLoose : PO → Bool
  | .load .. | .idxS .. | .slice .. | .store .. | .append .. | .copy .. | .call .. | .calld .. => false
  | _ => true
/-- one operation's share: a slot that it reads is written before, or (by no new zero) not before it; and each slot is written once -/
def slotsOk (ops : Array Oper) (M : List Nat) (j : Nat) (loose : Bool) (reads : List Nat) (dst : Option Nat) : Bool :=
  (List.range ops.size).all fun i => match ops[i]? with
    | some o => match o.dst with
      | some d => (!(reads.contains d) || isBefore M i j || (loose && !isAlloc o && (isBefore M j i || Nat.beq i j))) && (Nat.beq i j || dst != some d)
      | none => true
    | none => false
/-- a slice that is built, as a part of memory that stays -/
def toTree (tr : Nat) (o : PO) : PO := match o with
  | .bslice et es n z ps => match Nat.beq tr 0 || (Nat.beq tr 1 && Nat.beq n 0) with
    | true => .bslice et es n z ps
    | false => .tslice es n z ps
  | o => o
/-- 0: a new zero; 1: no change of memory; 2: all else -/
def kindO (tr : Nat) (P : Program) (o : Oper) : Nat := if isAlloc o then 0 else if isFloat (toTree tr (cOp P o)) then 1 else 2
def hideOf (ops : Array Oper) (M : List Nat) (j : Nat) : List Nat := (List.range ops.size).filterMap fun i => match ops[i]? with
  | some oi => if isAlloc oi && !isBefore M i j then oi.dst else none
  | none => none
def cPI (tr : Nat) (P : Program) (ops : Array Oper) (M : List Nat) (j : Nat) (o : Oper) : Option (Nat × PI) :=
  match cGuard ops o with
  | some g => some (kindO tr P o, ⟨o.dst, g, if Nat.beq (kindO tr P o) 2 then hideOf ops M j else [], toTree tr (cOp P o)⟩)
  | none => none
def cPIs (tr : Nat) (P : Program) (ops : Array Oper) (M : List Nat) : Nat → List Oper → Option (List (Nat × PI))
  | _, [] => some []
  | j, o :: r => match cPI tr P ops M j o, cPIs tr P ops M (j + 1) r with
    | some x, some l => some (x :: l)
    | _, _ => none
def pick0 (ks : List (Nat × PI)) (j : Nat) : Option PI := match ks[j]? with
  | some (0, p) => some p
  | _ => none
def pickN (ks : List (Nat × PI)) (j : Nat) : Option PI := match ks[j]? with
  | some (_ + 1, p) => some p
  | _ => none
/-- no block is named outright -/
def argBare : Arg → Bool
  | .c x => match x with
    | .ptr .. | .sl .. => false
    | _ => true
  | _ => true
def usesBare : PO → Bool
  | .load _ _ _ x => argBare x
  | .idxS _ x _ => argBare x
  | .slice _ x _ _ => argBare x
  | _ => true
def drawOne (ops : Array Oper) (M : List Nat) (ks : List (Nat × PI)) (j : Nat) : Bool := match ks[j]? with
  | some (k, p) => slotsOk ops M j (isLoose p.op) (gSlots p.guard ++ poSlots p.op) p.dst && usesBare p.op && (!Nat.beq k 0 || p.dst.isSome) && (!Nat.beq k 2 || (List.range j).all fun i => match ks[i]? with
    | some (2, _) => isBefore M i j && Nat.beq ((M.getD i 0) &&& (M.getD j 0)) (M.getD i 0)
    | _ => true)
  | none => false
def pairsOf (n : Nat) (M : List Nat) (ks : List (Nat × PI)) : List (PO × PO) := (List.range n).flatMap fun j => match ks[j]? with
  | some (1, pj) => (List.range n).filterMap fun i => match ks[i]? with
    | some (2, pi) => if isBefore M i j || isBefore M j i then none else some (pj.op, pi.op)
    | _ => none
  | _ => []
def cDrawK (ops : Array Oper) (M : List Nat) (ks : List (Nat × PI)) : PC :=
  match rowsOk ops M && (List.range ops.size).all (drawOne ops M ks) with
  | true => .draw (ops.toList.filterMap (·.dst)) ((List.range ops.size).filterMap (pick0 ks)) ((List.range ops.size).filterMap (pickN ks)) (pairsOf ops.size M ks)
  | false => .bad
def cDrawT (tr : Nat) (P : Program) (ops : Array Oper) : PC :=
  let M := (Region.before ops).toList
  match cPIs tr P ops M 0 ops.toList with
  | some ks => cDrawK ops M ks
  | none => .bad

/-- as the text builds its slices, or (where the order is too open for that) with slices that stay -/
def cDraw (P : Program) (ops : Array Oper) : PC :=
  match cDrawT 0 P ops with
  | .draw a b c d => .draw a b c d
  | _ => match cDrawT 1 P ops with
    | .draw a b c d => .draw a b c d
    | _ => cDrawT 2 P ops

def cCode (P : Program) : Code → PC
  | .skip => .skip
  | .region _ ops d => match d with
    | false => match cOps P ops ops.toList with
      | some l => .ops l
      | none => .bad
    | true => cDraw P ops
  | .seq a b => .seq (cCode P a) (cCode P b)
  | .cond c x y => .cond (cArg c) (cCode P x) (cCode P y)
  | .block id c => .block id (cCode P c)
  | .loop c => .loop [] (cCode P c)
  | .scope c => cCode P c
  | .label _ => .skip
  | .exit id => .exit id
  | .ret => .ret
  | _ => .bad

/-! ### which slots are read again (a set is a number's bits) -/
def bit (n : Nat) : Nat := 2 ^ n
def less (s n : Nat) : Nat := if s.testBit n then s - 2 ^ n else s
def rArg : Arg → Nat
  | .t n => bit n
  | _ => 0
def rArgs (l : List Arg) : Nat := l.foldl (fun s x => s ||| rArg x) 0
def rOpt : Option Arg → Nat
  | some x => rArg x
  | none => 0
def rOp : PO → Nat
  | .mv x | .nilck x | .box x | .load _ _ _ x | .fld _ x | .ext x _ | .field _ _ _ x | .not x | .neg x | .len x => rArg x
  | .pick c x y => rArg c ||| rArg x ||| rArg y
  | .alloc _ | .bad => 0
  | .build _ ps | .bslice _ _ _ _ ps | .tslice _ _ _ ps => rArgs (ps.map (·.2.2))
  | .store _ x y | .idxA _ _ x y | .idxS _ x y | .mksl _ _ _ _ x y | .index _ _ _ _ x y | .bin _ x y | .eqc _ _ x y | .eqn _ _ x y _ _ | .append _ _ _ x y | .copy _ x y => rArg x ||| rArg y
  | .slice _ x lo hi => rArg x ||| rOpt lo ||| rOpt hi
  | .mkfn _ xs | .call _ xs => rArgs xs
  | .gen _ ts => rArgs (ts.map .t)
  | .calld x xs => rArg x ||| rArgs xs
def rGuard : Option (Nat × Bool) → Nat
  | some (d, _) => bit d
  | none => 0
def liveOps : List PI → Nat → Nat
  | [], out => out
  | o :: r, out =>
    let s := liveOps r out
    (match o.dst with | some d => less s d | none => s) ||| rOp o.op ||| rGuard o.guard
def live (ret : Nat) : PC → Nat → (Nat → Nat) → Nat
  | .skip, out, _ => out
  | .ops l, out, _ => liveOps l out
  | .draw _ as l _, out, _ => liveOps (as ++ l) out
  | .seq a b, out, ex => live ret a (live ret b out ex) ex
  | .cond c x y, out, ex => rArg c ||| live ret x out ex ||| live ret y out ex
  | .block id c, out, ex => live ret c out (fun k => if k == id then out else ex k)
  | .loop _ c, _, ex =>
    let l1 := live ret c 0 ex
    let l2 := live ret c l1 ex
    l2 ||| live ret c l2 ex
  | .exit id, _, ex => ex id
  | .ret, _, _ => ret
  | .bad, _, _ => 0
def bitsOf (n s : Nat) : List Nat := (List.range n).filter (s.testBit ·)
def note (n ret : Nat) : PC → Nat → (Nat → Nat) → PC
  | .seq a b, out, ex => .seq (note n ret a (live ret b out ex) ex) (note n ret b out ex)
  | .cond c x y, out, ex => .cond c (note n ret x out ex) (note n ret y out ex)
  | .block id c, out, ex => .block id (note n ret c out (fun k => if k == id then out else ex k))
  | .loop _ c, _, ex =>
    let l1 := live ret c 0 ex
    let l2 := l1 ||| live ret c l1 ex
    let l3 := l2 ||| live ret c l2 ex
    .loop (bitsOf n l3) (note n ret c l3 ex)
  | c, _, _ => c

def cRes (P : Program) : ResultVar → PRes
  | .tmp t => .t t
  | .cell a t => .cell a (szT P t) (agT P t)
def resOk (P : Program) : ResultVar → Bool
  | .tmp _ => true
  | .cell _ t => (P.underlying t).isSome
def rRes : List PRes → Nat
  | [] => 0
  | .t n :: r => bit n ||| rRes r
  | .cell a _ _ :: r => bit a ||| rRes r

def compile (P : Program) (fn : Func) : Option PFn :=
  match fn.body with
  | some c =>
    let res := fn.results.toList.map (cRes P)
    if fn.results.toList.all (resOk P) then some ⟨fn.ntmps, res, note fn.ntmps (rRes res) (cCode P c) (rRes res) (fun _ => 0)⟩ else none
  | none => none

end Go.Ev

