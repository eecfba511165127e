/- A pure evaluator over an abstract heap (own work): values, instructions, evaluation. -/
import GoSem.Dispatch
import Derived.Calls
set_option linter.unusedVariables false
set_option linter.unusedSimpArgs false
set_option linter.unnecessarySimpa false
set_option linter.unusedSectionVars false
namespace Go.Ev
open Go

/-- Abstract values. -/
inductive AVal where
  | v (x : Value)
  | agg (cs : List AVal)
  | tup (vs : List AVal)
  | ptr (id i c g : Nat)
  | sl (id off len g : Nat)
  | tree (es n : Nat) (get : Nat → List AVal)
  | tptr (cs : List AVal)
  | fn (f : FuncId) (caps : List AVal)
  | unk

structure ABlk where
  et : TypeId
  es : Nat
  elems : List (List AVal)
  own : Bool
  dead : Bool
  g : Nat

/-- Decision trees. -/
inductive DT (α : Type) where
  | ret (a : α)
  | fail
  | ite (b : Bool) (t e : DT α)

namespace DT
variable {α β : Type}
noncomputable def bind (x : DT α) (f : α → DT β) : DT β :=
  DT.rec (motive := fun _ => DT β) (fun a => f a) .fail (fun b _ _ t e => .ite b t e) x
noncomputable def run (x : DT α) : Option α :=
  DT.rec (motive := fun _ => Option α) some none (fun b _ _ t e => Bool.rec e t b) x
def guard (b : Bool) (t : DT α) : DT α := .ite b t .fail
end DT

/-! ### lists, by the recursor: the kernel goes through these fast -/
section
variable {α β : Type}
noncomputable def nth (l : List α) : Nat → Option α :=
  List.rec (motive := fun _ => Nat → Option α) (fun _ => none) (fun x _ ih n => Nat.rec (motive := fun _ => Option α) (some x) (fun k _ => ih k) n) l
noncomputable def setAt (l : List α) : Nat → α → List α :=
  List.rec (motive := fun _ => Nat → α → List α) (fun _ _ => []) (fun x r ih n y => Nat.rec (motive := fun _ => List α) (y :: r) (fun k _ => x :: ih k y) n) l
noncomputable def takeN (l : List α) : Nat → List α :=
  List.rec (motive := fun _ => Nat → List α) (fun _ => []) (fun x _ ih n => Nat.rec (motive := fun _ => List α) [] (fun k _ => x :: ih k) n) l
noncomputable def dropN (l : List α) : Nat → List α :=
  List.rec (motive := fun _ => Nat → List α) (fun _ => []) (fun x r ih n => Nat.rec (motive := fun _ => List α) (x :: r) (fun k _ => ih k) n) l
noncomputable def app (l r : List α) : List α := List.rec (motive := fun _ => List α) r (fun x _ ih => x :: ih) l
noncomputable def len (l : List α) : Nat := List.rec (motive := fun _ => Nat) 0 (fun _ _ ih => Nat.succ ih) l
noncomputable def mapL (f : α → β) (l : List α) : List β := List.rec (motive := fun _ => List β) [] (fun x _ ih => f x :: ih) l
noncomputable def mapO (f : α → Option β) (l : List α) : Option (List β) :=
  List.rec (motive := fun _ => Option (List β)) (some []) (fun x _ ih => Option.rec (motive := fun _ => Option (List β)) none (fun y => Option.rec (motive := fun _ => Option (List β)) none (fun r => some (y :: r)) ih) (f x)) l
end

inductive Arg where
  | t (n : Nat)
  | c (x : AVal)
  | g (n : Nat)

/-- what kind of a cell a load finds -/
inductive CK where
  | int (k : IntKind)
  | bool
  | sl (es : Nat)
  | any

inductive PO where
  | mv (x : Arg)
  | nilck (x : Arg)
  | pick (c x y : Arg)
  | alloc (z : List AVal)
  | box (x : Arg)
  | build (z : List AVal) (parts : List (Nat × Nat × Arg))
  | bslice (et es len : Nat) (z : List AVal) (parts : List (Nat × Nat × Arg))
  | tslice (es len : Nat) (z : List AVal) (parts : List (Nat × Nat × Arg))
  | load (ks : List CK) (n : Nat) (agg : Bool) (x : Arg)
  | store (n : Nat) (x y : Arg)
  | fld (off : Nat) (x : Arg)
  | idxA (len es : Nat) (x i : Arg)
  | idxS (es : Nat) (x i : Arg)
  | slice (es : Nat) (x : Arg) (lo hi : Option Arg)
  | mksl (et es bytes : Nat) (z : List AVal) (l c : Arg)
  | mkfn (f : FuncId) (caps : List Arg)
  | ext (x : Arg) (i : Nat)
  | field (off n : Nat) (agg : Bool) (x : Arg)
  | index (ks : List CK) (len es : Nat) (agg : Bool) (x i : Arg)
  | bin (op : BinOp) (x y : Arg)
  | eqn (k : Nat) (neg : Bool) (x y : Arg) (o : Oper) (ts : List Nat)
  | eqc (neg : Bool) (fl : List (Nat × CK)) (x y : Arg)
  | not (x : Arg)
  | neg (x : Arg)
  | gen (o : Oper) (ts : List Nat)
  | call (f : FuncId) (args : List Arg)
  | calld (x : Arg) (args : List Arg)
  | append (et es bytes : Nat) (s x : Arg)
  | copy (es : Nat) (d s : Arg)
  | len (x : Arg)
  | bad

structure PI where
  dst : Option Nat
  guard : Option (Nat × Bool)
  hide : List Nat
  op : PO

inductive PC where
  | skip
  | ops (l : List PI)
  | draw (dsts : List Nat) (as l : List PI) (pairs : List (PO × PO))
  | seq (a b : PC)
  | cond (c : Arg) (x y : PC)
  | block (id : Nat) (c : PC)
  | loop (keep : List Nat) (c : PC)
  | exit (id : Nat)
  | ret
  | bad

inductive PRes where
  | t (n : Nat)
  | cell (a n : Nat) (agg : Bool)

structure PFn where
  ntmps : Nat
  res : List PRes
  body : PC

structure Env where
  P : Program
  G : Nat → List Value
  fns : FuncId → Option PFn
  call : FuncId → List AVal → List ABlk → DT (AVal × List ABlk)
  own : FuncId → Nat → Bool
  N : Nat

def ofVal1 : Value → AVal
  | .agg cs => .agg (cs.toList.map .v)
  | x => .v x
def ofVal : Value → AVal
  | .agg cs => .agg (cs.toList.map .v)
  | .tuple vs => .tup (vs.toList.map ofVal1)
  | x => .v x
def cellVal : AVal → Option Value
  | .v x => some x
  | .fn f [] => some (.func (.func f) #[] #[])
  | _ => none
noncomputable def toVal : AVal → Option Value
  | .v x => some x
  | .fn f [] => some (.func (.func f) #[] #[])
  | .agg cs => match mapO cellVal cs with
    | some l => some (.agg l.toArray)
    | none => none
  | _ => none

def pureRun {α : Type} (P : Program) : Sem α → Option α
  | .pure a => some a
  | .program k => pureRun P (k P)
  | .mark _ k => pureRun P k
  | _ => none

noncomputable def evalA (E : Env) (a : List AVal) (x : Arg) : AVal :=
  Arg.rec (motive := fun _ => AVal) (fun t => Option.rec (motive := fun _ => AVal) .unk (fun y => y) (nth a t)) (fun c => c) (fun g => .tptr (mapL .v (E.G g))) x

/-- the operands' values: slots by a list -/
noncomputable def lookT : List Nat → List Value → Nat → Value
  | t :: ts, v :: vs, n => match Nat.beq t n with
    | true => v
    | false => lookT ts vs n
  | _, _, _ => .tuple #[]
noncomputable def rhoOf (ts : List Nat) (vs : List Value) : Operand → Value
  | .tmp t => lookT ts vs t
  | .const v => v
  | .func f => .func (.func f) #[] #[]
  | .global _ => .tuple #[]
/-- the run of an operation that looks at no memory, all of whose operands are plain values -/
noncomputable def evalGen (E : Env) (o : Oper) (rho : Operand → Value) : Option AVal :=
  match pureRun E.P (execOp rho o) with
  | some (.value v) => some (ofVal v)
  | _ => none

def aCells : AVal → List AVal
  | .agg cs => cs
  | x => [x]
def asType (agg : Bool) (cs : List AVal) : Option AVal :=
  match agg with
  | true => some (.agg cs)
  | false => match cs with
    | [x] => some x
    | _ => none

/-- an int's index within bounds -/
def inB (n : Int) (len : Nat) : Bool :=
  match n with
  | .ofNat k => Nat.blt k len
  | .negSucc _ => false

noncomputable def blkAt (H : List ABlk) (id g : Nat) : Option ABlk :=
  match nth H id with
  | some b => match b.dead with
    | true => none
    | false => match Nat.beq b.g g with
      | true => some b
      | false => none
  | none => none

noncomputable def loadCells (H : List ABlk) (p : AVal) (n : Nat) : Option (List AVal) :=
  match p with
  | .ptr id i c g => match blkAt H id g with
    | some b => match nth b.elems i with
      | some cells => match Nat.ble (c + n) (len cells) with
        | true => some (takeN (dropN cells c) n)
        | false => none
      | none => none
    | none => none
  | .tptr cs => match Nat.ble n (len cs) with
    | true => some (takeN cs n)
    | false => none
  | _ => none

noncomputable def getRow (l : List (List AVal)) (i : Nat) : List AVal :=
  match nth l i with
  | some x => x
  | none => []
/-- cells from a place on, and whether n of them are there -/
noncomputable def cellsG (H : List ABlk) (p : AVal) (n : Nat) : Option (Bool × List AVal) :=
  match p with
  | .ptr id i c g => match blkAt H id g with
    | some b => some (Bool.and (Nat.blt i (len b.elems)) (Nat.ble (c + n) (len (getRow b.elems i))), dropN (getRow b.elems i) c)
    | none => none
  | .tptr cs => some (Nat.ble n (len cs), cs)
  | _ => none
def isCK : CK → AVal → Bool
  | .int k, .v (.int k' _) => decide (k = k')
  | .bool, .v (.bool _) => true
  | .sl es, .tree es' _ _ => Nat.beq es es'
  | .sl _, .v (.slice none 0 0) => true
  | .any, _ => true
  | _, _ => false
def toI : AVal → Int
  | .v (.int _ n) => n
  | _ => 0
def toB : AVal → Bool
  | .v (.bool b) => b
  | _ => false
def toN : AVal → Nat
  | .tree _ n _ => n
  | _ => 0
def toG : AVal → Nat → List AVal
  | .tree _ _ get => get
  | _ => fun _ => []
def asCK : CK → AVal → AVal
  | .int k, x => .v (.int k (toI x))
  | .bool, x => .v (.bool (toB x))
  | .sl es, x => .tree es (toN x) (toG x)
  | .any, x => x
noncomputable def hdA (l : List AVal) : AVal := List.rec (motive := fun _ => AVal) .unk (fun x _ _ => x) l
noncomputable def tlA (l : List AVal) : List AVal := List.rec (motive := fun _ => List AVal) [] (fun _ r _ => r) l
noncomputable def okCKs (ks : List CK) : List AVal → Bool :=
  List.rec (motive := fun _ => List AVal → Bool) (fun _ => true) (fun k _ ih cs => Bool.and (isCK k (hdA cs)) (ih (tlA cs))) ks
noncomputable def asCKs (ks : List CK) : List AVal → List AVal :=
  List.rec (motive := fun _ => List AVal → List AVal) (fun _ => []) (fun k _ ih cs => asCK k (hdA cs) :: ih (tlA cs)) ks

/-- overwrite cells from place c on -/
noncomputable def splice (l : List AVal) (c : Nat) (new : List AVal) : List AVal := app (takeN l c) (app new (dropN l (c + len new)))

/-- what a slice holds, whose elements have es cells -/
noncomputable def elemsOf (es : Nat) (H : List ABlk) : AVal → Option (List (List AVal))
  | .sl id off n g => match blkAt H id g with
    | some b => match Nat.beq b.es es with
      | true => some (takeN (dropN b.elems off) n)
      | false => none
    | none => none
  | .tree es' n get => match Nat.beq es' es with
    | true => some (mapL get (List.range n))
    | false => none
  | .v (.slice none 0 0) => some []
  | .v (.slice (some _) 0 _) => some []
  | _ => none

noncomputable def modAt (H : List ABlk) (id : Nat) (f : ABlk → ABlk) : List ABlk :=
  match nth H id with
  | some b => setAt H id (f b)
  | none => H
noncomputable def disown (H : List ABlk) (id : Nat) : List ABlk := modAt H id fun b => { b with own := false }

/-- a slice of the heap seen as one that stays as it is -/
noncomputable def treeOf (b : ABlk) (off n : Nat) : AVal := .tree b.es n fun i => getRow b.elems (off + i)

def oneV : Value → Bool
  | .agg _ | .tuple _ => false
  | _ => true
/-- cells as they may lie in memory: no address of the heap -/
noncomputable def freezeCell (H : List ABlk) : AVal → Option (AVal × List ABlk)
  | .v x => match oneV x with
    | true => some (.v x, H)
    | false => none
  | .tree es n get => some (.tree es n get, H)
  | .fn f [] => some (.fn f [], H)
  | .sl id off n g => match blkAt H id g with
    | some b => some (treeOf b off n, disown H id)
    | none => none
  | _ => none
noncomputable def freezeCells (H : List ABlk) : List AVal → Option (List AVal × List ABlk)
  | [] => some ([], H)
  | x :: r => match freezeCell H x with
    | some (y, H1) => match freezeCells H1 r with
      | some (l, H2) => some (y :: l, H2)
      | none => none
    | none => none

noncomputable def newBlk (H : List ABlk) (et es : Nat) (elems : List (List AVal)) : List ABlk := app H [{ et, es, elems, own := true, dead := false, g := 0 }]

/-- may a value be a part of a struct or an array? -/
def partOk : AVal → Bool
  | .v x => oneV x
  | .tup _ => false
  | .unk => false
  | .fn _ (_ :: _) => false
  | _ => true
/-- parts of a struct or an array that is built: place, size, value -/
noncomputable def fillA (cells : List AVal) : List (Nat × Nat × AVal) → Option (List AVal)
  | [] => some cells
  | (off, size, x) :: rest =>
    match partOk x && Nat.beq (len (aCells x)) size && Nat.ble (off + size) (len cells) with
    | true => fillA (splice cells off (aCells x)) rest
    | false => none

noncomputable def chunks (es : Nat) : Nat → List AVal → List (List AVal)
  | 0, _ => []
  | n + 1, l => takeN l es :: chunks es n (dropN l es)

def intOf? : AVal → Option Int
  | .v (.int _ n) => some n
  | _ => none

/-- the bounds of a slice expression: low, high -/
noncomputable def boundsA (n : Nat) (lo hi : Option AVal) : DT (Nat × Nat) :=
  let h : DT Nat := match hi with
    | none => .ret n
    | some x => match intOf? x with
      | some m => .guard (inB m (n + 1)) (.ret m.toNat)
      | none => .fail
  h.bind fun h => match lo with
    | none => .ret (0, h)
    | some x => match intOf? x with
      | some m => .guard (inB m (h + 1)) (.ret (m.toNat, h))
      | none => .fail

def room : Nat := 140737488355328

noncomputable def appendA (et es bytes : Nat) (s x : AVal) (H : List ABlk) : DT (AVal × List ABlk) :=
  match elemsOf es H x with
  | some news => match s with
    | .v (.slice none 0 0) =>
      .ite (Nat.beq (len news) 0) (.ret (.v (.slice none 0 0), H))
        (.guard (Nat.ble (len news * bytes) room) (.ret (.sl (len H) 0 (len news) 0, newBlk H et es news)))
    | .sl id off n g => match blkAt H id g with
      | some b => match b.own && Nat.beq off 0 && Nat.beq b.es es && Nat.beq b.et et with
        | true =>
          .ite (Nat.beq (len news) 0) (.ret (.sl id off n g, H))
            (.guard (Nat.beq n (len b.elems) && Nat.ble ((n + len news) * bytes) room)
              (.ret (.sl id 0 (n + len news) (g + 1), setAt H id { b with elems := app b.elems news, g := g + 1 })))
        | false => .fail
      | none => .fail
    | _ => .fail
  | none => .fail

noncomputable def copyA (es : Nat) (dst src : AVal) (H : List ABlk) : Option (AVal × List ABlk) :=
  match dst with
  | .sl id off n g => match blkAt H id g with
    | some b => match elemsOf es H src with
      | some news => match b.own && Nat.beq b.es es with
        | true => some (.v (.int .i64 (Nat.min (len news) n)), setAt H id { b with elems := app (takeN b.elems off) (app (takeN news (Nat.min (len news) n)) (dropN b.elems (off + Nat.min (len news) n))) })
        | false => none
      | none => none
    | none => none
  | _ => none

def lenA : AVal → Option AVal
  | .sl _ _ n _ => some (.v (.int .i64 n))
  | .tree _ n _ => some (.v (.int .i64 n))
  | .v (.slice _ n _) => some (.v (.int .i64 n))
  | _ => none

/-- nil or not, of a slice (0), a pointer (1), a function (2) -/
def isNilV (k : Nat) (x : AVal) : Option Bool :=
  match k, x with
  | 0, .v (.slice none _ _) => some true
  | 0, .v (.slice (some _) _ _) => some false
  | 0, .sl .. => some false
  | 0, .tree _ n _ => match n with | 0 => none | _ + 1 => some false
  | 1, .v (.pointer none) => some true
  | 1, .ptr .. => some false
  | 1, .tptr .. => some false
  | 2, .v .nilFunc => some true
  | 2, .fn .. => some false
  | _, _ => none

/-- may a value be held by a function value? -/
def capOk : AVal → Bool
  | .agg _ => false
  | x => partOk x
noncomputable def allB (f : AVal → Bool) (l : List AVal) : Bool := List.rec (motive := fun _ => Bool) true (fun x _ ih => Bool.rec false ih (f x)) l

/-! ### Calls -/
/-- the place of an id in a list, put there if it lacks -/
noncomputable def idxFrom (id : Nat) : Nat → List Nat → Option Nat
  | _, [] => none
  | k, x :: r => match Nat.beq x id with
    | true => some k
    | false => idxFrom id (k + 1) r
noncomputable def idxIn (roots : List Nat) (id : Nat) : Nat × List Nat :=
  match idxFrom id 0 roots with
  | some j => (j, roots)
  | none => (len roots, app roots [id])

structure Prep where
  roots : List Nat
  lent : List Nat

noncomputable def capArg (H : List ABlk) (p : Prep) : AVal → Option (AVal × Prep)
  | .v x => some (.v x, p)
  | .ptr id i c g => match blkAt H id g with
    | some _ => match idxIn p.roots id with
      | (j, r) => some (.ptr j i c 0, { p with roots := r })
    | none => none
  | .tree es n get => some (.tree es n get, p)
  | .tptr cs => some (.tptr cs, p)
  | .sl id off n g => match blkAt H id g with
    | some b => some (treeOf b off n, { p with lent := id :: p.lent })
    | none => none
  | .fn f [] => some (.fn f [], p)
  | _ => none
noncomputable def capArgs (H : List ABlk) (p : Prep) : List AVal → Option (List AVal × Prep)
  | [] => some ([], p)
  | x :: r => match capArg H p x with
    | some (y, p1) => match capArgs H p1 r with
      | some (l, p2) => some (y :: l, p2)
      | none => none
    | none => none
noncomputable def prepArg (H : List ABlk) (own : Bool) (p : Prep) (x : AVal) : Option (AVal × Prep) :=
  match x with
  | .v x => some (.v x, p)
  | .sl id off n g => match own with
    | true => match blkAt H id g with
      | some _ => match Nat.beq off 0 with
        | true => match idxIn p.roots id with
          | (j, r) => some (.sl j 0 n 0, { p with roots := r })
        | false => none
      | none => none
    | false => capArg H p (.sl id off n g)
  | .agg cs => match capArgs H p cs with
    | some (l, p) => some (.agg l, p)
    | none => none
  | .fn f caps => match capArgs H p caps with
    | some (l, p) => some (.fn f l, p)
    | none => none
  | x => capArg H p x
noncomputable def prepArgs (H : List ABlk) (own : Nat → Bool) (p : Prep) : Nat → List AVal → Option (List AVal × Prep)
  | _, [] => some ([], p)
  | k, x :: r => match prepArg H (own k) p x with
    | some (y, p1) => match prepArgs H own p1 (k + 1) r with
      | some (l, p2) => some (y :: l, p2)
      | none => none
    | none => none

noncomputable def blksAt (H : List ABlk) : List Nat → Option (List ABlk)
  | [] => some []
  | id :: r => match nth H id with
    | some b => match blksAt H r with
      | some l => some ({ b with g := 0 } :: l)
      | none => none
    | none => none

/-- what came out of a call is written back: the roots' blocks, then the new ones -/
noncomputable def putBack (H : List ABlk) : List Nat → List ABlk → Option (List ABlk)
  | [], [] => some H
  | [], rest => some (app H rest)
  | id :: r, b :: rest => putBack (modAt H id fun old => { b with g := old.g + b.g }) r rest
  | _ :: _, [] => none

noncomputable def backId (H : List ABlk) (roots : List Nat) (j g : Nat) : Nat × Nat :=
  match nth roots j with
  | some id => (id, match nth H id with
    | some b => b.g + g
    | none => g)
  | none => (len H + (j - len roots), g)
noncomputable def backC (H : List ABlk) (roots : List Nat) : AVal → AVal
  | .ptr j i c g => match backId H roots j g with
    | (id, g') => .ptr id i c g'
  | .sl j off n g => match backId H roots j g with
    | (id, g') => .sl id off n g'
  | x => x
noncomputable def backVal1 (H : List ABlk) (roots : List Nat) : AVal → AVal
  | .fn f caps => .fn f (mapL (backC H roots) caps)
  | .agg cs => .agg (mapL (backC H roots) cs)
  | x => backC H roots x
noncomputable def backVal (H : List ABlk) (roots : List Nat) : AVal → AVal
  | .v x => .v x
  | .tup vs => .tup (mapL (backVal1 H roots) vs)
  | x => backVal1 H roots x

/-- does a value hold a part of memory that stays as it is? -/
def holdsC : AVal → Bool
  | .tree .. | .tptr .. => true
  | _ => false
def holds1 : AVal → Bool
  | .tree .. | .tptr .. => true
  | .fn _ caps => caps.any holdsC
  | _ => false
def holdsV : AVal → Bool
  | .agg cs => cs.any holds1
  | x => holds1 x
def holdsTree : AVal → Bool
  | .agg cs => cs.any holds1
  | .tup vs => vs.any holdsV
  | x => holds1 x
def blkHolds (b : ABlk) : Bool := b.elems.any fun cs => cs.any holds1

noncomputable def memN (k : Nat) (l : List Nat) : Bool := List.rec (motive := fun _ => Bool) false (fun x _ ih => Bool.rec ih true (Nat.beq x k)) l
noncomputable def apartN (l r : List Nat) : Bool := List.rec (motive := fun _ => Bool) true (fun x _ ih => Bool.rec ih false (memN x r)) l
/-- what was lent stays as it is from now on, if the result may hold it -/
noncomputable def settle (lent : List Nat) (held : Bool) (H : List ABlk) : List ABlk :=
  List.rec (motive := fun _ => List ABlk) H (fun id _ ih => modAt ih id fun b => { b with own := Bool.rec b.own false held }) lent

noncomputable def callA (E : Env) (f : FuncId) (args : List AVal) (H : List ABlk) : DT (AVal × List ABlk) :=
  match prepArgs H (E.own f) { roots := [], lent := [] } 0 args with
  | some (args', p) => match blksAt H p.roots, apartN p.lent p.roots with
    | some blks, true => (E.call f args' blks).bind fun
      | (r, out) => match putBack H p.roots out with
        | some H' => .ret (backVal H p.roots r, settle p.lent (holdsTree r || out.any blkHolds) H')
        | none => .fail
    | _, _ => .fail
  | none => .fail

noncomputable def opt (x : Option AVal) (H : List ABlk) : DT (AVal × List ABlk) :=
  Option.rec (motive := fun _ => DT (AVal × List ABlk)) .fail (fun y => .ret (y, H)) x
noncomputable def opt2 (x : Option (AVal × List ABlk)) : DT (AVal × List ABlk) :=
  Option.rec (motive := fun _ => DT (AVal × List ABlk)) .fail .ret x

def binA (op : BinOp) (x y : AVal) : DT AVal :=
  match x, y with
  | .v (.int k m), .v (.int k' n) =>
    if k = k' then
      match op with
      | .add => .ret (.v (.int k (k.wrap (m + n))))
      | .sub => .ret (.v (.int k (k.wrap (m - n))))
      | .mul => .ret (.v (.int k (k.wrap (m * n))))
      | .quo => .ite (n == 0) .fail (.ret (.v (.int k (k.wrap (m.tdiv n)))))
      | .rem => .ite (n == 0) .fail (.ret (.v (.int k (m.tmod n))))
      | .lss => .ret (.v (.bool (m < n)))
      | .leq => .ret (.v (.bool (m ≤ n)))
      | .gtr => .ret (.v (.bool (m > n)))
      | .geq => .ret (.v (.bool (m ≥ n)))
      | .eql => .ret (.v (.bool (m == n)))
      | .neq => .ret (.v (.bool (m != n)))
      | _ => .fail
    else .fail
  | _, _ => .fail

/-- a cell that names no block -/
def plainC : AVal → Bool
  | .v x => oneV x
  | .tree .. => true
  | .fn _ [] => true
  | _ => false

noncomputable def genA (E : Env) (a : List AVal) (o : Oper) (ts : List Nat) : Option AVal :=
  match mapO (fun t => toVal (evalA E a (.t t))) ts with
  | some vs => evalGen E o (rhoOf ts vs)
  | none => none

noncomputable def eqnA (E : Env) (a : List AVal) (k : Nat) (neg : Bool) (p q : AVal) (o : Oper) (ts : List Nat) : Option AVal :=
  match isNilV k p, isNilV k q with
  | some true, some b => some (.v (.bool (match neg with | true => !b | false => b)))
  | some false, some true => some (.v (.bool neg))
  | _, _ => genA E a o ts

/-- cells that are compared one by one -/
noncomputable def okFl (fl : List (Nat × CK)) (cs : List AVal) : Bool :=
  List.rec (motive := fun _ => Bool) true (fun p _ ih => Bool.and (isCK p.2 (hdA (dropN cs p.1))) ih) fl
def eqCK : CK → AVal → AVal → Bool
  | .int _, x, y => toI x == toI y
  | .bool, x, y => toB x == toB y
  | _, _, _ => false
noncomputable def eqFl (fl : List (Nat × CK)) (cs ds : List AVal) : Bool :=
  List.rec (motive := fun _ => Bool) true (fun p _ ih => Bool.and (eqCK p.2 (hdA (dropN cs p.1)) (hdA (dropN ds p.1))) ih) fl
noncomputable def negIf (neg x : Bool) : Bool := Bool.rec (motive := fun _ => Bool) x (!x) neg

noncomputable def evalOp (E : Env) (a : List AVal) (H : List ABlk) (o : PO) : DT (AVal × List ABlk) :=
  match o with
  | .mv x => .ret (evalA E a x, H)
  | .nilck x => match evalA E a x with
    | .ptr id i c g => .ret (.ptr id i c g, H)
    | .tptr cs => .ret (.tptr cs, H)
    | .fn f caps => .ret (.fn f caps, H)
    | _ => .fail
  | .pick c x y => match evalA E a c with
    | .v (.bool b) => .ite b (.ret (evalA E a x, H)) (.ret (evalA E a y, H))
    | _ => .fail
  | .alloc z => .ret (.ptr (len H) 0 0 0, newBlk H 0 (len z) [z])
  | .box x => match freezeCells H (aCells (evalA E a x)) with
    | some (cs, H1) => .ret (.ptr (len H1) 0 0 0, newBlk H1 0 (len cs) [cs])
    | none => .fail
  | .build z parts => match fillA z (mapL (fun p => (p.1, p.2.1, evalA E a p.2.2)) parts) with
    | some cs => .ret (.agg cs, H)
    | none => .fail
  | .bslice et es n z parts => match fillA z (mapL (fun p => (p.1, p.2.1, evalA E a p.2.2)) parts) with
    | some cs => match freezeCells H cs with
      | some (cs, H1) => .ret (.sl (len H1) 0 n 0, newBlk H1 et es (chunks es n cs))
      | none => .fail
    | none => .fail
  | .tslice es n z parts => match fillA z (mapL (fun p => (p.1, p.2.1, evalA E a p.2.2)) parts) with
    | some cs => match allB plainC cs with
      | true => .ret (.tree es n fun i => getRow (chunks es n cs) (0 + i), H)
      | false => .fail
    | none => .fail
  | .load ks n agg x => match cellsG H (evalA E a x) n with
    | some p => .guard (Bool.and p.1 (Bool.and (Nat.beq (len ks) n) (okCKs ks p.2))) (opt (asType agg (asCKs ks p.2)) H)
    | none => .fail
  | .store n x y => match evalA E a x with
    | .ptr id i c g => match freezeCells H (aCells (evalA E a y)) with
      | some (cs, H1) => match blkAt H1 id g with
        | some b => .guard (Bool.and (Bool.and b.own (Nat.beq (len cs) n)) (Bool.and (Nat.blt i (len b.elems)) (Nat.ble (c + n) (len (getRow b.elems i)))))
            (.ret (.v (.tuple #[]), setAt H1 id { b with elems := setAt b.elems i (splice (getRow b.elems i) c cs) }))
        | none => .fail
      | none => .fail
    | _ => .fail
  | .fld off x => match evalA E a x with
    | .ptr id i c g => .ret (.ptr id i (c + off) g, H)
    | .tptr cs => .ret (.tptr (dropN cs off), H)
    | _ => .fail
  | .idxA n es x i => match intOf? (evalA E a i) with
    | some m => match evalA E a x with
      | .ptr id i c g => .guard (inB m n) (.ret (.ptr id i (c + m.toNat * es) g, H))
      | .tptr cs => .guard (inB m n) (.ret (.tptr (dropN cs (m.toNat * es)), H))
      | _ => .fail
    | none => .fail
  | .idxS es x i => match intOf? (evalA E a i) with
    | some m => match evalA E a x with
      | .sl id off n g => match blkAt H id g with
        | some b => match Nat.beq b.es es with
          | true => .guard (inB m n) (.ret (.ptr id (off + m.toNat) 0 g, H))
          | false => .fail
        | none => .fail
      | .tree es' n get => match Nat.beq es' es with
        | true => .guard (inB m n) (.ret (.tptr (get m.toNat), H))
        | false => .fail
      | _ => .fail
    | none => .fail
  | .slice es x lo hi => match evalA E a x with
    | .sl id off n g => match blkAt H id g with
      | some b => match Nat.beq b.es es with
        | true => (boundsA n (lo.map (evalA E a)) (hi.map (evalA E a))).bind fun
          | (l, h) => .ret (.sl id (off + l) (h - l) g, H)
        | false => .fail
      | none => .fail
    | .tree es' n get => match Nat.beq es' es with
      | true => (boundsA n (lo.map (evalA E a)) (hi.map (evalA E a))).bind fun
        | (l, h) => .ret (.tree es' (h - l) fun i => get (l + i), H)
      | false => .fail
    | .v (.slice none 0 0) => (boundsA 0 (lo.map (evalA E a)) (hi.map (evalA E a))).bind fun _ => .ret (.v (.slice none 0 0), H)
    | _ => .fail
  | .mksl et es bytes z l c => match intOf? (evalA E a l), intOf? (evalA E a c) with
    | some n, some m => .guard (inB n (room + 1) && inB m (room + 1) && Nat.ble n.toNat m.toNat && Nat.ble (m.toNat * bytes) room)
        (.ret (.sl (len H) 0 n.toNat 0, newBlk H et es (List.replicate n.toNat z)))
    | _, _ => .fail
  | .mkfn f caps => match allB capOk (mapL (evalA E a) caps) with
    | true => .ret (.fn f (mapL (evalA E a) caps), H)
    | false => .fail
  | .ext x i => match evalA E a x with
    | .tup vs => opt (nth vs i) H
    | _ => .fail
  | .field off n agg x => match evalA E a x with
    | .agg cs => match Nat.ble (off + n) (len cs) with
      | true => opt (asType agg (takeN (dropN cs off) n)) H
      | false => .fail
    | _ => .fail
  | .index ks n es agg x i => match evalA E a x, intOf? (evalA E a i) with
    | .agg cs, some m => .guard (Bool.and (inB m n) (Bool.and (Nat.ble (m.toNat * es + es) (len cs)) (Bool.and (Nat.beq (len ks) es) (okCKs ks (dropN cs (m.toNat * es))))))
        (opt (asType agg (asCKs ks (dropN cs (m.toNat * es)))) H)
    | _, _ => .fail
  | .bin op x y => (binA op (evalA E a x) (evalA E a y)).bind fun r => .ret (r, H)
  | .eqn k neg x y o ts => opt (eqnA E a k neg (evalA E a x) (evalA E a y) o ts) H
  | .eqc neg fl x y => match evalA E a x, evalA E a y with
    | .agg cs, .agg ds => .guard (Bool.and (okFl fl cs) (okFl fl ds)) (.ret (.v (.bool (negIf neg (eqFl fl cs ds))), H))
    | _, _ => .fail
  | .not x => match evalA E a x with
    | .v (.bool b) => .ret (.v (.bool (!b)), H)
    | _ => .fail
  | .neg x => match evalA E a x with
    | .v (.int k n) => .ret (.v (.int k (k.wrap (0 - n))), H)
    | _ => .fail
  | .gen o ts => opt (genA E a o ts) H
  | .call f args => callA E f (mapL (evalA E a) args) H
  | .calld x args => match evalA E a x with
    | .fn f caps => callA E f (app (mapL (evalA E a) args) caps) H
    | _ => .fail
  | .append et es bytes s x => appendA et es bytes (evalA E a s) (evalA E a x) H
  | .copy es d s => opt2 (copyA es (evalA E a d) (evalA E a s) H)
  | .len x => opt (lenA (evalA E a x)) H
  | .bad => .fail

structure St where
  a : List AVal
  H : List ABlk

noncomputable def putA (a : List AVal) (dst : Option Nat) (x : AVal) : List AVal :=
  Option.rec (motive := fun _ => List AVal) a (fun d => setAt a d x) dst

/-- the ids that slots name -/
noncomputable def hidden (a : List AVal) (l : List Nat) : List Nat :=
  mapL (fun d => match nth a d with
    | some (.ptr id _ _ _) => id
    | some (.sl id _ _ _) => id
    | _ => 0) l
noncomputable def deaden (H : List ABlk) (l : List Nat) : List ABlk :=
  List.rec (motive := fun _ => List ABlk) H (fun id _ ih => modAt ih id fun b => { b with dead := true }) l
noncomputable def revive (H0 H : List ABlk) (l : List Nat) : List ABlk :=
  List.rec (motive := fun _ => List ABlk) H (fun id _ ih => match nth H0 id with
    | some b => setAt ih id b
    | none => ih) l
/-- one operation, where some blocks do not count -/
noncomputable def evalHid (E : Env) (s : St) (hide : List Nat) (o : PO) : DT (AVal × List ABlk) :=
  List.rec (motive := fun _ => DT (AVal × List ABlk)) (evalOp E s.a s.H o)
    (fun _ _ _ => (evalOp E s.a (deaden s.H (hidden s.a hide)) o).bind fun r => .ret (r.1, revive s.H r.2 (hidden s.a hide))) hide
noncomputable def doOp (E : Env) (s : St) (o : PI) : DT St :=
  (evalHid E s o.hide o.op).bind fun r => .ret ⟨putA s.a o.dst r.1, r.2⟩
noncomputable def evalPI (E : Env) (s : St) (o : PI) : DT St :=
  Option.rec (motive := fun _ => DT St) (doOp E s o)
    (fun g => match evalA E s.a (.t g.1) with
      | .v (.bool b) => Bool.rec (motive := fun _ => DT St)
          (.ite b (.ret ⟨putA (setAt s.a g.1 (.v (.bool true))) o.dst (.v (.tuple #[])), s.H⟩) (doOp E ⟨setAt s.a g.1 (.v (.bool false)), s.H⟩ o))
          (.ite b (doOp E ⟨setAt s.a g.1 (.v (.bool true)), s.H⟩ o) (.ret ⟨putA (setAt s.a g.1 (.v (.bool false))) o.dst (.v (.tuple #[])), s.H⟩)) g.2
      | .v (.tuple _) => .ret ⟨putA s.a o.dst (.v (.tuple #[])), s.H⟩
      | _ => .fail)
    o.guard
noncomputable def evalOps (E : Env) (l : List PI) : St → DT St :=
  List.rec (motive := fun _ => St → DT St) (fun s => .ret s) (fun o _ ih s => (evalPI E s o).bind ih) l

/-! ### a region whose order is open: what is looked at, what is changed -/
def idsOf : AVal → List Nat
  | .ptr id _ _ _ => [id]
  | .sl id _ _ _ => [id]
  | _ => []
noncomputable def usesOf (E : Env) (a : List AVal) : PO → List Nat
  | .load _ _ _ x => idsOf (evalA E a x)
  | .idxS _ x _ => idsOf (evalA E a x)
  | .slice _ x _ _ => idsOf (evalA E a x)
  | _ => []
noncomputable def ptrIds (l : List AVal) : List Nat :=
  List.rec (motive := fun _ => List Nat) [] (fun x _ ih => match x with
    | .ptr id _ _ _ => id :: ih
    | _ => ih) l
noncomputable def rootIds (own : Nat → Bool) : Nat → List AVal → List Nat
  | _, [] => []
  | k, x :: r => match x with
    | .ptr id _ _ _ => id :: rootIds own (k + 1) r
    | .sl id _ _ _ => match own k with
      | true => id :: rootIds own (k + 1) r
      | false => rootIds own (k + 1) r
    | .agg cs => app (ptrIds cs) (rootIds own (k + 1) r)
    | .fn _ caps => app (ptrIds caps) (rootIds own (k + 1) r)
    | _ => rootIds own (k + 1) r
noncomputable def touchOf (E : Env) (a : List AVal) : PO → List Nat
  | .store _ x _ => idsOf (evalA E a x)
  | .append _ _ _ s _ => idsOf (evalA E a s)
  | .copy _ d _ => idsOf (evalA E a d)
  | .call f args => rootIds (E.own f) 0 (mapL (evalA E a) args)
  | .calld x args => match evalA E a x with
    | .fn f caps => rootIds (E.own f) 0 (app (mapL (evalA E a) args) caps)
    | _ => []
  | _ => []
noncomputable def pairsOk (E : Env) (a : List AVal) (l : List (PO × PO)) : Bool :=
  List.rec (motive := fun _ => Bool) true (fun p _ ih => Bool.rec false ih (apartN (usesOf E a p.1) (touchOf E a p.2))) l
/-- the slots of new zeros are there -/
noncomputable def slotsIn (a : List AVal) (l : List PI) : Bool :=
  List.rec (motive := fun _ => Bool) true (fun p _ ih => match p.dst with
    | some d => match nth a d with
      | some _ => ih
      | none => false
    | none => false) l
inductive XExit where
  | normal
  | exit (id : Nat)
  | ret

/-! ### the loop's head: forget, and keep what is left in order -/
noncomputable def keepFrom (keep : List Nat) (l : List AVal) : Nat → List AVal :=
  List.rec (motive := fun _ => Nat → List AVal) (fun _ => []) (fun x _ ih k => Bool.rec .unk x (memN k keep) :: ih (k + 1)) l

noncomputable def tidy1 (k : Nat) (H : List ABlk) (roots : List Nat) (x : AVal) : AVal × List Nat :=
  match x with
  | .v x => (.v x, roots)
  | .unk => (.unk, roots)
  | .ptr id i c g => match blkAt H id g with
    | some _ => match idxIn roots id with
      | (j, r) => (.ptr j i c (match Nat.blt j k with | true => g | false => 0), r)
    | none => (.unk, roots)
  | .sl id off n g => match blkAt H id g with
    | some _ => match idxIn roots id with
      | (j, r) => (.sl j off n (match Nat.blt j k with | true => g | false => 0), r)
    | none => (.unk, roots)
  | x => (x, roots)
noncomputable def tidyL (k : Nat) (H : List ABlk) : List AVal → List Nat → List AVal × List Nat
  | [], roots => ([], roots)
  | x :: r, roots => match tidy1 k H roots x with
    | (y, r1) => match tidyL k H r r1 with
      | (l, r2) => (y :: l, r2)
noncomputable def tidyV1 (k : Nat) (H : List ABlk) (roots : List Nat) (x : AVal) : AVal × List Nat :=
  match x with
  | .v x => (.v x, roots)
  | .unk => (.unk, roots)
  | .fn f caps => match tidyL k H caps roots with
    | (l, r) => (.fn f l, r)
  | .agg cs => match tidyL k H cs roots with
    | (l, r) => (.agg l, r)
  | x => tidy1 k H roots x
noncomputable def tidyVL (k : Nat) (H : List ABlk) : List AVal → List Nat → List AVal × List Nat
  | [], roots => ([], roots)
  | x :: r, roots => match tidyV1 k H roots x with
    | (y, r1) => match tidyVL k H r r1 with
      | (l, r2) => (y :: l, r2)
noncomputable def tidyV (k : Nat) (H : List ABlk) (roots : List Nat) (x : AVal) : AVal × List Nat :=
  match x with
  | .v x => (.v x, roots)
  | .unk => (.unk, roots)
  | .tup vs => match tidyVL k H vs roots with
    | (l, r) => (.tup l, r)
  | x => tidyV1 k H roots x
noncomputable def tidyA (k : Nat) (H : List ABlk) : List AVal → List Nat → List AVal × List Nat
  | [], roots => ([], roots)
  | x :: r, roots => match tidyV k H roots x with
    | (y, r1) => match tidyA k H r r1 with
      | (l, r2) => (y :: l, r2)
/-- the blocks of a list of ids; the count starts anew at those behind the first k -/
noncomputable def blksK (k : Nat) (H : List ABlk) : Nat → List Nat → Option (List ABlk)
  | _, [] => some []
  | j, id :: r => match nth H id with
    | some b => match blksK k H (j + 1) r with
      | some l => some ((match Nat.blt j k with | true => b | false => { b with g := 0 }) :: l)
      | none => none
    | none => none
noncomputable def tidy (k : Nat) (s : St) : DT St :=
  match tidyA k s.H s.a (List.range k) with
  | (a, roots) => match blksK k s.H 0 roots with
    | some H => .ret ⟨a, H⟩
    | none => .fail

noncomputable def iter (head : St → DT St) (body : St → DT (XExit × St)) (n : Nat) : St → DT (XExit × St) :=
  Nat.rec (motive := fun _ => St → DT (XExit × St)) (fun _ => .fail)
    (fun _ ih s => (head s).bind fun s => (body s).bind fun r =>
      XExit.rec (motive := fun _ => DT (XExit × St)) (ih r.2) (fun id => .ret (.exit id, r.2)) (.ret (.ret, r.2)) r.1) n

noncomputable def exec (E : Env) (k : Nat) (c : PC) : St → DT (XExit × St) :=
  PC.rec (motive := fun _ => St → DT (XExit × St))
    (fun s => .ret (.normal, s))
    (fun l s => (evalOps E l s).bind fun s => .ret (.normal, s))
    (fun _ as l pairs s => (evalOps E as s).bind fun s => (evalOps E l s).bind fun s =>
      Bool.rec (motive := fun _ => DT (XExit × St)) .fail (Bool.rec (motive := fun _ => DT (XExit × St)) .fail (.ret (.normal, s)) (slotsIn s.a as)) (pairsOk E s.a pairs))
    (fun _ _ x y s => (x s).bind fun r => XExit.rec (motive := fun _ => DT (XExit × St)) (y r.2) (fun id => .ret (.exit id, r.2)) (.ret (.ret, r.2)) r.1)
    (fun c _ _ x y s => match evalA E s.a c with
      | .v (.bool b) => .ite b (x s) (y s)
      | _ => .fail)
    (fun id _ x s => (x s).bind fun r => XExit.rec (motive := fun _ => DT (XExit × St)) (.ret (.normal, r.2))
      (fun id' => Bool.rec (.ret (.exit id', r.2)) (.ret (.normal, r.2)) (Nat.beq id' id)) (.ret (.ret, r.2)) r.1)
    (fun keep _ x => iter (fun s => tidy k ⟨keepFrom keep s.a 0, s.H⟩) x E.N)
    (fun id s => .ret (.exit id, s))
    (fun s => .ret (.ret, s))
    (fun _ => .fail) c

/-! ### a function -/
noncomputable def resVar (a : List AVal) (H : List ABlk) : PRes → Option AVal
  | .t n => match nth a n with
    | some (.tup _) => none
    | some x => some x
    | none => none
  | .cell p n agg => match nth a p with
    | some x => match loadCells H x n with
      | some cs => asType agg cs
      | none => none
    | none => none
def resVal : List AVal → AVal
  | [x] => x
  | l => .tup l

/-- the result's blocks in order, behind the k that came in -/
noncomputable def finish (k : Nat) (H : List ABlk) (r : AVal) : DT (AVal × List ABlk) :=
  match tidyV k H (List.range k) r with
  | (r, roots) => match blksK k H 0 roots with
    | some out => .ret (r, out)
    | none => .fail

noncomputable def runFn (E : Env) (fn : PFn) (args : List AVal) (blks : List ABlk) : DT (AVal × List ABlk) :=
  (exec E (len blks) fn.body ⟨app args (List.replicate (fn.ntmps - len args) (.v (.tuple #[]))), blks⟩).bind fun r =>
    match r.1 with
    | .exit _ => .fail
    | _ => match mapO (resVar r.2.a r.2.H) fn.res with
      | some l => finish (len blks) r.2.H (resVal l)
      | none => .fail

end Go.Ev

