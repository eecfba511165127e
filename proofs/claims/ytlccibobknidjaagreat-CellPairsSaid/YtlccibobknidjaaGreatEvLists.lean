/- Own work: a part of the proof. -/
import Derived.Laws.World
import Derived.Laws.Sem
import GoSem.Dispatch
import Derived.Calls
set_option linter.unusedVariables false
set_option linter.unusedSimpArgs false
set_option linter.unnecessarySimpa false
set_option linter.unusedSectionVars false
namespace Go.Ev
open Go
theorem Yb6 {α : Type} : ∀ (c : Ask α) (w : World), w.drawn ≤ (w.ask c).2.drawn
 | .done a, w => Nat.le_refl _
 | .ask what range k, w => by
  unfold World.ask
  dsimp only
  split
  ·exact Yb6 _ w
  ·exact Nat.le_trans (Nat.le_succ _) (Yb6 _ { w with drawn := w.drawn + 1 })
theorem yd5 (w : World) (c : Sys) : w.drawn ≤ (w.sys c).2.drawn := by
 unfold World.sys
 have h := Yb6 (Kernel.perform c w.os) w
 revert h
 generalize w.ask (Kernel.perform c w.os) = r
 intro h
 obtain ⟨⟨a, os⟩, w'⟩ := r
 cases a <;> first | exact Nat.le_refl _ | exact h
theorem ld0 {p : Program} {w : World} {t : Addr} {u : TypeId} {k : Addr} {v : Value} {a : Bool} {r : World × List Addr} (h : w.viewStore p t u k v a = .ok r) : r.1.drawn = w.drawn := by
 unfold World.viewStore at h
 simp only [bind, Except.bind, pure, Except.pure] at h
 repeat' (split at h <;> try (cases h; done))
 all_goals first | (cases h; rfl) | skip
theorem yd6 {p : Program} {w : World} {t : Addr} {v : Value} {a : Bool} {r : World × List Addr} (h : w.farStore p t v a = .ok r) : r.1.drawn = w.drawn := by
 unfold World.farStore at h
 split at h
 ·split at h
  ·next hv => cases h; exact ld0 hv
  ·cases h
 ·cases h
theorem Ic0 {α : Type} (P : Program) : ∀ (s : Sem α) (w : World) {a : α} {w' : World}, s.run P w = .ok a w' → w.drawn ≤ w'.drawn := by
 intro s
 induction s with
 | pure a => intro w a w' h; simp only [Sem.run] at h; cases h; exact Nat.le_refl _
 | load m a k ih =>
  intro w b w' h
  simp only [Sem.run] at h
  split at h
  ·exact ih _ w h
  ·split at h
   ·exact ih _ w h
   ·cases h
 | store m a v k ih =>
  intro w b w' h
  have go : ∀ (hx : (match w.cell? a with
    | some _ => if w.frozen? a then Result.halt (.unsupported (.unsafePointer "a write to bytes that a string shares")) w else k.run P (w.setCell a v)
    | none => match w.farStore P a v (m == Mode.atomic) with
     | .ok (w1, _) => k.run P w1
     | .error h => .halt h w) = .ok b w'), w.drawn ≤ w'.drawn := fun hx => by
   split at hx
   ·split at hx
    ·cases hx
    ·exact ih (w.setCell a v) hx
   ·split at hx
    ·next hf => exact Nat.le_trans (Nat.le_of_eq (yd6 hf).symm) (ih _ hx)
    ·cases hx
  cases v <;> simp only [Sem.run] at h <;> first | exact go h | cases h
 | new o k ih => intro w b w' h; simp only [Sem.run] at h; exact ih _ { w with heap := w.heap.push o } h
 | shape r k ih => intro w b w' h; simp only [Sem.run] at h; exact ih _ w h
 | freeze a n k ih =>
  intro w b w' h
  simp only [Sem.run] at h
  have := ih (w.freeze a n) h
  have e : (w.freeze a n).drawn = w.drawn := by unfold World.freeze; split <;> rfl
  omega
 | frozen a k ih => intro w b w' h; simp only [Sem.run] at h; exact ih _ w h
 | getObj r k ih =>
  intro w b w' h
  simp only [Sem.run] at h
  split at h
  ·cases h
  ·exact ih _ w h
  ·cases h
 | setObj r o k ih =>
  intro w b w' h
  simp only [Sem.run] at h
  split at h
  ·cases h
  ·exact ih { w with heap := w.heap.setIfInBounds r o } h
  ·cases h
 | choose q k ih =>
  intro w b w' h
  simp only [Sem.run] at h
  split at h
  ·exact ih _ w h
  ·exact Nat.le_trans (Nat.le_succ _) (ih _ { w with drawn := w.drawn + 1 } h)
 | sys c k ih => intro w b w' h; simp only [Sem.run] at h; exact Nat.le_trans (yd5 w c) (ih _ _ h)
 | program k ih => intro w b w' h; simp only [Sem.run] at h; exact ih _ w h
 | mark m k ih => intro w b w' h; simp only [Sem.run] at h; exact ih w h
 | halt h => intro w b w' h; simp only [Sem.run] at h; cases h
end Go.Ev
namespace Go.Ev
open Go
inductive b7 where
 | v (x : Value)
 | agg (cs : List b7)
 | tup (vs : List b7)
 | ptr (id i c g : Nat)
 | sl (id off len g : Nat)
 | tree (es n : Nat) (get : Nat → List b7)
 | tptr (cs : List b7)
 | fn (f : FuncId) (caps : List b7)
 | unk
structure b8 where
 et : TypeId
 es : Nat
 elems : List (List b7)
 own : Bool
 dead : Bool
 g : Nat
inductive DT (α : Type) where
 | ret (a : α)
 | fail
 | ite (b : Bool) (t e : DT α)
namespace DT
variable {α β : Type}
noncomputable def bind (x : DT α) (f : α → DT β) : DT β :=
 DT.rec (motive := fun _ => DT β) (fun a => f a) .fail (fun b _ _ t e => .ite b t e) x
noncomputable def run (x : DT α) : Option α :=
 DT.rec (motive := fun _ => Option α) some none (fun b _ _ t e => Bool.rec e t b) x
noncomputable def ofOption (x : Option α) : DT α := Option.rec .fail .ret x
def guard (b : Bool) (t : DT α) : DT α := .ite b t .fail
end DT
section
variable {α β : Type}
noncomputable def nth (l : List α) : Nat → Option α :=
 List.rec (motive := fun _ => Nat → Option α) (fun _ => none) (fun x _ ih n => Nat.rec (motive := fun _ => Option α) (some x) (fun k _ => ih k) n) l
noncomputable def setAt (l : List α) : Nat → α → List α :=
 List.rec (motive := fun _ => Nat → α → List α) (fun _ _ => []) (fun x r ih n y => Nat.rec (motive := fun _ => List α) (y :: r) (fun k _ => x :: ih k y) n) l
noncomputable def D6 (l : List α) : Nat → List α :=
 List.rec (motive := fun _ => Nat → List α) (fun _ => []) (fun x _ ih n => Nat.rec (motive := fun _ => List α) [] (fun k _ => x :: ih k) n) l
noncomputable def d8 (l : List α) : Nat → List α :=
 List.rec (motive := fun _ => Nat → List α) (fun _ => []) (fun x r ih n => Nat.rec (motive := fun _ => List α) (x :: r) (fun k _ => ih k) n) l
noncomputable def app (l r : List α) : List α := List.rec (motive := fun _ => List α) r (fun x _ ih => x :: ih) l
noncomputable def len (l : List α) : Nat := List.rec (motive := fun _ => Nat) 0 (fun _ _ ih => Nat.succ ih) l
noncomputable def l0 (f : α → β) (l : List α) : List β := List.rec (motive := fun _ => List β) [] (fun x _ ih => f x :: ih) l
noncomputable def Ma9 (f : α → Option β) (l : List α) : Option (List β) :=
 List.rec (motive := fun _ => Option (List β)) (some []) (fun x _ ih => Option.rec (motive := fun _ => Option (List β)) none (fun y => Option.rec (motive := fun _ => Option (List β)) none (fun r => some (y :: r)) ih) (f x)) l
end
inductive Arg where
 | t (n : Nat)
 | c (x : b7)
 | g (n : Nat)
inductive CK where
 | int (k : IntKind)
 | bool
 | sl (es : Nat)
 | any
inductive PO where
 | mv (x : Arg)
 | nilck (x : Arg)
 | pick (c x y : Arg)
 | alloc (z : List b7)
 | box (x : Arg)
 | build (z : List b7) (parts : List (Nat × Nat × Arg))
 | bslice (et es len : Nat) (z : List b7) (parts : List (Nat × Nat × Arg))
 | tslice (es len : Nat) (z : List b7) (parts : List (Nat × Nat × Arg))
 | load (ks : List CK) (n : Nat) (agg : Bool) (x : Arg)
 | store (n : Nat) (x y : Arg)
 | fld (off : Nat) (x : Arg)
 | idxA (len es : Nat) (x i : Arg)
 | idxS (es : Nat) (x i : Arg)
 | slice (es : Nat) (x : Arg) (lo hi : Option Arg)
 | mksl (et es bytes : Nat) (z : List b7) (l c : Arg)
 | mkfn (f : FuncId) (caps : List Arg)
 | ext (x : Arg) (i : Nat)
 | field (off n : Nat) (agg : Bool) (x : Arg)
 | index (ks : List CK) (len es : Nat) (agg : Bool) (x i : Arg)
 | bin (op : BinOp) (x y : Arg)
 | eqn (k : Nat) (neg : Bool) (x y : Arg) (o : Oper) (ts : List Nat)
 | eqc (neg : Bool) (fl : List (Nat × CK)) (x y : Arg)
 | not (x : Arg)
 | neg (x : Arg)
 | gen (o : Oper) (ts : List Nat)
 | call (f : FuncId) (args : List Arg)
 | calld (x : Arg) (args : List Arg)
 | append (et es bytes : Nat) (s x : Arg)
 | copy (es : Nat) (d s : Arg)
 | apre (es : Nat) (s x : Arg)
 | clr (es : Nat) (z : List b7) (x : Arg)
 | len (x : Arg)
 | bad
structure PI where
 dst : Option Nat
 guard : Option (Nat × Bool)
 hide : List Nat
 op : PO
inductive SP where
 | old (n : Nat) (o : PO)
 | balloc (z : List b7)
 | bbox (x : Arg)
 | bload (n : Nat) (agg : Bool) (p : Nat)
 | bstore (n : Nat) (p : Nat) (y : Arg)
 | bfld (off : Nat) (p : Nat)
 | mmake (t : Nat)
 | mlook (t kl : Nat) (fl : List (Nat × CK)) (m : Nat) (key : Arg)
 | mupd (t kl : Nat) (fl : List (Nat × CK)) (m : Nat) (key val : Arg)
 | bad
inductive PC where
 | skip
 | ops (l : List PI)
 | draw (dsts : List Nat) (as l : List PI) (pairs : List (PO × PO))
 | seq (a b : PC)
 | cond (c : Arg) (x y : PC)
 | block (id : Nat) (c : PC)
 | loop (keep : List Nat) (c : PC)
 | exit (id : Nat)
 | ret
 | bad
 | mask (n : Nat) (ds : List Nat) (c : PC)
 | sp (dst : Option Nat) (g : Option (Nat × Bool)) (o : SP)
 | inner (f : Nat) (x : Arg) (nIn : Nat) (c : PC)
 | round (dst : Option Nat) (g : Option (Nat × Bool)) (args : List Arg) (nIn nOut : Nat) (ps : List Nat) (as body : PC)
 | loopM (keep : List Nat) (c : PC)
inductive Yb7 where
 | t (n : Nat)
 | cell (a n : Nat) (agg : Bool)
structure PFn where
 ntmps : Nat
 res : List Yb7
 body : PC
structure Env where
 P : Program
 G : Nat → List Value
 fns : FuncId → Option PFn
 call : FuncId → List b7 → List b8 → DT (b7 × List b8)
 own : FuncId → Nat → Bool
 N : Nat
def ofVal1 : Value → b7
 | .agg cs => .agg (cs.toList.map .v)
 | x => .v x
def ofVal : Value → b7
 | .agg cs => .agg (cs.toList.map .v)
 | .tuple vs => .tup (vs.toList.map ofVal1)
 | x => .v x
def Nc9 : b7 → Option Value
 | .v x => some x
 | .fn f [] => some (.func (.func f) #[] #[])
 | _ => none
noncomputable def Xc9 : b7 → Option Value
 | .v x => some x
 | .fn f [] => some (.func (.func f) #[] #[])
 | .agg cs => match Ma9 Nc9 cs with
  | some l => some (.agg l.toArray)
  | none => none
 | _ => none
def gb1 {α : Type} (P : Program) : Sem α → Option α
 | .pure a => some a
 | .program k => gb1 P (k P)
 | .mark _ k => gb1 P k
 | _ => none
noncomputable def c7 (E : Env) (a : List b7) (x : Arg) : b7 :=
 Arg.rec (motive := fun _ => b7) (fun t => Option.rec (motive := fun _ => b7) .unk (fun y => y) (nth a t)) (fun c => c) (fun g => .tptr (l0 .v (E.G g))) x
noncomputable def sd9 : List Nat → List Value → Nat → Value
 | t :: ts, v :: vs, n => match Nat.beq t n with
  | true => v
  | false => sd9 ts vs n
 | _, _, _ => .tuple #[]
noncomputable def td0 (ts : List Nat) (vs : List Value) : Operand → Value
 | .tmp t => sd9 ts vs t
 | .const v => v
 | .func f => .func (.func f) #[] #[]
 | .global _ => .tuple #[]
noncomputable def td1 (E : Env) (o : Oper) (rho : Operand → Value) : Option b7 :=
 match gb1 E.P (execOp rho o) with
 | some (.value v) => some (ofVal v)
 | _ => none
def A0 : b7 → List b7
 | .agg cs => cs
 | x => [x]
def ib3 (agg : Bool) (cs : List b7) : Option b7 :=
 match agg with
 | true => some (.agg cs)
 | false => match cs with
  | [x] => some x
  | _ => none
def inB (n : Int) (len : Nat) : Bool :=
 match n with
 | .ofNat k => Nat.blt k len
 | .negSucc _ => false
noncomputable def blkAt (H : List b8) (id g : Nat) : Option b8 :=
 match nth H id with
 | some b => match b.dead with
  | true => none
  | false => match Nat.beq b.g g with
   | true => some b
   | false => none
 | none => none
noncomputable def loadCells (H : List b8) (p : b7) (n : Nat) : Option (List b7) :=
 match p with
 | .ptr id i c g => match blkAt H id g with
  | some b => match nth b.elems i with
   | some cells => match Nat.ble (c + n) (len cells) with
    | true => some (D6 (d8 cells c) n)
    | false => none
   | none => none
  | none => none
 | .tptr cs => match Nat.ble n (len cs) with
  | true => some (D6 cs n)
  | false => none
 | _ => none
noncomputable def d9 (l : List (List b7)) (i : Nat) : List b7 :=
 match nth l i with
 | some x => x
 | none => []
noncomputable def ob6 (H : List b8) (p : b7) (n : Nat) : Option (Bool × List b7) :=
 match p with
 | .ptr id i c g => match blkAt H id g with
  | some b => some (Bool.and (Nat.blt i (len b.elems)) (Nat.ble (c + n) (len (d9 b.elems i))), d8 (d9 b.elems i) c)
  | none => none
 | .tptr cs => some (Nat.ble n (len cs), cs)
 | _ => none
def Hb0 : CK → b7 → Bool
 | .int k, .v (.int k' _) => decide (k = k')
 | .bool, .v (.bool _) => true
 | .sl es, .tree es' _ _ => Nat.beq es es'
 | .sl _, .v (.slice none 0 0) => true
 | .any, _ => true
 | _, _ => false
def toI : b7 → Int
 | .v (.int _ n) => n
 | _ => 0
def toB : b7 → Bool
 | .v (.bool b) => b
 | _ => false
def toN : b7 → Nat
 | .tree _ n _ => n
 | _ => 0
def toG : b7 → Nat → List b7
 | .tree _ _ get => get
 | _ => fun _ => []
def yd7 : CK → b7 → b7
 | .int k, x => .v (.int k (toI x))
 | .bool, x => .v (.bool (toB x))
 | .sl es, x => .tree es (toN x) (toG x)
 | .any, x => x
noncomputable def hdA (l : List b7) : b7 := List.rec (motive := fun _ => b7) .unk (fun x _ _ => x) l
noncomputable def tlA (l : List b7) : List b7 := List.rec (motive := fun _ => List b7) [] (fun _ r _ => r) l
noncomputable def I0 (ks : List CK) : List b7 → Bool :=
 List.rec (motive := fun _ => List b7 → Bool) (fun _ => true) (fun k _ ih cs => Bool.and (Hb0 k (hdA cs)) (ih (tlA cs))) ks
noncomputable def vb9 (ks : List CK) : List b7 → List b7 :=
 List.rec (motive := fun _ => List b7 → List b7) (fun _ => []) (fun k _ ih cs => yd7 k (hdA cs) :: ih (tlA cs)) ks
noncomputable def I1 (l : List b7) (c : Nat) (new : List b7) : List b7 := app (D6 l c) (app new (d8 l (c + len new)))
noncomputable def elemsOf (es : Nat) (H : List b8) : b7 → Option (List (List b7))
 | .sl id off n g => match blkAt H id g with
  | some b => match Nat.beq b.es es with
   | true => some (D6 (d8 b.elems off) n)
   | false => none
  | none => none
 | .tree es' n get => match Nat.beq es' es with
  | true => some (l0 get (List.range n))
  | false => none
 | .v (.slice none 0 0) => some []
 | .v (.slice (some _) 0 _) => some []
 | _ => none
noncomputable def modAt (H : List b8) (id : Nat) (f : b8 → b8) : List b8 :=
 match nth H id with
 | some b => setAt H id (f b)
 | none => H
noncomputable def disown (H : List b8) (id : Nat) : List b8 := modAt H id fun b => { b with own := false }
noncomputable def wb0 (b : b8) (off n : Nat) : b7 := .tree b.es n fun i => d9 b.elems (off + i)
def Bc7 : Value → Bool
 | .agg _ | .tuple _ => false
 | _ => true
noncomputable def freezeCell (H : List b8) : b7 → Option (b7 × List b8)
 | .v x => match Bc7 x with
  | true => some (.v x, H)
  | false => none
 | .tree es n get => some (.tree es n get, H)
 | .fn f [] => some (.fn f [], H)
 | .sl id off n g => match blkAt H id g with
  | some b => some (wb0 b off n, disown H id)
  | none => none
 | _ => none
noncomputable def freezeCells (H : List b8) : List b7 → Option (List b7 × List b8)
 | [] => some ([], H)
 | x :: r => match freezeCell H x with
  | some (y, H1) => match freezeCells H1 r with
   | some (l, H2) => some (y :: l, H2)
   | none => none
  | none => none
noncomputable def la0 (H : List b8) (et es : Nat) (elems : List (List b7)) : List b8 := app H [{ et, es, elems, own := true, dead := false, g := 0 }]
def Ja6 : b7 → Bool
 | .v x => Bc7 x
 | .tup _ => false
 | .unk => false
 | .fn _ (_ :: _) => false
 | _ => true
noncomputable def wb1 (cells : List b7) : List (Nat × Nat × b7) → Option (List b7)
 | [] => some cells
 | (off, size, x) :: rest =>
  match Ja6 x && Nat.beq (len (A0 x)) size && Nat.ble (off + size) (len cells) with
  | true => wb1 (I1 cells off (A0 x)) rest
  | false => none
noncomputable def pa2 (es : Nat) : Nat → List b7 → List (List b7)
 | 0, _ => []
 | n + 1, l => D6 l es :: pa2 es n (d8 l es)
def fa6 : b7 → Option Int
 | .v (.int _ n) => some n
 | _ => none
noncomputable def Ob9 (n : Nat) (lo hi : Option b7) : DT (Nat × Nat) :=
 let h : DT Nat := match hi with
  | none => .ret n
  | some x => match fa6 x with
   | some m => .guard (inB m (n + 1)) (.ret m.toNat)
   | none => .fail
 h.bind fun h => match lo with
  | none => .ret (0, h)
  | some x => match fa6 x with
   | some m => .guard (inB m (h + 1)) (.ret (m.toNat, h))
   | none => .fail
def room : Nat := 140737488355328
noncomputable def appendA (et es bytes : Nat) (s x : b7) (H : List b8) : DT (b7 × List b8) :=
 match elemsOf es H x with
 | some news => match s with
  | .v (.slice none 0 0) =>
   .ite (Nat.beq (len news) 0) (.ret (.v (.slice none 0 0), H))
    (.guard (Nat.ble (len news * bytes) room) (.ret (.sl (len H) 0 (len news) 0, la0 H et es news)))
  | .sl id off n g => match blkAt H id g with
   | some b => match b.own && Nat.beq off 0 && Nat.beq b.es es && Nat.beq b.et et with
    | true =>
     .ite (Nat.beq (len news) 0) (.ret (.sl id off n g, H))
      (.guard (Nat.beq n (len b.elems) && Nat.ble ((n + len news) * bytes) room)
       (.ret (.sl id 0 (n + len news) (g + 1), setAt H id { b with elems := app b.elems news, g := g + 1 })))
    | false => .fail
   | none => .fail
  | _ => .fail
 | none => .fail
noncomputable def copyA (es : Nat) (dst src : b7) (H : List b8) : Option (b7 × List b8) :=
 match dst with
 | .sl id off n g => match blkAt H id g with
  | some b => match elemsOf es H src with
   | some news => match b.own && Nat.beq b.es es with
    | true => some (.v (.int .i64 (Nat.min (len news) n)), setAt H id { b with elems := app (D6 b.elems off) (app (D6 news (Nat.min (len news) n)) (d8 b.elems (off + Nat.min (len news) n))) })
    | false => none
   | none => none
  | none => none
 | _ => none
noncomputable def apreA (es : Nat) (s x : b7) (H : List b8) : DT (b7 × List b8) :=
 match elemsOf es H x with
 | some news => match s with
  | .v (.slice none 0 0) => .guard (Nat.beq (len news) 0) (.ret (.v (.slice none 0 0), H))
  | .sl id off n g => match blkAt H id g with
   | some b => match b.own && Nat.beq off 0 && Nat.beq b.es es with
    | true => .guard (Nat.ble (n + len news) (len b.elems)) (.ret (.sl id 0 (n + len news) g, setAt H id { b with elems := app (D6 b.elems n) (app news (d8 b.elems (n + len news))) }))
    | false => .fail
   | none => .fail
  | _ => .fail
 | none => .fail
noncomputable def clrA (es : Nat) (z : List b7) (x : b7) (H : List b8) : Option (b7 × List b8) :=
 match x with
 | .v (.slice none 0 0) => some (.v (.tuple #[]), H)
 | .sl id off n g => match blkAt H id g with
  | some b => match b.own && Nat.beq b.es es && Nat.beq (len z) es with
   | true => some (.v (.tuple #[]), setAt H id { b with elems := app (D6 b.elems off) (app (List.replicate n z) (d8 b.elems (off + n))) })
   | false => none
  | none => none
 | _ => none
def me0 : b7 → Option b7
 | .sl _ _ n _ => some (.v (.int .i64 n))
 | .tree _ n _ => some (.v (.int .i64 n))
 | .v (.slice _ n _) => some (.v (.int .i64 n))
 | _ => none
def Da8 (k : Nat) (x : b7) : Option Bool :=
 match k, x with
 | 0, .v (.slice none _ _) => some true
 | 0, .v (.slice (some _) _ _) => some false
 | 0, .sl .. => some false
 | 0, .tree _ n _ => match n with | 0 => none | _ + 1 => some false
 | 1, .v (.pointer none) => some true
 | 1, .ptr .. => some false
 | 1, .tptr .. => some false
 | 2, .v .nilFunc => some true
 | 2, .fn .. => some false
 | _, _ => none
def Fd4 : b7 → Bool
 | .agg _ => false
 | x => Ja6 x
noncomputable def Pb0 (f : b7 → Bool) (l : List b7) : Bool := List.rec (motive := fun _ => Bool) true (fun x _ ih => Bool.rec false ih (f x)) l
noncomputable def La9 (id : Nat) : Nat → List Nat → Option Nat
 | _, [] => none
 | k, x :: r => match Nat.beq x id with
  | true => some k
  | false => La9 id (k + 1) r
noncomputable def qa8 (roots : List Nat) (id : Nat) : Nat × List Nat :=
 match La9 id 0 roots with
 | some j => (j, roots)
 | none => (len roots, app roots [id])
structure pa3 where
 roots : List Nat
 lent : List Nat
noncomputable def capArg (H : List b8) (p : pa3) : b7 → Option (b7 × pa3)
 | .v x => some (.v x, p)
 | .ptr id i c g => match blkAt H id g with
  | some _ => match qa8 p.roots id with
   | (j, r) => some (.ptr j i c 0, { p with roots := r })
  | none => none
 | .tree es n get => some (.tree es n get, p)
 | .tptr cs => some (.tptr cs, p)
 | .sl id off n g => match blkAt H id g with
  | some b => some (wb0 b off n, { p with lent := id :: p.lent })
  | none => none
 | .fn f [] => some (.fn f [], p)
 | _ => none
noncomputable def capArgs (H : List b8) (p : pa3) : List b7 → Option (List b7 × pa3)
 | [] => some ([], p)
 | x :: r => match capArg H p x with
  | some (y, p1) => match capArgs H p1 r with
   | some (l, p2) => some (y :: l, p2)
   | none => none
  | none => none
noncomputable def prepArg (H : List b8) (own : Bool) (p : pa3) (x : b7) : Option (b7 × pa3) :=
 match x with
 | .v x => some (.v x, p)
 | .sl id off n g => match own with
  | true => match blkAt H id g with
   | some _ => match Nat.beq off 0 with
    | true => match qa8 p.roots id with
     | (j, r) => some (.sl j 0 n 0, { p with roots := r })
    | false => none
   | none => none
  | false => capArg H p (.sl id off n g)
 | .agg cs => match capArgs H p cs with
  | some (l, p) => some (.agg l, p)
  | none => none
 | .fn f caps => match capArgs H p caps with
  | some (l, p) => some (.fn f l, p)
  | none => none
 | x => capArg H p x
noncomputable def prepArgs (H : List b8) (own : Nat → Bool) (p : pa3) : Nat → List b7 → Option (List b7 × pa3)
 | _, [] => some ([], p)
 | k, x :: r => match prepArg H (own k) p x with
  | some (y, p1) => match prepArgs H own p1 (k + 1) r with
   | some (l, p2) => some (y :: l, p2)
   | none => none
  | none => none
noncomputable def blksAt (H : List b8) : List Nat → Option (List b8)
 | [] => some []
 | id :: r => match nth H id with
  | some b => match blksAt H r with
   | some l => some ({ b with g := 0 } :: l)
   | none => none
  | none => none
noncomputable def putBack (H : List b8) : List Nat → List b8 → Option (List b8)
 | [], [] => some H
 | [], rest => some (app H rest)
 | id :: r, b :: rest => putBack (modAt H id fun old => { b with g := old.g + b.g }) r rest
 | _ :: _, [] => none
noncomputable def backId (H : List b8) (roots : List Nat) (j g : Nat) : Nat × Nat :=
 match nth roots j with
 | some id => (id, match nth H id with
  | some b => b.g + g
  | none => g)
 | none => (len H + (j - len roots), g)
noncomputable def backC (H : List b8) (roots : List Nat) : b7 → b7
 | .ptr j i c g => match backId H roots j g with
  | (id, g') => .ptr id i c g'
 | .sl j off n g => match backId H roots j g with
  | (id, g') => .sl id off n g'
 | x => x
noncomputable def backVal1 (H : List b8) (roots : List Nat) : b7 → b7
 | .fn f caps => .fn f (l0 (backC H roots) caps)
 | .agg cs => .agg (l0 (backC H roots) cs)
 | x => backC H roots x
noncomputable def backVal (H : List b8) (roots : List Nat) : b7 → b7
 | .v x => .v x
 | .tup vs => .tup (l0 (backVal1 H roots) vs)
 | x => backVal1 H roots x
def Fd5 : b7 → Bool
 | .tree .. | .tptr .. => true
 | _ => false
def Ba5 : b7 → Bool
 | .tree .. | .tptr .. => true
 | .fn _ caps => caps.any Fd5
 | _ => false
def ld1 : b7 → Bool
 | .agg cs => cs.any Ba5
 | x => Ba5 x
def ua8 : b7 → Bool
 | .agg cs => cs.any Ba5
 | .tup vs => vs.any ld1
 | x => Ba5 x
def wb2 (b : b8) : Bool := b.elems.any fun cs => cs.any Ba5
noncomputable def Na0 (k : Nat) (l : List Nat) : Bool := List.rec (motive := fun _ => Bool) false (fun x _ ih => Bool.rec ih true (Nat.beq x k)) l
noncomputable def Ya3 (l r : List Nat) : Bool := List.rec (motive := fun _ => Bool) true (fun x _ ih => Bool.rec ih false (Na0 x r)) l
noncomputable def settle (lent : List Nat) (held : Bool) (H : List b8) : List b8 :=
 List.rec (motive := fun _ => List b8) H (fun id _ ih => modAt ih id fun b => { b with own := Bool.rec b.own false held }) lent
noncomputable def callA (E : Env) (f : FuncId) (args : List b7) (H : List b8) : DT (b7 × List b8) :=
 match prepArgs H (E.own f) { roots := [], lent := [] } 0 args with
 | some (args', p) => match blksAt H p.roots, Ya3 p.lent p.roots with
  | some blks, true => (E.call f args' blks).bind fun
   | (r, out) => match putBack H p.roots out with
    | some H' => .ret (backVal H p.roots r, settle p.lent (ua8 r || out.any wb2) H')
    | none => .fail
  | _, _ => .fail
 | none => .fail
noncomputable def opt (x : Option b7) (H : List b8) : DT (b7 × List b8) :=
 Option.rec (motive := fun _ => DT (b7 × List b8)) .fail (fun y => .ret (y, H)) x
noncomputable def yd8 (x : Option (b7 × List b8)) : DT (b7 × List b8) :=
 Option.rec (motive := fun _ => DT (b7 × List b8)) .fail .ret x
def ee7 (op : BinOp) (x y : b7) : DT b7 :=
 match x, y with
 | .v (.int k m), .v (.int k' n) =>
  if k = k' then
   match op with
   | .add => .ret (.v (.int k (k.wrap (m + n))))
   | .sub => .ret (.v (.int k (k.wrap (m - n))))
   | .mul => .ret (.v (.int k (k.wrap (m * n))))
   | .quo => .ite (n == 0) .fail (.ret (.v (.int k (k.wrap (m.tdiv n)))))
   | .rem => .ite (n == 0) .fail (.ret (.v (.int k (m.tmod n))))
   | .lss => .ret (.v (.bool (m < n)))
   | .leq => .ret (.v (.bool (m ≤ n)))
   | .gtr => .ret (.v (.bool (m > n)))
   | .geq => .ret (.v (.bool (m ≥ n)))
   | .eql => .ret (.v (.bool (m == n)))
   | .neq => .ret (.v (.bool (m != n)))
   | _ => .fail
  else .fail
 | _, _ => .fail
def wb3 : b7 → Bool
 | .v x => Bc7 x
 | .tree .. => true
 | .fn _ [] => true
 | _ => false
noncomputable def Bc8 (E : Env) (a : List b7) (o : Oper) (ts : List Nat) : Option b7 :=
 match Ma9 (fun t => Xc9 (c7 E a (.t t))) ts with
 | some vs => td1 E o (td0 ts vs)
 | none => none
noncomputable def ee8 (E : Env) (a : List b7) (k : Nat) (neg : Bool) (p q : b7) (o : Oper) (ts : List Nat) : Option b7 :=
 match Da8 k p, Da8 k q with
 | some true, some b => some (.v (.bool (match neg with | true => !b | false => b)))
 | some false, some true => some (.v (.bool neg))
 | _, _ => Bc8 E a o ts
noncomputable def ld2 (fl : List (Nat × CK)) (cs : List b7) : Bool :=
 List.rec (motive := fun _ => Bool) true (fun p _ ih => Bool.and (Hb0 p.2 (hdA (d8 cs p.1))) ih) fl
def ee9 : CK → b7 → b7 → Bool
 | .int _, x, y => toI x == toI y
 | .bool, x, y => toB x == toB y
 | _, _, _ => false
noncomputable def Hb1 (fl : List (Nat × CK)) (cs ds : List b7) : Bool :=
 List.rec (motive := fun _ => Bool) true (fun p _ ih => Bool.and (ee9 p.2 (hdA (d8 cs p.1)) (hdA (d8 ds p.1))) ih) fl
noncomputable def ae8 (neg x : Bool) : Bool := Bool.rec (motive := fun _ => Bool) x (!x) neg
noncomputable def evalOp (E : Env) (a : List b7) (H : List b8) (o : PO) : DT (b7 × List b8) :=
 match o with
 | .mv x => .ret (c7 E a x, H)
 | .nilck x => match c7 E a x with
  | .ptr id i c g => .ret (.ptr id i c g, H)
  | .tptr cs => .ret (.tptr cs, H)
  | .fn f caps => .ret (.fn f caps, H)
  | _ => .fail
 | .pick c x y => match c7 E a c with
  | .v (.bool b) => .ite b (.ret (c7 E a x, H)) (.ret (c7 E a y, H))
  | _ => .fail
 | .alloc z => .ret (.ptr (len H) 0 0 0, la0 H 0 (len z) [z])
 | .box x => match freezeCells H (A0 (c7 E a x)) with
  | some (cs, H1) => .ret (.ptr (len H1) 0 0 0, la0 H1 0 (len cs) [cs])
  | none => .fail
 | .build z parts => match wb1 z (l0 (fun p => (p.1, p.2.1, c7 E a p.2.2)) parts) with
  | some cs => .ret (.agg cs, H)
  | none => .fail
 | .bslice et es n z parts => match wb1 z (l0 (fun p => (p.1, p.2.1, c7 E a p.2.2)) parts) with
  | some cs => match freezeCells H cs with
   | some (cs, H1) => .ret (.sl (len H1) 0 n 0, la0 H1 et es (pa2 es n cs))
   | none => .fail
  | none => .fail
 | .tslice es n z parts => match wb1 z (l0 (fun p => (p.1, p.2.1, c7 E a p.2.2)) parts) with
  | some cs => match Pb0 wb3 cs with
   | true => .ret (.tree es n fun i => d9 (pa2 es n cs) (0 + i), H)
   | false => .fail
  | none => .fail
 | .load ks n agg x => match ob6 H (c7 E a x) n with
  | some p => .guard (Bool.and p.1 (Bool.and (Nat.beq (len ks) n) (I0 ks p.2))) (opt (ib3 agg (vb9 ks p.2)) H)
  | none => .fail
 | .store n x y => match c7 E a x with
  | .ptr id i c g => match freezeCells H (A0 (c7 E a y)) with
   | some (cs, H1) => match blkAt H1 id g with
    | some b => .guard (Bool.and (Bool.and b.own (Nat.beq (len cs) n)) (Bool.and (Nat.blt i (len b.elems)) (Nat.ble (c + n) (len (d9 b.elems i)))))
      (.ret (.v (.tuple #[]), setAt H1 id { b with elems := setAt b.elems i (I1 (d9 b.elems i) c cs) }))
    | none => .fail
   | none => .fail
  | _ => .fail
 | .fld off x => match c7 E a x with
  | .ptr id i c g => .ret (.ptr id i (c + off) g, H)
  | .tptr cs => .ret (.tptr (d8 cs off), H)
  | _ => .fail
 | .idxA n es x i => match fa6 (c7 E a i) with
  | some m => match c7 E a x with
   | .ptr id i c g => .guard (inB m n) (.ret (.ptr id i (c + m.toNat * es) g, H))
   | .tptr cs => .guard (inB m n) (.ret (.tptr (d8 cs (m.toNat * es)), H))
   | _ => .fail
  | none => .fail
 | .idxS es x i => match fa6 (c7 E a i) with
  | some m => match c7 E a x with
   | .sl id off n g => match blkAt H id g with
    | some b => match Nat.beq b.es es with
     | true => .guard (inB m n) (.ret (.ptr id (off + m.toNat) 0 g, H))
     | false => .fail
    | none => .fail
   | .tree es' n get => match Nat.beq es' es with
    | true => .guard (inB m n) (.ret (.tptr (get m.toNat), H))
    | false => .fail
   | _ => .fail
  | none => .fail
 | .slice es x lo hi => match c7 E a x with
  | .sl id off n g => match blkAt H id g with
   | some b => match Nat.beq b.es es with
    | true => (Ob9 n (lo.map (c7 E a)) (hi.map (c7 E a))).bind fun
     | (l, h) => .ret (.sl id (off + l) (h - l) g, H)
    | false => .fail
   | none => .fail
  | .tree es' n get => match Nat.beq es' es with
   | true => (Ob9 n (lo.map (c7 E a)) (hi.map (c7 E a))).bind fun
    | (l, h) => .ret (.tree es' (h - l) fun i => get (l + i), H)
   | false => .fail
  | .v (.slice none 0 0) => (Ob9 0 (lo.map (c7 E a)) (hi.map (c7 E a))).bind fun _ => .ret (.v (.slice none 0 0), H)
  | _ => .fail
 | .mksl et es bytes z l c => match fa6 (c7 E a l), fa6 (c7 E a c) with
  | some n, some m => .guard (inB n (room + 1) && inB m (room + 1) && Nat.ble n.toNat m.toNat && Nat.ble (m.toNat * bytes) room)
    (.ret (.sl (len H) 0 n.toNat 0, la0 H et es (List.replicate n.toNat z)))
  | _, _ => .fail
 | .mkfn f caps => match Pb0 Fd4 (l0 (c7 E a) caps) with
  | true => .ret (.fn f (l0 (c7 E a) caps), H)
  | false => .fail
 | .ext x i => match c7 E a x with
  | .tup vs => opt (nth vs i) H
  | _ => .fail
 | .field off n agg x => match c7 E a x with
  | .agg cs => match Nat.ble (off + n) (len cs) with
   | true => opt (ib3 agg (D6 (d8 cs off) n)) H
   | false => .fail
  | _ => .fail
 | .index ks n es agg x i => match c7 E a x, fa6 (c7 E a i) with
  | .agg cs, some m => .guard (Bool.and (inB m n) (Bool.and (Nat.ble (m.toNat * es + es) (len cs)) (Bool.and (Nat.beq (len ks) es) (I0 ks (d8 cs (m.toNat * es))))))
    (opt (ib3 agg (vb9 ks (d8 cs (m.toNat * es)))) H)
  | _, _ => .fail
 | .bin op x y => (ee7 op (c7 E a x) (c7 E a y)).bind fun r => .ret (r, H)
 | .eqn k neg x y o ts => opt (ee8 E a k neg (c7 E a x) (c7 E a y) o ts) H
 | .eqc neg fl x y => match c7 E a x, c7 E a y with
  | .agg cs, .agg ds => .guard (Bool.and (ld2 fl cs) (ld2 fl ds)) (.ret (.v (.bool (ae8 neg (Hb1 fl cs ds))), H))
  | _, _ => .fail
 | .not x => match c7 E a x with
  | .v (.bool b) => .ret (.v (.bool (!b)), H)
  | _ => .fail
 | .neg x => match c7 E a x with
  | .v (.int k n) => .ret (.v (.int k (k.wrap (0 - n))), H)
  | _ => .fail
 | .gen o ts => opt (Bc8 E a o ts) H
 | .call f args => callA E f (l0 (c7 E a) args) H
 | .calld x args => match c7 E a x with
  | .fn f caps => callA E f (app (l0 (c7 E a) args) caps) H
  | _ => .fail
 | .append et es bytes s x => appendA et es bytes (c7 E a s) (c7 E a x) H
 | .copy es d s => yd8 (copyA es (c7 E a d) (c7 E a s) H)
 | .apre es s x => apreA es (c7 E a s) (c7 E a x) H
 | .clr es z x => yd8 (clrA es z (c7 E a x) H)
 | .len x => opt (me0 (c7 E a x)) H
 | .bad => .fail
structure St where
 a : List b7
 H : List b8
noncomputable def putA (a : List b7) (dst : Option Nat) (x : b7) : List b7 :=
 Option.rec (motive := fun _ => List b7) a (fun d => setAt a d x) dst
noncomputable def Ja7 (a : List b7) (l : List Nat) : List Nat :=
 l0 (fun d => match nth a d with
  | some (.ptr id _ _ _) => id
  | some (.sl id _ _ _) => id
  | _ => 0) l
noncomputable def wb4 (H : List b8) (l : List Nat) : List b8 :=
 List.rec (motive := fun _ => List b8) H (fun id _ ih => modAt ih id fun b => { b with dead := true }) l
noncomputable def Ra5 (H0 H : List b8) (l : List Nat) : List b8 :=
 List.rec (motive := fun _ => List b8) H (fun id _ ih => match nth H0 id with
  | some b => setAt ih id b
  | none => ih) l
noncomputable def Rd2 (E : Env) (s : St) (hide : List Nat) (o : PO) : DT (b7 × List b8) :=
 List.rec (motive := fun _ => DT (b7 × List b8)) (evalOp E s.a s.H o)
  (fun _ _ _ => (evalOp E s.a (wb4 s.H (Ja7 s.a hide)) o).bind fun r => .ret (r.1, Ra5 s.H r.2 (Ja7 s.a hide))) hide
noncomputable def ic7 (E : Env) (s : St) (o : PI) : DT St :=
 (Rd2 E s o.hide o.op).bind fun r => .ret ⟨putA s.a o.dst r.1, r.2⟩
noncomputable def Da9 (E : Env) (s : St) (o : PI) : DT St :=
 Option.rec (motive := fun _ => DT St) (ic7 E s o)
  (fun g => match c7 E s.a (.t g.1) with
   | .v (.bool b) => Bool.rec (motive := fun _ => DT St)
     (.ite b (.ret ⟨putA (setAt s.a g.1 (.v (.bool true))) o.dst (.v (.tuple #[])), s.H⟩) (ic7 E ⟨setAt s.a g.1 (.v (.bool false)), s.H⟩ o))
     (.ite b (ic7 E ⟨setAt s.a g.1 (.v (.bool true)), s.H⟩ o) (.ret ⟨putA (setAt s.a g.1 (.v (.bool false))) o.dst (.v (.tuple #[])), s.H⟩)) g.2
   | .v (.tuple _) => .ret ⟨putA s.a o.dst (.v (.tuple #[])), s.H⟩
   | _ => .fail)
  o.guard
noncomputable def I8 (E : Env) (l : List PI) : St → DT St :=
 List.rec (motive := fun _ => St → DT St) (fun s => .ret s) (fun o _ ih s => (Da9 E s o).bind ih) l
def da1 : b7 → List Nat
 | .ptr id _ _ _ => [id]
 | .sl id _ _ _ => [id]
 | _ => []
noncomputable def Ba6 (E : Env) (a : List b7) : PO → List Nat
 | .load _ _ _ x => da1 (c7 E a x)
 | .idxS _ x _ => da1 (c7 E a x)
 | .slice _ x _ _ => da1 (c7 E a x)
 | _ => []
noncomputable def Ea0 (l : List b7) : List Nat :=
 List.rec (motive := fun _ => List Nat) [] (fun x _ ih => match x with
  | .ptr id _ _ _ => id :: ih
  | _ => ih) l
noncomputable def da2 (own : Nat → Bool) : Nat → List b7 → List Nat
 | _, [] => []
 | k, x :: r => match x with
  | .ptr id _ _ _ => id :: da2 own (k + 1) r
  | .sl id _ _ _ => match own k with
   | true => id :: da2 own (k + 1) r
   | false => da2 own (k + 1) r
  | .agg cs => app (Ea0 cs) (da2 own (k + 1) r)
  | .fn _ caps => app (Ea0 caps) (da2 own (k + 1) r)
  | _ => da2 own (k + 1) r
noncomputable def L1 (E : Env) (a : List b7) : PO → List Nat
 | .store _ x _ => da1 (c7 E a x)
 | .append _ _ _ s _ => da1 (c7 E a s)
 | .copy _ d _ => da1 (c7 E a d)
 | .apre _ s _ => da1 (c7 E a s)
 | .clr _ _ x => da1 (c7 E a x)
 | .call f args => da2 (E.own f) 0 (l0 (c7 E a) args)
 | .calld x args => match c7 E a x with
  | .fn f caps => da2 (E.own f) 0 (app (l0 (c7 E a) args) caps)
  | _ => []
 | _ => []
noncomputable def gb2 (E : Env) (a : List b7) (l : List (PO × PO)) : Bool :=
 List.rec (motive := fun _ => Bool) true (fun p _ ih => Bool.rec false ih (Ya3 (Ba6 E a p.1) (L1 E a p.2))) l
noncomputable def Eb1 (a : List b7) (l : List PI) : Bool :=
 List.rec (motive := fun _ => Bool) true (fun p _ ih => match p.dst with
  | some d => match nth a d with
   | some _ => ih
   | none => false
  | none => false) l
inductive d7 where
 | normal
 | exit (id : Nat)
 | ret
noncomputable def I4 (keep : List Nat) (l : List b7) : Nat → List b7 :=
 List.rec (motive := fun _ => Nat → List b7) (fun _ => []) (fun x _ ih k => Bool.rec .unk x (Na0 k keep) :: ih (k + 1)) l
noncomputable def oc7 (k : Nat) (H : List b8) (roots : List Nat) (x : b7) : b7 × List Nat :=
 match x with
 | .v x => (.v x, roots)
 | .unk => (.unk, roots)
 | .ptr id i c g => match blkAt H id g with
  | some _ => match qa8 roots id with
   | (j, r) => (.ptr j i c (match Nat.blt j k with | true => g | false => 0), r)
  | none => (.unk, roots)
 | .sl id off n g => match blkAt H id g with
  | some _ => match qa8 roots id with
   | (j, r) => (.sl j off n (match Nat.blt j k with | true => g | false => 0), r)
  | none => (.unk, roots)
 | x => (x, roots)
noncomputable def Pb1 (k : Nat) (H : List b8) : List b7 → List Nat → List b7 × List Nat
 | [], roots => ([], roots)
 | x :: r, roots => match oc7 k H roots x with
  | (y, r1) => match Pb1 k H r r1 with
   | (l, r2) => (y :: l, r2)
noncomputable def wb5 (k : Nat) (H : List b8) (roots : List Nat) (x : b7) : b7 × List Nat :=
 match x with
 | .v x => (.v x, roots)
 | .unk => (.unk, roots)
 | .fn f caps => match Pb1 k H caps roots with
  | (l, r) => (.fn f l, r)
 | .agg cs => match Pb1 k H cs roots with
  | (l, r) => (.agg l, r)
 | x => oc7 k H roots x
noncomputable def Lb0 (k : Nat) (H : List b8) : List b7 → List Nat → List b7 × List Nat
 | [], roots => ([], roots)
 | x :: r, roots => match wb5 k H roots x with
  | (y, r1) => match Lb0 k H r r1 with
   | (l, r2) => (y :: l, r2)
noncomputable def oc8 (k : Nat) (H : List b8) (roots : List Nat) (x : b7) : b7 × List Nat :=
 match x with
 | .v x => (.v x, roots)
 | .unk => (.unk, roots)
 | .tup vs => match Lb0 k H vs roots with
  | (l, r) => (.tup l, r)
 | x => wb5 k H roots x
noncomputable def Pb2 (k : Nat) (H : List b8) : List b7 → List Nat → List b7 × List Nat
 | [], roots => ([], roots)
 | x :: r, roots => match oc8 k H roots x with
  | (y, r1) => match Pb2 k H r r1 with
   | (l, r2) => (y :: l, r2)
noncomputable def xa4 (k : Nat) (H : List b8) : Nat → List Nat → Option (List b8)
 | _, [] => some []
 | j, id :: r => match nth H id with
  | some b => match xa4 k H (j + 1) r with
   | some l => some ((match Nat.blt j k with | true => b | false => { b with g := 0 }) :: l)
   | none => none
  | none => none
noncomputable def tidy (k : Nat) (s : St) : DT St :=
 match Pb2 k s.H s.a (List.range k) with
 | (a, roots) => match xa4 k s.H 0 roots with
  | some H => .ret ⟨a, H⟩
  | none => .fail
noncomputable def vb1 (head : St → DT St) (body : St → DT (d7 × St)) (n : Nat) : St → DT (d7 × St) :=
 Nat.rec (motive := fun _ => St → DT (d7 × St)) (fun _ => .fail)
  (fun _ ih s => (head s).bind fun s => (body s).bind fun r =>
   d7.rec (motive := fun _ => DT (d7 × St)) (ih r.2) (fun id => .ret (.exit id, r.2)) (.ret (.ret, r.2)) r.1) n
def A1 (b : b8) : Bool := Nat.beq b.es 0
noncomputable def o6 (H : List b8) : List b8 := l0 (fun b => Bool.rec (motive := fun _ => b8) b { b with dead := true } (A1 b)) H
noncomputable def da3 (H : List b8) (x : b7) : b7 :=
 match x with
 | .ptr id i c g => match nth H id with
  | some b => Bool.rec (motive := fun _ => b7) (.ptr id i c g) .unk (A1 b)
  | none => .unk
 | x => x
noncomputable def z9 (H : List b8) : List b8 → List b8 :=
 List.rec (motive := fun _ => List b8 → List b8) (fun l => l) (fun b _ ih l => List.rec (motive := fun _ => List b8) [] (fun c r _ => Bool.rec (motive := fun _ => b8) c b (A1 b) :: ih r) l) H
noncomputable def Aa1 (ds : List Nat) (a : List b7) : List b7 → Nat → List b7 :=
 List.rec (motive := fun _ => List b7 → Nat → List b7) (fun _ _ => []) (fun x _ ih l k => Bool.rec (motive := fun _ => b7) x (hdA l) (Na0 k ds) :: ih (tlA l) (k + 1)) a
noncomputable def ic8 (H : List b8) : List b8 → Bool :=
 List.rec (motive := fun _ => List b8 → Bool) (fun l => List.rec (motive := fun _ => Bool) true (fun c _ ih => Bool.and (Bool.rec (motive := fun _ => Bool) true false (A1 c)) ih) l) (fun b _ ih l => List.rec (motive := fun _ => Bool) false (fun c r _ => Bool.and (Bool.rec (motive := fun _ => Bool) (Bool.rec true false (A1 c)) true (A1 b)) (ih r)) l) H
def yd9 : b7 → Bool
 | .v x => Bc7 x
 | .tree .. => true
 | .fn _ [] => true
 | .sl .. => true
 | .ptr .. => true
 | _ => false
noncomputable def Pb3 (et : Nat) (H : List b8) (x : b7) : Option (Nat × Nat × Nat × b8) :=
 match x with
 | .ptr id i c g => match nth H id with
  | some b => match b.dead with
   | true => none
   | false => match A1 b && Nat.beq b.et et with
    | true => match Nat.beq b.g g with
     | true => match Nat.beq i 0 with
      | true => some (id, c, g, b)
      | false => none
     | false => none
    | false => none
  | none => none
 | _ => none
noncomputable def Pb4 (H : List b8) (et : Nat) (elems : List (List b7)) : List b8 := app H [{ et, es := 0, elems, own := true, dead := false, g := 0 }]
noncomputable def fc0 (fl : List (Nat × CK)) (key : List b7) (rows : List (List b7)) : Option (List b7) :=
 List.rec (motive := fun _ => Option (List b7)) none (fun r _ ih => Bool.rec (motive := fun _ => Option (List b7)) ih (some r) (Hb1 fl key r)) rows
noncomputable def Pb5 (kl : Nat) (fl : List (Nat × CK)) (key : List b7) (rows : List (List b7)) : Bool :=
 Option.rec (motive := fun _ => Bool) false (fun r => toB (hdA (d8 r kl))) (fc0 fl key rows)
noncomputable def ib4 (fl : List (Nat × CK)) (key row : List b7) (rows : List (List b7)) : List (List b7) :=
 List.rec (motive := fun _ => List (List b7)) [row] (fun r t ih => Bool.rec (motive := fun _ => List (List b7)) (r :: ih) (row :: t) (Hb1 fl key r)) rows
noncomputable def vb2 (E : Env) (a : List b7) (H : List b8) (o : SP) : DT (b7 × List b8) :=
 match o with
 | .old n o => (evalOp E (l0 (da3 H) (D6 a n)) (o6 H) o).bind fun r => .guard (ic8 H r.2) (.ret (r.1, z9 H r.2))
 | .balloc z => .ret (.ptr (len H) 0 0 0, Pb4 H 0 [z])
 | .bbox x => match Ja6 (c7 E a x) && Pb0 yd9 (A0 (c7 E a x)) with
  | true => .ret (.ptr (len H) 0 0 0, Pb4 H 0 [A0 (c7 E a x)])
  | false => .fail
 | .bload n agg p => match Pb3 0 H (c7 E a (.t p)) with
  | some (_, c, _, b) => match Nat.ble (c + n) (len (d9 b.elems 0)) with
   | true => opt (ib3 agg (Bool.rec (motive := fun _ => List b7) (D6 (d8 (d9 b.elems 0) c) n) (l0 (da3 H) (D6 (d8 (d9 b.elems 0) c) n)) agg)) H
   | false => .fail
  | none => .fail
 | .bstore n p y => match Pb3 0 H (c7 E a (.t p)) with
  | some (id, c, _, b) => match Nat.ble (c + n) (len (d9 b.elems 0)) && Nat.beq (len (A0 (c7 E a y))) n && (Ja6 (c7 E a y) && Pb0 yd9 (A0 (c7 E a y))) with
   | true => .ret (.v (.tuple #[]), setAt H id { b with elems := [I1 (d9 b.elems 0) c (A0 (c7 E a y))] })
   | false => .fail
  | none => .fail
 | .bfld off p => match Pb3 0 H (c7 E a (.t p)) with
  | some (id, c, g, _) => .ret (.ptr id 0 (c + off) g, H)
  | none => .fail
 | .mmake t => .ret (.ptr (len H) 0 0 0, Pb4 H (t + 1) [])
 | .mlook t kl fl m key => match Pb3 (t + 1) H (c7 E a (.t m)) with
  | some (_, _, _, b) => match c7 E a key with
   | .agg ks => .guard (Bool.and (Nat.beq (len ks) kl) (ld2 fl ks)) (.ret (.v (.bool (Pb5 kl fl ks b.elems)), H))
   | _ => .fail
  | none => .fail
 | .mupd t kl fl m key val => match Pb3 (t + 1) H (c7 E a (.t m)) with
  | some (id, _, _, b) => match c7 E a key, c7 E a val with
   | .agg ks, .v (.bool v) => .guard (Bool.and (Nat.beq (len ks) kl) (ld2 fl ks)) (.ret (.v (.tuple #[]), setAt H id { b with elems := ib4 fl ks (app ks [.v (.bool v)]) b.elems }))
   | _, _ => .fail
  | none => .fail
 | .bad => .fail
noncomputable def nc0 (E : Env) (s : St) (dst : Option Nat) (g : Option (Nat × Bool)) (d : St → DT St) : DT St :=
 Option.rec (motive := fun _ => DT St) (d s)
  (fun g => match c7 E s.a (.t g.1) with
   | .v (.bool b) => Bool.rec (motive := fun _ => DT St)
     (.ite b (.ret ⟨putA (setAt s.a g.1 (.v (.bool true))) dst (.v (.tuple #[])), s.H⟩) (d ⟨setAt s.a g.1 (.v (.bool false)), s.H⟩))
     (.ite b (d ⟨setAt s.a g.1 (.v (.bool true)), s.H⟩) (.ret ⟨putA (setAt s.a g.1 (.v (.bool false))) dst (.v (.tuple #[])), s.H⟩)) g.2
   | .v (.tuple _) => .ret ⟨putA s.a dst (.v (.tuple #[])), s.H⟩
   | _ => .fail)
  g
noncomputable def ld3 (E : Env) (s : St) (dst : Option Nat) (g : Option (Nat × Bool)) (o : SP) : DT St :=
 nc0 E s dst g fun s => (vb2 E s.a s.H o).bind fun r => .ret ⟨putA s.a dst r.1, r.2⟩
noncomputable def td2 (H : List b8) (cs : List b7) (roots : List Nat) : List Nat :=
 List.rec (motive := fun _ => List Nat → List Nat) (fun r => r) (fun x _ ih r => ih (match x with
  | .ptr id _ _ g => match blkAt H id g with
   | some _ => (qa8 r id).2
   | none => r
  | .sl id _ _ g => match blkAt H id g with
   | some _ => (qa8 r id).2
   | none => r
  | _ => r)) cs roots
noncomputable def Ic1 (H : List b8) (ids : List Nat) : List Nat → List Nat :=
 List.rec (motive := fun _ => List Nat → List Nat) (fun r => r) (fun id _ ih r => ih (match nth H id with
  | some b => match A1 b && Nat.beq b.et 0 with
   | true => td2 H (d9 b.elems 0) r
   | false => r
  | none => r)) ids
noncomputable def Fd6 (k : Nat) (H : List b8) (R : List Nat) (x : b7) : b7 :=
 match x with
 | .ptr id i c g => match blkAt H id g with
  | some _ => match La9 id 0 R with
   | some j => .ptr j i c (match Nat.blt j k with | true => g | false => 0)
   | none => .unk
  | none => .unk
 | .sl id off n g => match blkAt H id g with
  | some _ => match La9 id 0 R with
   | some j => .sl j off n (match Nat.blt j k with | true => g | false => 0)
   | none => .unk
  | none => .unk
 | x => x
noncomputable def Ea1 (k : Nat) (H : List b8) (R : List Nat) (b : b8) : b8 :=
 Bool.rec (motive := fun _ => b8) b { b with elems := l0 (l0 (Fd6 k H R)) b.elems } (A1 b && Nat.beq b.et 0)
noncomputable def tidyM (k : Nat) (s : St) : DT St :=
 match Pb2 k s.H s.a (List.range k) with
 | (a, roots) => match xa4 k s.H 0 (Ic1 s.H roots roots) with
  | some H => .ret ⟨a, l0 (Ea1 k s.H (Ic1 s.H roots roots)) H⟩
  | none => .fail
def wb6 (x : b7) (s : St) : DT (d7 × St) :=
 match x with
 | .v (.int .i64 (.ofNat n)) => match n with
  | 0 => .ret (.normal, s)
  | 1 => .ret (.ret, s)
  | n + 2 => .ret (.exit n, s)
 | _ => .fail
noncomputable def fe0 (ps : List Nat) : List b7 → List b7 → List b7 :=
 List.rec (motive := fun _ => List b7 → List b7 → List b7) (fun _ a => a) (fun p _ ih vs a => ih (tlA vs) (setAt a p (hdA vs))) ps
noncomputable def oc9 (dst : Option Nat) (nIn nOut : Nat) (r : d7 × St) : St :=
 d7.rec (motive := fun _ => St) ⟨putA (d8 r.2.a nOut) dst (.v (.bool true)), r.2.H⟩
  (fun id => ⟨putA (setAt (d8 r.2.a nOut) nIn (.v (.int .i64 (.ofNat (id + 2))))) dst (.v (.bool false)), r.2.H⟩)
  ⟨putA (setAt (d8 r.2.a nOut) nIn (.v (.int .i64 (.ofNat 1)))) dst (.v (.bool false)), r.2.H⟩ r.1
noncomputable def Oc0 (E : Env) (s : St) (args : List Arg) (nIn nOut : Nat) (ps : List Nat) : St :=
 ⟨app (fe0 ps (l0 (c7 E s.a) args) (D6 (d8 s.a (nIn + 1)) nOut)) s.a, s.H⟩
noncomputable def ob7 (caps : List b7) (nIn : Nat) (s : St) : St :=
 ⟨app (.unk :: caps) (app (List.replicate (nIn - (len caps + 1)) (.v (.tuple #[]))) (.v (.int .i64 (.ofNat 0)) :: s.a)), s.H⟩
def nc1 (x : b7) : Bool :=
 match x with
 | .v (.int .i64 (.ofNat n)) => match n with
  | 0 => true
  | _ + 1 => false
 | _ => false
noncomputable def K2 (E : Env) (k : Nat) (c : PC) : St → DT (d7 × St) :=
 PC.rec (motive := fun _ => St → DT (d7 × St))
  (fun s => .ret (.normal, s))
  (fun l s => (I8 E l s).bind fun s => .ret (.normal, s))
  (fun _ as l pairs s => (I8 E as s).bind fun s => (I8 E l s).bind fun s =>
   Bool.rec (motive := fun _ => DT (d7 × St)) .fail (Bool.rec (motive := fun _ => DT (d7 × St)) .fail (.ret (.normal, s)) (Eb1 s.a as)) (gb2 E s.a pairs))
  (fun _ _ x y s => (x s).bind fun r => d7.rec (motive := fun _ => DT (d7 × St)) (y r.2) (fun id => .ret (.exit id, r.2)) (.ret (.ret, r.2)) r.1)
  (fun c _ _ x y s => match c7 E s.a c with
   | .v (.bool b) => .ite b (x s) (y s)
   | _ => .fail)
  (fun id _ x s => (x s).bind fun r => d7.rec (motive := fun _ => DT (d7 × St)) (.ret (.normal, r.2))
   (fun id' => Bool.rec (.ret (.exit id', r.2)) (.ret (.normal, r.2)) (Nat.beq id' id)) (.ret (.ret, r.2)) r.1)
  (fun keep _ x => vb1 (fun s => tidy k ⟨I4 keep s.a 0, s.H⟩) x E.N)
  (fun id s => .ret (.exit id, s))
  (fun s => .ret (.ret, s))
  (fun _ => .fail)
  (fun n ds _ x s => (x ⟨l0 (da3 s.H) (D6 s.a n), o6 s.H⟩).bind fun r => .guard (ic8 s.H r.2.H) (.ret (r.1, ⟨Aa1 ds s.a r.2.a 0, z9 s.H r.2.H⟩)))
  (fun dst g o s => (ld3 E s dst g o).bind fun s => .ret (.normal, s))
  (fun f x nIn _ c s => match c7 E s.a x with
   | .fn f' caps => match Nat.beq f f' && Nat.ble (len caps + 1) nIn with
    | true => (c (ob7 caps nIn s)).bind fun r =>
      d7.rec (motive := fun _ => DT (d7 × St)) (wb6 (hdA (d8 r.2.a nIn)) ⟨d8 r.2.a (nIn + 1), r.2.H⟩) (fun _ => .fail) (wb6 (hdA (d8 r.2.a nIn)) ⟨d8 r.2.a (nIn + 1), r.2.H⟩) r.1
    | false => .fail
   | _ => .fail)
  (fun dst g args nIn nOut ps _ _ as body s => (nc0 E s dst g fun s => match nc1 (hdA (d8 s.a nIn)) with
   | true => (as (Oc0 E s args nIn nOut ps)).bind fun r0 =>
    d7.rec (motive := fun _ => DT St) ((body r0.2).bind fun r => .ret (oc9 dst nIn nOut r)) (fun _ => .fail) .fail r0.1
   | false => .fail).bind fun s => .ret (.normal, s))
  (fun keep _ x => vb1 (fun s => tidyM k ⟨I4 keep s.a 0, s.H⟩) x E.N) c
noncomputable def Ra6 (a : List b7) (H : List b8) : Yb7 → Option b7
 | .t n => match nth a n with
  | some (.tup _) => none
  | some x => some x
  | none => none
 | .cell p n agg => match nth a p with
  | some x => match loadCells H x n with
   | some cs => ib3 agg cs
   | none => none
  | none => none
def ib5 : List b7 → b7
 | [x] => x
 | l => .tup l
noncomputable def wb7 (k : Nat) (H : List b8) (r : b7) : DT (b7 × List b8) :=
 match oc8 k H (List.range k) r with
 | (r, roots) => match xa4 k H 0 roots with
  | some out => .ret (r, out)
  | none => .fail
noncomputable def j7 (E : Env) (fn : PFn) (args : List b7) (blks : List b8) : DT (b7 × List b8) :=
 (K2 E (len blks) fn.body ⟨app args (List.replicate (fn.ntmps - len args) (.v (.tuple #[]))), blks⟩).bind fun r =>
  match r.1 with
  | .exit _ => .fail
  | _ => match Ma9 (Ra6 r.2.a r.2.H) fn.res with
   | some l => wb7 (len blks) r.2.H (ib5 l)
   | none => .fail
end Go.Ev
namespace Go.Ev
open Go
section
variable {α β : Type}
theorem y6 (l : List α) (n : Nat) : nth l n = l[n]? := by
  induction l generalizing n with
  | nil => rfl
  | cons x r ih => cases n with
    | zero => rfl
    | succ n => exact (ih n).trans (by simp)
theorem z6 (l : List α) (n : Nat) (x : α) : setAt l n x = l.set n x := by
  induction l generalizing n with
  | nil => rfl
  | cons y r ih => cases n with
    | zero => rfl
    | succ n => exact congrArg (y :: ·) (ih n)
theorem B8 (l : List α) (n : Nat) : D6 l n = l.take n := by
  induction l generalizing n with
  | nil => exact (List.take_nil).symm
  | cons y r ih => cases n with
    | zero => rfl
    | succ n => exact congrArg (y :: ·) (ih n)
theorem B9 (l : List α) (n : Nat) : d8 l n = l.drop n := by
  induction l generalizing n with
  | nil => exact (List.drop_nil).symm
  | cons y r ih => cases n with
    | zero => rfl
    | succ n => exact ih n
theorem C0 (l r : List α) : app l r = l ++ r := by
  induction l with
  | nil => rfl
  | cons x l ih => exact congrArg (x :: ·) ih
theorem l6 (l : List α) : len l = l.length := by
  induction l with
  | nil => rfl
  | cons x l ih => exact congrArg Nat.succ ih
theorem l8 (f : α → β) (l : List α) : l0 f l = l.map f := by
  induction l with
  | nil => rfl
  | cons x l ih => exact congrArg (f x :: ·) ih
theorem Ic2 (f : α → Option β) (x : α) (l : List α) : Ma9 f (x :: l) = (match f x with | some y => (match Ma9 f l with | some r => some (y :: r) | none => none) | none => none) := by
  have : Ma9 f (x :: l) = Option.rec (motive := fun _ => Option (List β)) none (fun y => Option.rec (motive := fun _ => Option (List β)) none (fun r => some (y :: r)) (Ma9 f l)) (f x) := rfl
  rw [this]
  cases f x with
  | none => rfl
  | some y => cases Ma9 f l <;> rfl
theorem Ic3 {f : α → Option β} {l : List α} {r : List β} (h : Ma9 f l = some r) : r.length = l.length ∧ ∀ (i : Nat) (x : α), l[i]? = some x → ∃ y, f x = some y ∧ r[i]? = some y := by
  induction l generalizing r with
  | nil => have : r = [] := by injection h with h; exact h.symm
           subst this; simp
  | cons x l ih =>
    have h' := h
    rw [Ic2] at h'
    cases hf : f x with
    | none => simp [hf] at h'
    | some y =>
      cases hm : Ma9 f l with
      | none => simp [hf, hm] at h'
      | some r' =>
        simp [hf, hm] at h'
        subst h'
        obtain ⟨h1, h2⟩ := ih hm
        refine ⟨by simp [h1], fun i z hz => ?_⟩
        cases i with
        | zero => simp at hz; subst hz; exact ⟨y, hf, by simp⟩
        | succ i => simp at hz; simpa using h2 i z hz
theorem Rd3 (k : Nat) (l : List Nat) : Na0 k l = l.contains k := by
  induction l with
  | nil => simp [Na0]
  | cons x l ih =>
    have : Na0 k (x :: l) = (match Nat.beq x k with | true => true | false => Na0 k l) := by
      have : Na0 k (x :: l) = Bool.rec (Na0 k l) true (Nat.beq x k) := rfl
      rw [this]; cases Nat.beq x k <;> rfl
    rw [this, ih]
    cases h : Nat.beq x k with
    | true => have := Nat.eq_of_beq_eq_true h; subst this; simp
    | false => have : x ≠ k := Nat.ne_of_beq_eq_false h; simp; intro h; exact absurd h.symm this
end
namespace DT
variable {α β γ : Type}
@[simp] theorem bind_ret (a : α) (f : α → DT β) : (DT.ret a).bind f = f a := rfl
@[simp] theorem bind_fail (f : α → DT β) : (DT.fail : DT α).bind f = .fail := rfl
@[simp] theorem bind_ite (b : Bool) (t e : DT α) (f : α → DT β) : (DT.ite b t e).bind f = .ite b (t.bind f) (e.bind f) := rfl
@[simp] theorem run_ret (a : α) : (DT.ret a).run = some a := rfl
@[simp] theorem run_fail : (DT.fail : DT α).run = none := rfl
theorem run_ite (b : Bool) (t e : DT α) : (DT.ite b t e).run = if b then t.run else e.run := by cases b <;> rfl
theorem run_bind (x : DT α) (f : α → DT β) : (x.bind f).run = x.run.bind fun a => (f a).run := by
  induction x with
  | ret a => rfl
  | fail => rfl
  | ite b t e iht ihe => cases b <;> simp [run_ite, iht, ihe]
theorem run_bind_some {x : DT α} {f : α → DT β} {r : β} (h : (x.bind f).run = some r) : ∃ a, x.run = some a ∧ (f a).run = some r := by
  rw [run_bind] at h
  cases hx : x.run with
  | none => simp [hx] at h
  | some a => exact ⟨a, rfl, by simpa [hx] using h⟩
theorem run_ite_some {b : Bool} {t e : DT α} {r : α} (h : (DT.ite b t e).run = some r) : (b = true ∧ t.run = some r) ∨ (b = false ∧ e.run = some r) := by
  cases b
  · exact .inr ⟨rfl, by simpa [run_ite] using h⟩
  · exact .inl ⟨rfl, by simpa [run_ite] using h⟩
theorem run_guard_some {b : Bool} {t : DT α} {r : α} (h : (DT.guard b t).run = some r) : b = true ∧ t.run = some r := by
  rcases run_ite_some h with h | ⟨_, h⟩
  · exact h
  · cases h
end DT
theorem Ma0 {x : Option b7} {H : List b8} {r : b7 × List b8} (h : (opt x H).run = some r) : ∃ y, x = some y ∧ r = (y, H) := by
  cases x with
  | none => cases h
  | some y => exact ⟨y, rfl, by simpa [opt, DT.run] using h.symm⟩
theorem mb0 {x : Option (b7 × List b8)} {r : b7 × List b8} (h : (yd8 x).run = some r) : x = some r := by
  cases x with
  | none => cases h
  | some y => simpa [yd8, DT.run] using h
end Go.Ev
