/- Own work. -/
import Derived.Laws.World
import Derived.Laws.Sem
import GoSem.Dispatch
import Derived.Calls
import Derived.Laws.Entries
import GoSem.ClaimData
import Derived.Laws.OwnMore
import Derived.Maps.AppendAt
import Derived.Orders
import Derived.Laws.CopyRow
import Derived.Laws.IdiomCopy
set_option linter.all false
noncomputable section
def Qaa:=@List.getElem?_eq_getElem
def Qab:=@List.getElem?_eq_some_iff
def Qac:=@Array.getElem?_eq_getElem
def Qad:=@Nat.eq_of_beq_eq_true
def Qae:=@Nat.le_of_ble_eq_true
def Qaf:=@Nat.le_refl
def Qag:=@Option.some.inj
def Qah:=@List.getElem?_set_ne
def Qai:=@Nat.le_trans
def Qaj:=@Nat.mul_le_mul_right
def Qak:=@Array.getElem?_eq_some_iff
def Qal:=@Nat.add_assoc
def Qam:=@Nat.lt_of_lt_of_le
def Qan:=@Nat.ne_of_lt
def Qao:=@Nat.add_mul
def Qap:=@List.getElem?_take
def Qaq:=@Nat.lt_or_ge
def Qar:=@Nat.zero_add
def Qas:=@Bool.and_eq_true
def Qat:=@List.getElem?_eq_none
def Qau:=@Array.getElem?_push
def Qav:=@Nat.eq_zero_or_pos
namespace Go.Ev
open Go
theorem nd2{α:Type}:∀(c:Ask α) (w:World),w.drawn<=(w.ask c).2.drawn
 |.done a,w=>Qaf _
 |.ask what range k,w=>by
  unfold World.ask
  dsimp only
  split
  ·exact nd2 _ w
  ·exact Qai (Nat.le_succ _) (nd2 _ { w with drawn:=w.drawn+1 })
theorem if5(w:World)(c:Sys):w.drawn<=(w.sys c).2.drawn:=by
 unfold World.sys;have h:=nd2 (Kernel.perform c w.os) w
 grind
theorem Ne8{p:Program}{w:World}{t:Addr}{u:TypeId}{k:Addr}{v:Value}{a:Bool}{r:World×List Addr}(h:w.viewStore p t u k v a=.ok r):r.1.drawn=w.drawn:=by
 unfold World.viewStore at h;simp only[bind,Except.bind,pure,Except.pure] at h
 repeat' (split at h<;>try (cases h;done))
 grind
theorem if6{p:Program}{w:World}{t:Addr}{v:Value}{a:Bool}{r:World×List Addr}(h:w.farStore p t v a=.ok r):r.1.drawn=w.drawn:=by
 unfold World.farStore at h
 split at h
 ·split at h
  ·next hv=>cases h;exact Ne8 hv
  ·cases h
 ·cases h
theorem be9{α:Type}(P:Program):∀(s:Sem α) (w:World) {a:α} {w':World},s.run P w=.ok a w'->w.drawn<=w'.drawn:=by
 intro s
 induction s with
 |pure a=>intro w a w' h;simp only[Sem.run] at h;cases h;exact Qaf _
 |load m a k ih =>
  intro w b w' h;simp only[Sem.run] at h
  grind
 |store m a v k ih =>
  intro w b w' h
  have go : ∀ (hx : (match w.cell? a with
    |some _=>if w.frozen? a then Result.halt (.unsupported (.unsafePointer "a write to bytes that a string shares")) w else k.run P (w.setCell a v)
    |none=>match w.farStore P a v (m==Mode.atomic) with
     |.ok (w1,_)=>k.run P w1
     |.error h=>.halt h w)=.ok b w'),w.drawn<=w'.drawn:=λhx=>by
   split at hx
   ·split at hx
    ·cases hx
    ·exact ih (w.setCell a v) hx
   ·split at hx
    ·next hf=>exact Qai (Nat.le_of_eq (if6 hf).symm) (ih _ hx)
    ·cases hx
  cases v<;>simp only[Sem.run] at h<;>first | exact go h | cases h
 |new o k ih=>intro w b w' h;simp only[Sem.run] at h;exact ih _ { w with heap:=w.heap.push o } h
 |shape r k ih=>intro w b w' h;simp only[Sem.run] at h;exact ih _ w h
 |freeze a n k ih =>
  intro w b w' h;simp only[Sem.run] at h
  have:=ih (w.freeze a n) h
  have e:(w.freeze a n).drawn=w.drawn:=by unfold World.freeze;split<;>rfl
  omega
 |frozen a k ih=>intro w b w' h;simp only[Sem.run] at h;exact ih _ w h
 |getObj r k ih =>
  intro w b w' h;simp only[Sem.run] at h
  grind
 |setObj r o k ih =>
  intro w b w' h;simp only[Sem.run] at h
  grind
 |choose q k ih =>
  intro w b w' h;simp only[Sem.run] at h
  grind
 |sys c k ih=>intro w b w' h;simp only[Sem.run] at h;exact Qai (if5 w c) (ih _ _ h)
 |program k ih=>intro w b w' h;simp only[Sem.run] at h;exact ih _ w h
 |mark m k ih=>intro w b w' h;simp only[Sem.run] at h;exact ih w h
 |halt h=>intro w b w' h;simp only[Sem.run] at h;cases h
end Go.Ev
namespace Go.Ev
open Go
inductive b7 where
 |v (x:Value)
 |agg (cs:List b7)
 |tup (vs:List b7)
 |ptr (id i c g:Nat)
 |sl (id off len g:Nat)
 |tree (es n:Nat) (get:Nat->List b7)
 |tptr (cs:List b7)
 |fn (f:FuncId) (caps:List b7)
 |unk
structure c7 where
 et:TypeId
 es:Nat
 elems:List (List b7)
 own:Bool
 dead:Bool
 g:Nat
@[reducible] def bfB:Nat:=100000
inductive DT (α:Type) where
 |ret (a:α)
 |fail
 |ite (b:Bool) (t e:DT α)
namespace DT
variable{α β:Type}
def bind(x:DT α)(f:α->DT β):DT β :=
 DT.rec (motive:=λ_=>DT β) (λa=>f a) .fail (λb _ _ t e=>.ite b t e) x
def run(x:DT α):Option α :=
 DT.rec (motive:=λ_=>Option α) some none (λb _ _ t e=>Bool.rec e t b) x
def ofOption(x:Option α):DT α:=Option.rec .fail .ret x
def guard(b:Bool)(t:DT α):DT α:=.ite b t .fail
end DT
section
variable{α β:Type}
def nth(l:List α):Nat->Option α :=
 List.rec (motive:=λ_=>Nat->Option α) (λ_=>none) (λx _ ih n=>Nat.rec (motive:=λ_=>Option α) (some x) (λk _=>ih k) n) l
def setAt(l:List α):Nat->α->List α :=
 List.rec (motive:=λ_=>Nat->α->List α) (λ_ _=>[]) (λx r ih n y=>Nat.rec (motive:=λ_=>List α) (y::r) (λk _=>x::ih k y) n) l
def J6(l:List α):Nat->List α :=
 List.rec (motive:=λ_=>Nat->List α) (λ_=>[]) (λx _ ih n=>Nat.rec (motive:=λ_=>List α) [] (λk _=>x::ih k) n) l
def s9(l:List α):Nat->List α :=
 List.rec (motive:=λ_=>Nat->List α) (λ_=>[]) (λx r ih n=>Nat.rec (motive:=λ_=>List α) (x::r) (λk _=>ih k) n) l
def app(l r:List α):List α:=List.rec (motive:=λ_=>List α) r (λx _ ih=>x::ih) l
def len(l:List α):Nat:=List.rec (motive:=λ_=>Nat) 0 (λ_ _ ih=>Nat.succ ih) l
def s5(f:α->β)(l:List α):List β:=List.rec (motive:=λ_=>List β) [] (λx _ ih=>f x::ih) l
def Hb0(f:α->Option β)(l:List α):Option (List β) :=
 List.rec (motive:=λ_=>Option (List β)) (some []) (λx _ ih=>Option.rec (motive:=λ_=>Option (List β)) none (λy=>Option.rec (motive:=λ_=>Option (List β)) none (λr=>some (y::r)) ih) (f x)) l
end
inductive Arg where
 |t (n:Nat)
 |c (x:b7)
 |g (n:Nat)
inductive CK where
 |int (k:IntKind)
 |bool
 |sl (es:Nat)
 |any
inductive PO where
 |mv (x:Arg)
 |nilck (x:Arg)
 |pick (c x y:Arg)
 |alloc (z:List b7)
 |box (x:Arg)
 |build (z:List b7) (parts:List (Nat×Nat×Arg))
 |bslice (et es len:Nat) (z:List b7) (parts:List (Nat×Nat×Arg))
 |tslice (es len:Nat) (z:List b7) (parts:List (Nat×Nat×Arg))
 |tmk (es bytes:Nat) (z:List b7) (l c:Arg)
 |load (ks:List CK) (n:Nat) (agg:Bool) (x:Arg)
 |store (n:Nat) (x y:Arg)
 |fld (off:Nat) (x:Arg)
 |idxA (len es:Nat) (x i:Arg)
 |idxS (es:Nat) (x i:Arg)
 |slice (es:Nat) (x:Arg) (lo hi:Option Arg)
 |mksl (et es bytes:Nat) (z:List b7) (l c:Arg)
 |mkfn (f:FuncId) (caps:List Arg)
 |ext (x:Arg) (i:Nat)
 |field (off n:Nat) (agg:Bool) (x:Arg)
 |index (ks:List CK) (len es:Nat) (agg:Bool) (x i:Arg)
 |bin (op:BinOp) (x y:Arg)
 |eqn (k:Nat) (neg:Bool) (x y:Arg) (o:Oper) (ts:List Nat)
 |eqc (neg:Bool) (fl:List (Nat×CK)) (x y:Arg)
 |not (x:Arg)
 |neg (x:Arg)
 |gen (o:Oper) (ts:List Nat)
 |call (f:FuncId) (args:List Arg)
 |calld (x:Arg) (args:List Arg)
 |invk (tbl:List (Nat×FuncId)) (x:Arg) (args:List Arg)
 |append (et es bytes:Nat) (s x:Arg)
 |copy (es:Nat) (d s:Arg)
 |apre (es:Nat) (s x:Arg)
 |clr (es:Nat) (z:List b7) (x:Arg)
 |asl (n es:Nat) (x:Arg)
 |sidx (x i:Arg)
 |slen (x:Arg)
 |len (x:Arg)
 |bad
structure PI where
 dst:Option Nat
 guard:Option (Nat×Bool)
 hide:List Nat
 op:PO
inductive SP where
 |old (n:Nat) (o:PO)
 |balloc (z:List b7)
 |bbox (x:Arg)
 |bload (n:Nat) (agg:Bool) (p:Nat)
 |bstore (n:Nat) (p:Nat) (y:Arg)
 |bfld (off:Nat) (p:Nat)
 |bmv (p:Nat)
 |mmake (t:Nat)
 |mlook (t kl:Nat) (fl:List (Nat×CK)) (m:Nat) (key:Arg)
 |mupd (t kl:Nat) (fl:List (Nat×CK)) (m:Nat) (key val:Arg)
 |bad
inductive PC where
 |skip
 |ops (l:List PI)
 |draw (dsts:List Nat) (asq l:List PI) (pairs:List (PO×PO))
 |seq (a b:PC)
 |cond (c:Arg) (x y:PC)
 |block (id:Nat) (c:PC)
 |loop (keep:List Nat) (c:PC)
 |exit (id:Nat)
 |ret
 |bad
 |mask (n:Nat) (ds:List Nat) (c:PC)
 |sp (dst:Option Nat) (g:Option (Nat×Bool)) (o:SP)
 |inner (f:Nat) (x:Arg) (nIn:Nat) (c:PC)
 |round (dst:Option Nat) (g:Option (Nat×Bool)) (args:List Arg) (nIn nOut:Nat) (ps:List Nat) (asq body:PC)
 |loopM (keep:List Nat) (c:PC)
 |adopt (p:Nat)
inductive nd3 where
 |t (n:Nat)
 |cell (a n:Nat) (agg:Bool)
structure PFn where
 ntmps:Nat
 res:List nd3
 body:PC
structure Env where
 P:Program
 G:Nat->List Value
 fns:FuncId->Option PFn
 call:FuncId->List b7->List c7->DT (b7×List c7)
 own:FuncId->Nat->Bool
 N:Nat
def ofVal1:Value->b7
 |.agg cs=>.agg (cs.toList.map .v)
 |x=>.v x
def ofVal:Value->b7
 |.agg cs=>.agg (cs.toList.map .v)
 |.tuple vs=>.tup (vs.toList.map ofVal1)
 |x=>.v x
def Dd8:b7->Option Value
 |.v x=>some x
 |.fn f []=>some (.func (.func f) #[] #[])
 |_=>none
def xe8:b7->Option Value
 |.v x=>some x
 |.fn f []=>some (.func (.func f) #[] #[])
 |.agg cs=>match Hb0 Dd8 cs with
  |some l=>some (.agg l.toArray)
  |none=>none
 |_=>none
def Yb3{α:Type}(P:Program):Sem α->Option α
 |.pure a=>some a
 |.program k=>Yb3 P (k P)
 |.mark _ k=>Yb3 P k
 |_=>none
def c9(E:Env)(a:List b7)(x:Arg):b7 :=
 Arg.rec (motive:=λ_=>b7) (λt=>Option.rec (motive:=λ_=>b7) .unk (λy=>y) (nth a t)) (λc=>c) (λg=>.tptr (s5 .v (E.G g))) x
def Ye3:List Nat->List Value->Nat->Value
 |t::ts,v::vs,n=>match Nat.beq t n with
  |true=>v
  |false=>Ye3 ts vs n
 |_,_,_=>.tuple #[]
def Ye4(ts:List Nat)(vs:List Value):Operand->Value
 |.tmp t=>Ye3 ts vs t
 |.const v=>v
 |.func f=>.func (.func f) #[] #[]
 |.global _=>.tuple #[]
def Ye5(E:Env)(o:Oper)(rho:Operand->Value):Option b7 :=
 match Yb3 E.P (execOp rho o) with
 |some (.value v)=>some (ofVal v)
 |_=>none
def L8:b7->List b7
 |.agg cs=>cs
 |x=>[x]
def dc0(agg:Bool)(cs:List b7):Option b7 :=
 match agg with
 |true=>some (.agg cs)
 |false=>match cs with
  |[x]=>some x
  |_=>none
def inB(n:Int)(len:Nat):Bool :=
 match n with
 |.ofNat k=>Nat.blt k len
 |.negSucc _=>false
def blkAt(H:List c7)(id g:Nat):Option c7 :=
 match nth H id with
 |some b=>match b.dead with
  |true=>none
  |false=>match Nat.beq b.g g with
   |true=>some b
   |false=>none
 |none=>none
def loadCells(H:List c7)(p:b7)(n:Nat):Option (List b7) :=
 match p with
 |.ptr id i c g=>match blkAt H id g with
  |some b=>match nth b.elems i with
   |some cells=>match Nat.ble (c+n) (len cells) with
    |true=>some (J6 (s9 cells c) n)
    |false=>none
   |none=>none
  |none=>none
 |.tptr cs=>match Nat.ble n (len cs) with
  |true=>some (J6 cs n)
  |false=>none
 |_=>none
def c8(l:List (List b7))(i:Nat):List b7 :=
 match nth l i with
 |some x=>x
 |none=>[]
def oc3(H:List c7)(p:b7)(n:Nat):Option (Bool×List b7) :=
 match p with
 |.ptr id i c g=>match blkAt H id g with
  |some b=>some (Bool.and (Nat.blt i (len b.elems)) (Nat.ble (c+n) (len (c8 b.elems i))),s9 (c8 b.elems i) c)
  |none=>none
 |.tptr cs=>some (Nat.ble n (len cs),cs)
 |_=>none
def Rc9:CK->b7->Bool
 |.int k,.v (.int k' _)=>decide (k=k')
 |.bool,.v (.bool _)=>true
 |.sl es,.tree es' _ _=>Nat.beq es es'
 |.sl _,.v (.slice none 0 0)=>true
 |.any,_=>true
 |_,_=>false
def toI:b7->Int
 |.v (.int _ n)=>n
 |_=>0
def toB:b7->Bool
 |.v (.bool b)=>b
 |_=>false
def toN:b7->Nat
 |.tree _ n _=>n
 |_=>0
def toG:b7->Nat->List b7
 |.tree _ _ get=>get
 |_=>λ_=>[]
def if7:CK->b7->b7
 |.int k,x=>.v (.int k (toI x))
 |.bool,x=>.v (.bool (toB x))
 |.sl es,x=>.tree es (toN x) (toG x)
 |.any,x=>x
def hdA(l:List b7):b7:=List.rec (motive:=λ_=>b7) .unk (λx _ _=>x) l
def tlA(l:List b7):List b7:=List.rec (motive:=λ_=>List b7) [] (λ_ r _=>r) l
def ka1(ks:List CK):List b7->Bool :=
 List.rec (motive:=λ_=>List b7->Bool) (λ_=>true) (λk _ ih cs=>Bool.and (Rc9 k (hdA cs)) (ih (tlA cs))) ks
def Bc9(ks:List CK):List b7->List b7 :=
 List.rec (motive:=λ_=>List b7->List b7) (λ_=>[]) (λk _ ih cs=>if7 k (hdA cs)::ih (tlA cs)) ks
def Q0(l:List b7)(c:Nat)(new:List b7):List b7:=app (J6 l c) (app new (s9 l (c+len new)))
def elemsOf(es:Nat)(H:List c7):b7->Option (List (List b7))
 |.sl id off n g=>match blkAt H id g with
  |some b=>match Nat.beq b.es es with
   |true=>some (J6 (s9 b.elems off) n)
   |false=>none
  |none=>none
 |.tree es' n get=>match Nat.beq es' es with
  |true=>some (s5 get (List.range n))
  |false=>none
 |.v (.slice none 0 0)=>some []
 |.v (.slice (some _) 0 _)=>some []
 |_=>none
def modAt(H:List c7)(id:Nat)(f:c7->c7):List c7 :=
 match nth H id with
 |some b=>setAt H id (f b)
 |none=>H
def disown(H:List c7)(id:Nat):List c7:=modAt H id λb=>{ b with own:=false }
def oc4(b:c7)(off n:Nat):b7:=.tree b.es n λi=>c8 b.elems (off+i)
def zd9:Value->Bool
 |.agg _ | .tuple _=>false
 |_=>true
def Za6(f:b7->Bool)(l:List b7):Bool:=List.rec (motive:=λ_=>Bool) true (λx _ ih=>Bool.rec false ih (f x)) l
def cd1:b7->Bool
 |.v x=>zd9 x
 |.tree ..=>true
 |_=>false
def freezeCell(H:List c7):b7->Option (b7×List c7)
 |.v x=>match zd9 x with
  |true=>some (.v x,H)
  |false=>none
 |.tree es n get=>some (.tree es n get,H)
 |.fn f caps=>match Za6 cd1 caps with
  |true=>some (.fn f caps,H)
  |false=>none
 |.sl id off n g=>match blkAt H id g with
  |some b=>some (oc4 b off n,disown H id)
  |none=>none
 |_=>none
def freezeCells(H:List c7):List b7->Option (List b7×List c7)
 |[]=>some ([],H)
 |x::r=>match freezeCell H x with
  |some (y,H1)=>match freezeCells H1 r with
   |some (l,H2)=>some (y::l,H2)
   |none=>none
  |none=>none
def Ea6(H:List c7)(et es:Nat)(elems:List (List b7)):List c7:=app H [{ et,es,elems,own:=true,dead:=false,g:=0 }]
def xb3:b7->Bool
 |.v x=>zd9 x
 |.tup _=>false
 |.unk=>false
 |.fn _ caps=>Za6 cd1 caps
 |_=>true
def wc4(cells:List b7):List (Nat×Nat×b7)->Option (List b7)
 |[]=>some cells
 |(off,size,x)::rest =>
  match xb3 x&&Nat.beq (len (L8 x)) size&&Nat.ble (off+size) (len cells) with
  |true=>wc4 (Q0 cells off (L8 x)) rest
  |false=>none
def Sa3(es:Nat):Nat->List b7->List (List b7)
 |0,_=>[]
 |n+1,l=>J6 l es::Sa3 es n (s9 l es)
def la4:b7->Option Int
 |.v (.int _ n)=>some n
 |_=>none
def cd2(n:Nat)(lo hi:Option b7):DT (Nat×Nat) :=
 let h:DT Nat:=match hi with
  |none=>.ret n
  |some x=>match la4 x with
   |some m=>.guard (inB m (n+1)) (.ret m.toNat)
   |none=>.fail
 h.bind λh=>match lo with
  |none=>.ret (0,h)
  |some x=>match la4 x with
   |some m=>.guard (inB m (h+1)) (.ret (m.toNat,h))
   |none=>.fail
def room:Nat:=140737488355328
def appendA(et es bytes:Nat)(s x:b7)(H:List c7):DT (b7×List c7) :=
 match elemsOf es H x with
 |some news=>match s with
  |.v (.slice none 0 0) =>
   .ite (Nat.beq (len news) 0) (.ret (.v (.slice none 0 0),H))
    (.guard (Nat.ble (len news*bytes) room) (.ret (.sl (len H) 0 (len news) 0,Ea6 H et es news)))
  |.sl id off n g=>match blkAt H id g with
   |some b=>match b.own&&Nat.beq off 0&&Nat.beq b.es es&&Nat.beq b.et et with
    |true =>
     .guard (Nat.beq n (len b.elems)&&Nat.ble ((n+len news)*bytes) room)
      (.ret (.sl id 0 (n+len news) (g+1),setAt H id { b with elems:=app b.elems news,g:=g+1 }))
    |false=>.fail
   |none=>.fail
  |_=>.fail
 |none=>.fail
def apreA(es:Nat)(s x:b7)(H:List c7):DT (b7×List c7) :=
 match elemsOf es H x with
 |some news=>match s with
  |.v (.slice none 0 0)=>.guard (Nat.beq (len news) 0) (.ret (.v (.slice none 0 0),H))
  |.sl id off n g=>match blkAt H id g with
   |some b=>match b.own&&Nat.beq off 0&&Nat.beq b.es es with
    |true=>.guard (Nat.ble (n+len news) (len b.elems)) (.ret (.sl id 0 (n+len news) g,setAt H id { b with elems:=app (J6 b.elems n) (app news (s9 b.elems (n+len news))) }))
    |false=>.fail
   |none=>.fail
  |_=>.fail
 |none=>.fail
def aslA(n es:Nat)(x:b7)(H:List c7):Option (b7×List c7) :=
 match x with
 |.ptr id i c g=>match blkAt H id g with
  |some b=>match Bool.and (Nat.blt i (len b.elems)) (Nat.ble (c+n*es) (len (c8 b.elems i))) with
   |true=>some (.tree es n λj=>J6 (s9 (c8 b.elems i) (c+j*es)) es,disown H id)
   |false=>none
  |none=>none
 |_=>none
def clrA(es:Nat)(z:List b7)(x:b7)(H:List c7):Option (b7×List c7) :=
 match x with
 |.v (.slice none 0 0)=>some (.v (.tuple #[]),H)
 |.sl id off n g=>match blkAt H id g with
  |some b=>match b.own&&Nat.beq b.es es&&Nat.beq (len z) es with
   |true=>some (.v (.tuple #[]),setAt H id { b with elems:=app (J6 b.elems off) (app (List.replicate n z) (s9 b.elems (off+n))) })
   |false=>none
  |none=>none
 |_=>none
def qg1:b7->Option b7
 |.sl _ _ n _=>some (.v (.int .i64 n))
 |.tree _ n _=>some (.v (.int .i64 n))
 |.v (.slice _ n _)=>some (.v (.int .i64 n))
 |_=>none
def ob7(k:Nat)(x:b7):Option Bool :=
 match k,x with
 |0,.v (.slice none _ _)=>some true
 |0,.v (.slice (some _) _ _)=>some false
 |0,.sl ..=>some false
 |0,.tree _ n _=>match n with | 0=>none | _+1=>some false
 |1,.v (.pointer none)=>some true
 |1,.ptr ..=>some false
 |1,.tptr ..=>some false
 |2,.v .nilFunc=>some true
 |2,.fn f _=>match Nat.ble bfB f with
  |true=>none
  |false=>some false
 |_,_=>none
def sf5:b7->Bool
 |.agg _=>false
 |.v x=>zd9 x
 |.tup _=>false
 |.unk=>false
 |.fn _ (_::_)=>false
 |_=>true
def Bb3(id:Nat):Nat->List Nat->Option Nat
 |_,[]=>none
 |k,x::r=>match Nat.beq x id with
  |true=>some k
  |false=>Bb3 id (k+1) r
def Sa4(roots:List Nat)(id:Nat):Nat×List Nat :=
 match Bb3 id 0 roots with
 |some j=>(j,roots)
 |none=>(len roots,app roots [id])
structure Pa8 where
 roots:List Nat
 lent:List Nat
def capArg(H:List c7)(p:Pa8):b7->Option (b7×Pa8)
 |.v x=>some (.v x,p)
 |.ptr id i c g=>match blkAt H id g with
  |some _=>match Sa4 p.roots id with
   |(j,r)=>some (.ptr j i c 0,{ p with roots:=r })
  |none=>none
 |.tree es n get=>some (.tree es n get,p)
 |.tptr cs=>some (.tptr cs,p)
 |.sl id off n g=>match blkAt H id g with
  |some b=>some (oc4 b off n,{ p with lent:=id::p.lent })
  |none=>none
 |.fn f []=>some (.fn f [],p)
 |_=>none
def capArgs(H:List c7)(p:Pa8):List b7->Option (List b7×Pa8)
 |[]=>some ([],p)
 |x::r=>match capArg H p x with
  |some (y,p1)=>match capArgs H p1 r with
   |some (l,p2)=>some (y::l,p2)
   |none=>none
  |none=>none
def prepArg(H:List c7)(own:Bool)(p:Pa8)(x:b7):Option (b7×Pa8) :=
 match x with
 |.v x=>some (.v x,p)
 |.sl id off n g=>match own with
  |true=>match blkAt H id g with
   |some _=>match Nat.beq off 0 with
    |true=>match Sa4 p.roots id with
     |(j,r)=>some (.sl j 0 n 0,{ p with roots:=r })
    |false=>none
   |none=>none
  |false=>capArg H p (.sl id off n g)
 |.agg cs=>match capArgs H p cs with
  |some (l,p)=>some (.agg l,p)
  |none=>none
 |.fn f caps=>match capArgs H p caps with
  |some (l,p)=>some (.fn f l,p)
  |none=>none
 |x=>capArg H p x
def prepArgs(H:List c7)(own:Nat->Bool)(p:Pa8):Nat->List b7->Option (List b7×Pa8)
 |_,[]=>some ([],p)
 |k,x::r=>match prepArg H (own k) p x with
  |some (y,p1)=>match prepArgs H own p1 (k+1) r with
   |some (l,p2)=>some (y::l,p2)
   |none=>none
  |none=>none
def blksAt(H:List c7):List Nat->Option (List c7)
 |[]=>some []
 |id::r=>match nth H id with
  |some b=>match blksAt H r with
   |some l=>some ({ b with g:=0 }::l)
   |none=>none
  |none=>none
def putBack(H:List c7):List Nat->List c7->Option (List c7)
 |[],[]=>some H
 |[],rest=>some (app H rest)
 |id::r,b::rest=>putBack (modAt H id λold=>{ b with g:=old.g+b.g }) r rest
 |_::_,[]=>none
def backId(H:List c7)(roots:List Nat)(j g:Nat):Nat×Nat :=
 match nth roots j with
 |some id=>(id,match nth H id with
  |some b=>b.g+g
  |none=>g)
 |none=>(len H+(j-len roots),g)
def backC(H:List c7)(roots:List Nat):b7->b7
 |.ptr j i c g=>match backId H roots j g with
  |(id,g')=>.ptr id i c g'
 |.sl j off n g=>match backId H roots j g with
  |(id,g')=>.sl id off n g'
 |x=>x
def backVal1(H:List c7)(roots:List Nat):b7->b7
 |.fn f caps=>.fn f (s5 (backC H roots) caps)
 |.agg cs=>.agg (s5 (backC H roots) cs)
 |x=>backC H roots x
def backVal(H:List c7)(roots:List Nat):b7->b7
 |.v x=>.v x
 |.tup vs=>.tup (s5 (backVal1 H roots) vs)
 |x=>backVal1 H roots x
def ke8:b7->Bool
 |.tree .. | .tptr ..=>true
 |.fn _ (_::_)=>true
 |_=>false
def lb1:b7->Bool
 |.tree .. | .tptr ..=>true
 |.fn _ caps=>caps.any ke8
 |_=>false
def Ne9:b7->Bool
 |.agg cs=>cs.any lb1
 |x=>lb1 x
def Za7:b7->Bool
 |.agg cs=>cs.any lb1
 |.tup vs=>vs.any Ne9
 |x=>lb1 x
def Cc0(b:c7):Bool:=b.elems.any λcs=>cs.any lb1
def Hb1(k:Nat)(l:List Nat):Bool:=List.rec (motive:=λ_=>Bool) false (λx _ ih=>Bool.rec ih true (Nat.beq x k)) l
def Qb7(l r:List Nat):Bool:=List.rec (motive:=λ_=>Bool) true (λx _ ih=>Bool.rec ih false (Hb1 x r)) l
def settle(lent:List Nat)(held:Bool)(H:List c7):List c7 :=
 List.rec (motive:=λ_=>List c7) H (λid _ ih=>modAt ih id λb=>{ b with own:=Bool.rec b.own false held }) lent
def callA(E:Env)(f:FuncId)(args:List b7)(H:List c7):DT (b7×List c7) :=
 match prepArgs H (E.own f) { roots:=[],lent:=[] } 0 args with
 |some (args',p)=>match blksAt H p.roots,Qb7 p.lent p.roots with
  |some blks,true=>(E.call f args' blks).bind fun
   |(r,out)=>match putBack H p.roots out with
    |some H'=>.ret (backVal H p.roots r,settle p.lent (Za7 r||out.any Cc0) H')
    |none=>.fail
  |_,_=>.fail
 |none=>.fail
def opt(x:Option b7)(H:List c7):DT (b7×List c7) :=
 Option.rec (motive:=λ_=>DT (b7×List c7)) .fail (λy=>.ret (y,H)) x
def if8(x:Option (b7×List c7)):DT (b7×List c7) :=
 Option.rec (motive:=λ_=>DT (b7×List c7)) .fail .ret x
def qg2(k:IntKind)(m n:Int):Int:=k.wrap ((BitVec.ofInt k.bits m &&& BitVec.ofInt k.bits n).toNat:Int)
def qg3(k:IntKind)(m n:Int):Int:=m.fdiv (2 ^ (min n.toNat k.bits))
def dg1(op:BinOp)(x y:b7):DT b7 :=
 match x,y with
 |.v (.int k m),.v (.int k' n) =>
  if k=k' then
   match op with
   |.add=>.ret (.v (.int k (k.wrap (m+n))))
   |.sub=>.ret (.v (.int k (k.wrap (m-n))))
   |.mul=>.ret (.v (.int k (k.wrap (m*n))))
   |.quo=>.ite (n==0) .fail (.ret (.v (.int k (k.wrap (m.tdiv n)))))
   |.rem=>.ite (n==0) .fail (.ret (.v (.int k (m.tmod n))))
   |.lss=>.ret (.v (.bool (m<n)))
   |.leq=>.ret (.v (.bool (m<=n)))
   |.gtr=>.ret (.v (.bool (m>n)))
   |.geq=>.ret (.v (.bool (m>=n)))
   |.eql=>.ret (.v (.bool (m==n)))
   |.neq=>.ret (.v (.bool (m != n)))
   |.and=>.ret (.v (.int k (qg2 k m n)))
   |_=>.fail
  else .fail
 |_,_=>.fail
def qg4(x y:b7):DT b7 :=
 match x,y with
 |.v (.int k m),.v (.int _ n)=>.guard (decide (0<=n)) (.ret (.v (.int k (qg3 k m n))))
 |_,_=>.fail
def dg2(op:BinOp)(x y:b7):DT b7 :=
 match op with
 |.shr=>qg4 x y
 |op=>dg1 op x y
def Cc1:b7->Bool
 |.v x=>zd9 x
 |.tree ..=>true
 |.fn _ []=>true
 |_=>false
def Vd2(E:Env)(a:List b7)(o:Oper)(ts:List Nat):Option b7 :=
 match Hb0 (λt=>xe8 (c9 E a (.t t))) ts with
 |some vs=>Ye5 E o (Ye4 ts vs)
 |none=>none
def ke9(k:Nat)(x:b7):Option Bool :=
 match k,x with
 |0,.tree ..=>some false
 |k,x=>ob7 k x
def Kf2:b7->Bool
 |.tree _ n _=>!(Nat.beq n 0)
 |_=>true
def dg3(E:Env)(a:List b7)(k:Nat)(neg:Bool)(p q:b7)(o:Oper)(ts:List Nat):Option b7 :=
 match ke9 k p,ke9 k q with
 |some true,some b=>some (.v (.bool (match neg with | true=>!b | false=>b)))
 |some false,some true=>some (.v (.bool neg))
 |_,_=>Vd2 E a o ts
def Oe0(fl:List (Nat×CK))(cs:List b7):Bool :=
 List.rec (motive:=λ_=>Bool) true (λp _ ih=>Bool.and (Rc9 p.2 (hdA (s9 cs p.1))) ih) fl
def dg4:CK->b7->b7->Bool
 |.int _,x,y=>toI x==toI y
 |.bool,x,y=>toB x==toB y
 |_,_,_=>false
def Sc0(fl:List (Nat×CK))(cs ds:List b7):Bool :=
 List.rec (motive:=λ_=>Bool) true (λp _ ih=>Bool.and (dg4 p.2 (hdA (s9 cs p.1)) (hdA (s9 ds p.1))) ih) fl
def Xf0(neg x:Bool):Bool:=Bool.rec (motive:=λ_=>Bool) x (!x) neg
def sAt(s:ByteArray)(m:Int):Int:=match s[m.toNat]? with
 |some b=>b.toNat
 |none=>0
def evalOp(E:Env)(a:List b7)(H:List c7)(o:PO):DT (b7×List c7) :=
 match o with
 |.mv x=>.ret (c9 E a x,H)
 |.nilck x=>match c9 E a x with
  |.ptr id i c g=>.ret (.ptr id i c g,H)
  |.tptr cs=>.ret (.tptr cs,H)
  |.fn f caps=>.ret (.fn f caps,H)
  |_=>.fail
 |.pick c x y=>match c9 E a c with
  |.v (.bool b)=>.ite b (.ret (c9 E a x,H)) (.ret (c9 E a y,H))
  |_=>.fail
 |.alloc z=>.ret (.ptr (len H) 0 0 0,Ea6 H 0 (len z) [z])
 |.box x=>match freezeCells H (L8 (c9 E a x)) with
  |some (cs,H1)=>.ret (.ptr (len H1) 0 0 0,Ea6 H1 0 (len cs) [cs])
  |none=>.fail
 |.build z parts=>match wc4 z (s5 (λp=>(p.1,p.2.1,c9 E a p.2.2)) parts) with
  |some cs=>.ret (.agg cs,H)
  |none=>.fail
 |.bslice et es n z parts=>match wc4 z (s5 (λp=>(p.1,p.2.1,c9 E a p.2.2)) parts) with
  |some cs=>match freezeCells H cs with
   |some (cs,H1)=>.ret (.sl (len H1) 0 n 0,Ea6 H1 et es (Sa3 es n cs))
   |none=>.fail
  |none=>.fail
 |.tslice es n z parts=>match wc4 z (s5 (λp=>(p.1,p.2.1,c9 E a p.2.2)) parts) with
  |some cs=>match Za6 Cc1 cs with
   |true=>.ret (.tree es n λi=>c8 (Sa3 es n cs) (0+i),H)
   |false=>.fail
  |none=>.fail
 |.load ks n agg x=>match oc3 H (c9 E a x) n with
  |some p=>.guard (Bool.and p.1 (Bool.and (Nat.beq (len ks) n) (ka1 ks p.2))) (opt (dc0 agg (Bc9 ks p.2)) H)
  |none=>.fail
 |.store n x y=>match c9 E a x with
  |.ptr id i c g=>match freezeCells H (L8 (c9 E a y)) with
   |some (cs,H1)=>match blkAt H1 id g with
    | some b => .guard (Bool.and (Bool.and b.own (Nat.beq (len cs) n)) (Bool.and (Nat.blt i (len b.elems)) (Nat.ble (c + n) (len (c8 b.elems i)))))
      (.ret (.v (.tuple #[]),setAt H1 id { b with elems:=setAt b.elems i (Q0 (c8 b.elems i) c cs) }))
    |none=>.fail
   |none=>.fail
  |_=>.fail
 |.fld off x=>match c9 E a x with
  |.ptr id i c g=>.ret (.ptr id i (c+off) g,H)
  |.tptr cs=>.ret (.tptr (s9 cs off),H)
  |_=>.fail
 |.idxA n es x i=>match la4 (c9 E a i) with
  |some m=>match c9 E a x with
   |.ptr id i c g=>.guard (inB m n) (.ret (.ptr id i (c+m.toNat*es) g,H))
   |.tptr cs=>.guard (inB m n) (.ret (.tptr (s9 cs (m.toNat*es)),H))
   |_=>.fail
  |none=>.fail
 |.idxS es x i=>match la4 (c9 E a i) with
  |some m=>match c9 E a x with
   |.sl id off n g=>match blkAt H id g with
    |some b=>match Nat.beq b.es es with
     |true=>.guard (inB m n) (.ret (.ptr id (off+m.toNat) 0 g,H))
     |false=>.fail
    |none=>.fail
   |.tree es' n get=>match Nat.beq es' es with
    |true=>.guard (inB m n) (.ret (.tptr (get m.toNat),H))
    |false=>.fail
   |_=>.fail
  |none=>.fail
 |.slice es x lo hi=>match c9 E a x with
  |.sl id off n g=>match blkAt H id g with
   |some b=>match Nat.beq b.es es with
    |true=>(cd2 n (lo.map (c9 E a)) (hi.map (c9 E a))).bind fun
     |(l,h)=>.ret (.sl id (off+l) (h-l) g,H)
    |false=>.fail
   |none=>.fail
  |.tree es' n get=>match Nat.beq es' es with
   |true=>(cd2 n (lo.map (c9 E a)) (hi.map (c9 E a))).bind fun
    |(l,h)=>.ret (.tree es' (h-l) λi=>get (l+i),H)
   |false=>.fail
  |.v (.slice none 0 0)=>(cd2 0 (lo.map (c9 E a)) (hi.map (c9 E a))).bind λ_=>.ret (.v (.slice none 0 0),H)
  |_=>.fail
 |.mksl et es bytes z l c=>match la4 (c9 E a l),la4 (c9 E a c) with
  | some n, some m => .guard (inB n (room + 1) && inB m (room + 1) && Nat.ble n.toNat m.toNat && Nat.ble (m.toNat * bytes) room)
    (.ret (.sl (len H) 0 n.toNat 0,Ea6 H et es (List.replicate n.toNat z)))
  |_,_=>.fail
 |.tmk es bytes z l c=>match la4 (c9 E a l),la4 (c9 E a c) with
  | some n, some m => .guard (inB n (room + 1) && inB m (room + 1) && Nat.ble n.toNat m.toNat && Nat.ble (m.toNat * bytes) room)
    (.ret (.tree es n.toNat λi=>c8 (List.replicate n.toNat z) (0+i),H))
  |_,_=>.fail
 |.mkfn f caps=>match Nat.ble bfB f with
  |false=>match Za6 sf5 (s5 (c9 E a) caps) with
   |true=>.ret (.fn f (s5 (c9 E a) caps),H)
   |false=>.fail
  |true=>match s5 (c9 E a) caps with
   |[.agg (c::cs)]=>.ret (.fn f (c::cs),H)
   |_=>.fail
 |.ext x i=>match c9 E a x with
  |.tup vs=>opt (nth vs i) H
  |_=>.fail
 |.field off n agg x=>match c9 E a x with
  |.agg cs=>match Nat.ble (off+n) (len cs) with
   |true=>opt (dc0 agg (J6 (s9 cs off) n)) H
   |false=>.fail
  |_=>.fail
 |.index ks n es agg x i=>match c9 E a x,la4 (c9 E a i) with
  | .agg cs, some m => .guard (Bool.and (inB m n) (Bool.and (Nat.ble (m.toNat * es + es) (len cs)) (Bool.and (Nat.beq (len ks) es) (ka1 ks (s9 cs (m.toNat * es))))))
    (opt (dc0 agg (Bc9 ks (s9 cs (m.toNat*es)))) H)
  |_,_=>.fail
 |.bin op x y=>(dg2 op (c9 E a x) (c9 E a y)).bind λr=>.ret (r,H)
 |.eqn k neg x y o ts=>.guard (Bool.and (Kf2 (c9 E a x)) (Kf2 (c9 E a y))) (opt (dg3 E a k neg (c9 E a x) (c9 E a y) o ts) H)
 |.eqc neg fl x y=>match c9 E a x,c9 E a y with
  |.agg cs,.agg ds=>.guard (Bool.and (Oe0 fl cs) (Oe0 fl ds)) (.ret (.v (.bool (Xf0 neg (Sc0 fl cs ds))),H))
  |_,_=>.fail
 |.not x=>match c9 E a x with
  |.v (.bool b)=>.ret (.v (.bool (!b)),H)
  |_=>.fail
 |.neg x=>match c9 E a x with
  |.v (.int k n)=>.ret (.v (.int k (k.wrap (0-n))),H)
  |_=>.fail
 |.gen o ts=>opt (Vd2 E a o ts) H
 |.call f args=>callA E f (s5 (c9 E a) args) H
 |.calld x args=>match c9 E a x with
  |.fn f caps=>match Nat.ble bfB f with
   |false=>callA E f (app (s5 (c9 E a) args) caps) H
   |true=>match caps with
    |[]=>.fail
    |c::cs=>callA E (f-bfB) (.agg (c::cs)::s5 (c9 E a) args) H
  |_=>.fail
 |.invk ..=>.fail
 |.append et es bytes s x=>appendA et es bytes (c9 E a s) (c9 E a x) H
 |.copy _ _ _=>.fail
 |.apre es s x=>apreA es (c9 E a s) (c9 E a x) H
 |.clr es z x=>if8 (clrA es z (c9 E a x) H)
 |.sidx x i=>match c9 E a x with
  |.v (.string s)=>match la4 (c9 E a i) with
   |some m=>.guard (inB m s.size) (.ret (.v (.int .u8 (sAt s m)),H))
   |none=>.fail
  |_=>.fail
 |.slen x=>match c9 E a x with
  |.v (.string s)=>.ret (.v (.int .i64 s.size),H)
  |_=>.fail
 |.asl n es x=>if8 (aslA n es (c9 E a x) H)
 |.len x=>opt (qg1 (c9 E a x)) H
 |.bad=>.fail
structure St where
 a:List b7
 H:List c7
def putA(a:List b7)(dst:Option Nat)(x:b7):List b7 :=
 Option.rec (motive:=λ_=>List b7) a (λd=>setAt a d x) dst
def Hb2(a:List b7)(l:List Nat):List Nat :=
 s5 (λd=>match nth a d with
  |some (.ptr id _ _ _)=>id
  |some (.sl id _ _ _)=>id
  |_=>0) l
def Wc8(H:List c7)(l:List Nat):List c7 :=
 List.rec (motive:=λ_=>List c7) H (λid _ ih=>modAt ih id λb=>{ b with dead:=true }) l
def Hb3(H0 H:List c7)(l:List Nat):List c7 :=
 List.rec (motive:=λ_=>List c7) H (λid _ ih=>match nth H0 id with
  |some b=>setAt ih id b
  |none=>ih) l
def Kf3(E:Env)(s:St)(hide:List Nat)(o:PO):DT (b7×List c7) :=
 List.rec (motive:=λ_=>DT (b7×List c7)) (evalOp E s.a s.H o)
  (λ_ _ _=>(evalOp E s.a (Wc8 s.H (Hb2 s.a hide)) o).bind λr=>.ret (r.1,Hb3 s.H r.2 (Hb2 s.a hide))) hide
def Ad0(E:Env)(s:St)(o:PI):DT St :=
 (Kf3 E s o.hide o.op).bind λr=>.ret ⟨putA s.a o.dst r.1,r.2⟩
def ob8(E:Env)(s:St)(o:PI):DT St :=
 Option.rec (motive:=λ_=>DT St) (Ad0 E s o)
  (λg=>match c9 E s.a (.t g.1) with
   | .v (.bool b) => Bool.rec (motive := fun _ => DT St)
     (.ite b (.ret ⟨putA (setAt s.a g.1 (.v (.bool true))) o.dst (.v (.tuple #[])),s.H⟩) (Ad0 E ⟨setAt s.a g.1 (.v (.bool false)),s.H⟩ o))
     (.ite b (Ad0 E ⟨setAt s.a g.1 (.v (.bool true)),s.H⟩ o) (.ret ⟨putA (setAt s.a g.1 (.v (.bool false))) o.dst (.v (.tuple #[])),s.H⟩)) g.2
   |.v (.tuple _)=>.ret ⟨putA s.a o.dst (.v (.tuple #[])),s.H⟩
   |_=>.fail)
  o.guard
def U4(E:Env)(l:List PI):St->DT St :=
 List.rec (motive:=λ_=>St->DT St) (λs=>.ret s) (λo _ ih s=>(ob8 E s o).bind ih) l
def Ea7:b7->List Nat
 |.ptr id _ _ _=>[id]
 |.sl id _ _ _=>[id]
 |_=>[]
def lb2(E:Env)(a:List b7):PO->List Nat
 |.load _ _ _ x=>Ea7 (c9 E a x)
 |.idxS _ x _=>Ea7 (c9 E a x)
 |.slice _ x _ _=>Ea7 (c9 E a x)
 |_=>[]
def ob9(l:List b7):List Nat :=
 List.rec (motive:=λ_=>List Nat) [] (λx _ ih=>match x with
  |.ptr id _ _ _=>id::ih
  |_=>ih) l
def ta3(own:Nat->Bool):Nat->List b7->List Nat
 |_,[]=>[]
 |k,x::r=>match x with
  |.ptr id _ _ _=>id::ta3 own (k+1) r
  |.sl id _ _ _=>match own k with
   |true=>id::ta3 own (k+1) r
   |false=>ta3 own (k+1) r
  |.agg cs=>app (ob9 cs) (ta3 own (k+1) r)
  |.fn _ caps=>app (ob9 caps) (ta3 own (k+1) r)
  |_=>ta3 own (k+1) r
def aa9(E:Env)(a:List b7):PO->List Nat
 |.store _ x _=>Ea7 (c9 E a x)
 |.append _ _ _ s _=>Ea7 (c9 E a s)
 |.copy _ d _=>Ea7 (c9 E a d)
 |.apre _ s _=>Ea7 (c9 E a s)
 |.clr _ _ x=>Ea7 (c9 E a x)
 |.call f args=>ta3 (E.own f) 0 (s5 (c9 E a) args)
 |.calld x args=>match c9 E a x with
  |.fn f caps=>match Nat.ble bfB f with
   |false=>ta3 (E.own f) 0 (app (s5 (c9 E a) args) caps)
   |true=>ta3 (E.own (f-bfB)) 0 (.agg caps::s5 (c9 E a) args)
  |_=>[]
 |_=>[]
def Za8(E:Env)(a:List b7)(l:List (PO×PO)):Bool :=
 List.rec (motive:=λ_=>Bool) true (λp _ ih=>Bool.rec false ih (Qb7 (lb2 E a p.1) (aa9 E a p.2))) l
def Yb4(a:List b7)(l:List PI):Bool :=
 List.rec (motive:=λ_=>Bool) true (λp _ ih=>match p.dst with
  |some d=>match nth a d with
   |some _=>ih
   |none=>false
  |none=>false) l
inductive l4 where
 |normal
 |exit (id:Nat)
 |ret
def X6(keep:List Nat)(l:List b7):Nat->List b7 :=
 List.rec (motive:=λ_=>Nat->List b7) (λ_=>[]) (λx _ ih k=>Bool.rec .unk x (Hb1 k keep)::ih (k+1)) l
def Gd0(k:Nat)(H:List c7)(roots:List Nat)(x:b7):b7×List Nat :=
 match x with
 |.v x=>(.v x,roots)
 |.unk=>(.unk,roots)
 |.ptr id i c g=>match blkAt H id g with
  |some _=>match Sa4 roots id with
   |(j,r)=>(.ptr j i c (match Nat.blt j k with | true=>g | false=>0),r)
  |none=>(.unk,roots)
 |.sl id off n g=>match blkAt H id g with
  |some _=>match Sa4 roots id with
   |(j,r)=>(.sl j off n (match Nat.blt j k with | true=>g | false=>0),r)
  |none=>(.unk,roots)
 |x=>(x,roots)
def cd3(k:Nat)(H:List c7):List b7->List Nat->List b7×List Nat
 |[],roots=>([],roots)
 |x::r,roots=>match Gd0 k H roots x with
  |(y,r1)=>match cd3 k H r r1 with
   |(l,r2)=>(y::l,r2)
def Cc2(k:Nat)(H:List c7)(roots:List Nat)(x:b7):b7×List Nat :=
 match x with
 |.v x=>(.v x,roots)
 |.unk=>(.unk,roots)
 |.fn f caps=>match cd3 k H caps roots with
  |(l,r)=>(.fn f l,r)
 |.agg cs=>match cd3 k H cs roots with
  |(l,r)=>(.agg l,r)
 |x=>Gd0 k H roots x
def Wc9(k:Nat)(H:List c7):List b7->List Nat->List b7×List Nat
 |[],roots=>([],roots)
 |x::r,roots=>match Cc2 k H roots x with
  |(y,r1)=>match Wc9 k H r r1 with
   |(l,r2)=>(y::l,r2)
def Gd1(k:Nat)(H:List c7)(roots:List Nat)(x:b7):b7×List Nat :=
 match x with
 |.v x=>(.v x,roots)
 |.unk=>(.unk,roots)
 |.tup vs=>match Wc9 k H vs roots with
  |(l,r)=>(.tup l,r)
 |x=>Cc2 k H roots x
def cd4(k:Nat)(H:List c7):List b7->List Nat->List b7×List Nat
 |[],roots=>([],roots)
 |x::r,roots=>match Gd1 k H roots x with
  |(y,r1)=>match cd4 k H r r1 with
   |(l,r2)=>(y::l,r2)
def eb4(k:Nat)(H:List c7):Nat->List Nat->Option (List c7)
 |_,[]=>some []
 |j,id::r=>match nth H id with
  |some b=>match eb4 k H (j+1) r with
   |some l=>some ((match Nat.blt j k with | true=>b | false=>{ b with g:=0 })::l)
   |none=>none
  |none=>none
def tidy(k:Nat)(s:St):DT St :=
 match cd4 k s.H s.a (List.range k) with
 |(a,roots)=>match eb4 k s.H 0 roots with
  |some H=>.ret ⟨a,H⟩
  |none=>.fail
def Ac2(head:St->DT St)(body:St->DT (l4×St))(n:Nat):St->DT (l4×St) :=
 Nat.rec (motive:=λ_=>St->DT (l4×St)) (λ_=>.fail)
  (λ_ ih s=>(head s).bind λs=>(body s).bind λr =>
   l4.rec (motive:=λ_=>DT (l4×St)) (ih r.2) (λid=>.ret (.exit id,r.2)) (.ret (.ret,r.2)) r.1) n
def I4(b:c7):Bool:=Nat.beq b.es 0
def A2(H:List c7):List c7:=s5 (λb=>Bool.rec (motive:=λ_=>c7) b { b with dead:=true } (I4 b)) H
def na6(H:List c7)(x:b7):b7 :=
 match x with
 |.ptr id i c g=>match nth H id with
  |some b=>Bool.rec (motive:=λ_=>b7) (.ptr id i c g) .unk (I4 b)
  |none=>.unk
 |x=>x
def F8(H:List c7):List c7->List c7 :=
 List.rec (motive:=λ_=>List c7->List c7) (λl=>l) (λb _ ih l=>List.rec (motive:=λ_=>List c7) [] (λc r _=>Bool.rec (motive:=λ_=>c7) c b (I4 b)::ih r) l) H
def ta4(ds:List Nat)(a:List b7):List b7->Nat->List b7 :=
 List.rec (motive:=λ_=>List b7->Nat->List b7) (λ_ _=>[]) (λx _ ih l k=>Bool.rec (motive:=λ_=>b7) x (hdA l) (Hb1 k ds)::ih (tlA l) (k+1)) a
def Ac3(H:List c7):List c7->Bool :=
 List.rec (motive:=λ_=>List c7->Bool) (λl=>List.rec (motive:=λ_=>Bool) true (λc _ ih=>Bool.and (Bool.rec (motive:=λ_=>Bool) true false (I4 c)) ih) l) (λb _ ih l=>List.rec (motive:=λ_=>Bool) false (λc r _=>Bool.and (Bool.rec (motive:=λ_=>Bool) (Bool.rec true false (I4 c)) true (I4 b)) (ih r)) l) H
def Oe1:b7->Bool
 |.v x=>zd9 x
 |.tree ..=>true
 |.fn _ []=>true
 |.sl ..=>true
 |.ptr ..=>true
 |_=>false
def Sc1(et:Nat)(H:List c7)(x:b7):Option (Nat×Nat×Nat×c7) :=
 match x with
 |.ptr id i c g=>match nth H id with
  |some b=>match b.dead with
   |true=>none
   |false=>match I4 b&&Nat.beq b.et et with
    |true=>match Nat.beq b.g g with
     |true=>match Nat.beq i 0 with
      |true=>some (id,c,g,b)
      |false=>none
     |false=>none
    |false=>none
  |none=>none
 |_=>none
def cd5(H:List c7)(et:Nat)(elems:List (List b7)):List c7:=app H [{ et,es:=0,elems,own:=true,dead:=false,g:=0 }]
def vd0(fl:List (Nat×CK))(key:List b7)(rows:List (List b7)):Option (List b7) :=
 List.rec (motive:=λ_=>Option (List b7)) none (λr _ ih=>Bool.rec (motive:=λ_=>Option (List b7)) ih (some r) (Sc0 fl key r)) rows
def cd6(kl:Nat)(fl:List (Nat×CK))(key:List b7)(rows:List (List b7)):Bool :=
 Option.rec (motive:=λ_=>Bool) false (λr=>toB (hdA (s9 r kl))) (vd0 fl key rows)
def dc1(fl:List (Nat×CK))(key row:List b7)(rows:List (List b7)):List (List b7) :=
 List.rec (motive:=λ_=>List (List b7)) [row] (λr t ih=>Bool.rec (motive:=λ_=>List (List b7)) (r::ih) (row::t) (Sc0 fl key r)) rows
def Hb4(E:Env)(a:List b7)(H:List c7)(o:SP):DT (b7×List c7) :=
 match o with
 |.old n o=>(evalOp E (s5 (na6 H) (J6 a n)) (A2 H) o).bind λr=>.guard (Ac3 H r.2) (.ret (r.1,F8 H r.2))
 |.balloc z=>.ret (.ptr (len H) 0 0 0,cd5 H 0 [z])
 |.bbox x=>match xb3 (c9 E a x)&&Za6 Oe1 (L8 (c9 E a x)) with
  |true=>.ret (.ptr (len H) 0 0 0,cd5 H 0 [L8 (c9 E a x)])
  |false=>.fail
 |.bload n agg p=>match Sc1 0 H (c9 E a (.t p)) with
  |some (_,c,_,b)=>match Nat.ble (c+n) (len (c8 b.elems 0)) with
   |true=>opt (dc0 agg (Bool.rec (motive:=λ_=>List b7) (J6 (s9 (c8 b.elems 0) c) n) (s5 (na6 H) (J6 (s9 (c8 b.elems 0) c) n)) agg)) H
   |false=>.fail
  |none=>.fail
 |.bstore n p y=>match Sc1 0 H (c9 E a (.t p)) with
  |some (id,c,_,b)=>match Nat.ble (c+n) (len (c8 b.elems 0))&&Nat.beq (len (L8 (c9 E a y))) n&&(xb3 (c9 E a y)&&Za6 Oe1 (L8 (c9 E a y))) with
   |true=>.ret (.v (.tuple #[]),setAt H id { b with elems:=[Q0 (c8 b.elems 0) c (L8 (c9 E a y))] })
   |false=>.fail
  |none=>.fail
 |.bfld off p=>match Sc1 0 H (c9 E a (.t p)) with
  |some (id,c,g,_)=>.ret (.ptr id 0 (c+off) g,H)
  |none=>.fail
 |.bmv p=>.ret (c9 E a (.t p),H)
 |.mmake t=>.ret (.ptr (len H) 0 0 0,cd5 H (t+1) [])
 |.mlook t kl fl m key=>match Sc1 (t+1) H (c9 E a (.t m)) with
  |some (_,_,_,b)=>match c9 E a key with
   |.agg ks=>.guard (Bool.and (Nat.beq (len ks) kl) (Oe0 fl ks)) (.ret (.v (.bool (cd6 kl fl ks b.elems)),H))
   |_=>.fail
  |none=>.fail
 |.mupd t kl fl m key val=>match Sc1 (t+1) H (c9 E a (.t m)) with
  |some (id,_,_,b)=>match c9 E a key,c9 E a val with
   |.agg ks,.v (.bool v)=>.guard (Bool.and (Nat.beq (len ks) kl) (Oe0 fl ks)) (.ret (.v (.tuple #[]),setAt H id { b with elems:=dc1 fl ks (app ks [.v (.bool v)]) b.elems }))
   |_,_=>.fail
  |none=>.fail
 |.bad=>.fail
def Dd9(E:Env)(s:St)(dst:Option Nat)(g:Option (Nat×Bool))(d:St->DT St):DT St :=
 Option.rec (motive:=λ_=>DT St) (d s)
  (λg=>match c9 E s.a (.t g.1) with
   | .v (.bool b) => Bool.rec (motive := fun _ => DT St)
     (.ite b (.ret ⟨putA (setAt s.a g.1 (.v (.bool true))) dst (.v (.tuple #[])),s.H⟩) (d ⟨setAt s.a g.1 (.v (.bool false)),s.H⟩))
     (.ite b (d ⟨setAt s.a g.1 (.v (.bool true)),s.H⟩) (.ret ⟨putA (setAt s.a g.1 (.v (.bool false))) dst (.v (.tuple #[])),s.H⟩)) g.2
   |.v (.tuple _)=>.ret ⟨putA s.a dst (.v (.tuple #[])),s.H⟩
   |_=>.fail)
  g
def Oe2(E:Env)(s:St)(dst:Option Nat)(g:Option (Nat×Bool))(o:SP):DT St :=
 Dd9 E s dst g λs=>(Hb4 E s.a s.H o).bind λr=>.ret ⟨putA s.a dst r.1,r.2⟩
def Ye6(H:List c7)(cs:List b7)(roots:List Nat):List Nat :=
 List.rec (motive:=λ_=>List Nat->List Nat) (λr=>r) (λx _ ih r=>ih (match x with
  |.ptr id _ _ g=>match blkAt H id g with
   |some _=>(Sa4 r id).2
   |none=>r
  |.sl id _ _ g=>match blkAt H id g with
   |some _=>(Sa4 r id).2
   |none=>r
  |_=>r)) cs roots
def ce0(H:List c7)(ids:List Nat):List Nat->List Nat :=
 List.rec (motive:=λ_=>List Nat->List Nat) (λr=>r) (λid _ ih r=>ih (match nth H id with
  |some b=>match I4 b&&Nat.beq b.et 0 with
   |true=>Ye6 H (c8 b.elems 0) r
   |false=>r
  |none=>r)) ids
def sf6(k:Nat)(H:List c7)(R:List Nat)(x:b7):b7 :=
 match x with
 |.ptr id i c g=>match blkAt H id g with
  |some _=>match Bb3 id 0 R with
   |some j=>.ptr j i c (match Nat.blt j k with | true=>g | false=>0)
   |none=>.unk
  |none=>.unk
 |.sl id off n g=>match blkAt H id g with
  |some _=>match Bb3 id 0 R with
   |some j=>.sl j off n (match Nat.blt j k with | true=>g | false=>0)
   |none=>.unk
  |none=>.unk
 |x=>x
def pb0(k:Nat)(H:List c7)(R:List Nat)(b:c7):c7 :=
 Bool.rec (motive:=λ_=>c7) b { b with elems:=s5 (s5 (sf6 k H R)) b.elems } (I4 b&&Nat.beq b.et 0)
def tidyM(k:Nat)(s:St):DT St :=
 match cd4 k s.H s.a (List.range k) with
 |(a,roots)=>match eb4 k s.H 0 (ce0 s.H roots roots) with
  |some H=>.ret ⟨a,s5 (pb0 k s.H (ce0 s.H roots roots)) H⟩
  |none=>.fail
def Cc3(x:b7)(s:St):DT (l4×St) :=
 match x with
 |.v (.int .i64 (.ofNat n))=>match n with
  |0=>.ret (.normal,s)
  |1=>.ret (.ret,s)
  |n+2=>.ret (.exit n,s)
 |_=>.fail
def dg5(ps:List Nat):List b7->List b7->List b7 :=
 List.rec (motive:=λ_=>List b7->List b7->List b7) (λ_ a=>a) (λp _ ih vs a=>ih (tlA vs) (setAt a p (hdA vs))) ps
def Gd2(dst:Option Nat)(nIn nOut:Nat)(r:l4×St):St :=
 l4.rec (motive:=λ_=>St) ⟨putA (s9 r.2.a nOut) dst (.v (.bool true)),r.2.H⟩
  (λid=>⟨putA (setAt (s9 r.2.a nOut) nIn (.v (.int .i64 (.ofNat (id+2))))) dst (.v (.bool false)),r.2.H⟩)
  ⟨putA (setAt (s9 r.2.a nOut) nIn (.v (.int .i64 (.ofNat 1)))) dst (.v (.bool false)),r.2.H⟩ r.1
def le0(E:Env)(s:St)(args:List Arg)(nIn nOut:Nat)(ps:List Nat):St :=
 ⟨app (dg5 ps (s5 (c9 E s.a) args) (J6 (s9 s.a (nIn+1)) nOut)) s.a,s.H⟩
def oc5(caps:List b7)(nIn:Nat)(s:St):St :=
 ⟨app (.unk::caps) (app (List.replicate (nIn-(len caps+1)) (.v (.tuple #[]))) (.v (.int .i64 (.ofNat 0))::s.a)),s.H⟩
def Ed0(x:b7):Bool :=
 match x with
 |.v (.int .i64 (.ofNat n))=>match n with
  |0=>true
  |_+1=>false
 |_=>false
def ic7(id:Nat)(x:b7):b7 :=
 match x with
 |.ptr id' i c g=>Bool.rec (motive:=λ_=>b7) (.ptr id' i c g) .unk (Nat.beq id' id)
 |.sl id' off n g=>Bool.rec (motive:=λ_=>b7) (.sl id' off n g) .unk (Nat.beq id' id)
 |x=>x
def Gd3(id:Nat)(x:b7):b7 :=
 match x with
 |.agg cs=>.agg (s5 (ic7 id) cs)
 |.fn f cs=>.fn f (s5 (ic7 id) cs)
 |.tup _=>.unk
 |x=>ic7 id x
def Cc4(id:Nat):b7->Bool
 |.ptr id' _ _ _=>!Nat.beq id' id
 |.sl id' _ _ _=>!Nat.beq id' id
 |_=>true
def if9(f:List b7->Bool)(l:List (List b7)):Bool:=List.rec (motive:=λ_=>Bool) true (λx _ ih=>Bool.rec false ih (f x)) l
def xe9(id:Nat)(H:List c7):Bool :=
 List.rec (motive:=λ_=>Bool) true (λb _ ih=>Bool.rec (motive:=λ_=>Bool) ih (Bool.rec false ih (if9 (Za6 (Cc4 id)) b.elems)) (I4 b)) H
def le1(k p:Nat)(s:St):DT (l4×St) :=
 match nth s.a p with
 |some (.ptr id i c g)=>match blkAt s.H id g with
  |some b=>match b.elems with
   |[row]=>match Nat.ble k id&&(Nat.beq i 0&&(Nat.beq c 0&&(b.own&&(!I4 b&&(Za6 Oe1 row&&xe9 id s.H))))) with
    |true=>.ret (.normal,⟨setAt (s5 (Gd3 id) s.a) p (.ptr id 0 0 (b.g+1)),setAt s.H id { b with et:=0,es:=0,g:=b.g+1 }⟩)
    |false=>.fail
   |_=>.fail
  |none=>.fail
 |_=>.fail
def M2(E:Env)(k:Nat)(c:PC):St->DT (l4×St) :=
 PC.rec (motive:=λ_=>St->DT (l4×St))
  (λs=>.ret (.normal,s))
  (λl s=>(U4 E l s).bind λs=>.ret (.normal,s))
  (λ_ asq l pairs s=>(U4 E asq s).bind λs=>(U4 E l s).bind λs =>
   Bool.rec (motive:=λ_=>DT (l4×St)) .fail (Bool.rec (motive:=λ_=>DT (l4×St)) .fail (.ret (.normal,s)) (Yb4 s.a asq)) (Za8 E s.a pairs))
  (λ_ _ x y s=>(x s).bind λr=>l4.rec (motive:=λ_=>DT (l4×St)) (y r.2) (λid=>.ret (.exit id,r.2)) (.ret (.ret,r.2)) r.1)
  (λc _ _ x y s=>match c9 E s.a c with
   |.v (.bool b)=>.ite b (x s) (y s)
   |_=>.fail)
  (λid _ x s=>(x s).bind λr=>l4.rec (motive:=λ_=>DT (l4×St)) (.ret (.normal,r.2))
   (λid'=>Bool.rec (.ret (.exit id',r.2)) (.ret (.normal,r.2)) (Nat.beq id' id)) (.ret (.ret,r.2)) r.1)
  (λkeep _ x=>Ac2 (λs=>tidy k ⟨X6 keep s.a 0,s.H⟩) x E.N)
  (λid s=>.ret (.exit id,s))
  (λs=>.ret (.ret,s))
  (λ_=>.fail)
  (λn ds _ x s=>(x ⟨s5 (na6 s.H) (J6 s.a n),A2 s.H⟩).bind λr=>.guard (Ac3 s.H r.2.H) (.ret (r.1,⟨ta4 ds s.a r.2.a 0,F8 s.H r.2.H⟩)))
  (λdst g o s=>(Oe2 E s dst g o).bind λs=>.ret (.normal,s))
  (λf x nIn _ c s=>match c9 E s.a x with
   |.fn f' caps=>match Nat.beq f f'&&(Nat.ble (len caps+1) nIn&&!Nat.ble bfB f) with
    | true => (c (oc5 caps nIn s)).bind fun r =>
      l4.rec (motive:=λ_=>DT (l4×St)) (Cc3 (hdA (s9 r.2.a nIn)) ⟨s9 r.2.a (nIn+1),r.2.H⟩) (λ_=>.fail) (Cc3 (hdA (s9 r.2.a nIn)) ⟨s9 r.2.a (nIn+1),r.2.H⟩) r.1
    |false=>.fail
   |_=>.fail)
  (λdst g args nIn nOut ps _ _ asq body s=>(Dd9 E s dst g λs=>match Ed0 (hdA (s9 s.a nIn)) with
   |true=>(asq (le0 E s args nIn nOut ps)).bind λr0 =>
    l4.rec (motive:=λ_=>DT St) ((body r0.2).bind λr=>.ret (Gd2 dst nIn nOut r)) (λ_=>.fail) .fail r0.1
   |false=>.fail).bind λs=>.ret (.normal,s))
  (λkeep _ x=>Ac2 (λs=>tidyM k ⟨X6 keep s.a 0,s.H⟩) x E.N)
  (λp s=>le1 k p s) c
def Hb5(a:List b7)(H:List c7):nd3->Option b7
 |.t n=>match nth a n with
  |some (.tup _)=>none
  |some x=>some x
  |none=>none
 |.cell p n agg=>match nth a p with
  |some x=>match loadCells H x n with
   |some cs=>dc0 agg cs
   |none=>none
  |none=>none
def dc2:List b7->b7
 |[x]=>x
 |l=>.tup l
def Cc5(k:Nat)(H:List c7)(r:b7):DT (b7×List c7) :=
 match Gd1 k H (List.range k) r with
 |(r,roots)=>match eb4 k H 0 roots with
  |some out=>.ret (r,out)
  |none=>.fail
def ba9(E:Env)(fn:PFn)(args:List b7)(blks:List c7):DT (b7×List c7) :=
 (M2 E (len blks) fn.body ⟨app args (List.replicate (fn.ntmps-len args) (.v (.tuple #[]))),blks⟩).bind λr =>
  match r.1 with
  |.exit _=>.fail
  |_=>match Hb0 (Hb5 r.2.a r.2.H) fn.res with
   |some l=>Cc5 (len blks) r.2.H (dc2 l)
   |none=>.fail
end Go.Ev
namespace Go.Ev
open Go
section
variable{α β:Type}
theorem F7(l:List α)(n:Nat):nth l n=l[n]?:=by
  induction l generalizing n with
  |nil=>rfl
  | cons x r ih=>cases n with
    |zero=>rfl
    |succ n=>exact (ih n).trans (by simp)
theorem H6(l:List α)(n:Nat)(x:α):setAt l n x=l.set n x:=by
  induction l generalizing n with
  |nil=>rfl
  | cons y r ih=>cases n with
    |zero=>rfl
    |succ n=>exact congrArg (y::·) (ih n)
theorem J7(l:List α)(n:Nat):J6 l n=l.take n:=by
  induction l generalizing n with
  |nil=>exact (List.take_nil).symm
  | cons y r ih=>cases n with
    |zero=>rfl
    |succ n=>exact congrArg (y::·) (ih n)
theorem I9(l:List α)(n:Nat):s9 l n=l.drop n:=by
  induction l generalizing n with
  |nil=>exact (List.drop_nil).symm
  | cons y r ih=>cases n with
    |zero=>rfl
    |succ n=>exact ih n
theorem K6(l r:List α):app l r=l++r:=by
  induction l with
  |nil=>rfl
  |cons x l ih=>exact congrArg (x::·) ih
theorem z6(l:List α):len l=l.length:=by
  induction l with
  |nil=>rfl
  |cons x l ih=>exact congrArg Nat.succ ih
theorem s8(f:α->β)(l:List α):s5 f l=l.map f:=by
  induction l with
  |nil=>rfl
  |cons x l ih=>exact congrArg (f x::·) ih
theorem ce1 (f:α→Option β) (x:α) (l:List α):Hb0 f (x::l)=(match f x with | some y=>(match Hb0 f l with | some r=>some (y::r) | none=>none) | none=>none):=by
  have:Hb0 f (x::l)=Option.rec (motive:=λ_=>Option (List β)) none (λy=>Option.rec (motive:=λ_=>Option (List β)) none (λr=>some (y::r)) (Hb0 f l)) (f x):=rfl
  rw[this];cases f x with
  |none=>rfl
  |some y=>cases Hb0 f l<;>rfl
theorem ce2{f:α->Option β}{l:List α}{r:List β}(h:Hb0 f l=some r):r.length=l.length/\∀(i:Nat) (x:α),l[i]?=some x->∃y,f x=some y/\r[i]?=some y:=by
  induction l generalizing r with
  | nil => have : r = [] := by injection h with h; exact h.symm
           subst this;simp
  | cons x l ih =>
    have h':=h;rw[ce1] at h'
    grind
theorem Kf4(k:Nat)(l:List Nat):Hb1 k l=l.contains k:=by
  induction l with
  |nil=>simp[Hb1]
  | cons x l ih =>
    have:Hb1 k (x::l)=(match Nat.beq x k with | true=>true | false=>Hb1 k l):=by
      have:Hb1 k (x::l)=Bool.rec (Hb1 k l) true (Nat.beq x k):=rfl
      rw[this];cases Nat.beq x k<;>rfl
    rw[this,ih];cases h:Nat.beq x k with
    |true=>have:=Qad h;subst this;simp
    |false=>have:x≠k:=Nat.ne_of_beq_eq_false h;simp;intro h;exact absurd h.symm this
end
namespace DT
variable{α β γ:Type}
@[simp] theorem bind_ret(a:α)(f:α->DT β):(DT.ret a).bind f=f a:=rfl
@[simp] theorem bind_fail(f:α->DT β):(DT.fail:DT α).bind f=.fail:=rfl
@[simp] theorem bind_ite(b:Bool)(t e:DT α)(f:α->DT β):(DT.ite b t e).bind f=.ite b (t.bind f) (e.bind f):=rfl
@[simp] theorem run_ret(a:α):(DT.ret a).run=some a:=rfl
@[simp] theorem run_fail:(DT.fail:DT α).run=none:=rfl
theorem run_ite(b:Bool)(t e:DT α):(DT.ite b t e).run=if b then t.run else e.run:=by cases b<;>rfl
theorem run_bind (x:DT α) (f:α→DT β):(x.bind f).run=x.run.bind fun a=>(f a).run:=by
  induction x with
  |ret a=>rfl
  |fail=>rfl
  |ite b t e iht ihe=>cases b<;>simp[run_ite,iht,ihe]
theorem run_bind_some{x:DT α}{f:α->DT β}{r:β}(h:(x.bind f).run=some r):∃a,x.run=some a/\(f a).run=some r:=by
  rw[run_bind] at h;cases hx:x.run with
  |none=>simp[hx] at h
  |some a=>exact⟨a,rfl,by simpa [hx] using h⟩
theorem run_ite_some{b:Bool}{t e:DT α}{r:α}(h:(DT.ite b t e).run=some r):(b=true/\t.run=some r)\/(b=false/\e.run=some r):=by
  cases b
  · exact .inr ⟨rfl,by simpa [run_ite] using h⟩
  · exact .inl ⟨rfl,by simpa [run_ite] using h⟩
theorem run_guard_some{b:Bool}{t:DT α}{r:α}(h:(DT.guard b t).run=some r):b=true/\t.run=some r:=by
  rcases run_ite_some h with h|⟨_,h⟩
  · exact h
  · cases h
end DT
theorem pb1{x:Option b7}{H:List c7}{r:b7×List c7}(h:(opt x H).run=some r):∃y,x=some y/\r=(y,H):=by
  cases x with
  |none=>cases h
  |some y=>exact⟨y,rfl,by simpa [opt,DT.run] using h.symm⟩
theorem ic8{x:Option (b7×List c7)}{r:b7×List c7}(h:(if8 x).run=some r):x=some r:=by
  cases x with
  |none=>cases h
  |some y=>simpa [if8,DT.run] using h
end Go.Ev
namespace Go.Ev
open Go
structure Oe3 where
  blk:Nat
  off:Nat
  size:Nat
abbrev Rho:=Nat->Oe3
abbrev Fz:=Nat->Nat->Prop
def Qb8(f:FuncId)(vs:Array Value):Value:=if Nat.ble bfB f&&!vs.isEmpty then .func (.func (f-bfB)) #[.agg vs] #[] else .func (.func f) #[] vs
theorem Pb6(f:FuncId):Qb8 f #[]=.func (.func f) #[] #[]:=by simp[Qb8]
theorem cd7{f:FuncId}(h:Nat.ble bfB f=false)(vs:Array Value):Qb8 f vs=.func (.func f) #[] vs:=by simp[Qb8,h]
theorem ye0{f:FuncId}(h:Nat.ble bfB f=true){vs:Array Value}(hv:vs≠#[]):Qb8 f vs=.func (.func (f-bfB)) #[.agg vs] #[]:=by simp[Qb8,h,hv]
theorem Xc0(f:FuncId)(vs:Array Value):∃p q r,Qb8 f vs=.func (.func p) q r:=by
  unfold Qb8;split
  · exact⟨_,_,_,rfl⟩
  · exact⟨_,_,_,rfl⟩
inductive fa8 (F:Fz) (w:World):b7→Value→Prop
  |v (x:Value) (h1:x.oneCell'=true):fa8 F w (.v x) x
  | fn (f : FuncId) (caps : List b7) (vs : Array Value) (x' : Value) (e : x' = Qb8 f vs) (hl : caps.length = vs.size) (hb : Za6 cd1 caps = true)
      (h:∀(i:Nat) (hi:i<caps.length) (hi':i<vs.size),fa8 F w (caps[i]) (vs[i])):fa8 F w (.fn f caps) x'
  | tree (es n : Nat) (get : Nat → List b7) (a : Addr) (cap : Nat) (cs : Nat → Nat → Value) (hs : 0 < n → a.spot = none) (hcap : n ≤ cap)
      (hes:∀i,i<n->(get i).length=es)
      (hF:∀i c,i<n->c<es->F a.block (a.off+(i*es+c)))
      (hw:∀i c,i<n->c<es->w.cell? ⟨a.block,a.off+(i*es+c),none⟩=some (cs i c))
      (hr:∀i c (_:i<n) (hc:c<(get i).length),fa8 F w ((get i)[c]) (cs i c)):fa8 F w (.tree es n get) (.slice (some a) n cap)
  |nil (es:Nat) (get:Nat->List b7):fa8 F w (.tree es 0 get) (.slice none 0 0)
theorem fa8.fn0{F:Fz}{w:World}(f:FuncId):fa8 F w (.fn f []) (.func (.func f) #[] #[]) :=
  .fn f [] #[] _ (Pb6 f).symm rfl rfl λi hi=>absurd hi (Nat.not_lt_zero i)
inductive ea9 (ρ:Rho) (H:List c7) (F:Fz) (w:World):b7→Value→Prop
  |mem {x:b7} {x':Value} (h:fa8 F w x x'):ea9 ρ H F w x x'
  |v (x:Value):ea9 ρ H F w (.v x) x
  | ptr (id i c g : Nat) (a : Addr) (b : c7) (hb : H[id]? = some b) (hd : b.dead = false) (hg : g ≤ b.g)
      (h:b.g=g->a=⟨(ρ id).blk,(ρ id).off+(i*b.es+c),none⟩):ea9 ρ H F w (.ptr id i c g) (.pointer (some a))
  | sl (id off n g : Nat) (a : Addr) (cap : Nat) (b : c7) (hb : H[id]? = some b) (hd : b.dead = false) (hg : g ≤ b.g) (hn : n ≤ cap) (hs : a.spot = none) (hm : cap ≤ maxLen)
      (h:b.g=g->((cap=0/\0<off)\/a=⟨(ρ id).blk,(ρ id).off+off*b.es,none⟩)/\(off+cap)*b.es=(ρ id).size/\off+n<=b.elems.length) :
      ea9 ρ H F w (.sl id off n g) (.slice (some a) n cap)
  | tptr (cs : List b7) (a : Addr) (vs : Nat → Value) (hs : a.spot = none)
      (hF:∀c,c<cs.length->F a.block (a.off+c))
      (hw:∀c,c<cs.length->w.cell? ⟨a.block,a.off+c,none⟩=some (vs c))
      (hr:∀c (hc:c<cs.length),fa8 F w (cs[c]) (vs c)):ea9 ρ H F w (.tptr cs) (.pointer (some a))
  |unk (x':Value):ea9 ρ H F w .unk x'
inductive ra2 (ρ:Rho) (H:List c7) (F:Fz) (w:World):b7→Value→Prop
  |cell {x:b7} {x':Value} (h:ea9 ρ H F w x x'):ra2 ρ H F w x x'
  |agg (cs:List b7) (vs:Array Value) (hl:cs.length=vs.size) (h:∀(i:Nat) x x',cs[i]?=some x->vs[i]?=some x'->ea9 ρ H F w x x'):ra2 ρ H F w (.agg cs) (.agg vs)
  |fn (f:FuncId) (caps:List b7) (vs:Array Value) (hl:caps.length=vs.size) (h:∀(i:Nat) x x',caps[i]?=some x->vs[i]?=some x'->ea9 ρ H F w x x'):ra2 ρ H F w (.fn f caps) (Qb8 f vs)
inductive K8 (ρ:Rho) (H:List c7) (F:Fz) (w:World):b7→Value→Prop
  |val {x:b7} {x':Value} (h:ra2 ρ H F w x x'):K8 ρ H F w x x'
  |tup (xs:List b7) (vs:Array Value) (hl:xs.length=vs.size) (h:∀(i:Nat) x x',xs[i]?=some x->vs[i]?=some x'->ra2 ρ H F w x x'):K8 ρ H F w (.tup xs) (.tuple vs)
structure Ad1(W:Nat->Prop)(F:Fz)(w:World)(base:Oe3)(b:c7)(cc:Array Value)(t:TypeId)(fr:Nat×Nat):Prop where
  obj:w.heap[base.blk]?=some (.cells cc t fr)
  room:base.off+base.size<=cc.size
  len:b.elems.length*b.es<=base.size
  rows:∀(i:Nat) r,b.elems[i]?=some r->r.length=b.es
  cell:∀(i:Nat) r (c:Nat) x,b.elems[i]?=some r->r[c]?=some x->∃x',cc[base.off+(i*b.es+c)]?=some x'/\fa8 F w x x'
  own:b.own=true->fr=(0,0)/\W base.blk/\base.off=0/\base.size=cc.size/\(∀o,¬ F base.blk o)/\(b.et≠0->t=b.et)
  kept:b.own=false->∀o,o<b.elems.length*b.es->F base.blk (base.off+o)
structure J0(W:Nat->Prop)(ρ:Rho)(H:List c7)(F:Fz)(w:World):Prop where
  blk:∀(id:Nat) b,H[id]?=some b->b.dead=false->∃cc t fr,Ad1 W F w (ρ id) b cc t fr
  apart:∀(id id':Nat) b b',H[id]?=some b->H[id']?=some b'->b.dead=false->b'.dead=false->b.own=true->id≠id'->(ρ id).blk≠(ρ id').blk
  frz:∀b o,F b o->(w.cell? ⟨b,o,none⟩).isSome
  new:∀k,w.heap.size<=k->W k
def Ia4(ρ:Rho)(H:List c7)(F:Fz)(w:World)(a:List b7)(vs:Array Value):Prop :=
  a.length=vs.size/\∀(i:Nat) x x',a[i]?=some x->vs[i]?=some x'->K8 ρ H F w x x'
structure Ext(W:Nat->Prop)(F:Fz)(w w':World):Prop where
  os:w'.os=w.os
  tape:w'.tape=w.tape
  output:w'.output=w.output
  size:w.heap.size<=w'.heap.size
  block:∀k,k<w.heap.size->¬ W k->w'.heap[k]?=w.heap[k]?
  cells:∀b o,F b o->w'.cell? ⟨b,o,none⟩=w.cell? ⟨b,o,none⟩
  drawn:w.drawn<=w'.drawn
def Oe4(ρ:Rho)(H:List c7)(ρ':Rho)(H':List c7):Prop :=
  ∀(id:Nat) b,H[id]?=some b->∃b',H'[id]?=some b'/\b'.dead=b.dead/\b.g<=b'.g/\(b'.g=b.g->ρ' id=ρ id/\b'.es=b.es/\b.elems.length<=b'.elems.length)
structure Adv(W:Nat->Prop)(ρ:Rho)(H:List c7)(F:Fz)(w:World)(ρ':Rho)(H':List c7)(F':Fz)(w':World):Prop where
  ext:Ext W F w w'
  heap:Oe4 ρ H ρ' H'
  more:∀b o,F b o->F' b o
  new:∀b o,F' b o->F b o\/W b
  fresh:∀(id:Nat) b',H'[id]?=some b'->(∀b,H[id]?=some b->b'.g≠b.g)->W (ρ' id).blk
section
variable{W:Nat->Prop}{ρ ρ' ρ'':Rho}{H H' H'':List c7}{F F' F'':Fz}{w w' w'':World}
theorem Ext.refl:Ext W F w w:=⟨rfl,rfl,rfl,Qaf _,λ_ _ _=>rfl,λ_ _ _=>rfl,Qaf _⟩
theorem Ext.trans(h:Ext W F w w')(hf:∀b o,F b o->F' b o)(k:Ext W F' w' w''):Ext W F w w'' :=
  ⟨k.os.trans h.os,k.tape.trans h.tape,k.output.trans h.output,Qai h.size k.size,
   λi hi hw=>(k.block i (Qam hi h.size) hw).trans (h.block i hi hw),λb o hb=>(k.cells b o (hf b o hb)).trans (h.cells b o hb),Qai h.drawn k.drawn⟩
theorem Oe4.refl:Oe4 ρ H ρ H:=λ_ b h=>⟨b,h,rfl,Qaf _,λ_=>⟨rfl,rfl,Qaf _⟩⟩
theorem Oe4.trans(h:Oe4 ρ H ρ' H')(k:Oe4 ρ' H' ρ'' H''):Oe4 ρ H ρ'' H'':=by
  intro id b hb;obtain⟨b1,h1,hd1,hg1,e1⟩:=h id b hb;obtain⟨b2,h2,hd2,hg2,e2⟩:=k id b1 h1
  grind
theorem Adv.refl:Adv W ρ H F w ρ H F w:=⟨.refl,.refl,λ_ _ h=>h,λ_ _ h=>.inl h,λ_ b h hn=>absurd rfl (hn b h)⟩
theorem Adv.trans(h:Adv W ρ H F w ρ' H' F' w')(k:Adv W ρ' H' F' w' ρ'' H'' F'' w''):Adv W ρ H F w ρ'' H'' F'' w'' :=
  ⟨h.ext.trans h.more k.ext,h.heap.trans k.heap,fun b o hb=>k.more b o (h.more b o hb),fun b o hb=>(k.new b o hb).elim (h.new b o) .inr,fun id b'' hb'' hn=>by
    by_cases hc:∃b',H'[id]?=some b'/\b''.g=b'.g
    · obtain⟨b',hb',hg⟩:=hc
      obtain⟨b2,h2,_,_,e2⟩:=k.heap id b' hb'
      have:b2=b'':=Qag (h2.symm.trans hb'')
      subst this;rw[(e2 hg).1];exact h.fresh id b' hb' λb hb=>hg ▸ hn b hb
    · exact k.fresh id b'' hb'' λb' hb' hg=>hc ⟨b',hb',hg⟩⟩
theorem fa8.adv{x:b7}{x':Value}(h:fa8 F w x x')(hf:∀b o,F b o->F' b o)(hw:∀b o,F b o->w'.cell? ⟨b,o,none⟩=w.cell? ⟨b,o,none⟩):fa8 F' w' x x':=by
  induction h with
  |v x h1=>exact .v x h1
  |fn f caps vs x' e hl hb h ih=>exact .fn f caps vs x' e hl hb λi hi hi'=>ih i hi hi'
  | tree es n get a cap cs hs hcap hes hF hw0 hr ih =>
    exact .tree es n get a cap cs hs hcap hes (λi c hi hc=>hf _ _ (hF i c hi hc)) (λi c hi hc=>(hw _ _ (hF i c hi hc)).trans (hw0 i c hi hc)) (λi c hi hc=>ih i c hi hc)
  |nil es get=>exact .nil es get
theorem ea9.adv{x:b7}{x':Value}(h:ea9 ρ H F w x x')(k:Adv W ρ H F w ρ' H' F' w'):ea9 ρ' H' F' w' x x':=by
  cases h with
  |mem h=>exact .mem (h.adv k.more k.ext.cells)
  |v=>exact .v _
  | ptr id i c g a b hb hd hg h =>
    obtain⟨b',hb',hd',hg',e⟩:=k.heap id b hb;refine .ptr id i c g a b' hb' (hd'.trans hd) (Qai hg hg') λhge=>?_
    grind
  | sl id off n g a cap b hb hd hg hn hs hm h =>
    obtain⟨b',hb',hd',hg',e⟩:=k.heap id b hb;refine .sl id off n g a cap b' hb' (hd'.trans hd) (Qai hg hg') hn hs hm λhge=>?_
    grind
  |tptr cs a vs hs hF hw hr=>exact .tptr cs a vs hs (λc hc=>k.more _ _ (hF c hc)) (λc hc=>(k.ext.cells _ _ (hF c hc)).trans (hw c hc)) (λc hc=>(hr c hc).adv k.more k.ext.cells)
  |unk x'=>exact .unk x'
theorem ra2.adv{x:b7}{x':Value}(h:ra2 ρ H F w x x')(k:Adv W ρ H F w ρ' H' F' w'):ra2 ρ' H' F' w' x x':=by
  cases h with
  |cell h=>exact .cell (h.adv k)
  |agg cs vs hl h=>exact .agg cs vs hl λi x x' hx hx'=>(h i x x' hx hx').adv k
  |fn f caps vs hl h=>exact .fn f caps vs hl λi x x' hx hx'=>(h i x x' hx hx').adv k
theorem K8.adv{x:b7}{x':Value}(h:K8 ρ H F w x x')(k:Adv W ρ H F w ρ' H' F' w'):K8 ρ' H' F' w' x x':=by
  cases h with
  |val h=>exact .val (h.adv k)
  |tup xs vs hl h=>exact .tup xs vs hl λi x x' hx hx'=>(h i x x' hx hx').adv k
theorem Ia4.adv{a:List b7}{vs:Array Value}(h:Ia4 ρ H F w a vs)(k:Adv W ρ H F w ρ' H' F' w'):Ia4 ρ' H' F' w' a vs :=
  ⟨h.1,λi x x' hx hx'=>(h.2 i x x' hx hx').adv k⟩
theorem fa8.one{x:b7}{x':Value}(h:fa8 F w x x'):x'.oneCell'=true:=by
  cases h with
  | fn f caps vs _ e =>
    obtain⟨p,q,r,e2⟩:=Xc0 f vs;rw[e,e2];rfl
  |_=>first | rfl | assumption
theorem K8.ofv(x:Value):K8 ρ H F w (.v x) x:=.val (.cell (.v x))
theorem K8.unk(x:Value):K8 ρ H F w .unk x:=.val (.cell (.unk x))
theorem Ia4.put{a:List b7}{vs:Array Value}(h:Ia4 ρ H F w a vs)(d:Nat){x:b7}{x':Value}(hx:K8 ρ H F w x x'):Ia4 ρ H F w (a.set d x) (vs.setIfInBounds d x'):=by
  refine⟨by simpa using h.1,λi y y' hy hy'=>?_⟩
  by_cases hid:d=i
  · grind
  · rw[Qah hid] at hy
    rw[Array.getElem?_setIfInBounds_ne hid] at hy';exact h.2 i y y' hy hy'
end
section
variable{W:Nat->Prop}{ρ:Rho}{H:List c7}{F:Fz}{w w':World}
theorem oc6{b o:Nat}(h:(w.cell? ⟨b,o,none⟩).isSome):b<w.heap.size:=by
 obtain⟨u,hu⟩:=Option.isSome_iff_exists.1 h;exact World.block_lt_of_cell? _ _ hu
theorem Ad1.cellAt{base:Oe3}{b:c7}{cc:Array Value}{t:TypeId}{fr:Nat×Nat}(h:Ad1 W F w base b cc t fr)(o:Nat):w.cell? ⟨base.blk,o,none⟩=cc[o]?:=by
 simp[World.cell?,h.obj]
theorem Ad1.lt{base:Oe3}{b:c7}{cc:Array Value}{t:TypeId}{fr:Nat×Nat}(h:Ad1 W F w base b cc t fr):base.blk<w.heap.size:=by
 rcases Qaq base.blk w.heap.size with hh|hh
 ·exact hh
 ·have:=h.obj;rw[Array.getElem?_eq_none hh] at this;cases this
theorem Ext.same(hh:w'.heap=w.heap)(h1:w'.os=w.os)(h2:w'.tape=w.tape)(h3:w'.output=w.output)(h4:w.drawn<=w'.drawn):Ext W F w w' :=
 ⟨h1,h2,h3,by rw[hh];exact Qaf _,λ_ _ _=>by rw[hh],λ_ _ _=>by simp[World.cell?,hh],h4⟩
theorem J0.same(h:J0 W ρ H F w)(hh:w'.heap=w.heap):J0 W ρ H F w':=by
 have hc:∀a,w'.cell? a=w.cell? a:=λa=>by simp[World.cell?,hh]
 refine⟨λid b hb hd=>?_,h.apart,λb o hf=>by rw[hc];exact h.frz b o hf,λk hk=>h.new k (by rw[<- hh];exact hk)⟩
 obtain⟨cc,t,fr,hB⟩:=h.blk id b hb hd;refine⟨cc,t,fr,by rw[hh];exact hB.obj,hB.room,hB.len,hB.rows,λi r c x hr hx=>?_,hB.own,hB.kept⟩
 obtain⟨x',h1,h2⟩:=hB.cell i r c x hr hx;exact⟨x',h1,h2.adv (λ_ _ h=>h) (λ_ _ _=>hc _)⟩
theorem Adv.same(hh:w'.heap=w.heap)(h1:w'.os=w.os)(h2:w'.tape=w.tape)(h3:w'.output=w.output)(h4:w.drawn<=w'.drawn):Adv W ρ H F w ρ H F w' :=
 ⟨.same hh h1 h2 h3 h4,.refl,λ_ _ h=>h,λ_ _ h=>.inl h,λ_ b h hn=>absurd rfl (hn b h)⟩
theorem Ad1.keep{base:Oe3}{b:c7}{cc:Array Value}{t:TypeId}{fr:Nat×Nat}(h:Ad1 W F w base b cc t fr)(hblk:w'.heap[base.blk]?=w.heap[base.blk]?)
  (hw:∀b o,F b o->w'.cell? ⟨b,o,none⟩=w.cell? ⟨b,o,none⟩):Ad1 W F w' base b cc t fr :=
 ⟨hblk.trans h.obj,h.room,h.len,h.rows,λi r c x hr hx=>by
  obtain⟨x',h1,h2⟩:=h.cell i r c x hr hx;exact⟨x',h1,h2.adv (λ_ _ h=>h) hw⟩,h.own,h.kept⟩
def ρnew(ρ:Rho)(H:List c7)(base:Oe3):Rho:=λid=>if id=H.length then base else ρ id
theorem J0.newAt(h:J0 W ρ H F w)(hos:w'.os=w.os)(htape:w'.tape=w.tape)(hout:w'.output=w.output)(hdrawn:w.drawn<=w'.drawn)(hsize:w.heap.size<=w'.heap.size)
  (hold:∀k,k<w.heap.size->w'.heap[k]?=w.heap[k]?) (gb:Nat) (hgb:w.heap.size<=gb)
  (et es:Nat) (elems:List (List b7)) (cc:Array Value) (t:TypeId) (hobj:w'.heap[gb]?=some (.cells cc t (0,0)))
  (hrows:∀(i:Nat) r,elems[i]?=some r->r.length=es) (hlen:elems.length*es<=cc.size)
  (hcell:∀(i:Nat) r (c:Nat) x,elems[i]?=some r->r[c]?=some x->∃x',cc[i*es+c]?=some x'/\fa8 F w x x') (ht:et≠0->t=et) :
  Adv W ρ H F w (ρnew ρ H ⟨gb,0,cc.size⟩) (H++[{ et,es,elems,own:=true,dead:=false,g:=0 }]) F w' /\
  J0 W (ρnew ρ H ⟨gb,0,cc.size⟩) (H++[{ et,es,elems,own:=true,dead:=false,g:=0 }]) F w':=by
 have hcells:∀b o,F b o->w'.cell? ⟨b,o,none⟩=w.cell? ⟨b,o,none⟩:=λb o hf=>by
  have:=hold b (oc6 (h.frz b o hf))
  simp[World.cell?,this]
 have hρ:∀id,id<H.length->ρnew ρ H ⟨gb,0,cc.size⟩ id=ρ id:=λid hid=>by
  simp[ρnew,Qan hid]
 have hρn:ρnew ρ H ⟨gb,0,cc.size⟩ H.length=⟨gb,0,cc.size⟩:=by simp[ρnew]
 have hlook:∀(id:Nat) b,(H++[{ et,es,elems,own:=true,dead:=false,g:=0 }])[id]?=some b->(id<H.length/\H[id]?=some b)\/(id=H.length/\b={ et,es,elems,own:=true,dead:=false,g:=0 }):=λid b hb=>by
  rcases Qaq id H.length with hh|hh
  ·rw[List.getElem?_append_left hh] at hb;exact .inl ⟨hh,hb⟩
  ·rw[List.getElem?_append_right hh] at hb;have h0:id-H.length=0:=by
    rcases Qav (id-H.length) with h0|h0
    ·exact h0
    ·rw[Qat (by simp;omega)] at hb;cases hb
   rw[h0] at hb;exact .inr ⟨by omega,by simpa using hb.symm⟩
 constructor
 ·refine⟨⟨hos,htape,hout,hsize,λk hk _=>hold k hk,hcells,hdrawn⟩,λid b hb=>?_,λ_ _ h=>h,λ_ _ h=>.inl h,λid b' hb' hn=>?_⟩
  ·grind
  ·rcases hlook id b' hb' with⟨_,h0⟩|⟨rfl,_⟩
   ·simp_all
   ·rw[hρn];exact h.new _ hgb
 ·refine⟨λid b hb hd=>?_,λid id' b b' hb hb' hd hd' ho hne=>?_,λb o hf=>by rw[hcells b o hf];exact h.frz b o hf,λk hk=>h.new k (by omega)⟩
  ·rcases hlook id b hb with⟨hid,hb0⟩|⟨rfl,rfl⟩
   ·obtain⟨cc',t',fr,hB⟩:=h.blk id b hb0 hd;rw[hρ id hid];exact⟨cc',t',fr,hB.keep (hold _ hB.lt) hcells⟩
   ·rw[hρn];refine⟨cc,t,(0,0),hobj,by simp,hlen,hrows,λi r c x hr hx=>?_,λ_=>⟨rfl,h.new _ hgb,rfl,rfl,λo hf=>?_,ht⟩,λhc=>by cases hc⟩
    ·obtain⟨x',h1,h2⟩:=hcell i r c x hr hx;exact⟨x',by simpa using h1,h2.adv (λ_ _ h=>h) hcells⟩
    ·have:=oc6 (h.frz _ _ hf)
     simp at this
     omega
  ·rcases hlook id b hb with⟨hid,hb0⟩|⟨rfl,rfl⟩<;>rcases hlook id' b' hb' with⟨hid',hb0'⟩|⟨rfl,rfl⟩
   ·rw[hρ id hid,hρ id' hid'];exact h.apart id id' b b' hb0 hb0' hd hd' ho hne
   ·rw[hρ id hid,hρn];obtain⟨cc',t',fr,hB⟩:=h.blk id b hb0 hd;exact Qan (Qam hB.lt hgb)
   ·rw[hρ id' hid',hρn];obtain⟨cc',t',fr,hB⟩:=h.blk id' b' hb0' hd';exact (Qan (Qam hB.lt hgb)).symm
   ·exact absurd rfl hne
theorem J0.alloc(h:J0 W ρ H F w)(et es:Nat)(elems:List (List b7))(cc:Array Value)(t:TypeId)
  (hrows:∀(i:Nat) r,elems[i]?=some r->r.length=es) (hlen:elems.length*es<=cc.size)
  (hcell:∀(i:Nat) r (c:Nat) x,elems[i]?=some r->r[c]?=some x->∃x',cc[i*es+c]?=some x'/\fa8 F w x x') (ht:et≠0->t=et) :
  Adv W ρ H F w (ρnew ρ H ⟨w.heap.size,0,cc.size⟩) (H++[{ et,es,elems,own:=true,dead:=false,g:=0 }]) F (w.alloc (.cells cc t)) /\
  J0 W (ρnew ρ H ⟨w.heap.size,0,cc.size⟩) (H++[{ et,es,elems,own:=true,dead:=false,g:=0 }]) F (w.alloc (.cells cc t)) :=
 h.newAt (w':=w.alloc (.cells cc t)) rfl rfl rfl (Qaf _) (by simp) (λk hk=>by simp only[World.alloc,Qau];rw[if_neg (Qan hk)]) w.heap.size (Qaf _) et es elems cc t
  (by simp only[World.alloc,Qau];simp) hrows hlen hcell ht
def ρset(ρ:Rho)(id:Nat)(base:Oe3):Rho:=λk=>if k=id then base else ρ k
theorem J0.moveAt(h:J0 W ρ H F w)(id:Nat)(b b':c7)(hb:H[id]?=some b)(hd:b.dead=false)(ho:b.own=true)
  (hos:w'.os=w.os) (htape:w'.tape=w.tape) (hout:w'.output=w.output) (hdrawn:w.drawn<=w'.drawn) (hsize:w.heap.size<=w'.heap.size)
  (hold:∀k,k<w.heap.size->k≠(ρ id).blk->w'.heap[k]?=w.heap[k]?) (gb:Nat) (hgb:gb=(ρ id).blk\/w.heap.size<=gb)
  (cc:Array Value) (t:TypeId) (hobj:w'.heap[gb]?=some (.cells cc t (0,0)))
  (e3:b'.own=true) (e4:b'.dead=false) (e5:b.g<b'.g) (het:b'.et≠0->t=b'.et)
  (hrows:∀(i:Nat) r,b'.elems[i]?=some r->r.length=b'.es) (hlen:b'.elems.length*b'.es<=cc.size)
  (hcell:∀(i:Nat) r (c:Nat) x,b'.elems[i]?=some r->r[c]?=some x->∃x',cc[i*b'.es+c]?=some x'/\fa8 F w x x') :
  Adv W ρ H F w (ρset ρ id ⟨gb,0,cc.size⟩) (H.set id b') F w'/\J0 W (ρset ρ id ⟨gb,0,cc.size⟩) (H.set id b') F w':=by
 have hid:id<H.length:=(Qab.1 hb).1;obtain⟨cc0,t0,fr0,hB0⟩:=h.blk id b hb hd;obtain⟨_,hW,hoff,hsz,hnF,_⟩:=hB0.own ho;have hcells:∀k o,F k o->w'.cell? ⟨k,o,none⟩=w.cell? ⟨k,o,none⟩:=λk o hf=>by
  have:=hold k (oc6 (h.frz k o hf)) (λe=>hnF o (e ▸ hf))
  simp[World.cell?,this]
 have hρ:∀k,k≠id->ρset ρ id ⟨gb,0,cc.size⟩ k=ρ k:=λk hk=>by simp[ρset,hk]
 have hρn:ρset ρ id ⟨gb,0,cc.size⟩ id=⟨gb,0,cc.size⟩:=by simp[ρset]
 have hlook:∀(k:Nat) c,(H.set id b')[k]?=some c->(k≠id/\H[k]?=some c)\/(k=id/\c=b'):=λk c hk=>by
  by_cases e:id=k
  ·subst e;simp[hid] at hk;exact .inr ⟨rfl,hk.symm⟩
  ·rw[Qah e] at hk;exact .inl ⟨λh=>e h.symm,hk⟩
 have hWg:W gb:=hgb.elim (λe=>e ▸ hW) (h.new gb)
 have hnFg:∀o,¬ F gb o:=λo hf=>hgb.elim (λe=>hnF o (e ▸ hf)) (λhle=>by have:=oc6 (h.frz gb o hf);omega)
 refine⟨⟨⟨hos,htape,hout,hsize,λk hk hw=>hold k hk (λe=>hw (e ▸ hW)),hcells,hdrawn⟩,λk c hk=>?_,λ_ _ h=>h,λ_ _ h=>.inl h,λk c hk hn=>?_⟩,?_⟩
 ·grind
 ·grind
 ·have hother : ∀ k c, k ≠ id → H[k]? = some c → c.dead = false → (ρ k).blk ≠ gb := fun k c hne hk hdc => by
   obtain⟨cc1,t1,fr1,hB1⟩:=h.blk k c hk hdc
   rcases hgb with e|hle
   ·rw[e];exact (h.apart id k b c hb hk hd hdc ho (Ne.symm hne)).symm
   ·exact Qan (Qam hB1.lt hle)
  refine⟨λk c hk hdc=>?_,λk k' c c' hk hk' hd1 hd2 hoc hne=>?_,λk o hf=>by rw[hcells k o hf];exact h.frz k o hf,λk hk=>h.new k (by omega)⟩
  ·rcases hlook k c hk with⟨hne,hk0⟩|⟨rfl,rfl⟩
   ·obtain⟨cc1,t1,fr1,hB1⟩:=h.blk k c hk0 hdc;rw[hρ k hne];exact⟨cc1,t1,fr1,hB1.keep (hold _ hB1.lt (h.apart id k b c hb hk0 hd hdc ho (Ne.symm hne)).symm) hcells⟩
   ·rw[hρn];refine⟨cc,t,(0,0),hobj,by simp,hlen,hrows,λi r x u hr hx=>?_,λ_=>⟨rfl,hWg,rfl,rfl,hnFg,het⟩,λhn=>by rw[e3] at hn;cases hn⟩
    obtain⟨x',h1,h2⟩:=hcell i r x u hr hx;exact⟨x',by simpa using h1,h2.adv (λ_ _ h=>h) hcells⟩
  ·rcases hlook k c hk with⟨hne1,hk0⟩|⟨rfl,rfl⟩<;>rcases hlook k' c' hk' with⟨hne2,hk0'⟩|⟨rfl,rfl⟩
   ·rw[hρ k hne1,hρ k' hne2];exact h.apart k k' c c' hk0 hk0' hd1 hd2 hoc hne
   ·simp_all
   ·grind
   ·exact absurd rfl hne
theorem J0.disown(h:J0 W ρ H F w)(id:Nat)(b:c7)(hb:H[id]?=some b)(hd:b.dead=false) :
  ∃F',Adv W ρ H F w ρ (H.set id { b with own:=false }) F' w/\J0 W ρ (H.set id { b with own:=false }) F' w /\
   (∀o,o<b.elems.length*b.es->F' (ρ id).blk ((ρ id).off+o)):=by
 obtain⟨cc,t,fr,hB⟩:=h.blk id b hb hd;have hid:id<H.length:=(Qab.1 hb).1;have hlook:∀(k:Nat) b',(H.set id { b with own:=false })[k]?=some b'->(k≠id/\H[k]?=some b')\/(k=id/\b'={ b with own:=false }):=λk b' hk=>by
  by_cases e:id=k
  ·subst e;simp[hid] at hk;exact .inr ⟨rfl,hk.symm⟩
  ·rw[Qah e] at hk;exact .inl ⟨λh=>e h.symm,hk⟩
 refine⟨λk o=>F k o\/(b.own=true/\k=(ρ id).blk/\(ρ id).off<=o/\o<(ρ id).off+b.elems.length*b.es),?_,?_,?_⟩
 ·refine⟨.refl,λk b' hk=>?_,λ_ _ h=>.inl h,λk o hk=>?_,λk b' hk hn=>?_⟩
  ·grind
  ·rcases hk with hk|⟨ho,rfl,_⟩
   ·exact .inl hk
   ·exact .inr (hB.own ho).2.1
  grind
 ·have hm:∀{x x'},fa8 F w x x'->fa8 (λk o=>F k o\/(b.own=true/\k=(ρ id).blk/\(ρ id).off<=o/\o<(ρ id).off+b.elems.length*b.es)) w x x':=λhx=>hx.adv (λ_ _ h=>.inl h) (λ_ _ _=>rfl)
  refine⟨λk b' hk hd'=>?_,λk k' c c' hk hk' hd1 hd2 ho hne=>?_,λk o hk=>?_,h.new⟩
  ·rcases hlook k b' hk with⟨hne,hk0⟩|⟨rfl,rfl⟩
   ·obtain⟨cc',t',fr',hB'⟩:=h.blk k b' hk0 hd';refine⟨cc',t',fr',hB'.obj,hB'.room,hB'.len,hB'.rows,λi r c x hr hx=>?_,λho=>?_,λho o hlt=>.inl (hB'.kept ho o hlt)⟩
    ·obtain⟨x',h1,h2⟩:=hB'.cell i r c x hr hx;exact⟨x',h1,hm h2⟩
    ·obtain⟨h1,h2,h3,h4,h5,h6⟩:=hB'.own ho;refine⟨h1,h2,h3,h4,λo hf=>?_,h6⟩
     rcases hf with hf|⟨_,he,_⟩
     ·exact h5 o hf
     ·exact h.apart k id b' b hk0 hb hd' hd ho hne he
   ·refine⟨cc,t,fr,hB.obj,hB.room,hB.len,hB.rows,λi r c x hr hx=>?_,(λho=>by cases ho),λ_ o hlt=>?_⟩
    ·obtain⟨x',h1,h2⟩:=hB.cell i r c x hr hx;exact⟨x',h1,hm h2⟩
    ·cases ho:b.own with
     |false=>exact .inl (hB.kept ho o hlt)
     |true=>exact .inr ⟨rfl,rfl,by omega,by simpa using hlt⟩
  ·rcases hlook k c hk with⟨hne1,hk0⟩|⟨rfl,rfl⟩
   ·rcases hlook k' c' hk' with⟨hne2,hk0'⟩|⟨rfl,rfl⟩
    ·exact h.apart k k' c c' hk0 hk0' hd1 hd2 ho hne
    ·exact h.apart k k' c b hk0 hb hd1 hd ho hne
   ·cases ho
  ·rcases hk with hk|⟨ho,rfl,h1,h2⟩
   ·exact h.frz k o hk
   ·rw[hB.cellAt]
    have:o<cc.size:=by have:=hB.room;have:=hB.len;omega
    simp[this]
 ·intro o hlt;cases ho:b.own with
  |false=>exact .inl (hB.kept ho o hlt)
  |true=>exact .inr ⟨rfl,rfl,by omega,by omega⟩
theorem J0.rewrite(h:J0 W ρ H F w)(id:Nat)(b b':c7)(hb:H[id]?=some b)(hd:b.dead=false)(ho:b.own=true)
  (cc:Array Value) (t:TypeId) (hB:Ad1 W F w (ρ id) b cc t (0,0)) (cc':Array Value) (hsz:cc'.size=cc.size)
  (e1:b'.es=b.es) (e2:b'.et=b.et) (e3:b'.own=true) (e4:b'.dead=false) (e5:b.g<=b'.g) (e6:b'.g=b.g->b.elems.length<=b'.elems.length)
  (hlen:b'.elems.length*b.es<=(ρ id).size) (hrows:∀(i:Nat) r,b'.elems[i]?=some r->r.length=b.es)
  (hcell:∀(i:Nat) r (c:Nat) x,b'.elems[i]?=some r->r[c]?=some x->∃x',cc'[i*b.es+c]?=some x'/\fa8 F w x x') :
  Adv W ρ H F w ρ (H.set id b') F (w.setRow (ρ id).blk cc')/\J0 W ρ (H.set id b') F (w.setRow (ρ id).blk cc'):=by
 have hid:id<H.length:=(Qab.1 hb).1;obtain⟨_,hW,hoff,hsize,hnF,het⟩:=hB.own ho;have hother:∀k,k≠(ρ id).blk->(w.setRow (ρ id).blk cc').heap[k]?=w.heap[k]?:=λk hk=>setRow_other w _ k _ hk
 have hcells:∀k o,F k o->(w.setRow (ρ id).blk cc').cell? ⟨k,o,none⟩=w.cell? ⟨k,o,none⟩:=λk o hf=>by
  have:k≠(ρ id).blk:=λe=>hnF o (e ▸ hf)
  simp[World.cell?,hother k this]
 have hlook:∀(k:Nat) c,(H.set id b')[k]?=some c->(k≠id/\H[k]?=some c)\/(k=id/\c=b'):=λk c hk=>by
  by_cases e:id=k
  ·subst e;simp[hid] at hk;exact .inr ⟨rfl,hk.symm⟩
  ·rw[Qah e] at hk;exact .inl ⟨λh=>e h.symm,hk⟩
 refine⟨⟨⟨rfl,rfl,rfl,by simp,λk _ hk=>hother k (λe=>hk (e ▸ hW)),hcells,Qaf _⟩,λk c hk=>?_,λ_ _ h=>h,λ_ _ h=>.inl h,λk c hk hn=>?_⟩,?_⟩
 ·grind
 ·grind
 ·refine⟨λk c hk hdc=>?_,λk k' c c' hk hk' hd1 hd2 hoc hne=>?_,λk o hf=>by rw[hcells k o hf];exact h.frz k o hf,λk hk=>h.new k (by simpa using hk)⟩
  ·rcases hlook k c hk with⟨hne,hk0⟩|⟨rfl,rfl⟩
   ·obtain⟨cc1,t1,fr1,hB1⟩:=h.blk k c hk0 hdc;exact⟨cc1,t1,fr1,hB1.keep (hother _ (h.apart id k b c hb hk0 hd hdc ho (Ne.symm hne)).symm) hcells⟩
   ·refine⟨cc',t,(0,0),setRow_heap w _ cc _ t _ hB.obj,by rw[hsz];exact hB.room,by rw[e1];exact hlen,by rw[e1];exact hrows,λi r x u hr hx=>?_,λ_=>⟨rfl,hW,hoff,by rw[hsz];exact hsize,hnF,by rw[e2];exact het⟩,λhn=>by rw[e3] at hn;cases hn⟩
    rw[e1,hoff,Qar];obtain⟨x',h1,h2⟩:=hcell i r x u hr hx;exact⟨x',h1,h2.adv (λ_ _ h=>h) hcells⟩
  ·rcases hlook k c hk with⟨hne1,hk0⟩|⟨rfl,rfl⟩<;>rcases hlook k' c' hk' with⟨hne2,hk0'⟩|⟨rfl,rfl⟩
   ·exact h.apart k k' c c' hk0 hk0' hd1 hd2 hoc hne
   ·exact h.apart k k' c b hk0 hb hd1 hd hoc hne
   ·exact h.apart k k' b c' hb hk0' hd hd2 ho hne
   ·exact absurd rfl hne
theorem J0.pull{ρ':Rho}{H':List c7}(h:J0 W ρ H F w)(π:Nat->Nat)(hπ:∀(i:Nat) b,H'[i]?=some b->b.dead=false->H[π i]?=some b/\ρ' i=ρ (π i))(inj:∀(i i':Nat) b b',H'[i]?=some b->b.dead=false->H'[i']?=some b'->b'.dead=false->π i=π i'->i=i'):J0 W ρ' H' F w:=by
 refine⟨λid b hb hd=>?_,λid id' b b' hb hb' hd hd' ho hne=>?_,h.frz,h.new⟩
 ·obtain⟨h1,h2⟩:=hπ id b hb hd;rw[h2];exact h.blk _ b h1 hd
 ·obtain⟨h1,h2⟩:=hπ id b hb hd;obtain⟨h3,h4⟩:=hπ id' b' hb' hd';rw[h2,h4];exact h.apart _ _ b b' h1 h3 hd hd' ho λe=>hne (inj id id' b b' hb hd hb' hd' e)
end
def szT(P:Program)(t:TypeId):Nat :=
 match P.info? t with
 |some i=>i.size
 |none=>0
def byT(P:Program)(t:TypeId):Nat :=
 match P.info? t with
 |some i=>i.bytes
 |none=>0
def agT(P:Program)(t:TypeId):Bool :=
 match P.underlying t with
 |some (.struct _) | some (.array _ _)=>true
 |_=>false
def zeT(P:Program)(t:TypeId):Option (List b7) :=
 match P.info? t with
 |some i=>match i.zero with
  |some z=>if z.cells.toList.all zd9 then some (z.cells.toList.map .v) else none
  |none=>none
 |none=>none
def sf7(P:Program)(t:TypeId):Bool :=
 match P.info? t with
 |some i=>match i.zero with
  |some z=>Nat.beq z.cells.size i.size
  |none=>false
 |none=>false
def le2(P:Program)(sl:Bool):Nat->TypeId->List CK
 |0,t=>List.replicate (szT P t) .any
 |d+1,t=>match P.underlying t with
  |some (.int k)=>[.int k]
  |some .bool=>[.bool]
  |some (.slice e)=>match sl with
   |true=>[.sl (szT P e)]
   |false=>[.any]
  |some (.struct fs)=>fs.toList.flatMap λf=>le2 P sl d f.type
  |some (.array n e)=>(List.replicate n (le2 P sl d e)).flatten
  |_=>List.replicate (szT P t) .any
def o7:Operand->Arg
 |.tmp t=>.t t
 |.const v=>.c (ofVal v)
 |.global g=>.g g
 |.func f=>.c (.fn f [])
def Xc1(P:Program)(t:TypeId)(i:Nat):Option (Nat×Nat) :=
 match P.underlying t with
 |some (.struct fs)=>match fs[i]? with
  |some f=>some (f.offset,szT P f.type)
  |none=>none
 |some (.array _ e)=>some (i*szT P e,szT P e)
 |some (.slice e)=>some (i*szT P e,szT P e)
 |_=>none
def xb4(P:Program)(t:TypeId):List (Nat×Operand)->Option (List (Nat×Nat×Arg))
 |[]=>some []
 |(i,x)::r=>match Xc1 P t i with
  |some (off,size)=>match xb4 P t r with
   |some l=>some ((off,size,o7 x)::l)
   |none=>none
  |none=>none
def vd1(o:Oper):Oper:={ o with dst:=none,pos := "", after:=#[],guard:=none }
def pb2:List Operand->Option (List Nat)
 |[]=>some []
 |.tmp t::r=>match pb2 r with
  |some l=>some (t::l)
  |none=>none
 |.global _::_=>none
 |_::r=>pb2 r
def le3(P:Program)(t:TypeId):Bool :=
 match P.underlying t with
 |some (.struct fs)=>fs.all λf=>(P.info? f.type).isSome
 |some (.array _ e)=>(P.info? e).isSome
 |_=>false
def Xc2(o:Oper):PO :=
 match pb2 o.op.operands.toList with
 |some ts=>.gen (vd1 o) ts
 |none=>.bad
def Ba9:List (Option (List (Nat×CK)))->Option (List (Nat×CK))
 |[]=>some []
 |x::r=>match x,Ba9 r with
  |some a,some b=>some (a++b)
  |_,_=>none
def Cc6(off n:Nat)(x:Option (List (Nat×CK))):Option (List (Nat×CK)):=match x with
 |some l=>if l.all (λp=>Nat.blt p.1 n) then some (l.map λp=>(off+p.1,p.2)) else none
 |none=>none
def ka2(P:Program):Nat->TypeId->Option (List (Nat×CK))
 |0,_=>none
 |d+1,t=>match P.underlying t with
  |some (.int k)=>some [(0,.int k)]
  |some .bool=>some [(0,.bool)]
  |some (.struct fs)=>if P.stoodInHeld t then none else Ba9 (fs.toList.map λf=>if f.name = "_" then none else Cc6 f.offset (szT P f.type) (ka2 P d f.type))
  |some (.array n e)=>if (P.info? e).isSome then Ba9 ((List.range n).map λi=>Cc6 (i*szT P e) (szT P e) (ka2 P d e)) else none
  |_=>none
def Yb5(P:Program)(t:TypeId):Nat :=
 match P.underlying t with
 |some (.slice _)=>0
 |some (.pointer _)=>1
 |some (.func _ _ _)=>2
 |_=>3
def dg6(P:Program)(o:Oper)(op:BinOp)(t:TypeId)(x y:Operand):PO :=
 match op with
 |.eql=>if agT P t then (match ka2 P 9 t with | some fl=>if P.eqGuardType P.depth t then .bad else .eqc false fl (o7 x) (o7 y) | none=>.bad) else match pb2 o.op.operands.toList with
  |some ts=>.eqn (Yb5 P t) false (o7 x) (o7 y) (vd1 o) ts
  |none=>.bad
 |.neq=>if agT P t then (match ka2 P 9 t with | some fl=>if P.eqGuardType P.depth t then .bad else .eqc true fl (o7 x) (o7 y) | none=>.bad) else match pb2 o.op.operands.toList with
  |some ts=>.eqn (Yb5 P t) true (o7 x) (o7 y) (vd1 o) ts
  |none=>.bad
 |_=>Xc2 o
def le4(P:Program):List Operand->List TypeId->PO
 |[s,x],[t,u]=>match P.underlying t with
  |some (.slice e)=>if Nat.blt 0 (szT P e)&&Nat.blt 0 (byT P e)&&sf7 P e&&!(Nat.beq e 0)&&Nat.beq t u then .append e (szT P e) (byT P e) (o7 s) (o7 x) else .bad
  |_=>.bad
 |_,_=>.bad
def qg5(P:Program):List Operand->List TypeId->PO
 |[d,s],[t,_]=>match P.underlying t with
  |some (.slice e)=>if (P.info? e).isSome then .copy (szT P e) (o7 d) (o7 s) else .bad
  |_=>.bad
 |_,_=>.bad
def dg7(P:Program):List Operand->List TypeId->PO
 |[x],[t]=>match P.underlying t with
  |some (.slice e)=>match zeT P e with
   |some z=>if Nat.blt 0 (szT P e) then .clr (szT P e) z (o7 x) else .bad
   |none=>.bad
  |_=>.bad
 |_,_=>.bad
def dg8(P:Program)(o:Oper):List Operand->List TypeId->PO
 |[x],[t]=>match P.underlying t with
  |some (.slice _)=>.len (o7 x)
  |some (.array n _)=>.mv (.c (.v (.int .i64 n)))
  |some .string=>.slen (o7 x)
  |_=>.bad
 |_,_=>.bad
def cOp(P:Program)(o:Oper):PO :=
 match o.op with
 |.move x | .assign x=>.mv (o7 x)
 |.nilCheck x=>.nilck (o7 x)
 |.pick c x y=>.pick (o7 c) (o7 x) (o7 y)
 |.alloc t=>match zeT P t with
  |some z=>.alloc z
  |none=>.bad
 |.box _ x=>.box (o7 x)
 |.build t parts=>match zeT P t with
  |some z=>match xb4 P t parts.toList with
   |some l=>if le3 P t then .build z l else .bad
   |none=>.bad
  |none=>.bad
 |.buildSlice t n parts=>match P.underlying t with
  |some (.slice e)=>match zeT P e with
   |some z=>match xb4 P t parts.toList with
    |some l=>if Nat.ble (n*szT P e) 16777216&&Nat.beq z.length (szT P e)&&Nat.blt 0 (szT P e) then .bslice e (szT P e) n (List.replicate n z).flatten l else .bad
    |none=>.bad
   |none=>.bad
  |_=>.bad
 |.load t x=>match P.underlying t with
  |some _=>.load (le2 P true 8 t) (szT P t) (agT P t) (o7 x)
  |none=>.bad
 |.store t x y=>if Nat.beq (szT P t) 0 then .bad else .store (szT P t) (o7 x) (o7 y)
 |.fieldAddr s x f=>match P.underlying s with
  |some (.struct fs)=>match fs[f]? with
   |some fd=>if Nat.beq (szT P fd.type) 0 then .bad else .fld fd.offset (o7 x)
   |none=>.bad
  |_=>.bad
 |.indexAddr t x i=>match P.underlying t with
  |some (.array n e)=>if (P.info? e).isSome then .idxA n (szT P e) (o7 x) (o7 i) else .bad
  |some (.slice e)=>if (P.info? e).isSome then .idxS (szT P e) (o7 x) (o7 i) else .bad
  |_=>.bad
 |.slice t x lo hi mx=>match P.underlying t,mx with
  |some (.slice e),none=>if (P.info? e).isSome then .slice (szT P e) (o7 x) (lo.map o7) (hi.map o7) else .bad
  |some (.array n e),none=>match lo,hi with
   |none,none=>if (P.info? e).isSome&&(Nat.blt 0 n&&Nat.blt 0 (szT P e)) then .asl n (szT P e) (o7 x) else .bad
   |_,_=>.bad
  |some .string,none=>Xc2 o
  |_,_=>.bad
 |.makeSlice t l c=>match P.underlying t with
  |some (.slice e)=>match zeT P e with
   |some z=>if Nat.beq z.length (szT P e)&&Nat.blt 0 (szT P e) then .mksl e (szT P e) (byT P e) z (o7 l) (o7 c) else .bad
   |none=>.bad
  |_=>.bad
 |.makeFunc (.func f) first caps=>if first.isEmpty then (if Nat.ble bfB f then .bad else .mkfn f (caps.toList.map o7)) else if caps.isEmpty then .mkfn (f+bfB) (first.toList.map o7) else .bad
 |.extract x i=>.ext (o7 x) i
 |.field t x f=>match P.underlying t with
  |some (.struct fs)=>match fs[f]? with
   |some fd=>if (P.underlying fd.type).isSome then .field fd.offset (szT P fd.type) (agT P fd.type) (o7 x) else .bad
   |none=>.bad
  |_=>.bad
 |.index t x i=>match P.underlying t with
  |some (.array n e)=>if (P.underlying e).isSome then .index (le2 P false 8 e) n (szT P e) (agT P e) (o7 x) (o7 i) else .bad
  |some .string=>.sidx (o7 x) (o7 i)
  |_=>.bad
 |.binOp op t x y _ =>
  let plain:=Xc2 o
  match P.underlying t with
  |some (.int _)=>match op with
   |.add | .sub | .mul | .quo | .rem | .lss | .leq | .gtr | .geq | .eql | .neq | .and | .shr=>.bin op (o7 x) (o7 y)
   |_=>plain
  |_=>dg6 P o op t x y
 |.unOp op t x =>
  match op,P.underlying t with
  |.not,_=>.not (o7 x)
  |.neg,some (.int _)=>.neg (o7 x)
  |_,_=>Xc2 o
 |.call c=>match c.callee with
  |.value (.func f)=>.call f (c.args.toList.map o7)
  |.value x=>.calld (o7 x) (c.args.toList.map o7)
  |.invoke _ _=>.bad
  |.builtin b=>match b with
   |.append=>le4 P c.args.toList c.argTypes.toList
   |.clear=>dg7 P c.args.toList c.argTypes.toList
   |.len=>dg8 P o c.args.toList c.argTypes.toList
   |.max=>Xc2 o
   |.min=>Xc2 o
   |_=>.bad
 |.convert _ _ _=>Xc2 o
 |.makeInterface _ _=>Xc2 o
 |.typeAssert _ _ _ _=>Xc2 o
 |_=>.bad
def la5(ops:Array Oper)(o:Oper):Option (Option (Nat×Bool)) :=
 match o.guard with
 |none=>some none
 |some (j,want)=>match ops[j]? with
  |some oj=>match oj.dst with
   |some d=>some (some (d,want))
   |none=>none
  |none=>none
def qg6(ops:Array Oper)(s:Nat):Bool:=ops.toList.any λq=>match q.op,q.dst with
 |.slice _ _ none (some _) none,some d=>Nat.beq d s
 |_,_=>false
def qg7(P:Program)(ops:Array Oper)(po:PO):List Operand->List TypeId->PO
 |[.tmp s,x],[t,u]=>match P.underlying t with
  |some (.slice e)=>if qg6 ops s&&(Nat.blt 0 (szT P e)&&Nat.beq t u) then .apre (szT P e) (.t s) (o7 x) else po
  |_=>po
 |_,_=>po
def ic9(P:Program)(ops:Array Oper)(o:Oper):PO:=match o.op with
 |.call c=>match c.callee with
  |.builtin .append=>qg7 P ops (cOp P o) c.args.toList c.argTypes.toList
  |_=>cOp P o
 |_=>cOp P o
def Xc3(P:Program)(ops:Array Oper):List Oper->Option (List PI)
 |[]=>some []
 |o::r=>match la5 ops o with
  |some g=>match Xc3 P ops r with
   |some l=>some (⟨o.dst,g,[],ic9 P ops o⟩::l)
   |none=>none
  |none=>none
def Bb4(o:Oper):Bool:=match o.op with
 |.alloc _=>o.guard.isNone
 |.buildSlice _ n ps=>match n,ps.toList with
  |0,[]=>o.guard.isNone
  |_,_=>false
 |_=>false
def Ed1:PO->Bool
 |.mv _ | .nilck _ | .pick .. | .build .. | .tslice .. | .tmk .. | .load .. | .fld .. | .idxA .. | .idxS .. | .slice .. | .mkfn .. | .ext .. | .field .. | .index .. | .bin .. | .eqn .. | .eqc .. | .not _ | .neg _ | .gen .. | .len _ | .sidx .. | .slen _=>true
 |_=>false
def Pa9:Arg->List Nat
 |.t n=>[n]
 |_=>[]
def Oe5:Option Arg->List Nat
 |some x=>Pa9 x
 |none=>[]
def Yb6:PO->List Nat
 |.mv x | .nilck x | .box x | .load _ _ _ x | .fld _ x | .ext x _ | .field _ _ _ x | .not x | .neg x | .len x | .slen x | .clr _ _ x | .asl _ _ x=>Pa9 x
 |.pick c x y=>Pa9 c++Pa9 x++Pa9 y
 |.alloc _ | .bad=>[]
 |.build _ ps | .bslice _ _ _ _ ps | .tslice _ _ _ ps=>ps.flatMap λp=>Pa9 p.2.2
 |.store _ x y | .idxA _ _ x y | .idxS _ x y | .mksl _ _ _ _ x y | .tmk _ _ _ x y | .index _ _ _ _ x y | .bin _ x y | .eqc _ _ x y | .append _ _ _ x y | .copy _ x y | .apre _ x y | .sidx x y=>Pa9 x++Pa9 y
 |.eqn _ _ x y _ ts=>Pa9 x++Pa9 y++ts
 |.slice _ x lo hi=>Pa9 x++Oe5 lo++Oe5 hi
 |.mkfn _ xs | .call _ xs=>xs.flatMap Pa9
 |.gen _ ts=>ts
 |.calld x xs | .invk _ x xs=>Pa9 x++xs.flatMap Pa9
def Xc4:Option (Nat×Bool)->List Nat
 |some (d,_)=>[d]
 |none=>[]
def L3(o:Oper):List Nat:=(o.after.toList.filter λe=>Region.binds .any e).map (·.on)
def le5(ops:Array Oper)(M:List Nat):Bool :=
 (List.range ops.size).all λj=>match ops[j]? with
  |some o=>(L3 o).all (Nat.blt · j)&&(List.range ops.size).all λi=>!(M.getD j 0).testBit i||(L3 o).any λm=>Nat.beq m i||(M.getD m 0).testBit i
  |none=>false
def G9(M:List Nat)(i j:Nat):Bool:=(M.getD j 0).testBit i
def oc7:PO->Bool
 |.load .. | .idxS .. | .slice .. | .store .. | .append .. | .copy .. | .apre .. | .clr .. | .call .. | .calld .. | .invk ..=>false
 |_=>true
def Kf5(ops:Array Oper)(M:List Nat)(j:Nat)(loose:Bool)(reads:List Nat)(dst:Option Nat):Bool :=
 (List.range ops.size).all λi=>match ops[i]? with
  |some o=>match o.dst with
   |some d=>(!(reads.contains d)||G9 M i j||(loose&&!Bb4 o&&(G9 M j i||Nat.beq i j)))&&(Nat.beq i j||dst != some d)
   |none=>true
  |none=>false
def dg9:b7->Bool
 |.v (.slice none _ _)=>true
 |_=>false
def Qb9(tr:Nat)(o:PO):PO:=match o with
 |.bslice et es n z ps=>match Nat.beq tr 0||Nat.beq n 0||(Nat.beq tr 1&&z.any dg9) with
  |true=>.bslice et es n z ps
  |false=>.tslice es n z ps
 |.mksl et es bytes z l c=>match Nat.beq tr 0 with
  |true=>.mksl et es bytes z l c
  |false=>.tmk es bytes z l c
 |.asl ..=>.bad
 |o=>o
def Tc7(tr:Nat)(P:Program)(ops:Array Oper)(o:Oper):Nat:=if Bb4 o then 0 else if Ed1 (Qb9 tr (ic9 P ops o)) then 1 else 2
def nd4(ops:Array Oper)(M:List Nat)(j:Nat):List Nat:=(List.range ops.size).filterMap λi=>match ops[i]? with
 |some oi=>if Bb4 oi&&!G9 M i j then oi.dst else none
 |none=>none
def cPI(tr:Nat)(P:Program)(ops:Array Oper)(M:List Nat)(j:Nat)(o:Oper):Option (Nat×PI) :=
 match la5 ops o with
 |some g=>some (Tc7 tr P ops o,⟨o.dst,g,if Nat.beq (Tc7 tr P ops o) 2 then nd4 ops M j else [],Qb9 tr (ic9 P ops o)⟩)
 |none=>none
def ye1(tr:Nat)(P:Program)(ops:Array Oper)(M:List Nat):Nat->List Oper->Option (List (Nat×PI))
 |_,[]=>some []
 |j,o::r=>match cPI tr P ops M j o,ye1 tr P ops M (j+1) r with
  |some x,some l=>some (x::l)
  |_,_=>none
def Yb7(ks:List (Nat×PI))(j:Nat):Option PI:=match ks[j]? with
 |some (0,p)=>some p
 |_=>none
def Tc8(ks:List (Nat×PI))(j:Nat):Option PI:=match ks[j]? with
 |some (_+1,p)=>some p
 |_=>none
def Ed2:Arg->Bool
 |.c x=>match x with
  |.ptr .. | .sl ..=>false
  |_=>true
 |_=>true
def ye2:PO->Bool
 |.load _ _ _ x=>Ed2 x
 |.idxS _ x _=>Ed2 x
 |.slice _ x _ _=>Ed2 x
 |_=>true
def Nc8(ops:Array Oper)(M:List Nat)(ks:List (Nat×PI))(j:Nat):Bool:=match ks[j]? with
 |some (k,p)=>Kf5 ops M j (oc7 p.op) (Xc4 p.guard++Yb6 p.op) p.dst&&ye2 p.op&&(!Nat.beq k 0||p.dst.isSome)&&(!Nat.beq k 2||(List.range j).all λi=>match ks[i]? with
  |some (2,_)=>G9 M i j&&Nat.beq ((M.getD i 0) &&& (M.getD j 0)) (M.getD i 0)
  |_=>true)
 |none=>false
def Qa9(n:Nat)(M:List Nat)(ks:List (Nat×PI)):List (PO×PO):=(List.range n).flatMap λj=>match ks[j]? with
 |some (1,pj)=>(List.range n).filterMap λi=>match ks[i]? with
  |some (2,pi)=>if G9 M i j||G9 M j i then none else some (pj.op,pi.op)
  |_=>none
 |_=>[]
def Gd4(ops:Array Oper)(M:List Nat)(ks:List (Nat×PI)):PC :=
 match le5 ops M&&(List.range ops.size).all (Nc8 ops M ks) with
 |true=>.draw (ops.toList.filterMap (·.dst)) ((List.range ops.size).filterMap (Yb7 ks)) ((List.range ops.size).filterMap (Tc8 ks)) (Qa9 ops.size M ks)
 |false=>.bad
def pb3(tr:Nat)(P:Program)(ops:Array Oper):PC :=
 let M:=(Region.before ops).toList
 match ye1 tr P ops M 0 ops.toList with
 |some ks=>Gd4 ops M ks
 |none=>.bad
def bb6(P:Program)(ops:Array Oper):PC :=
 match pb3 0 P ops with
 |.draw a b c d=>.draw a b c d
 |_=>match pb3 1 P ops with
  |.draw a b c d=>.draw a b c d
  |_=>pb3 2 P ops
def cd8(P:Program):Code->PC
 |.skip=>.skip
 |.region _ ops d=>match d with
  |false=>match Xc3 P ops ops.toList with
   |some l=>.ops l
   |none=>.bad
  |true=>bb6 P ops
 |.seq a b=>.seq (cd8 P a) (cd8 P b)
 |.cond c x y=>.cond (o7 c) (cd8 P x) (cd8 P y)
 |.block id c=>.block id (cd8 P c)
 |.loop c=>.loop [] (cd8 P c)
 |.scope c=>cd8 P c
 |.label _=>.skip
 |.exit id=>.exit id
 |.ret=>.ret
 |_=>.bad
def bit(n:Nat):Nat:=2 ^ n
def less(s n:Nat):Nat:=if s.testBit n then s-2 ^ n else s
def Gd5:Arg->Nat
 |.t n=>bit n
 |_=>0
def Ye7(l:List Arg):Nat:=l.foldl (λs x=>s ||| Gd5 x) 0
def qg8:Option Arg->Nat
 |some x=>Gd5 x
 |none=>0
def rOp:PO->Nat
 |.mv x | .nilck x | .box x | .load _ _ _ x | .fld _ x | .ext x _ | .field _ _ _ x | .not x | .neg x | .len x | .slen x | .clr _ _ x | .asl _ _ x=>Gd5 x
 |.pick c x y=>Gd5 c ||| Gd5 x ||| Gd5 y
 |.alloc _ | .bad=>0
 |.build _ ps | .bslice _ _ _ _ ps | .tslice _ _ _ ps=>Ye7 (ps.map (·.2.2))
 |.store _ x y | .idxA _ _ x y | .idxS _ x y | .mksl _ _ _ _ x y | .tmk _ _ _ x y | .index _ _ _ _ x y | .bin _ x y | .eqc _ _ x y | .eqn _ _ x y _ _ | .append _ _ _ x y | .copy _ x y | .apre _ x y | .sidx x y=>Gd5 x ||| Gd5 y
 |.slice _ x lo hi=>Gd5 x ||| qg8 lo ||| qg8 hi
 |.mkfn _ xs | .call _ xs=>Ye7 xs
 |.gen _ ts=>Ye7 (ts.map .t)
 |.calld x xs | .invk _ x xs=>Gd5 x ||| Ye7 xs
def eg0:Option (Nat×Bool)->Nat
 |some (d,_)=>bit d
 |none=>0
def le6:List PI->Nat->Nat
 |[],out=>out
 |o::r,out =>
  let s:=le6 r out
  (match o.dst with | some d=>less s d | none=>s) ||| rOp o.op ||| eg0 o.guard
def live(ret:Nat):PC->Nat->(Nat->Nat)->Nat
 |.skip,out,_=>out
 |.ops l,out,_=>le6 l out
 |.draw _ asq l _,out,_=>le6 (asq++l) out
 |.seq a b,out,ex=>live ret a (live ret b out ex) ex
 |.cond c x y,out,ex=>Gd5 c ||| live ret x out ex ||| live ret y out ex
 |.block id c,out,ex=>live ret c out (λk=>if k==id then out else ex k)
 |.loop _ c,_,ex =>
  let l1:=live ret c 0 ex
  let l2:=live ret c l1 ex
  l2 ||| live ret c l2 ex
 |.exit id,_,ex=>ex id
 |.ret,_,_=>ret
 |.bad,_,_=>0
 |.mask ..,_,_=>0
 |.sp ..,_,_=>0
 |.inner ..,_,_=>0
 |.round ..,_,_=>0
 |.loopM ..,_,_=>0
 |.adopt _,_,_=>0
def eg1(n s:Nat):List Nat:=(List.range n).filter (s.testBit ·)
def note(n ret:Nat):PC->Nat->(Nat->Nat)->PC
 |.seq a b,out,ex=>.seq (note n ret a (live ret b out ex) ex) (note n ret b out ex)
 |.cond c x y,out,ex=>.cond c (note n ret x out ex) (note n ret y out ex)
 |.block id c,out,ex=>.block id (note n ret c out (λk=>if k==id then out else ex k))
 |.loop _ c,_,ex =>
  let l1:=live ret c 0 ex
  let l2:=l1 ||| live ret c l1 ex
  let l3:=l2 ||| live ret c l2 ex
  .loop (eg1 n l3) (note n ret c l3 ex)
 |c,_,_=>c
def Gd6(P:Program):ResultVar->nd3
 |.tmp t=>.t t
 |.cell a t=>.cell a (szT P t) (agT P t)
def ye3(P:Program):ResultVar->Bool
 |.tmp _=>true
 |.cell _ t=>(P.underlying t).isSome
def Kf6:List nd3->Nat
 |[]=>0
 |.t n::r=>bit n ||| Kf6 r
 |.cell a _ _::r=>bit a ||| Kf6 r
def Nc9(P:Program)(fn:Func):Option PFn :=
 match fn.body with
 |some c =>
  let res:=fn.results.toList.map (Gd6 P)
  if fn.results.toList.all (ye3 P) then some ⟨fn.ntmps,res,note fn.ntmps (Kf6 res) (cd8 P c) (Kf6 res) (λ_=>0)⟩ else none
 |none=>none
section
variable{W:Nat->Prop}{ρ ρ':Rho}{H H':List c7}{F F':Fz}{w w':World}
theorem fa0{x x':Value}(h:K8 ρ H F w (.v x) x'):x'=x:=by
 cases h with
 |val h=>cases h with
  |cell h=>cases h with
   |mem h=>cases h;rfl
   |v=>rfl
theorem Za9{id i c g:Nat}{x':Value}(h:K8 ρ H F w (.ptr id i c g) x'):∃(a:Addr) (b:c7),x'=.pointer (some a)/\H[id]?=some b/\b.dead=false/\g<=b.g/\(b.g=g->a=⟨(ρ id).blk,(ρ id).off+(i*b.es+c),none⟩):=by
 cases h with
 |val h=>cases h with
  |cell h=>cases h with
   |mem h=>cases h
   |ptr _ _ _ _ a b hb hd hg h=>exact⟨a,b,rfl,hb,hd,hg,h⟩
theorem lb3{id off n g:Nat}{x':Value}(h:K8 ρ H F w (.sl id off n g) x'):∃(a:Addr) (cap:Nat) (b:c7),x'=.slice (some a) n cap/\H[id]?=some b/\b.dead=false/\g<=b.g/\n<=cap/\a.spot=none/\cap<=maxLen /\
  (b.g=g->((cap=0/\0<off)\/a=⟨(ρ id).blk,(ρ id).off+off*b.es,none⟩)/\(off+cap)*b.es=(ρ id).size/\off+n<=b.elems.length):=by
 cases h with
 |val h=>cases h with
  |cell h=>cases h with
   |mem h=>cases h
   |sl _ _ _ _ a cap b hb hd hg hn hs hm h=>exact⟨a,cap,b,rfl,hb,hd,hg,hn,hs,hm,h⟩
theorem Ea8{es n:Nat}{get:Nat->List b7}{x':Value}(h:K8 ρ H F w (.tree es n get) x'):fa8 F w (.tree es n get) x':=by
 cases h with
 |val h=>cases h with
  |cell h=>cases h with
   |mem h=>exact h
theorem jc0{cs:List b7}{x':Value}(h:K8 ρ H F w (.tptr cs) x'):∃(a:Addr) (vs:Nat->Value),x'=.pointer (some a)/\a.spot=none/\(∀c,c<cs.length->F a.block (a.off+c)) /\
  (∀c,c<cs.length->w.cell? ⟨a.block,a.off+c,none⟩=some (vs c))/\∀c (hc:c<cs.length),fa8 F w (cs[c]) (vs c):=by
 cases h with
 |val h=>cases h with
  |cell h=>cases h with
   |mem h=>cases h
   |tptr _ a vs hs hF hw hr=>exact⟨a,vs,rfl,hs,hF,hw,hr⟩
theorem Ja5{cs:List b7}{x':Value}(h:K8 ρ H F w (.agg cs) x'):∃vs:Array Value,x'=.agg vs/\cs.length=vs.size/\∀(i:Nat) x x',cs[i]?=some x->vs[i]?=some x'->ea9 ρ H F w x x':=by
 cases h with
 |val h=>cases h with
  |cell h=>cases h with
   |mem h=>cases h
  |agg _ vs hl h=>exact⟨vs,rfl,hl,h⟩
theorem le7{cs:List b7}{x':Value}(h:K8 ρ H F w (.tup cs) x'):∃vs:Array Value,x'=.tuple vs/\cs.length=vs.size/\∀(i:Nat) x x',cs[i]?=some x->vs[i]?=some x'->ra2 ρ H F w x x':=by
 cases h with
 |val h=>cases h with
  |cell h=>cases h with
   |mem h=>cases h
 |tup _ vs hl h=>exact⟨vs,rfl,hl,h⟩
theorem dc3{f:FuncId}{cs:List b7}{x':Value}(h:K8 ρ H F w (.fn f cs) x'):∃vs:Array Value,x'=Qb8 f vs/\cs.length=vs.size/\∀(i:Nat) x x',cs[i]?=some x->vs[i]?=some x'->ea9 ρ H F w x x':=by
 cases h with
 |val h=>cases h with
  |cell h=>cases h with
   |mem h=>cases h with
    | fn _ _ vs _ e hl hb h => exact ⟨vs, e, hl, fun i x x' hx hx' => by
      obtain⟨h1,rfl⟩:=Qab.1 hx;obtain⟨h2,rfl⟩:=Qak.1 hx';exact .mem (h i h1 h2)⟩
  |fn _ _ vs hl h=>exact⟨vs,rfl,hl,h⟩
theorem ra2.ofVal1(v:Value):ra2 ρ H F w (ofVal1 v) v:=by
 cases v with
 |agg cs =>
  exact .agg _ cs (by simp) λi x x' hx hx'=>by
   simp at hx
   obtain⟨y,hy,rfl⟩:=hx;rw[hy] at hx';injection hx' with e;subst e;exact .v _
 |_=>exact .cell (.v _)
theorem K8.ofVal(v:Value):K8 ρ H F w (ofVal v) v:=by
 cases v with
 |agg cs=>exact .val (ra2.ofVal1 (.agg cs))
 |tuple vs =>
  exact .tup _ vs (by simp) λi x x' hx hx'=>by
   simp at hx
   obtain⟨y,hy,rfl⟩:=hx;rw[hy] at hx';injection hx' with e;subst e;exact ra2.ofVal1 _
 |_=>exact .val (.cell (.v _))
def GOk(E:Env)(F:Fz)(w:World):Prop:=∀g (c:Nat) x,(E.G g)[c]?=some x->x.oneCell'=true/\F g c/\w.cell? ⟨g,c,none⟩=some x
theorem GOk.adv{E:Env}(h:GOk E F w)(k:Adv W ρ H F w ρ' H' F' w'):GOk E F' w':=λg c x hx=>by
 obtain⟨h1,h2,h3⟩:=h g c x hx;exact⟨h1,k.more _ _ h2,(k.ext.cells _ _ h2).trans h3⟩
theorem Mb7(E:Env)(a:List b7)(t:Nat):c9 E a (.t t)=(a[t]?).getD .unk:=by
 have:c9 E a (.t t)=Option.rec (motive:=λ_=>b7) .unk (λy=>y) (nth a t):=rfl
 rw[this,F7];cases a[t]?<;>rfl
theorem A9{E:Env}{a:List b7}{ac:Act}(hA:Ia4 ρ H F w a ac.tmps)(hG:GOk E F w)(x:Operand):K8 ρ H F w (c9 E a (o7 x)) (ac.eval x):=by
 cases x with
 |tmp t =>
  show K8 ρ H F w (c9 E a (.t t)) (ac.tmps.getD t undef);rw[Mb7]
  rcases Qaq t a.length with hh|hh
  ·have hh':t<ac.tmps.size:=hA.1 ▸ hh;have h1:a[t]?=some a[t]:=Qaa hh;have h2:ac.tmps[t]?=some ac.tmps[t]:=Qac hh'
   have:=hA.2 t _ _ h1 h2
   simp_all
  ·rw[Qat hh];exact .unk _
 |const v=>exact K8.ofVal v
 |global g =>
  show K8 ρ H F w (.tptr (s5 .v (E.G g))) (.pointer (some ⟨g,0,none⟩));rw[s8];refine .val (.cell (.tptr _ _ (λc=>(E.G g).getD c undef) rfl (λc hc=>?_) (λc hc=>?_) λc hc=>?_))
  ·have hc':c<(E.G g).length:=by simpa using hc
   simpa using (hG g c _ (Qaa hc')).2.1
  ·have hc':c<(E.G g).length:=by simpa using hc
   have:=(hG g c _ (Qaa hc')).2.2
   simp_all
  ·have hc':c<(E.G g).length:=by simpa using hc
   have:=(hG g c _ (Qaa hc')).1
   simp only[List.getElem_map,List.getD,Qaa hc',Option.getD_some];exact .v _ this
 |func f=>exact .val (.cell (.mem (.fn0 f)))
def s4(P:Program)(o:Oper)(ac:Act)(w:World)(post:Value->World->Prop):Prop :=
 ∀(next:Act->World->Prop) (Q:Exit->Act->World->Prop),(∀x' w',post x' w'->next (ac.put o.dst x') w')->o.wp P ac w next Q
def U3(W:Nat->Prop)(ρ:Rho)(H:List c7)(F:Fz)(w:World)(x:b7)(H':List c7)(x':Value)(w':World):Prop :=
 ∃ρ' F',Adv W ρ H F w ρ' H' F' w'/\J0 W ρ' H' F' w'/\K8 ρ' H' F' w' x x'
section
variable{P:Program}{o:Oper}{ac:Act}{post:Value->World->Prop}
theorem s4.value{x':Value}(hrun:(execOp ac.eval o).run P w=.ok (.value x') w')(hp:post x' w'):s4 P o ac w post:=λnext Q h=>by
 unfold Oper.wp;rw[hrun];exact h x' w' hp
theorem s4.skip(hrun:(execOp ac.eval o).run P w=.ok .skip w')(hp:post undef w'):s4 P o ac w post:=λnext Q h=>by
 unfold Oper.wp;rw[hrun];exact h undef w' hp
theorem s4.enter{f:FuncId}{args:Array Value}(hrun:(execOp ac.eval o).run P w=.ok (.enter f args) w)(hp:Calls P f args w λe w'=>∃x',e=.returned x'/\post x' w'):s4 P o ac w post:=λnext Q h=>by
 unfold Oper.wp;rw[hrun];show Calls P f args w _;exact hp.mono λe w' ⟨x',he,hx⟩=>by subst he;exact h x' w' hx
theorem U3.stay(hH:J0 W ρ H F w){x:b7}{x':Value}(hx:K8 ρ H F w x x'):U3 W ρ H F w x H x' w:=⟨ρ,F,.refl,hH,hx⟩
end
theorem Oe6{α:Type}{P:Program}{e:Sem α}{a:α}(h:Yb3 P e=some a)(w:World):e.run P w=.ok a w:=by
 induction e with
 |pure b=>simp[Yb3] at h;subst h;rfl
 |program k ih=>exact ih P (by simpa [Yb3] using h)
 |mark m k ih=>simp only[Sem.run];exact ih (by simpa [Yb3] using h)
 |_=>simp[Yb3] at h
theorem Ye8{f:FuncId}{caps:List b7}{vs:Array Value}{x' y:Value}(e:x'=Qb8 f vs)(hl:caps.length=vs.size)(hy:Dd8 (.fn f caps)=some y):x'=y:=by
 cases caps with
 |nil =>
  have:vs=#[]:=by simpa using hl.symm
  subst this;rw[e,Pb6];injection hy
 |cons=>cases hy
theorem Oe7{x:b7}{x' y:Value}(h:ea9 ρ H F w x x')(hy:Dd8 x=some y):x'=y:=by
 cases h with
 |v=>injection hy
 |mem h=>cases h with
  |v=>injection hy
  |fn f caps vs _ e hl=>exact Ye8 e hl hy
  |tree=>cases hy
  |nil=>cases hy
 |_=>cases hy
theorem sf8{x:b7}{x' y:Value}(h:K8 ρ H F w x x')(hy:xe8 x=some y):x'=y:=by
 cases h with
 |tup=>cases hy
 |val h=>cases h with
  |fn f caps vs hl h =>
   cases caps with
   |nil =>
    have:vs=#[]:=by simpa using hl.symm
    subst this;rw[Pb6];injection hy
   |cons=>cases hy
  |agg cs vs hl h =>
   cases hm:Hb0 Dd8 cs with
   |none=>simp[xe8,hm] at hy
   |some l =>
    simp[xe8,hm] at hy;subst hy;obtain⟨h1,h2⟩:=ce2 hm;congr 1;apply Array.ext
    ·simp[<- hl,h1]
    ·intro i hi1 hi2;have hi:i<cs.length:=hl ▸ hi1;obtain⟨y,hy1,hy2⟩:=h2 i cs[i] (Qaa hi)
     have:=Oe7 (h i _ _ (Qaa hi) (Qac hi1)) hy1
     have hi3:i<l.length:=by omega
     rw[Qaa hi3] at hy2;injection hy2 with hy2;simp[this,hy2]
  |cell h=>cases h with
   |v=>injection hy
   |mem h=>cases h with
    |v=>injection hy
    |fn f caps vs _ e hl=>cases caps with
     |nil=>exact Ye8 e hl hy
     |cons=>cases hy
    |tree=>cases hy
    |nil=>cases hy
   |_=>cases hy
end
section
variable{W:Nat->Prop}{ρ:Rho}{H H':List c7}{F:Fz}{w:World}{E:Env}{o:Oper}{a:List b7}{ac:Act}{x:b7}
theorem Oc0(x:Value):zd9 x=x.oneCell':=by cases x<;>rfl
theorem H4{id g:Nat}{b:c7}(h:blkAt H id g=some b):H[id]?=some b/\b.dead=false/\b.g=g:=by
  unfold blkAt at h;rw[F7] at h;cases hb:H[id]? with
  |none=>simp[hb] at h
  | some c =>
    simp only[hb] at h;cases hd:c.dead with
    |true=>simp[hd] at h
    | false =>
      simp only[hd] at h;cases hg:Nat.beq c.g g with
      |false=>simp[hg] at h
      | true =>
        simp[hg] at h;subst h;exact⟨rfl,hd,Qad hg⟩
theorem Kf7{P:Program}{op:BinOp}{p q r:b7}(he:(dg1 op p q).run=some r):∃k m n v,p=.v (.int k m)/\q=.v (.int k n)/\r=.v v/\∀t W,(binOp op t (.int k m) (.int k n)).run P W=.ok v W:=by
  unfold dg1 at he
  split at he
  · rename_i k m k' n
    split at he
    · rename_i hk
      subst hk;refine⟨k,m,n,?_⟩
      split at he<;>first
        |(have he':=(Qag he);subst he';exact⟨_,rfl,rfl,rfl,λt W=>by simp[binOp,Op.intArith,Op.intCmp,Op.intBits,qg2]⟩)
        | (rcases DT.run_ite_some he with ⟨_, he⟩ | ⟨h0, he⟩
           · cases he
           · have h0':¬ n=0:=by simpa using h0
             have he':=(Qag he);subst he';exact⟨_,rfl,rfl,rfl,λt W=>by simp[binOp,Op.intDiv,h0']⟩)
        |cases he
    · cases he
  · cases he
theorem Kf8{P:Program}{op:BinOp}{p q r:b7}(he:(dg2 op p q).run=some r):∃k m k' n v,p=.v (.int k m)/\q=.v (.int k' n)/\r=.v v/\∀t W,(binOp op t (.int k m) (.int k' n)).run P W=.ok v W:=by
  unfold dg2 at he
  split at he
  · unfold qg4 at he
    split at he
    · rename_i k m k' n
      obtain⟨h0,he⟩:=DT.run_guard_some he;have h0:=of_decide_eq_true h0;have he':=(Qag he);subst he';exact⟨k,m,k',n,_,rfl,rfl,rfl,λt W=>by simp[binOp,Op.shift,show ¬ n<0 by omega,qg3]⟩
    · cases he
  · obtain⟨k,m,n,v,h⟩:=Kf7 (P:=P) he
    exact⟨k,m,k,n,v,h⟩
theorem Oc1{agg:Bool}{cs:List b7}{y:b7}(h:dc0 agg cs=some y):(agg=true/\y=.agg cs)\/(agg=false/\∃z,cs=[z]/\y=z):=by
  unfold dc0 at h
  split at h
  · injection h with h;exact .inl ⟨rfl,h.symm⟩
  · split at h
    · injection h with h;exact .inr ⟨rfl,_,rfl,h.symm⟩
    · cases h
theorem oc8{n:Int}{len:Nat}(h:inB n len=true):0<=n/\n<len/\n.toNat<len:=by
  cases n with
  | ofNat k =>
    have : k < len := by have : k + 1 ≤ len := by simpa [inB, Nat.blt, Nat.ble_eq] using h
                         omega
    exact⟨by simp,by simpa using this,by simpa using this⟩
  |negSucc k=>cases h
theorem Rb0{p:b7}{n:Int}{p':Value}(h:la4 p=some n)(hp:K8 ρ H F w p p'):∃k,p'=.int k n:=by
  unfold la4 at h
  split at h
  · rename_i k m
    injection h with h;subst h;exact⟨k,fa0 hp⟩
  · cases h
theorem aa2{ad:Addr}(hs:ad.spot=none)(k:Nat):ad.add k=⟨ad.block,ad.off+k,none⟩:=by
  obtain⟨b,of,sp⟩:=ad
  simp at hs
  subst hs;unfold Addr.add;split
  · rename_i h0;simp[h0]
  · rfl
theorem Cb4{P:Program}{t:TypeId}{d:TypeDesc}(h:P.underlying t=some d):∃i,P.info? t=some i/\i.size=szT P t:=by
  unfold Program.underlying at h;cases hi:P.info? t with
  |none=>simp[hi] at h
  |some i=>exact⟨i,rfl,by simp[szT,hi]⟩
section
variable(hA:Ia4 ρ H F w a ac.tmps)(hH:J0 W ρ H F w)(hG:GOk E F w)
include hA hH hG
theorem ye4{y:Operand}(ho:o.op=.move y\/o.op=.assign y)(he:(evalOp E a H (.mv (o7 y))).run=some (x,H')):s4 E.P o ac w (U3 W ρ H F w x H'):=by
  have he':some (c9 E a (o7 y),H)=some (x,H'):=he;injection he' with he';injection he' with h1 h2;subst h1 h2;refine .value (x':=ac.eval y) (w':=w) ?_ (.stay hH (A9 hA hG y))
  rcases ho with ho|ho<;>simp[execOp,ho]
theorem ye5{y:Operand}(ho:o.op=.nilCheck y)(he:(evalOp E a H (.nilck (o7 y))).run=some (x,H')):s4 E.P o ac w (U3 W ρ H F w x H'):=by
  have hy:=A9 hA hG y;simp only[evalOp] at he
  revert he hy
  cases c9 E a (o7 y) with
  | ptr id i c g =>
    intro he hy;have he':some (b7.ptr id i c g,H)=some (x,H'):=he;injection he' with he';injection he' with h1 h2;subst h1 h2
    obtain⟨ad,b,e,-⟩:=Za9 hy;exact .value (x':=ac.eval y) (w':=w) (by simp[execOp,ho,e]) (.stay hH hy)
  | tptr cs =>
    intro he hy;have he':some (b7.tptr cs,H)=some (x,H'):=he;injection he' with he';injection he' with h1 h2;subst h1 h2
    obtain⟨ad,vs,e,-⟩:=jc0 hy;exact .value (x':=ac.eval y) (w':=w) (by simp[execOp,ho,e]) (.stay hH hy)
  | fn f caps =>
    intro he hy;have he':some (b7.fn f caps,H)=some (x,H'):=he;injection he' with he';injection he' with h1 h2;subst h1 h2
    obtain⟨vs,e,-⟩:=dc3 hy;obtain⟨p,q,r,e2⟩:=Xc0 f vs;exact .value (x':=ac.eval y) (w':=w) (by simp[execOp,ho,e,e2]) (.stay hH hy)
  |_=>intro he;cases he
theorem Oe8{c y z:Operand}(ho:o.op=.pick c y z)(he:(evalOp E a H (.pick (o7 c) (o7 y) (o7 z))).run=some (x,H')):s4 E.P o ac w (U3 W ρ H F w x H'):=by
  have hc:=A9 hA hG c;simp only[evalOp] at he
  revert he hc
  cases c9 E a (o7 c) with
  | v u =>
    cases u with
    | bool b =>
      intro he hc;have e:=fa0 hc
      rcases DT.run_ite_some he with⟨rfl,he⟩|⟨rfl,he⟩
      · have he':some (c9 E a (o7 y),H)=some (x,H'):=he
        injection he' with he';injection he' with h1 h2;subst h1 h2
        exact .value (x':=ac.eval y) (w':=w) (by simp[execOp,ho,e,asBool]) (.stay hH (A9 hA hG y))
      · have he':some (c9 E a (o7 z),H)=some (x,H'):=he
        injection he' with he';injection he' with h1 h2;subst h1 h2
        exact .value (x':=ac.eval z) (w':=w) (by simp[execOp,ho,e,asBool]) (.stay hH (A9 hA hG z))
    |_=>intro he;cases he
  |_=>intro he;cases he
theorem jf0{t:TypeId}{y:Operand}(ho:o.op=.unOp .not t y)(he:(evalOp E a H (.not (o7 y))).run=some (x,H')):s4 E.P o ac w (U3 W ρ H F w x H'):=by
  have hc:=A9 hA hG y;simp only[evalOp] at he
  revert he hc
  cases c9 E a (o7 y) with
  | v u =>
    cases u with
    | bool b =>
      intro he hc;have e:=fa0 hc;have he':some (b7.v (.bool (!b)),H)=some (x,H'):=he;injection he' with he';injection he' with h1 h2;subst h1 h2
      exact .value (x':=.bool (!b)) (w':=w) (by simp[execOp,ho,e,Op.unary]) (.stay hH (.ofv _))
    |_=>intro he;cases he
  |_=>intro he;cases he
theorem jf1{t:TypeId}{y:Operand}(ho:o.op=.unOp .neg t y)(he:(evalOp E a H (.neg (o7 y))).run=some (x,H')):s4 E.P o ac w (U3 W ρ H F w x H'):=by
  have hc:=A9 hA hG y;simp only[evalOp] at he
  revert he hc
  cases c9 E a (o7 y) with
  | v u =>
    cases u with
    | int k n =>
      intro he hc;have e:=fa0 hc;have he':some (b7.v (.int k (k.wrap (0-n))),H)=some (x,H'):=he;injection he' with he';injection he' with h1 h2;subst h1 h2
      exact .value (x':=.int k (k.wrap (0-n))) (w':=w) (by simp[execOp,ho,e,Op.unary,Op.intArith]) (.stay hH (.ofv _))
    |_=>intro he;cases he
  |_=>intro he;cases he
theorem jf2{op:BinOp}{t u:TypeId}{y z:Operand}(ho:o.op=.binOp op t y z u)(he:(evalOp E a H (.bin op (o7 y) (o7 z))).run=some (x,H')):s4 E.P o ac w (U3 W ρ H F w x H'):=by
  have hy:=A9 hA hG y;have hz:=A9 hA hG z;simp only[evalOp] at he;obtain⟨r,h1,h2⟩:=DT.run_bind_some he;have he':some (r,H)=some (x,H'):=h2;injection he' with he';injection he' with e1 e2;subst e1 e2
  obtain⟨k,m,k',n,v,hp,hq,rfl,hrun⟩:=Kf8 (P:=E.P) h1;rw[hp] at hy;rw[hq] at hz;refine .value (x':=v) (w':=w) ?_ (.stay hH (.ofv _))
  have hg:(eqGuard op t y z (.int k m) (.int k' n)).run E.P w=.ok () w:=by
    unfold eqGuard;cases op<;>rfl
  simp[execOp,ho,fa0 hy,fa0 hz,hg,hrun]
theorem jf3{y:Operand}{i:Nat}(ho:o.op=.extract y i)(he:(evalOp E a H (.ext (o7 y) i)).run=some (x,H')):s4 E.P o ac w (U3 W ρ H F w x H'):=by
  have hy:=A9 hA hG y;simp only[evalOp] at he
  revert he hy
  cases c9 E a (o7 y) with
  | tup vs =>
    intro he hy;obtain⟨z,h1,h2⟩:=pb1 he;injection h2 with e1 e2;subst e1 e2
    rw[F7] at h1;obtain⟨us,e,hl,h⟩:=le7 hy;have hi:i<us.size:=hl ▸ (Qab.1 h1).1;exact .value (x':=us[i]) (w':=w) (by simp[execOp,ho,e,Instr.extract,hi]) (.stay hH (.val (h i _ _ h1 (Qac hi))))
  |_=>intro he;cases he
theorem jf4{s:TypeId}{y:Operand}{f:Nat}{fs:Array Field}{fd:Field}(ho:o.op=.fieldAddr s y f)(hs:E.P.underlying s=some (.struct fs))(hf:fs[f]?=some fd)
    (hz:szT E.P fd.type≠0) (he:(evalOp E a H (.fld fd.offset (o7 y))).run=some (x,H')):s4 E.P o ac w (U3 W ρ H F w x H'):=by
  have hy:=A9 hA hG y
  have hsz:∃ i,E.P.info? fd.type=some i∧i.size≠0:=by
    unfold szT at hz;cases hi:E.P.info? fd.type with
    |none=>simp[hi] at hz
    |some i=>exact⟨i,rfl,by simpa [hi] using hz⟩
  obtain⟨ti,hi,hi0⟩:=hsz;simp only[evalOp] at he
  revert he hy
  cases c9 E a (o7 y) with
  | ptr id i c g =>
    intro he hy;have he':some (b7.ptr id i (c+fd.offset) g,H)=some (x,H'):=he;injection he' with he';injection he' with h1 h2;subst h1 h2
    obtain⟨ad,b,e,hb,hd,hg,hh⟩:=Za9 hy;refine .value (x':=.pointer (some (ad.add fd.offset))) (w':=w) (by simp[execOp,ho,e,Instr.fieldAt,Instr.sureAddr,run_underlying hs,hf,fieldPlace,sizeOf,typeInfo,hi,hi0]) (.stay hH (.val (.cell (.ptr id i (c+fd.offset) g _ b hb hd hg λhge=>?_))))
    rw[hh hge];unfold Addr.add;split
    · rename_i h0;simp[h0]
    · simp;omega
  | tptr cs =>
    intro he hy;have he':some (b7.tptr (s9 cs fd.offset),H)=some (x,H'):=he;injection he' with he';injection he' with h1 h2;subst h1 h2
    obtain⟨ad,vs,e,hsp,hF,hw,hr⟩:=jc0 hy
    have hadd:ad.add fd.offset=⟨ad.block,ad.off+fd.offset,none⟩:=by
      obtain⟨b,of,sp⟩:=ad
      simp at hsp
      subst hsp;unfold Addr.add;split
      · rename_i h0;simp[h0]
      · rfl
    refine .value (x':=.pointer (some (ad.add fd.offset))) (w':=w) (by simp[execOp,ho,e,Instr.fieldAt,Instr.sureAddr,run_underlying hs,hf,fieldPlace,sizeOf,typeInfo,hi,hi0]) (.stay hH ?_)
    rw[I9,hadd];refine .val (.cell (.tptr _ _ (λc=>vs (fd.offset+c)) rfl (λc hc=>?_) (λc hc=>?_) λc hc=>?_))
    · have:=hF (fd.offset+c) (by simp at hc;omega);simpa [Qal] using this
    · have:=hw (fd.offset+c) (by simp at hc;omega);simpa [Qal] using this
    · simpa using hr (fd.offset+c) (by simp at hc;omega)
  |_=>intro he;cases he
theorem Oe9{t e:TypeId}{n:Nat}{y z:Operand}{ei:TypeInfo}(ho:o.op=.indexAddr t y z)(hu:E.P.underlying t=some (.array n e))(hei:E.P.info? e=some ei)
    (he:(evalOp E a H (.idxA n (szT E.P e) (o7 y) (o7 z))).run=some (x,H')):s4 E.P o ac w (U3 W ρ H F w x H'):=by
  have hy:=A9 hA hG y;have hz:=A9 hA hG z;have hes:szT E.P e=ei.size:=by simp[szT,hei]
  simp only[evalOp] at he
  revert he
  cases hm:la4 (c9 E a (o7 z)) with
  |none=>intro he;cases he
  |some m =>
  obtain⟨k,ek⟩:=Rb0 hm hz
  simp only
  revert hy
  cases c9 E a (o7 y) with
  | ptr id i c g =>
    intro hy he;obtain⟨hb0,he⟩:=DT.run_guard_some he;have he':some (b7.ptr id i (c+m.toNat*szT E.P e) g,H)=some (x,H'):=he;injection he' with he';injection he' with h1 h2;subst h1 h2
    obtain⟨hm1,hm2,hm3⟩:=oc8 hb0;obtain⟨ad,b,e0,hb,hd,hg,hh⟩:=Za9 hy;refine .value (x':=.pointer (some (ad.add (m.toNat*ei.size)))) (w':=w) (by simp[execOp,ho,e0,ek,Instr.indexAt,Instr.sureAddr,asIntOf,run_underlying hu,sizeOf,typeInfo,hei,hm1,hm2]) (.stay hH (.val (.cell (.ptr _ _ _ _ _ b hb hd hg λhge=>?_))))
    rw[hh hge,hes,aa2 rfl]
    simp;omega
  | tptr cs =>
    intro hy he;obtain⟨hb0,he⟩:=DT.run_guard_some he;have he':some (b7.tptr (s9 cs (m.toNat*szT E.P e)),H)=some (x,H'):=he;injection he' with he';injection he' with h1 h2;subst h1 h2
    obtain⟨hm1,hm2,hm3⟩:=oc8 hb0;obtain⟨ad,vs,e0,hsp,hF,hw,hr⟩:=jc0 hy;refine .value (x':=.pointer (some (ad.add (m.toNat*ei.size)))) (w':=w) (by simp[execOp,ho,e0,ek,Instr.indexAt,Instr.sureAddr,asIntOf,run_underlying hu,sizeOf,typeInfo,hei,hm1,hm2]) (.stay hH ?_)
    rw[I9,hes,aa2 hsp];refine .val (.cell (.tptr _ _ (λc=>vs (m.toNat*ei.size+c)) rfl (λc hc=>?_) (λc hc=>?_) λc hc=>?_))
    · have:=hF (m.toNat*ei.size+c) (by simp at hc;omega);simpa [Qal] using this
    · have:=hw (m.toNat*ei.size+c) (by simp at hc;omega);simpa [Qal] using this
    · simpa using hr (m.toNat*ei.size+c) (by simp at hc;omega)
  |_=>intro _ he;cases he
theorem Pe0{t e:TypeId}{y z:Operand}{ei:TypeInfo}(ho:o.op=.indexAddr t y z)(hu:E.P.underlying t=some (.slice e))(hei:E.P.info? e=some ei)
    (he:(evalOp E a H (.idxS (szT E.P e) (o7 y) (o7 z))).run=some (x,H')):s4 E.P o ac w (U3 W ρ H F w x H'):=by
  have hy:=A9 hA hG y;have hz:=A9 hA hG z;have hes:szT E.P e=ei.size:=by simp[szT,hei]
  simp only[evalOp] at he
  revert he
  cases hm:la4 (c9 E a (o7 z)) with
  |none=>intro he;cases he
  |some m =>
  obtain⟨k,ek⟩:=Rb0 hm hz
  simp only
  revert hy
  cases c9 E a (o7 y) with
  | sl id off n g =>
    intro hy he;cases hbk:blkAt H id g with
    |none=>simp[hbk] at he
    |some b =>
    obtain⟨hb,hd,hg⟩:=H4 hbk;cases hbe:Nat.beq b.es (szT E.P e) with
    |false=>simp[hbk,hbe] at he
    |true =>
    simp only[hbk,hbe] at he;have hbes:=Qad hbe;obtain⟨hb0,he⟩:=DT.run_guard_some he;have he':some (b7.ptr id (off+m.toNat) 0 g,H)=some (x,H'):=he;injection he' with he';injection he' with h1 h2;subst h1 h2
    obtain⟨hm1,hm2,hm3⟩:=oc8 hb0;obtain⟨ad,cap,b',e0,hb',hd',hg',hn,hs,-,hh⟩:=lb3 hy
    have:b'=b:=Qag (hb'.symm.trans hb)
    subst this;obtain⟨h3,h4,h5⟩:=hh hg;have hcap:cap≠0:=by omega
    have had:=h3.resolve_left (λh=>hcap h.1)
    refine .value (x':=.pointer (some (ad.add (m.toNat*ei.size)))) (w':=w) (by simp[execOp,ho,e0,ek,Instr.indexAt,asIntOf,run_underlying hu,sizeOf,typeInfo,hei,hm1,hm2]) (.stay hH (.val (.cell (.ptr _ _ _ _ _ b' hb hd (by omega) λhge=>?_))))
    rw[had,aa2 rfl,hbes,hes,Qao]
    simp;omega
  | tree es' n get =>
    intro hy he;cases hbe:Nat.beq es' (szT E.P e) with
    |false=>simp[hbe] at he
    |true =>
    simp only[hbe] at he;have hbes:=Qad hbe;obtain⟨hb0,he⟩:=DT.run_guard_some he;have he':some (b7.tptr (get m.toNat),H)=some (x,H'):=he;injection he' with he';injection he' with h1 h2;subst h1 h2
    obtain⟨hm1,hm2,hm3⟩:=oc8 hb0;have ht:=Ea8 hy;generalize hv:ac.eval y=v at *
    cases ht with
    |tree _ _ _ ad cap cs hs0 hcap hes' hF hw hr =>
    have hs:=hs0 (by omega)
    refine .value (x':=.pointer (some (ad.add (m.toNat*ei.size)))) (w':=w) (by simp[execOp,ho,hv,ek,Instr.indexAt,asIntOf,run_underlying hu,sizeOf,typeInfo,hei,hm1,hm2]) (.stay hH ?_)
    rw[aa2 hs,<- hes,<- hbes];have hle:=hes' _ hm3;refine .val (.cell (.tptr _ _ (λc=>cs m.toNat c) rfl (λc hc=>?_) (λc hc=>?_) λc hc=>hr _ c hm3 hc))
    · have:=hF m.toNat c hm3 (by omega);simpa [Qal] using this
    · have:=hw m.toNat c hm3 (by omega);simpa [Qal] using this
    |nil=>omega
  |_=>intro _ he;cases he
end
end
section
variable{W:Nat->Prop}{ρ:Rho}{H H':List c7}{F:Fz}{w:World}{E:Env}{o:Oper}{a:List b7}{ac:Act}{x:b7}
theorem ye6{P:Program}{t:TypeId}(h:szT P t≠0):∃i,P.info? t=some i/\i.size=szT P t:=by
 unfold szT at *
 grind
theorem eb5{α:Type}{n:Nat}{f:Nat->α}{j:Nat}{v:α}(h:((List.range n).map f)[j]?=some v):j<n/\f j=v:=by
 grind
theorem xb5{P:Program}{t:TypeId}(h:agT P t=true)(w:World):(isAgg t).run P w=.ok true w:=by
 unfold agT at h
 split at h
 ·rename_i fs hu;simp[isAgg,run_underlying hu]
 ·rename_i n e hu;simp[isAgg,run_underlying hu]
 ·cases h
theorem lb4{P:Program}{t:TypeId}(h:agT P t=false)(hd:P.underlying t≠none)(w:World):(isAgg t).run P w=.ok false w:=by
 unfold agT at h;cases hu:P.underlying t with
 |none=>exact absurd hu hd
 |some d=>cases d<;>simp[hu] at h<;>simp[isAgg,run_underlying hu]
theorem Tc9(hH:J0 W ρ H F w){p:b7}{p':Value}{n:Nat}{cs:List b7}(hp:K8 ρ H F w p p')(he:Ev.loadCells H p n=some cs) :
  ∃(ad:Addr) (vs:List Value),p'=.pointer (some ad)/\(0<n->ad.spot=none)/\cs.length=n/\vs.length=n/\(∀j v,vs[j]?=some v->w.cell? ⟨ad.block,ad.off+j,none⟩=some v) /\
   ∀(j:Nat) x x',cs[j]?=some x->vs[j]?=some x'->fa8 F w x x':=by
 revert he hp
 cases p with
 |ptr id i c g =>
  intro hp he;simp only[Ev.loadCells] at he;cases hbk:blkAt H id g with
  |none=>simp[hbk] at he
  |some b =>
  obtain⟨hb,hd,hg⟩:=H4 hbk;simp only[hbk,F7] at he;cases hr:b.elems[i]? with
  |none=>simp[hr] at he
  |some cells =>
  simp only[hr,z6,J7,I9] at he;cases hle:Nat.ble (c+n) cells.length with
  |false=>simp[hle] at he
  |true =>
  simp only[hle] at he;injection he with he;have hle':c+n<=cells.length:=Qae hle;obtain⟨ad,b',e,hb',hd',hg',hh⟩:=Za9 hp
  have:b'=b:=Qag (hb'.symm.trans hb)
  subst this;have had:=hh hg;obtain⟨cc,t,fr,hB⟩:=hH.blk id b' hb hd;have hcell:∀j,j<n->∃x',cc[(ρ id).off+(i*b'.es+(c+j))]?=some x'/\∀x,cells[c+j]?=some x->fa8 F w x x':=λj hj=>by
   have hlt:c+j<cells.length:=by omega
   obtain⟨x',h1,h2⟩:=hB.cell i cells (c+j) _ hr (Qaa hlt);exact⟨x',h1,λx hx=>by rw[Qaa hlt] at hx;injection hx with hx;subst hx;exact h2⟩
  have hsz:∀j,j<n->(ρ id).off+(i*b'.es+(c+j))<cc.size:=λj hj=>by
   obtain⟨x',h1,_⟩:=hcell j hj;exact (Qak.1 h1).1
  refine⟨ad,(List.range n).map λj=>cc.getD ((ρ id).off+(i*b'.es+(c+j))) undef,e,λ_=>by rw[had],?_,by simp,λj v hj=>?_,λj x x' hx hx'=>?_⟩
  ·grind
  ·obtain⟨hj1,hj2⟩:=eb5 hj;have hlt:=hsz j hj1;rw[had];rw[show (ρ id).off+(i*b'.es+c)+j=(ρ id).off+(i*b'.es+(c+j)) by omega,hB.cellAt,<- hj2]
   simp[hlt]
  ·obtain⟨hj1,hj2⟩:=eb5 hx';have hlt:=hsz j hj1;obtain⟨x'',h1,h2⟩:=hcell j hj1;rw[<- he] at hx;have hx0:cells[c+j]?=some x:=by
    rw[Qap,if_pos hj1,List.getElem?_drop] at hx;exact hx
   have:=h2 x hx0
   rw[Qac hlt] at h1;injection h1 with h1;rw[<- hj2];simp[hlt,h1,this]
 |tptr l =>
  intro hp he;simp only[Ev.loadCells,z6,J7] at he;cases hle:Nat.ble n l.length with
  |false=>simp[hle] at he
  |true =>
  simp only[hle] at he;injection he with he;have hle':n<=l.length:=Qae hle;obtain⟨ad,vs,e,hs,hF,hw,hr⟩:=jc0 hp;refine⟨ad,(List.range n).map vs,e,λ_=>hs,by rw[<- he];simp only[List.length_take];omega,by simp,λj v hj=>?_,λj x x' hx hx'=>?_⟩
  ·obtain⟨hj1,hj2⟩:=eb5 hj;rw[hw j (by omega),hj2]
  ·obtain⟨hj1,hj2⟩:=eb5 hx';rw[<- he,Qap] at hx;simp only[hj1,if_true] at hx;have hlt:j<l.length:=by omega
   rw[Qaa hlt] at hx;injection hx with hx;rw[<- hx,<- hj2];exact hr j hlt
 |_=>intro _ he;cases he
theorem Ye9{k:CK}{x:b7}(h:Rc9 k x=true):if7 k x=x\/∃es,k=.sl es/\x=.v (.slice none 0 0):=by
 unfold Rc9 at h
 split at h
 ·simp only[decide_eq_true_eq] at h;subst h;exact .inl rfl
 ·exact .inl rfl
 ·have:=Qad h;subst this;exact .inl rfl
 ·exact .inr ⟨_,rfl,rfl⟩
 ·exact .inl rfl
 ·cases h
theorem sf9{ρ:Rho}{H:List c7}{x':Value}(h:K8 ρ H F w (.v (.slice none 0 0)) x'):x'=.slice none 0 0:=fa0 h
theorem tf0{k:CK}{y:b7}{x':Value}(h:Rc9 k y=true)(hy:fa8 F w y x'):fa8 F w (if7 k y) x':=by
 rcases Ye9 h with e|⟨es,rfl,rfl⟩
 ·rw[e];exact hy
 ·cases hy;exact .nil _ _
theorem jf5{ρ:Rho}{H:List c7}{k:CK}{y:b7}{x':Value}(h:Rc9 k y=true)(hy:ea9 ρ H F w y x'):ea9 ρ H F w (if7 k y) x':=by
 rcases Ye9 h with e|⟨es,rfl,rfl⟩
 ·rw[e];exact hy
 ·have:=sf9 (.val (.cell hy));subst this;exact .mem (.nil _ _)
theorem Oc2:∀(ks:List CK) (cs:List b7),(Bc9 ks cs).length=ks.length
 |[],_=>rfl
 |k::ks,cs=>congrArg Nat.succ (Oc2 ks (tlA cs))
theorem nd5:∀(ks:List CK) (cs:List b7),ka1 ks cs=true->∀(j:Nat) x,(Bc9 ks cs)[j]?=some x->j<ks.length/\∃k y,Rc9 k y=true/\x=if7 k y/\(j<cs.length->cs[j]?=some y)
 |[],_,_,j,x,hx=>by simp[Bc9] at hx
 |k::ks,cs,h,j,x,hx=>by
  have h:Bool.and (Rc9 k (hdA cs)) (ka1 ks (tlA cs))=true:=h;have hx:(if7 k (hdA cs)::Bc9 ks (tlA cs))[j]?=some x:=hx;have h':Rc9 k (hdA cs)=true/\ka1 ks (tlA cs)=true:=by simpa using h
  cases j with
  |zero =>
   simp at hx
   refine⟨by simp,k,hdA cs,h'.1,hx.symm,λhc=>?_⟩
   cases cs with
   |nil=>simp at hc
   |cons c r=>rfl
  |succ j =>
   obtain⟨h1,k',y,h2,h3,h4⟩:=nd5 ks (tlA cs) h'.2 j x (by simpa using hx)
   refine⟨by simp;omega,k',y,h2,h3,λhc=>?_⟩
   cases cs with
   |nil=>simp at hc
   |cons c r=>simp only[List.getElem?_cons_succ];exact h4 (by simpa [tlA] using hc)
theorem ye7{p:b7}{n:Nat}{q:Bool×List b7}(h:oc3 H p n=some q)(h1:q.1=true):Ev.loadCells H p n=some (J6 q.2 n)/\n<=q.2.length:=by
 revert h
 cases p with
 |ptr id i c g =>
  intro h;simp only[oc3] at h;cases hb:blkAt H id g with
  |none=>simp[hb] at h
  |some b =>
  simp only[hb] at h;injection h with h;subst h;simp only[Qas] at h1;have hi:i<b.elems.length:=by have:=Qae h1.1;rw[z6] at this;exact this
  have hr:c8 b.elems i=b.elems[i]:=by simp[c8,F7,Qaa hi]
  have h2:=h1.2;rw[hr] at h2 ⊢;refine⟨by simp only[Ev.loadCells,hb,F7,Qaa hi,h2],?_⟩
  have:=Qae h2
  rw[z6] at this;rw[I9,List.length_drop];omega
 |tptr cs =>
  intro h;injection h with h;subst h;have h1:n.ble (len cs)=true:=h1;refine⟨by simp only[Ev.loadCells];rw[h1],?_⟩
  have:=Qae h1
  rwa [z6] at this
 |_=>intro h;cases h
theorem jf6(hH:J0 W ρ H F w){p:b7}{p':Value}{n:Nat}{ks:List CK}{q:Bool×List b7}(hp:K8 ρ H F w p p')(he:oc3 H p n=some q)(hok:Bool.and q.1 (Bool.and (Nat.beq (len ks) n) (ka1 ks q.2))=true) :
  ∃(ad:Addr) (vs:List Value),p'=.pointer (some ad)/\(0<n->ad.spot=none)/\(Bc9 ks q.2).length=n/\vs.length=n/\(∀j v,vs[j]?=some v->w.cell? ⟨ad.block,ad.off+j,none⟩=some v) /\
   ∀(j:Nat) x x',(Bc9 ks q.2)[j]?=some x->vs[j]?=some x'->fa8 F w x x':=by
 simp only[Qas] at hok;obtain⟨h1,h2,h3⟩:=hok;obtain⟨h4,h5⟩:=ye7 he h1;have h2:=Qad h2;rw[z6] at h2;obtain⟨ad,vs,e,hs,hcl,hvl,hw,hr⟩:=Tc9 hH hp h4;refine⟨ad,vs,e,hs,by rw[Oc2,h2],hvl,hw,λj x x' hx hx'=>?_⟩
 obtain⟨hj,k,y,g1,rfl,g2⟩:=nd5 ks q.2 h3 j x hx;refine tf0 g1 (hr j y x' ?_ hx');rw[J7,Qap,if_pos (by omega)]
 exact g2 (by omega)
section
variable(hA:Ia4 ρ H F w a ac.tmps)(hH:J0 W ρ H F w)(hG:GOk E F w)
include hA hH hG
theorem Pe1{ks:List CK}{t:TypeId}{y:Operand}(ho:o.op=.load t y)(hu:E.P.underlying t≠none)
  (he:(evalOp E a H (.load ks (szT E.P t) (agT E.P t) (o7 y))).run=some (x,H')):s4 E.P o ac w (U3 W ρ H F w x H'):=by
 have hy:=A9 hA hG y;simp only[evalOp] at he;cases hl:oc3 H (c9 E a (o7 y)) (szT E.P t) with
 |none=>rw[hl] at he;cases he
 |some q =>
 rw[hl] at he;obtain⟨hgd,he⟩:=DT.run_guard_some he;obtain⟨z,h1,h2⟩:=pb1 he;injection h2 with e1 e2;subst e1 e2
 obtain⟨ad,vs,e,hs,hcl,hvl,hw,hr⟩:=jf6 hH hy hl hgd;generalize Bc9 ks q.2=cs at *
 have hti:∃i,E.P.info? t=some i/\i.size=szT E.P t:=by
  cases hd:E.P.underlying t with
  |none=>exact absurd hd hu
  |some d=>exact Cb4 hd
 obtain⟨ti,hi1,hi2⟩:=hti
 rcases Oc1 h1 with⟨hag,rfl⟩|⟨hag,z',rfl,rfl⟩
 ·refine .value (x':=.agg vs.toArray) (w':=w) ?_ (.stay hH (.val (.agg cs vs.toArray (by simp[hcl,hvl]) λi x x' hx hx'=>.mem (hr i x x' hx (by simpa using hx')))))
  have hlc:(Go.loadCells ad (szT E.P t)).run E.P w=.ok vs.toArray w:=by
   rw[<- hvl];refine run_loadCells_list (P:=E.P) w ad vs λj v hj=>?_
   have hj':j<szT E.P t:=by rw[<- hvl];exact (Qab.1 hj).1
   rw[aa2 (hs (by omega))]
   exact hw j v hj
  simp[execOp,ho,e,Instr.loadAt,Instr.sureAddr,loadVar,xb5 hag,sizeOf,typeInfo,hi1,hi2,hlc]
 ·have h1:szT E.P t=1:=by simpa using hcl.symm
  have hv1:vs.length=1:=by omega
  obtain⟨v,rfl⟩:∃v,vs=[v]:=by
   match vs,hv1 with
   |[v],_=>exact⟨v,rfl⟩
  have hc:=hw 0 v rfl;have hsp:=hs (by omega)
  have hcell:w.cell? ad=some v:=by
   obtain⟨b,of,sp⟩:=ad
   simp_all
  refine .value (x':=v) (w':=w) ?_ (.stay hH (.val (.cell (.mem (hr 0 _ v rfl rfl)))));simp[execOp,ho,e,Instr.loadAt,Instr.sureAddr,loadVar,lb4 hag hu,hcell]
end
theorem nd6(hH:J0 W ρ H F w){id off n g:Nat}{b:c7}{y':Value}{F':Fz}(hbk:blkAt H id g=some b)(hy:K8 ρ H F w (.sl id off n g) y')
  (hmore:∀b o,F b o->F' b o) (hF':∀o,o<b.elems.length*b.es->F' (ρ id).blk ((ρ id).off+o)):fa8 F' w (oc4 b off n) y':=by
 obtain⟨hb,hd,hg⟩:=H4 hbk;obtain⟨ad,cap,b',e,hb',hd',hg',hn,hspot,-,hh⟩:=lb3 hy
 have:b'=b:=Qag (hb'.symm.trans hb)
 subst this;obtain⟨h3,h4,h5⟩:=hh hg;obtain⟨cc,t,fr,hB⟩:=hH.blk id b' hb hd;rw[e]
 rcases Qav n with hn0|hn0
 ·subst hn0;exact .tree b'.es 0 _ ad cap (λ_ _=>undef) (λ_=>hspot) hn (λi hi=>absurd hi (by omega)) (λi c hi=>absurd hi (by omega)) (λi c hi=>absurd hi (by omega)) (λi c hi=>absurd hi (by omega))
 ·have had:=h3.resolve_left (by omega)
  have hrow:∀i,i<n->∃r,b'.elems[off+i]?=some r/\c8 b'.elems (off+i)=r/\r.length=b'.es:=λi hi=>by
   have hlt:off+i<b'.elems.length:=by omega
   exact⟨_,Qaa hlt,by simp[c8,F7,Qaa hlt],hB.rows _ _ (Qaa hlt)⟩
  have hbound:∀i c,i<n->c<b'.es->(off+i)*b'.es+c<b'.elems.length*b'.es:=λi c hi hc=>by
   have h1:(off+i+1)*b'.es<=b'.elems.length*b'.es:=Qaj _ (by omega)
   rw[Qao] at h1;omega
  have hoff:∀i c,(ρ id).off+off*b'.es+(i*b'.es+c)=(ρ id).off+((off+i)*b'.es+c):=λi c=>by rw[Qao off i];omega
  refine .tree b'.es n _ ad cap (λi c=>cc.getD ((ρ id).off+((off+i)*b'.es+c)) undef) (λ_=>by rw[had]) hn (λi hi=>?_) (λi c hi hc=>?_) (λi c hi hc=>?_) (λi c hi hc=>?_)
  ·grind
  ·simp_all
  ·rw[had];simp only;rw[hoff,hB.cellAt]
   have:=hB.room;have:=hB.len;have:=hbound i c hi hc
   have hlt:(ρ id).off+((off+i)*b'.es+c)<cc.size:=by omega
   simp[hlt]
  ·obtain⟨r,h1,h2,h6⟩:=hrow i hi;have hc':c<r.length:=by rw[<- h2];exact hc
   obtain⟨x',h7,h8⟩:=hB.cell (off+i) r c _ h1 (Qaa hc');have hlt:=(Qak.1 h7).1;rw[Qac hlt] at h7;injection h7 with h7;have e9:cc.getD ((ρ id).off+((off+i)*b'.es+c)) undef=x':=by simp[hlt,h7]
   have e10:(c8 b'.elems (off+i))[c]=r[c]:=by congr 1
   rw[e9,e10];exact h8.adv hmore (λ_ _ _=>rfl)
theorem Uc0(hH:J0 W ρ H F w){y z:b7}{y':Value}(hy:ea9 ρ H F w y y')(he:freezeCell H y=some (z,H')) :
  ∃F',Adv W ρ H F w ρ H' F' w/\J0 W ρ H' F' w/\fa8 F' w z y'/\H'.length=H.length:=by
 revert he hy
 cases y with
 |v u =>
  intro hy he;simp only[freezeCell] at he;cases h1:zd9 u with
  |false=>simp[h1] at he
  |true =>
  simp only[h1] at he;injection he with he;injection he with e1 e2;subst e1 e2
  have:=fa0 (.val (.cell hy))
  subst this;exact⟨F,.refl,hH,.v _ (by rw[<- Oc0];exact h1),rfl⟩
 |tree es n get =>
  intro hy he;injection he with he;injection he with e1 e2;subst e1 e2
  exact⟨F,.refl,hH,Ea8 (.val (.cell hy)),rfl⟩
 |fn f caps =>
  intro hy he;simp only[freezeCell] at he;cases hb:Za6 cd1 caps with
  |false=>simp[hb] at he
  |true =>
   simp only[hb] at he;injection he with he;injection he with e1 e2;subst e1 e2
   cases hy with
   |mem h=>exact⟨F,.refl,hH,h,rfl⟩
 |sl id off n g =>
  intro hy he;simp only[freezeCell] at he;cases hbk:blkAt H id g with
  |none=>simp[hbk] at he
  |some b =>
  obtain⟨hb,hd,hg⟩:=H4 hbk;simp only[hbk] at he;injection he with he;injection he with e1 e2
  have hdis:disown H id=H.set id { b with own:=false }:=by
   simp[disown,modAt,F7,hb,H6]
  rw[hdis] at e2;subst e1 e2;obtain⟨F',hadv,hH',hF'⟩:=hH.disown id b hb hd;exact⟨F',hadv,hH',nd6 hH hbk (.val (.cell hy)) hadv.more hF',by simp⟩
 |_=>intro _ he;cases he
theorem Rb1(hH:J0 W ρ H F w){ys zs:List b7}{vs:List Value}(hl:ys.length=vs.length)(hy:∀(i:Nat) y y',ys[i]?=some y->vs[i]?=some y'->ea9 ρ H F w y y')(he:freezeCells H ys=some (zs,H')) :
  ∃F',Adv W ρ H F w ρ H' F' w/\J0 W ρ H' F' w/\zs.length=ys.length/\(∀(i:Nat) z y',zs[i]?=some z->vs[i]?=some y'->fa8 F' w z y')/\H'.length=H.length:=by
 induction ys generalizing H F zs vs with
 |nil =>
  simp only[freezeCells] at he;injection he with he;injection he with e1 e2;subst e1 e2
  exact⟨F,.refl,hH,rfl,λi z y' h=>by simp at h,rfl⟩
 |cons y r ih =>
  cases vs with
  |nil=>simp at hl
  |cons v vs =>
  simp only[freezeCells] at he;cases h1:freezeCell H y with
  |none=>simp[h1] at he
  |some p =>
  obtain⟨y1,H1⟩:=p;simp only[h1] at he;cases h2:freezeCells H1 r with
  |none=>simp[h2] at he
  |some q =>
  obtain⟨l,H2⟩:=q;simp only[h2] at he;injection he with he;injection he with e1 e2;subst e1 e2
  obtain⟨F1,a1,hH1,m1,l1⟩:=Uc0 hH (hy 0 y v rfl rfl) h1;obtain⟨F2,a2,hH2,l2,m2,l3⟩:=ih hH1 (vs:=vs) (by simpa using hl) (λi x x' hx hx'=>(hy (i+1) x x' (by simpa using hx) (by simpa using hx')).adv a1) h2
  refine⟨F2,a1.trans a2,hH2,by simp[l2],λi z z' hz hz'=>?_,l3.trans l1⟩
  cases i with
  |zero =>
   simp at hz hz'
   subst hz hz';exact m1.adv a2.more a2.ext.cells
  |succ i=>exact m2 i z z' (by simpa using hz) (by simpa using hz')
theorem Cc7{f:b7->Bool}:∀{l:List b7},Za6 f l=true->∀x∈l,f x=true
 |[],_,x,hx=>absurd hx (by simp)
 |y::r,h,x,hx=>by
  have e:Za6 f (y::r)=Bool.rec false (Za6 f r) (f y):=rfl;rw[e] at h;cases hy:f y with
  |false=>rw[hy] at h;cases h
  |true =>
   rw[hy] at h
   rcases List.mem_cons.1 hx with rfl|hx
   ·exact hy
   ·exact Cc7 h x hx
theorem Ze0{f:FuncId}{caps:List b7}{vs:Array Value}(hl:caps.length=vs.size)(h:∀(i:Nat) x x',caps[i]?=some x->vs[i]?=some x'->ea9 ρ H F w x x')(hb:Za6 cd1 caps=true):fa8 F w (.fn f caps) (Qb8 f vs):=by
 refine .fn f caps vs _ rfl hl hb λi hi hi'=>?_
 have hc:=h i _ _ (Qaa hi) (Qac hi');have hp:=Cc7 hb _ (List.getElem_mem hi)
 revert hc hp
 cases caps[i] with
 |v u =>
  intro hc hp
  have:=fa0 (.val (.cell hc))
  rw[this];exact .v _ (by rw[<- Oc0];exact hp)
 |tree es n get=>intro hc hp;exact Ea8 (.val (.cell hc))
 |_=>intro hc hp;cases hp
theorem cd9{y:b7}{y':Value}(hy:K8 ρ H F w y y')(hp:xb3 y=true)(hn:∀cs,y≠.agg cs):ea9 ρ H F w y y'/\y'.cells=#[y']:=by
 cases hy with
 |tup=>cases hp
 |val h=>cases h with
  |agg cs=>exact absurd rfl (hn cs)
  |fn f caps vs hl h =>
   have hm:=Ze0 (f:=f) hl h hp;obtain⟨p,q,r,e2⟩:=Xc0 f vs;exact⟨.mem hm,by rw[e2];rfl⟩
  |cell h =>
   refine⟨h,?_⟩;have hv:∀x:Value,x.oneCell'=true->x.cells=#[x]:=λx hx=>by cases x<;>first | rfl | cases hx
   cases h with
   |mem h=>exact hv _ h.one
   |v=>exact hv _ (by rw[<- Oc0];exact hp)
   |ptr=>rfl
   |sl=>rfl
   |tptr=>rfl
   |unk=>cases hp
theorem Oc3{y:b7}{y':Value}(hy:K8 ρ H F w y y')(hp:xb3 y=true) :
  (L8 y).length=y'.cells.toList.length/\∀(i:Nat) z z',(L8 y)[i]?=some z->y'.cells.toList[i]?=some z'->ea9 ρ H F w z z':=by
 by_cases hn:∀cs,y≠.agg cs
 ·obtain⟨h1,h2⟩:=cd9 hy hp hn;have ha:L8 y=[y]:=by
   cases y with
   |agg cs=>exact absurd rfl (hn cs)
   |_=>rfl
  grind
 ·have:∃cs,y=.agg cs:=Classical.byContradiction λh=>hn λcs e=>h ⟨cs,e⟩
  obtain⟨cs,rfl⟩:=this;obtain⟨vs,rfl,hl,h⟩:=Ja5 hy;exact⟨by simpa [L8,Value.cells] using hl,λi z z' hz hz'=>h i z z' hz (by simpa [Value.cells] using hz')⟩
theorem ye8{y:b7}{zs:List b7}(he:freezeCells H (L8 y)=some (zs,H')):xb3 y=true:=by
 cases y with
 |v u =>
  simp only[L8,freezeCells,freezeCell] at he;cases h1:zd9 u with
  |true=>simpa [xb3] using h1
  |false=>simp[h1] at he
 |tup=>simp[L8,freezeCells,freezeCell] at he
 |unk=>simp[L8,freezeCells,freezeCell] at he
 |fn f caps =>
  simp only[L8,freezeCells,freezeCell] at he;cases h1:Za6 cd1 caps with
  |true=>simpa [xb3] using h1
  |false=>simp[h1] at he
 |_=>rfl
theorem dd0(hH:J0 W ρ H F w){y:b7}{y':Value}{zs:List b7}(hy:K8 ρ H F w y y')(he:freezeCells H (L8 y)=some (zs,H')) :
  ∃F',Adv W ρ H F w ρ H' F' w/\J0 W ρ H' F' w/\zs.length=y'.cells.toList.length/\(∀(i:Nat) z z',zs[i]?=some z->y'.cells.toList[i]?=some z'->fa8 F' w z z')/\H'.length=H.length:=by
 obtain⟨h1,h2⟩:=Oc3 hy (ye8 he);obtain⟨F',h3,h4,h5,h6,h7⟩:=Rb1 hH h1 h2 he
 grind
theorem nd7(H:List c7)(et es:Nat)(elems:List (List b7)):Ea6 H et es elems=H++[{ et,es,elems,own:=true,dead:=false,g:=0 }]:=by
 simp[Ea6,K6]
theorem J0.alloc1(h:J0 W ρ H F w)(cs:List b7)(vs:Array Value)(t:TypeId)(hl:cs.length=vs.toList.length)(hm:∀(i:Nat) z z',cs[i]?=some z->vs.toList[i]?=some z'->fa8 F w z z') :
  U3 W ρ H F w (.ptr H.length 0 0 0) (Ea6 H 0 cs.length [cs]) (.pointer (some ⟨w.heap.size,0,none⟩)) (w.alloc (.cells vs t)):=by
 have hl':cs.length=vs.size:=by simpa using hl
 obtain ⟨h1, h2⟩ := h.alloc 0 cs.length [cs] vs t (fun i r hr => by
   cases i with
   |zero=>simp at hr;subst hr;rfl
   |succ i=>simp at hr) (by simp[hl']) (λi r c z hr hz=>by
   cases i with
   |zero =>
    simp at hr;subst hr
    have hc:c<vs.size:=hl' ▸ (Qab.1 hz).1;exact⟨vs[c],by simp[hc],hm c z _ hz (by simp[hc])⟩
   |succ i=>simp at hr) (λh=>absurd rfl h)
 rw[nd7];refine⟨_,F,h1,h2,.val (.cell (.ptr _ _ _ _ _ { et:=0,es:=cs.length,elems:=[cs],own:=true,dead:=false,g:=0 } (by simp) rfl (Qaf _) λ_=>?_))⟩
 simp[ρnew]
section
variable(hA:Ia4 ρ H F w a ac.tmps)(hH:J0 W ρ H F w)(hG:GOk E F w)
include hA hH hG
omit hA hG in
theorem ye9{t:TypeId}{z:List b7}(ho:o.op=.alloc t)(hz:zeT E.P t=some z)(he:(evalOp E a H (.alloc z)).run=some (x,H')):s4 E.P o ac w (U3 W ρ H F w x H'):=by
 have he':some (b7.ptr (len H) 0 0 0,Ea6 H 0 (len z) [z])=some (x,H'):=he;injection he' with he';injection he' with e1 e2;subst e1 e2
 rw[z6,z6];unfold zeT at hz;cases hi:E.P.info? t with
 |none=>simp[hi] at hz
 |some i =>
 cases hzz:i.zero with
 |none=>simp[hi,hzz] at hz
 |some zv =>
 simp only[hi,hzz] at hz
 split at hz
 ·rename_i hall;injection hz with hz;subst hz;refine .value (x':=.pointer (some ⟨w.heap.size,0,none⟩)) (w':=w.alloc (.cells zv.cells t)) (by simp[execOp,ho,Instr.alloc,zeroValue,typeInfo,hi,hzz,newVar,newRow]) ?_
  refine J0.alloc1 hH _ zv.cells t (by simp) λi z z' h1 h2=>?_
  rw[List.getElem?_map] at h1;rw[h2] at h1
  simp at h1
  subst h1;refine .v _ ?_;rw[<- Oc0]
  grind
 ·cases hz
theorem jf7{t:TypeId}{y:Operand}(ho:o.op=.box t y)(he:(evalOp E a H (.box (o7 y))).run=some (x,H')):s4 E.P o ac w (U3 W ρ H F w x H'):=by
 have hy:=A9 hA hG y;simp only[evalOp] at he;cases hf:freezeCells H (L8 (c9 E a (o7 y))) with
 |none=>rw[hf] at he;cases he
 |some p =>
 obtain⟨cs,H1⟩:=p;rw[hf] at he;have he':some (b7.ptr (len H1) 0 0 0,Ea6 H1 0 (len cs) [cs])=some (x,H'):=he;injection he' with he';injection he' with e1 e2;subst e1 e2
 rw[z6,z6];obtain⟨F1,a1,hH1,hl,hm,hlen⟩:=dd0 hH hy hf;refine .value (x':=.pointer (some ⟨w.heap.size,0,none⟩)) (w':=w.alloc (.cells (ac.eval y).cells t)) (by simp[execOp,ho,Instr.box,newVar,newRow]) ?_
 obtain⟨ρ',F',h1,h2,h3⟩:=J0.alloc1 hH1 cs (ac.eval y).cells t hl hm;exact⟨ρ',F',a1.trans h1,h2,h3⟩
omit hA hH hG in
theorem Xc5{l new:List b7}{c k:Nat}{z:b7}(hfit:c+new.length<=l.length)(h:(Q0 l c new)[k]?=some z):(c<=k/\k<c+new.length/\new[k-c]?=some z)\/((k<c\/c+new.length<=k)/\l[k]?=some z):=by
 unfold Q0 at h;rw[K6,K6,J7,I9,z6] at h
 grind
omit hA hH hG in
theorem Bb5{l new:List b7}{c:Nat}(hfit:c+new.length<=l.length):(Q0 l c new).length=l.length:=by
 unfold Q0;rw[K6,K6,J7,I9,z6];simp;omega
omit hA hH hG in
theorem Xc6{l:Array Value}{new:List Value}{c k:Nat}(hfit:c+new.length<=l.size) :
  ((l.toList.take c++new++l.toList.drop (c+new.length)).toArray)[k]?=if c<=k/\k<c+new.length then new[k-c]? else l[k]?:=by
 grind
theorem ze0{t:TypeId}{y z:Operand}(ho:o.op=.store t y z)(h0:szT E.P t≠0)(he:(evalOp E a H (.store (szT E.P t) (o7 y) (o7 z))).run=some (x,H')):s4 E.P o ac w (U3 W ρ H F w x H'):=by
 have hy:=A9 hA hG y;have hz:=A9 hA hG z;simp only[evalOp] at he
 revert he hy
 cases c9 E a (o7 y) with
 |ptr id i c g =>
  intro he hy;cases hf:freezeCells H (L8 (c9 E a (o7 z))) with
  |none=>simp[hf] at he
  |some p =>
  obtain⟨cs,H1⟩:=p;simp only[hf] at he;cases hbk:blkAt H1 id g with
  |none=>simp[hbk] at he
  |some b =>
  simp only[hbk] at he;obtain⟨hc,he⟩:=DT.run_guard_some he;simp only[Qas] at hc;obtain⟨⟨hown,hn⟩,hilt0,hfit⟩:=hc;have hilt0:i<b.elems.length:=by have:=Qae hilt0;rw[z6] at this;exact this
  have hr:b.elems[i]?=some (c8 b.elems i):=by simp[c8,F7,Qaa hilt0]
  generalize c8 b.elems i=cells at *
  simp only[z6,H6] at he hn hfit;have he':some (b7.v (.tuple #[]),H1.set id { b with elems:=b.elems.set i (Q0 cells c cs) })=some (x,H'):=he
  injection he' with he';injection he' with e1 e2;subst e1 e2
  have hn:=Qad hn;have hfit:c+szT E.P t<=cells.length:=Qae hfit;rw[<- hn] at hfit;obtain⟨F1,a1,hH1,hl,hm,hlen⟩:=dd0 hH hz hf;obtain⟨hb,hd,hg⟩:=H4 hbk;obtain⟨ad,b',e,hb',hd',hg',hh⟩:=Za9 (hy.adv a1)
  have:b'=b:=Qag (hb'.symm.trans hb)
  subst this;have had:=hh hg;obtain⟨cc,tt,fr,hB⟩:=hH1.blk id b' hb hd;obtain⟨hfr,hW,hoff,hsize,hnF,het⟩:=hB.own hown;subst hfr;have hrl:=hB.rows i cells hr;have hilt:=(Qab.1 hr).1;have hbnd:i*b'.es+b'.es<=b'.elems.length*b'.es:=by
   have:=Qaj b'.es (show i+1<=b'.elems.length from hilt)
   grind
  have hlenB:=hB.len;have hl2:(ac.eval z).cells.toList.length=cs.length:=hl.symm;have hone:∀v∈(ac.eval z).cells.toList,v.oneCell'=true:=λv hv=>by
   obtain⟨k,hk,rfl⟩:=List.mem_iff_getElem.1 hv;have hk':k<cs.length:=by omega
   exact (hm k _ _ (Qaa hk') (Qaa hk)).one
  have hfits:i*b'.es+c+(ac.eval z).cells.toList.length<=cc.size:=by rw[hl2];omega
  have hstore:=run_storeCells_at (P:=E.P) (ρ id).blk (i*b'.es+c) tt (ac.eval z).cells.toList 0 cc w hB.obj (by simpa using hfits) hone
  simp only[Nat.add_zero] at hstore;obtain⟨ti,hi1,hi2⟩:=ye6 h0;have hsz0:(ac.eval z).cells.size=ti.size:=by rw[hi2,<- hn,<- hl2];simp
  have had':ad=⟨(ρ id).blk,i*b'.es+c,none⟩:=by rw[had,hoff,Qar]
  refine .skip (w':=w.setRow (ρ id).blk (cc.toList.take (i*b'.es+c)++(ac.eval z).cells.toList++cc.toList.drop (i*b'.es+c+(ac.eval z).cells.toList.length)).toArray) ?_ ?_
  ·simp[execOp,ho,e,had',Instr.storeAt,Instr.sureAddr,storeVar,sizeOf,typeInfo,hi1,hsz0,hstore]
  ·have hget : ∀ (i' : Nat) r, (b'.elems.set i (Q0 cells c cs))[i']? = some r → (i' = i ∧ r = Q0 cells c cs) ∨ (i' ≠ i ∧ b'.elems[i']? = some r) := fun i' r hr' => by
    by_cases e:i=i'
    ·subst e;simp[hilt] at hr';exact .inl ⟨rfl,hr'.symm⟩
    ·rw[Qah e] at hr';exact .inr ⟨λh=>e h.symm,hr'⟩
   obtain⟨h3,h4⟩:=hH1.rewrite id b' { b' with elems:=b'.elems.set i (Q0 cells c cs) } hb hd hown cc tt hB
    (cc.toList.take (i*b'.es+c)++(ac.eval z).cells.toList++cc.toList.drop (i*b'.es+c+(ac.eval z).cells.toList.length)).toArray
    (by simp at hfits ⊢;omega) rfl rfl hown hd (Qaf _) (λ_=>by simp) (by simpa using hlenB)
    (λi' r hr'=>by
     rcases hget i' r hr' with⟨rfl,rfl⟩|⟨_,hr''⟩
     ·rw[Bb5 hfit];exact hrl
     ·exact hB.rows i' r hr'')
    (λi' r k u hr' hu=>by
     rw[Xc6 hfits]
     rcases hget i' r hr' with⟨rfl,rfl⟩|⟨hne,hr''⟩
     ·rcases Xc5 hfit hu with⟨h1,h2,h3⟩|⟨h1,h3⟩
      ·rw[if_pos (by omega)]
       have hk:k-c<(ac.eval z).cells.toList.length:=by omega
       refine⟨(ac.eval z).cells.toList[k-c],?_,hm (k-c) u _ h3 (Qaa hk)⟩;rw[show i'*b'.es+k-(i'*b'.es+c)=k-c by omega,Qaa hk]
      ·have hk:=(Qab.1 h3).1;rw[if_neg (by omega)]
       have:=hB.cell i' cells k u hr h3
       rwa [hoff,Qar] at this
     ·have hk:k<b'.es:=by rw[<- hB.rows i' r hr''];exact (Qab.1 hu).1
      have hnot:¬ (i*b'.es+c<=i'*b'.es+k/\i'*b'.es+k<i*b'.es+c+(ac.eval z).cells.toList.length):=by
       rcases Qaq i' i with hlt|hge
       ·have:=Qaj b'.es (show i'+1<=i from hlt)
        rw[Qao,Nat.one_mul] at this;omega
       ·have:=Qaj b'.es (show i+1<=i' by omega)
        rw[Qao,Nat.one_mul] at this;omega
      rw[if_neg hnot]
      have:=hB.cell i' r k u hr'' hu
      rwa [hoff,Qar] at this)
   exact⟨ρ,F1,a1.trans h3,h4,.ofv _⟩
 |_=>intro he;cases he
end
end
end Go.Ev
