/- Own work. -/
import Derived.Laws.World
import Derived.Laws.Sem
import GoSem.Dispatch
import Derived.Calls
import Derived.Laws.Entries
import GoSem.ClaimData
import Derived.Laws.OwnMore
import Derived.Maps.AppendAt
import Derived.Orders
set_option linter.all false
noncomputable section
def Qaa:=@List.getElem?_eq_getElem
def Qab:=@List.getElem?_eq_some_iff
def Qac:=@Nat.le_refl
def Qad:=@Nat.le_trans
def Qae:=@Nat.eq_of_beq_eq_true
def Qaf:=@List.getElem?_set_ne
def Qag:=@Nat.add_assoc
def Qah:=@Option.some.inj
def Qai:=@Array.getElem?_eq_getElem
def Qaj:=@Nat.lt_of_lt_of_le
def Qak:=@Nat.ne_of_lt
def Qal:=@List.getElem?_eq_none
def Qam:=@Array.getElem?_push
def Qan:=@Nat.lt_or_ge
namespace Go.Ev
open Go
theorem cc3{α:Type}:∀(c:Ask α) (w:World),w.drawn<=(w.ask c).2.drawn
 |.done a,w=>Qac _
 |.ask what range k,w=>by
  unfold World.ask
  dsimp only
  split
  ·exact cc3 _ w
  ·exact Qad (Nat.le_succ _) (cc3 _ { w with drawn:=w.drawn+1 })
theorem Rd3(w:World)(c:Sys):w.drawn<=(w.sys c).2.drawn:=by
 unfold World.sys;have h:=cc3 (Kernel.perform c w.os) w
 grind
theorem xd8{p:Program}{w:World}{t:Addr}{u:TypeId}{k:Addr}{v:Value}{a:Bool}{r:World×List Addr}(h:w.viewStore p t u k v a=.ok r):r.1.drawn=w.drawn:=by
 unfold World.viewStore at h;simp only[bind,Except.bind,pure,Except.pure] at h
 repeat' (split at h<;>try (cases h;done))
 grind
theorem Rd4{p:Program}{w:World}{t:Addr}{v:Value}{a:Bool}{r:World×List Addr}(h:w.farStore p t v a=.ok r):r.1.drawn=w.drawn:=by
 unfold World.farStore at h
 split at h
 ·split at h
  ·next hv=>cases h;exact xd8 hv
  ·cases h
 ·cases h
theorem Pc7{α:Type}(P:Program):∀(s:Sem α) (w:World) {a:α} {w':World},s.run P w=.ok a w'->w.drawn<=w'.drawn:=by
 intro s
 induction s with
 |pure a=>intro w a w' h;simp only[Sem.run] at h;cases h;exact Qac _
 |load m a k ih =>
  intro w b w' h;simp only[Sem.run] at h
  grind
 |store m a v k ih =>
  intro w b w' h
  have go : ∀ (hx : (match w.cell? a with
    |some _=>if w.frozen? a then Result.halt (.unsupported (.unsafePointer "a write to bytes that a string shares")) w else k.run P (w.setCell a v)
    |none=>match w.farStore P a v (m==Mode.atomic) with
     |.ok (w1,_)=>k.run P w1
     |.error h=>.halt h w)=.ok b w'),w.drawn<=w'.drawn:=λhx=>by
   split at hx
   ·split at hx
    ·cases hx
    ·exact ih (w.setCell a v) hx
   ·split at hx
    ·next hf=>exact Qad (Nat.le_of_eq (Rd4 hf).symm) (ih _ hx)
    ·cases hx
  cases v<;>simp only[Sem.run] at h<;>first | exact go h | cases h
 |new o k ih=>intro w b w' h;simp only[Sem.run] at h;exact ih _ { w with heap:=w.heap.push o } h
 |shape r k ih=>intro w b w' h;simp only[Sem.run] at h;exact ih _ w h
 |freeze a n k ih =>
  intro w b w' h;simp only[Sem.run] at h
  have:=ih (w.freeze a n) h
  have e:(w.freeze a n).drawn=w.drawn:=by unfold World.freeze;split<;>rfl
  omega
 |frozen a k ih=>intro w b w' h;simp only[Sem.run] at h;exact ih _ w h
 |getObj r k ih =>
  intro w b w' h;simp only[Sem.run] at h
  grind
 |setObj r o k ih =>
  intro w b w' h;simp only[Sem.run] at h
  grind
 |choose q k ih =>
  intro w b w' h;simp only[Sem.run] at h
  grind
 |sys c k ih=>intro w b w' h;simp only[Sem.run] at h;exact Qad (Rd3 w c) (ih _ _ h)
 |program k ih=>intro w b w' h;simp only[Sem.run] at h;exact ih _ w h
 |mark m k ih=>intro w b w' h;simp only[Sem.run] at h;exact ih w h
 |halt h=>intro w b w' h;simp only[Sem.run] at h;cases h
end Go.Ev
namespace Go.Ev
open Go
inductive b9 where
 |v (x:Value)
 |agg (cs:List b9)
 |tup (vs:List b9)
 |ptr (id i c g:Nat)
 |sl (id off len g:Nat)
 |tree (es n:Nat) (get:Nat->List b9)
 |tptr (cs:List b9)
 |fn (f:FuncId) (caps:List b9)
 |unk
structure c7 where
 et:TypeId
 es:Nat
 elems:List (List b9)
 own:Bool
 dead:Bool
 g:Nat
@[reducible] def bfB:Nat:=100000
inductive DT (α:Type) where
 |ret (a:α)
 |fail
 |ite (b:Bool) (t e:DT α)
namespace DT
variable{α β:Type}
def bind(x:DT α)(f:α->DT β):DT β :=
 DT.rec (motive:=λ_=>DT β) (λa=>f a) .fail (λb _ _ t e=>.ite b t e) x
def run(x:DT α):Option α :=
 DT.rec (motive:=λ_=>Option α) some none (λb _ _ t e=>Bool.rec e t b) x
def ofOption(x:Option α):DT α:=Option.rec .fail .ret x
def guard(b:Bool)(t:DT α):DT α:=.ite b t .fail
end DT
section
variable{α β:Type}
def nth(l:List α):Nat->Option α :=
 List.rec (motive:=λ_=>Nat->Option α) (λ_=>none) (λx _ ih n=>Nat.rec (motive:=λ_=>Option α) (some x) (λk _=>ih k) n) l
def setAt(l:List α):Nat->α->List α :=
 List.rec (motive:=λ_=>Nat->α->List α) (λ_ _=>[]) (λx r ih n y=>Nat.rec (motive:=λ_=>List α) (y::r) (λk _=>x::ih k y) n) l
def A7(l:List α):Nat->List α :=
 List.rec (motive:=λ_=>Nat->List α) (λ_=>[]) (λx _ ih n=>Nat.rec (motive:=λ_=>List α) [] (λk _=>x::ih k) n) l
def i9(l:List α):Nat->List α :=
 List.rec (motive:=λ_=>Nat->List α) (λ_=>[]) (λx r ih n=>Nat.rec (motive:=λ_=>List α) (x::r) (λk _=>ih k) n) l
def app(l r:List α):List α:=List.rec (motive:=λ_=>List α) r (λx _ ih=>x::ih) l
def len(l:List α):Nat:=List.rec (motive:=λ_=>Nat) 0 (λ_ _ ih=>Nat.succ ih) l
def l9(f:α->β)(l:List α):List β:=List.rec (motive:=λ_=>List β) [] (λx _ ih=>f x::ih) l
def Ma4(f:α->Option β)(l:List α):Option (List β) :=
 List.rec (motive:=λ_=>Option (List β)) (some []) (λx _ ih=>Option.rec (motive:=λ_=>Option (List β)) none (λy=>Option.rec (motive:=λ_=>Option (List β)) none (λr=>some (y::r)) ih) (f x)) l
end
inductive Arg where
 |t (n:Nat)
 |c (x:b9)
 |g (n:Nat)
inductive CK where
 |int (k:IntKind)
 |bool
 |sl (es:Nat)
 |any
inductive PO where
 |mv (x:Arg)
 |nilck (x:Arg)
 |pick (c x y:Arg)
 |alloc (z:List b9)
 |box (x:Arg)
 |build (z:List b9) (parts:List (Nat×Nat×Arg))
 |bslice (et es len:Nat) (z:List b9) (parts:List (Nat×Nat×Arg))
 |tslice (es len:Nat) (z:List b9) (parts:List (Nat×Nat×Arg))
 |tmk (es bytes:Nat) (z:List b9) (l c:Arg)
 |load (ks:List CK) (n:Nat) (agg:Bool) (x:Arg)
 |store (n:Nat) (x y:Arg)
 |fld (off:Nat) (x:Arg)
 |idxA (len es:Nat) (x i:Arg)
 |idxS (es:Nat) (x i:Arg)
 |slice (es:Nat) (x:Arg) (lo hi:Option Arg)
 |mksl (et es bytes:Nat) (z:List b9) (l c:Arg)
 |mkfn (f:FuncId) (caps:List Arg)
 |mkfz (f:FuncId) (caps:List Arg)
 |ext (x:Arg) (i:Nat)
 |field (off n:Nat) (agg:Bool) (x:Arg)
 |index (ks:List CK) (len es:Nat) (agg:Bool) (x i:Arg)
 |bin (op:BinOp) (x y:Arg)
 |eqn (k:Nat) (neg:Bool) (x y:Arg) (o:Oper) (ts:List Nat)
 |eqc (neg:Bool) (fl:List (Nat×CK)) (x y:Arg)
 |not (x:Arg)
 |neg (x:Arg)
 |gen (o:Oper) (ts:List Nat)
 |call (f:FuncId) (args:List Arg)
 |calld (x:Arg) (args:List Arg)
 |invk (tbl:List (Nat×FuncId)) (x:Arg) (args:List Arg)
 |append (et es bytes:Nat) (s x:Arg)
 |copy (es:Nat) (d s:Arg)
 |apre (es:Nat) (s x:Arg)
 |clr (es:Nat) (z:List b9) (x:Arg)
 |asl (n es:Nat) (x:Arg)
 |sidx (x i:Arg)
 |slen (x:Arg)
 |len (x:Arg)
 |bad
structure PI where
 dst:Option Nat
 guard:Option (Nat×Bool)
 hide:List Nat
 op:PO
inductive SP where
 |old (n:Nat) (o:PO)
 |balloc (z:List b9)
 |bbox (x:Arg)
 |bload (n:Nat) (agg:Bool) (p:Nat)
 |bstore (n:Nat) (p:Nat) (y:Arg)
 |bfld (off:Nat) (p:Nat)
 |bmv (p:Nat)
 |mmake (t:Nat)
 |mlook (t kl:Nat) (fl:List (Nat×CK)) (m:Nat) (key:Arg)
 |mupd (t kl:Nat) (fl:List (Nat×CK)) (m:Nat) (key val:Arg)
 |bad
inductive PC where
 |skip
 |ops (l:List PI)
 |draw (dsts:List Nat) (asq l:List PI) (pairs:List (PO×PO))
 |seq (a b:PC)
 |cond (c:Arg) (x y:PC)
 |block (id:Nat) (c:PC)
 |loop (keep:List Nat) (c:PC)
 |exit (id:Nat)
 |ret
 |bad
 |mask (n:Nat) (ds:List Nat) (c:PC)
 |sp (dst:Option Nat) (g:Option (Nat×Bool)) (o:SP)
 |inner (f:Nat) (x:Arg) (nIn:Nat) (c:PC)
 |round (dst:Option Nat) (g:Option (Nat×Bool)) (args:List Arg) (nIn nOut:Nat) (ps:List Nat) (asq body:PC)
 |loopM (keep:List Nat) (c:PC)
 |adopt (p:Nat)
inductive cc4 where
 |t (n:Nat)
 |cell (a n:Nat) (agg:Bool)
structure PFn where
 ntmps:Nat
 res:List cc4
 body:PC
structure Env where
 P:Program
 G:Nat->List Value
 fns:FuncId->Option PFn
 call:FuncId->List b9->List c7->DT (b9×List c7)
 own:FuncId->Nat->Bool
 N:Nat
def ofVal1:Value->b9
 |.agg cs=>.agg (cs.toList.map .v)
 |x=>.v x
def ofVal:Value->b9
 |.agg cs=>.agg (cs.toList.map .v)
 |.tuple vs=>.tup (vs.toList.map ofVal1)
 |x=>.v x
def uc3:b9->Option Value
 |.v x=>some x
 |.fn f []=>some (.func (.func f) #[] #[])
 |_=>none
def jd4:b9->Option Value
 |.v x=>some x
 |.fn f []=>some (.func (.func f) #[] #[])
 |.agg cs=>match Ma4 uc3 cs with
  |some l=>some (.agg l.toArray)
  |none=>none
 |_=>none
def ab3{α:Type}(P:Program):Sem α->Option α
 |.pure a=>some a
 |.program k=>ab3 P (k P)
 |.mark _ k=>ab3 P k
 |_=>none
def c9(E:Env)(a:List b9)(x:Arg):b9 :=
 Arg.rec (motive:=λ_=>b9) (λt=>Option.rec (motive:=λ_=>b9) .unk (λy=>y) (nth a t)) (λc=>c) (λg=>.tptr (l9 .v (E.G g))) x
def Hd9:List Nat->List Value->Nat->Value
 |t::ts,v::vs,n=>match Nat.beq t n with
  |true=>v
  |false=>Hd9 ts vs n
 |_,_,_=>.tuple #[]
def Id0(ts:List Nat)(vs:List Value):Operand->Value
 |.tmp t=>Hd9 ts vs t
 |.const v=>v
 |.func f=>.func (.func f) #[] #[]
 |.global _=>.tuple #[]
def Id1(E:Env)(o:Oper)(rho:Operand->Value):Option b9 :=
 match ab3 E.P (execOp rho o) with
 |some (.value v)=>some (ofVal v)
 |_=>none
def A0:b9->List b9
 |.agg cs=>cs
 |x=>[x]
def eb7(agg:Bool)(cs:List b9):Option b9 :=
 match agg with
 |true=>some (.agg cs)
 |false=>match cs with
  |[x]=>some x
  |_=>none
def inB(n:Int)(len:Nat):Bool :=
 match n with
 |.ofNat k=>Nat.blt k len
 |.negSucc _=>false
def blkAt(H:List c7)(id g:Nat):Option c7 :=
 match nth H id with
 |some b=>match b.dead with
  |true=>none
  |false=>match Nat.beq b.g g with
   |true=>some b
   |false=>none
 |none=>none
def loadCells(H:List c7)(p:b9)(n:Nat):Option (List b9) :=
 match p with
 |.ptr id i c g=>match blkAt H id g with
  |some b=>match nth b.elems i with
   |some cells=>match Nat.ble (c+n) (len cells) with
    |true=>some (A7 (i9 cells c) n)
    |false=>none
   |none=>none
  |none=>none
 |.tptr cs=>match Nat.ble n (len cs) with
  |true=>some (A7 cs n)
  |false=>none
 |_=>none
def j6(l:List (List b9))(i:Nat):List b9 :=
 match nth l i with
 |some x=>x
 |none=>[]
def ob4(H:List c7)(p:b9)(n:Nat):Option (Bool×List b9) :=
 match p with
 |.ptr id i c g=>match blkAt H id g with
  |some b=>some (Bool.and (Nat.blt i (len b.elems)) (Nat.ble (c+n) (len (j6 b.elems i))),i9 (j6 b.elems i) c)
  |none=>none
 |.tptr cs=>some (Nat.ble n (len cs),cs)
 |_=>none
def Ib5:CK->b9->Bool
 |.int k,.v (.int k' _)=>decide (k=k')
 |.bool,.v (.bool _)=>true
 |.sl es,.tree es' _ _=>Nat.beq es es'
 |.sl _,.v (.slice none 0 0)=>true
 |.any,_=>true
 |_,_=>false
def toI:b9->Int
 |.v (.int _ n)=>n
 |_=>0
def toB:b9->Bool
 |.v (.bool b)=>b
 |_=>false
def toN:b9->Nat
 |.tree _ n _=>n
 |_=>0
def toG:b9->Nat->List b9
 |.tree _ _ get=>get
 |_=>λ_=>[]
def Rd5:CK->b9->b9
 |.int k,x=>.v (.int k (toI x))
 |.bool,x=>.v (.bool (toB x))
 |.sl es,x=>.tree es (toN x) (toG x)
 |.any,x=>x
def hdA(l:List b9):b9:=List.rec (motive:=λ_=>b9) .unk (λx _ _=>x) l
def tlA(l:List b9):List b9:=List.rec (motive:=λ_=>List b9) [] (λ_ r _=>r) l
def ma4(ks:List CK):List b9->Bool :=
 List.rec (motive:=λ_=>List b9->Bool) (λ_=>true) (λk _ ih cs=>Bool.and (Ib5 k (hdA cs)) (ih (tlA cs))) ks
def vb9(ks:List CK):List b9->List b9 :=
 List.rec (motive:=λ_=>List b9->List b9) (λ_=>[]) (λk _ ih cs=>Rd5 k (hdA cs)::ih (tlA cs)) ks
def T8(l:List b9)(c:Nat)(new:List b9):List b9:=app (A7 l c) (app new (i9 l (c+len new)))
def elemsOf(es:Nat)(H:List c7):b9->Option (List (List b9))
 |.sl id off n g=>match blkAt H id g with
  |some b=>match Nat.beq b.es es with
   |true=>some (A7 (i9 b.elems off) n)
   |false=>none
  |none=>none
 |.tree es' n get=>match Nat.beq es' es with
  |true=>some (l9 get (List.range n))
  |false=>none
 |.v (.slice none 0 0)=>some []
 |.v (.slice (some _) 0 _)=>some []
 |_=>none
def modAt(H:List c7)(id:Nat)(f:c7->c7):List c7 :=
 match nth H id with
 |some b=>setAt H id (f b)
 |none=>H
def disown(H:List c7)(id:Nat):List c7:=modAt H id λb=>{ b with own:=false }
def wb0(b:c7)(off n:Nat):b9:=.tree b.es n λi=>j6 b.elems (off+i)
def pc1:Value->Bool
 |.agg _ | .tuple _=>false
 |_=>true
def ia0(f:b9->Bool)(l:List b9):Bool:=List.rec (motive:=λ_=>Bool) true (λx _ ih=>Bool.rec false ih (f x)) l
def sb7:b9->Bool
 |.v x=>pc1 x
 |.tree ..=>true
 |.tptr ..=>true
 |_=>false
def freezeCell(H:List c7):b9->Option (b9×List c7)
 |.v x=>match pc1 x with
  |true=>some (.v x,H)
  |false=>none
 |.tree es n get=>some (.tree es n get,H)
 |.fn f caps=>match ia0 sb7 caps with
  |true=>some (.fn f caps,H)
  |false=>none
 |.sl id off n g=>match blkAt H id g with
  |some b=>some (wb0 b off n,disown H id)
  |none=>none
 |_=>none
def freezeCells(H:List c7):List b9->Option (List b9×List c7)
 |[]=>some ([],H)
 |x::r=>match freezeCell H x with
  |some (y,H1)=>match freezeCells H1 r with
   |some (l,H2)=>some (y::l,H2)
   |none=>none
  |none=>none
def frzCap(H:List c7):b9->Option (b9×List c7)
 |.v x=>match pc1 x with
  |true=>some (.v x,H)
  |false=>none
 |.tree es n get=>some (.tree es n get,H)
 |.tptr cs=>some (.tptr cs,H)
 |.ptr id i c g=>match blkAt H id g with
  |some b=>match Nat.blt i (len b.elems) with
   |true=>some (.tptr (i9 (j6 b.elems i) c),disown H id)
   |false=>none
  |none=>none
 |_=>none
def frzCaps(H:List c7):List b9->Option (List b9×List c7)
 |[]=>some ([],H)
 |x::r=>match frzCap H x with
  |some (y,H1)=>match frzCaps H1 r with
   |some (l,H2)=>some (y::l,H2)
   |none=>none
  |none=>none
def da2(H:List c7)(et es:Nat)(elems:List (List b9)):List c7:=app H [{ et,es,elems,own:=true,dead:=false,g:=0 }]
def Fa6:b9->Bool
 |.v x=>pc1 x
 |.tup _=>false
 |.unk=>false
 |.fn _ caps=>ia0 sb7 caps
 |_=>true
def sb8(cells:List b9):List (Nat×Nat×b9)->Option (List b9)
 |[]=>some cells
 |(off,size,x)::rest =>
  match Fa6 x&&Nat.beq (len (A0 x)) size&&Nat.ble (off+size) (len cells) with
  |true=>sb8 (T8 cells off (A0 x)) rest
  |false=>none
def ma5(es:Nat):Nat->List b9->List (List b9)
 |0,_=>[]
 |n+1,l=>A7 l es::ma5 es n (i9 l es)
def S4:b9->Option Int
 |.v (.int _ n)=>some n
 |_=>none
def Sb4(n:Nat)(lo hi:Option b9):DT (Nat×Nat) :=
 let h:DT Nat:=match hi with
  |none=>.ret n
  |some x=>match S4 x with
   |some m=>.guard (inB m (n+1)) (.ret m.toNat)
   |none=>.fail
 h.bind λh=>match lo with
  |none=>.ret (0,h)
  |some x=>match S4 x with
   |some m=>.guard (inB m (h+1)) (.ret (m.toNat,h))
   |none=>.fail
def room:Nat:=140737488355328
def appendA(et es bytes:Nat)(s x:b9)(H:List c7):DT (b9×List c7) :=
 match elemsOf es H x with
 |some news=>match s with
  |.v (.slice none 0 0) =>
   .ite (Nat.beq (len news) 0) (.ret (.v (.slice none 0 0),H))
    (.guard (Nat.ble (len news*bytes) room) (.ret (.sl (len H) 0 (len news) 0,da2 H et es news)))
  |.sl id off n g=>match blkAt H id g with
   |some b=>match b.own&&Nat.beq off 0&&Nat.beq b.es es&&Nat.beq b.et et with
    |true =>
     .guard (Nat.beq n (len b.elems)&&Nat.ble ((n+len news)*bytes) room)
      (.ret (.sl id 0 (n+len news) (g+1),setAt H id { b with elems:=app b.elems news,g:=g+1 }))
    |false=>.fail
   |none=>.fail
  |_=>.fail
 |none=>.fail
def apreA(es:Nat)(s x:b9)(H:List c7):DT (b9×List c7) :=
 match elemsOf es H x with
 |some news=>match s with
  |.v (.slice none 0 0)=>.guard (Nat.beq (len news) 0) (.ret (.v (.slice none 0 0),H))
  |.sl id off n g=>match blkAt H id g with
   |some b=>match b.own&&Nat.beq off 0&&Nat.beq b.es es with
    |true=>.guard (Nat.ble (n+len news) (len b.elems)) (.ret (.sl id 0 (n+len news) g,setAt H id { b with elems:=app (A7 b.elems n) (app news (i9 b.elems (n+len news))) }))
    |false=>.fail
   |none=>.fail
  |_=>.fail
 |none=>.fail
def aslA(n es:Nat)(x:b9)(H:List c7):Option (b9×List c7) :=
 match x with
 |.ptr id i c g=>match blkAt H id g with
  |some b=>match Bool.and (Nat.blt i (len b.elems)) (Nat.ble (c+n*es) (len (j6 b.elems i))) with
   |true=>some (.tree es n λj=>A7 (i9 (j6 b.elems i) (c+j*es)) es,disown H id)
   |false=>none
  |none=>none
 |_=>none
def clrA(es:Nat)(z:List b9)(x:b9)(H:List c7):Option (b9×List c7) :=
 match x with
 |.v (.slice none 0 0)=>some (.v (.tuple #[]),H)
 |.sl id off n g=>match blkAt H id g with
  |some b=>match b.own&&Nat.beq b.es es&&Nat.beq (len z) es with
   |true=>some (.v (.tuple #[]),setAt H id { b with elems:=app (A7 b.elems off) (app (List.replicate n z) (i9 b.elems (off+n))) })
   |false=>none
  |none=>none
 |_=>none
def if8:b9->Option b9
 |.sl _ _ n _=>some (.v (.int .i64 n))
 |.tree _ n _=>some (.v (.int .i64 n))
 |.v (.slice _ n _)=>some (.v (.int .i64 n))
 |_=>none
def Aa2(k:Nat)(x:b9):Option Bool :=
 match k,x with
 |0,.v (.slice none _ _)=>some true
 |0,.v (.slice (some _) _ _)=>some false
 |0,.sl ..=>some false
 |0,.tree _ n _=>match n with | 0=>none | _+1=>some false
 |1,.v (.pointer none)=>some true
 |1,.ptr ..=>some false
 |1,.tptr ..=>some false
 |2,.v .nilFunc=>some true
 |2,.fn f _=>match Nat.ble bfB f with
  |true=>none
  |false=>some false
 |_,_=>none
def Pc8:b9->Bool
 |.agg _=>false
 |.v x=>pc1 x
 |.tup _=>false
 |.unk=>false
 |.fn _ (_::_)=>false
 |_=>true
def Ia8(id:Nat):Nat->List Nat->Option Nat
 |_,[]=>none
 |k,x::r=>match Nat.beq x id with
  |true=>some k
  |false=>Ia8 id (k+1) r
def ma6(roots:List Nat)(id:Nat):Nat×List Nat :=
 match Ia8 id 0 roots with
 |some j=>(j,roots)
 |none=>(len roots,app roots [id])
structure ka4 where
 roots:List Nat
 lent:List Nat
def capArg(H:List c7)(p:ka4):b9->Option (b9×ka4)
 |.v x=>some (.v x,p)
 |.ptr id i c g=>match blkAt H id g with
  |some _=>match ma6 p.roots id with
   |(j,r)=>some (.ptr j i c 0,{ p with roots:=r })
  |none=>none
 |.tree es n get=>some (.tree es n get,p)
 |.tptr cs=>some (.tptr cs,p)
 |.sl id off n g=>match blkAt H id g with
  |some b=>some (wb0 b off n,{ p with lent:=id::p.lent })
  |none=>none
 |.fn f []=>some (.fn f [],p)
 |_=>none
def capArgs(H:List c7)(p:ka4):List b9->Option (List b9×ka4)
 |[]=>some ([],p)
 |x::r=>match capArg H p x with
  |some (y,p1)=>match capArgs H p1 r with
   |some (l,p2)=>some (y::l,p2)
   |none=>none
  |none=>none
def prepArg(H:List c7)(own:Bool)(p:ka4)(x:b9):Option (b9×ka4) :=
 match x with
 |.v x=>some (.v x,p)
 |.sl id off n g=>match own with
  |true=>match blkAt H id g with
   |some _=>match Nat.beq off 0 with
    |true=>match ma6 p.roots id with
     |(j,r)=>some (.sl j 0 n 0,{ p with roots:=r })
    |false=>none
   |none=>none
  |false=>capArg H p (.sl id off n g)
 |.agg cs=>match capArgs H p cs with
  |some (l,p)=>some (.agg l,p)
  |none=>none
 |.fn f caps=>match capArgs H p caps with
  |some (l,p)=>some (.fn f l,p)
  |none=>none
 |x=>capArg H p x
def prepArgs(H:List c7)(own:Nat->Bool)(p:ka4):Nat->List b9->Option (List b9×ka4)
 |_,[]=>some ([],p)
 |k,x::r=>match prepArg H (own k) p x with
  |some (y,p1)=>match prepArgs H own p1 (k+1) r with
   |some (l,p2)=>some (y::l,p2)
   |none=>none
  |none=>none
def blksAt(H:List c7):List Nat->Option (List c7)
 |[]=>some []
 |id::r=>match nth H id with
  |some b=>match blksAt H r with
   |some l=>some ({ b with g:=0 }::l)
   |none=>none
  |none=>none
def putBack(H:List c7):List Nat->List c7->Option (List c7)
 |[],[]=>some H
 |[],rest=>some (app H rest)
 |id::r,b::rest=>putBack (modAt H id λold=>{ b with g:=old.g+b.g }) r rest
 |_::_,[]=>none
def backId(H:List c7)(roots:List Nat)(j g:Nat):Nat×Nat :=
 match nth roots j with
 |some id=>(id,match nth H id with
  |some b=>b.g+g
  |none=>g)
 |none=>(len H+(j-len roots),g)
def backC(H:List c7)(roots:List Nat):b9->b9
 |.ptr j i c g=>match backId H roots j g with
  |(id,g')=>.ptr id i c g'
 |.sl j off n g=>match backId H roots j g with
  |(id,g')=>.sl id off n g'
 |x=>x
def backVal1(H:List c7)(roots:List Nat):b9->b9
 |.fn f caps=>.fn f (l9 (backC H roots) caps)
 |.agg cs=>.agg (l9 (backC H roots) cs)
 |x=>backC H roots x
def backVal(H:List c7)(roots:List Nat):b9->b9
 |.v x=>.v x
 |.tup vs=>.tup (l9 (backVal1 H roots) vs)
 |x=>backVal1 H roots x
def Xc7:b9->Bool
 |.tree .. | .tptr ..=>true
 |.fn _ (_::_)=>true
 |_=>false
def ra7:b9->Bool
 |.tree .. | .tptr ..=>true
 |.fn _ caps=>caps.any Xc7
 |_=>false
def xd9:b9->Bool
 |.agg cs=>cs.any ra7
 |x=>ra7 x
def pa9:b9->Bool
 |.agg cs=>cs.any ra7
 |.tup vs=>vs.any xd9
 |x=>ra7 x
def wb1(b:c7):Bool:=b.elems.any λcs=>cs.any ra7
def Ma5(k:Nat)(l:List Nat):Bool:=List.rec (motive:=λ_=>Bool) false (λx _ ih=>Bool.rec ih true (Nat.beq x k)) l
def Ua1(l r:List Nat):Bool:=List.rec (motive:=λ_=>Bool) true (λx _ ih=>Bool.rec ih false (Ma5 x r)) l
def settle(lent:List Nat)(held:Bool)(H:List c7):List c7 :=
 List.rec (motive:=λ_=>List c7) H (λid _ ih=>modAt ih id λb=>{ b with own:=Bool.rec b.own false held }) lent
def callA(E:Env)(f:FuncId)(args:List b9)(H:List c7):DT (b9×List c7) :=
 match prepArgs H (E.own f) { roots:=[],lent:=[] } 0 args with
 |some (args',p)=>match blksAt H p.roots,Ua1 p.lent p.roots with
  |some blks,true=>(E.call f args' blks).bind fun
   |(r,out)=>match putBack H p.roots out with
    |some H'=>.ret (backVal H p.roots r,settle p.lent (pa9 r||out.any wb1) H')
    |none=>.fail
  |_,_=>.fail
 |none=>.fail
def opt(x:Option b9)(H:List c7):DT (b9×List c7) :=
 Option.rec (motive:=λ_=>DT (b9×List c7)) .fail (λy=>.ret (y,H)) x
def Rd6(x:Option (b9×List c7)):DT (b9×List c7) :=
 Option.rec (motive:=λ_=>DT (b9×List c7)) .fail .ret x
def if9(k:IntKind)(m n:Int):Int:=k.wrap ((BitVec.ofInt k.bits m &&& BitVec.ofInt k.bits n).toNat:Int)
def jf0(k:IntKind)(m n:Int):Int:=m.fdiv (2 ^ (min n.toNat k.bits))
def Te8(op:BinOp)(x y:b9):DT b9 :=
 match x,y with
 |.v (.int k m),.v (.int k' n) =>
  if k=k' then
   match op with
   |.add=>.ret (.v (.int k (k.wrap (m+n))))
   |.sub=>.ret (.v (.int k (k.wrap (m-n))))
   |.mul=>.ret (.v (.int k (k.wrap (m*n))))
   |.quo=>.ite (n==0) .fail (.ret (.v (.int k (k.wrap (m.tdiv n)))))
   |.rem=>.ite (n==0) .fail (.ret (.v (.int k (m.tmod n))))
   |.lss=>.ret (.v (.bool (m<n)))
   |.leq=>.ret (.v (.bool (m<=n)))
   |.gtr=>.ret (.v (.bool (m>n)))
   |.geq=>.ret (.v (.bool (m>=n)))
   |.eql=>.ret (.v (.bool (m==n)))
   |.neq=>.ret (.v (.bool (m != n)))
   |.and=>.ret (.v (.int k (if9 k m n)))
   |_=>.fail
  else .fail
 |_,_=>.fail
def jf1(x y:b9):DT b9 :=
 match x,y with
 |.v (.int k m),.v (.int _ n)=>.guard (decide (0<=n)) (.ret (.v (.int k (jf0 k m n))))
 |_,_=>.fail
def Te9(op:BinOp)(x y:b9):DT b9 :=
 match op with
 |.shr=>jf1 x y
 |op=>Te8 op x y
def wb2:b9->Bool
 |.v x=>pc1 x
 |.tree ..=>true
 |.fn _ []=>true
 |_=>false
def Lc3(E:Env)(a:List b9)(o:Oper)(ts:List Nat):Option b9 :=
 match Ma4 (λt=>jd4 (c9 E a (.t t))) ts with
 |some vs=>Id1 E o (Id0 ts vs)
 |none=>none
def Xc8(k:Nat)(x:b9):Option Bool :=
 match k,x with
 |0,.tree ..=>some false
 |k,x=>Aa2 k x
def we1:b9->Bool
 |.tree _ n _=>!(Nat.beq n 0)
 |_=>true
def Ue0(E:Env)(a:List b9)(k:Nat)(neg:Bool)(p q:b9)(o:Oper)(ts:List Nat):Option b9 :=
 match Xc8 k p,Xc8 k q with
 |some true,some b=>some (.v (.bool (match neg with | true=>!b | false=>b)))
 |some false,some true=>some (.v (.bool neg))
 |_,_=>Lc3 E a o ts
def yd0(fl:List (Nat×CK))(cs:List b9):Bool :=
 List.rec (motive:=λ_=>Bool) true (λp _ ih=>Bool.and (Ib5 p.2 (hdA (i9 cs p.1))) ih) fl
def Ue1:CK->b9->b9->Bool
 |.int _,x,y=>toI x==toI y
 |.bool,x,y=>toB x==toB y
 |_,_,_=>false
def Ib6(fl:List (Nat×CK))(cs ds:List b9):Bool :=
 List.rec (motive:=λ_=>Bool) true (λp _ ih=>Bool.and (Ue1 p.2 (hdA (i9 cs p.1)) (hdA (i9 ds p.1))) ih) fl
def Le8(neg x:Bool):Bool:=Bool.rec (motive:=λ_=>Bool) x (!x) neg
def ae4(t:Nat)(tbl:List (Nat×FuncId)):Option FuncId :=
 List.rec (motive:=λ_=>Option FuncId) none (λp _ ih=>Bool.rec (motive:=λ_=>Option FuncId) ih (some p.2) (Nat.beq p.1 t)) tbl
def wc2(tbl:List (Nat×FuncId))(x:b9):Option (FuncId×b9) :=
 match x with
 |.v (.iface t v)=>match ae4 t tbl with
  |some f=>some (f,ofVal1 v)
  |none=>none
 |_=>none
def sAt(s:ByteArray)(m:Int):Int:=match s[m.toNat]? with
 |some b=>b.toNat
 |none=>0
def evalOp(E:Env)(a:List b9)(H:List c7)(o:PO):DT (b9×List c7) :=
 match o with
 |.mv x=>.ret (c9 E a x,H)
 |.nilck x=>match c9 E a x with
  |.ptr id i c g=>.ret (.ptr id i c g,H)
  |.tptr cs=>.ret (.tptr cs,H)
  |.fn f caps=>.ret (.fn f caps,H)
  |_=>.fail
 |.pick c x y=>match c9 E a c with
  |.v (.bool b)=>.ite b (.ret (c9 E a x,H)) (.ret (c9 E a y,H))
  |_=>.fail
 |.alloc z=>.ret (.ptr (len H) 0 0 0,da2 H 0 (len z) [z])
 |.box x=>match freezeCells H (A0 (c9 E a x)) with
  |some (cs,H1)=>.ret (.ptr (len H1) 0 0 0,da2 H1 0 (len cs) [cs])
  |none=>.fail
 |.build z parts=>match sb8 z (l9 (λp=>(p.1,p.2.1,c9 E a p.2.2)) parts) with
  |some cs=>.ret (.agg cs,H)
  |none=>.fail
 |.bslice et es n z parts=>match sb8 z (l9 (λp=>(p.1,p.2.1,c9 E a p.2.2)) parts) with
  |some cs=>match freezeCells H cs with
   |some (cs,H1)=>.ret (.sl (len H1) 0 n 0,da2 H1 et es (ma5 es n cs))
   |none=>.fail
  |none=>.fail
 |.tslice es n z parts=>match sb8 z (l9 (λp=>(p.1,p.2.1,c9 E a p.2.2)) parts) with
  |some cs=>match ia0 wb2 cs with
   |true=>.ret (.tree es n λi=>j6 (ma5 es n cs) (0+i),H)
   |false=>.fail
  |none=>.fail
 |.load ks n agg x=>match ob4 H (c9 E a x) n with
  |some p=>.guard (Bool.and p.1 (Bool.and (Nat.beq (len ks) n) (ma4 ks p.2))) (opt (eb7 agg (vb9 ks p.2)) H)
  |none=>.fail
 |.store n x y=>match c9 E a x with
  |.ptr id i c g=>match freezeCells H (A0 (c9 E a y)) with
   |some (cs,H1)=>match blkAt H1 id g with
    | some b => .guard (Bool.and (Bool.and b.own (Nat.beq (len cs) n)) (Bool.and (Nat.blt i (len b.elems)) (Nat.ble (c + n) (len (j6 b.elems i)))))
      (.ret (.v (.tuple #[]),setAt H1 id { b with elems:=setAt b.elems i (T8 (j6 b.elems i) c cs) }))
    |none=>.fail
   |none=>.fail
  |_=>.fail
 |.fld off x=>match c9 E a x with
  |.ptr id i c g=>.ret (.ptr id i (c+off) g,H)
  |.tptr cs=>.ret (.tptr (i9 cs off),H)
  |_=>.fail
 |.idxA n es x i=>match S4 (c9 E a i) with
  |some m=>match c9 E a x with
   |.ptr id i c g=>.guard (inB m n) (.ret (.ptr id i (c+m.toNat*es) g,H))
   |.tptr cs=>.guard (inB m n) (.ret (.tptr (i9 cs (m.toNat*es)),H))
   |_=>.fail
  |none=>.fail
 |.idxS es x i=>match S4 (c9 E a i) with
  |some m=>match c9 E a x with
   |.sl id off n g=>match blkAt H id g with
    |some b=>match Nat.beq b.es es with
     |true=>.guard (inB m n) (.ret (.ptr id (off+m.toNat) 0 g,H))
     |false=>.fail
    |none=>.fail
   |.tree es' n get=>match Nat.beq es' es with
    |true=>.guard (inB m n) (.ret (.tptr (get m.toNat),H))
    |false=>.fail
   |_=>.fail
  |none=>.fail
 |.slice es x lo hi=>match c9 E a x with
  |.sl id off n g=>match blkAt H id g with
   |some b=>match Nat.beq b.es es with
    |true=>(Sb4 n (lo.map (c9 E a)) (hi.map (c9 E a))).bind fun
     |(l,h)=>.ret (.sl id (off+l) (h-l) g,H)
    |false=>.fail
   |none=>.fail
  |.tree es' n get=>match Nat.beq es' es with
   |true=>(Sb4 n (lo.map (c9 E a)) (hi.map (c9 E a))).bind fun
    |(l,h)=>.ret (.tree es' (h-l) λi=>get (l+i),H)
   |false=>.fail
  |.v (.slice none 0 0)=>(Sb4 0 (lo.map (c9 E a)) (hi.map (c9 E a))).bind λ_=>.ret (.v (.slice none 0 0),H)
  |_=>.fail
 |.mksl et es bytes z l c=>match S4 (c9 E a l),S4 (c9 E a c) with
  | some n, some m => .guard (inB n (room + 1) && inB m (room + 1) && Nat.ble n.toNat m.toNat && Nat.ble (m.toNat * bytes) room)
    (.ret (.sl (len H) 0 n.toNat 0,da2 H et es (List.replicate n.toNat z)))
  |_,_=>.fail
 |.tmk es bytes z l c=>match S4 (c9 E a l),S4 (c9 E a c) with
  | some n, some m => .guard (inB n (room + 1) && inB m (room + 1) && Nat.ble n.toNat m.toNat && Nat.ble (m.toNat * bytes) room)
    (.ret (.tree es n.toNat λi=>j6 (List.replicate n.toNat z) (0+i),H))
  |_,_=>.fail
 |.mkfn f caps=>match Nat.ble bfB f with
  |false=>match ia0 Pc8 (l9 (c9 E a) caps) with
   |true=>.ret (.fn f (l9 (c9 E a) caps),H)
   |false=>.fail
  |true=>match l9 (c9 E a) caps with
   |[.agg (c::cs)]=>.ret (.fn f (c::cs),H)
   |_=>.fail
 |.mkfz f caps=>match Nat.ble bfB f with
  |false=>match ia0 Pc8 (l9 (c9 E a) caps) with
   |true=>match frzCaps H (l9 (c9 E a) caps) with
    |some (l,H1)=>.ret (.fn f l,H1)
    |none=>.fail
   |false=>.fail
  |true=>.fail
 |.ext x i=>match c9 E a x with
  |.tup vs=>opt (nth vs i) H
  |_=>.fail
 |.field off n agg x=>match c9 E a x with
  |.agg cs=>match Nat.ble (off+n) (len cs) with
   |true=>opt (eb7 agg (A7 (i9 cs off) n)) H
   |false=>.fail
  |_=>.fail
 |.index ks n es agg x i=>match c9 E a x,S4 (c9 E a i) with
  | .agg cs, some m => .guard (Bool.and (inB m n) (Bool.and (Nat.ble (m.toNat * es + es) (len cs)) (Bool.and (Nat.beq (len ks) es) (ma4 ks (i9 cs (m.toNat * es))))))
    (opt (eb7 agg (vb9 ks (i9 cs (m.toNat*es)))) H)
  |_,_=>.fail
 |.bin op x y=>(Te9 op (c9 E a x) (c9 E a y)).bind λr=>.ret (r,H)
 |.eqn k neg x y o ts=>.guard (Bool.and (we1 (c9 E a x)) (we1 (c9 E a y))) (opt (Ue0 E a k neg (c9 E a x) (c9 E a y) o ts) H)
 |.eqc neg fl x y=>match c9 E a x,c9 E a y with
  |.agg cs,.agg ds=>.guard (Bool.and (yd0 fl cs) (yd0 fl ds)) (.ret (.v (.bool (Le8 neg (Ib6 fl cs ds))),H))
  |_,_=>.fail
 |.not x=>match c9 E a x with
  |.v (.bool b)=>.ret (.v (.bool (!b)),H)
  |_=>.fail
 |.neg x=>match c9 E a x with
  |.v (.int k n)=>.ret (.v (.int k (k.wrap (0-n))),H)
  |_=>.fail
 |.gen o ts=>opt (Lc3 E a o ts) H
 |.call f args=>callA E f (l9 (c9 E a) args) H
 |.calld x args=>match c9 E a x with
  |.fn f caps=>match Nat.ble bfB f with
   |false=>callA E f (app (l9 (c9 E a) args) caps) H
   |true=>match caps with
    |[]=>.fail
    |c::cs=>callA E (f-bfB) (.agg (c::cs)::l9 (c9 E a) args) H
  |_=>.fail
 |.invk tbl x args=>match wc2 tbl (c9 E a x) with
  |some (f,y)=>callA E f (y::l9 (c9 E a) args) H
  |none=>.fail
 |.append et es bytes s x=>appendA et es bytes (c9 E a s) (c9 E a x) H
 |.copy _ _ _=>.fail
 |.apre es s x=>apreA es (c9 E a s) (c9 E a x) H
 |.clr es z x=>Rd6 (clrA es z (c9 E a x) H)
 |.sidx x i=>match c9 E a x with
  |.v (.string s)=>match S4 (c9 E a i) with
   |some m=>.guard (inB m s.size) (.ret (.v (.int .u8 (sAt s m)),H))
   |none=>.fail
  |_=>.fail
 |.slen x=>match c9 E a x with
  |.v (.string s)=>.ret (.v (.int .i64 s.size),H)
  |_=>.fail
 |.asl n es x=>Rd6 (aslA n es (c9 E a x) H)
 |.len x=>opt (if8 (c9 E a x)) H
 |.bad=>.fail
structure St where
 a:List b9
 H:List c7
def putA(a:List b9)(dst:Option Nat)(x:b9):List b9 :=
 Option.rec (motive:=λ_=>List b9) a (λd=>setAt a d x) dst
def Ma6(a:List b9)(l:List Nat):List Nat :=
 l9 (λd=>match nth a d with
  |some (.ptr id _ _ _)=>id
  |some (.sl id _ _ _)=>id
  |_=>0) l
def Ob0(H:List c7)(l:List Nat):List c7 :=
 List.rec (motive:=λ_=>List c7) H (λid _ ih=>modAt ih id λb=>{ b with dead:=true }) l
def Ma7(H0 H:List c7)(l:List Nat):List c7 :=
 List.rec (motive:=λ_=>List c7) H (λid _ ih=>match nth H0 id with
  |some b=>setAt ih id b
  |none=>ih) l
def we2(E:Env)(s:St)(hide:List Nat)(o:PO):DT (b9×List c7) :=
 List.rec (motive:=λ_=>DT (b9×List c7)) (evalOp E s.a s.H o)
  (λ_ _ _=>(evalOp E s.a (Ob0 s.H (Ma6 s.a hide)) o).bind λr=>.ret (r.1,Ma7 s.H r.2 (Ma6 s.a hide))) hide
def pc2(E:Env)(s:St)(o:PI):DT St :=
 (we2 E s o.hide o.op).bind λr=>.ret ⟨putA s.a o.dst r.1,r.2⟩
def Aa3(E:Env)(s:St)(o:PI):DT St :=
 Option.rec (motive:=λ_=>DT St) (pc2 E s o)
  (λg=>match c9 E s.a (.t g.1) with
   | .v (.bool b) => Bool.rec (motive := fun _ => DT St)
     (.ite b (.ret ⟨putA (setAt s.a g.1 (.v (.bool true))) o.dst (.v (.tuple #[])),s.H⟩) (pc2 E ⟨setAt s.a g.1 (.v (.bool false)),s.H⟩ o))
     (.ite b (pc2 E ⟨setAt s.a g.1 (.v (.bool true)),s.H⟩ o) (.ret ⟨putA (setAt s.a g.1 (.v (.bool false))) o.dst (.v (.tuple #[])),s.H⟩)) g.2
   |.v (.tuple _)=>.ret ⟨putA s.a o.dst (.v (.tuple #[])),s.H⟩
   |_=>.fail)
  o.guard
def D8(E:Env)(l:List PI):St->DT St :=
 List.rec (motive:=λ_=>St->DT St) (λs=>.ret s) (λo _ ih s=>(Aa3 E s o).bind ih) l
def da3:b9->List Nat
 |.ptr id _ _ _=>[id]
 |.sl id _ _ _=>[id]
 |_=>[]
def wa8(E:Env)(a:List b9):PO->List Nat
 |.load _ _ _ x=>da3 (c9 E a x)
 |.idxS _ x _=>da3 (c9 E a x)
 |.slice _ x _ _=>da3 (c9 E a x)
 |_=>[]
def Aa4(l:List b9):List Nat :=
 List.rec (motive:=λ_=>List Nat) [] (λx _ ih=>match x with
  |.ptr id _ _ _=>id::ih
  |_=>ih) l
def T9(own:Nat->Bool):Nat->List b9->List Nat
 |_,[]=>[]
 |k,x::r=>match x with
  |.ptr id _ _ _=>id::T9 own (k+1) r
  |.sl id _ _ _=>match own k with
   |true=>id::T9 own (k+1) r
   |false=>T9 own (k+1) r
  |.agg cs=>app (Aa4 cs) (T9 own (k+1) r)
  |.fn _ caps=>app (Aa4 caps) (T9 own (k+1) r)
  |_=>T9 own (k+1) r
def D9(E:Env)(a:List b9):PO->List Nat
 |.store _ x _=>da3 (c9 E a x)
 |.append _ _ _ s _=>da3 (c9 E a s)
 |.copy _ d _=>da3 (c9 E a d)
 |.apre _ s _=>da3 (c9 E a s)
 |.clr _ _ x=>da3 (c9 E a x)
 |.call f args=>T9 (E.own f) 0 (l9 (c9 E a) args)
 |.calld x args=>match c9 E a x with
  |.fn f caps=>match Nat.ble bfB f with
   |false=>T9 (E.own f) 0 (app (l9 (c9 E a) args) caps)
   |true=>T9 (E.own (f-bfB)) 0 (.agg caps::l9 (c9 E a) args)
  |_=>[]
 |.invk tbl x args=>match wc2 tbl (c9 E a x) with
  |some (f,y)=>T9 (E.own f) 0 (y::l9 (c9 E a) args)
  |none=>[]
 |_=>[]
def qa0(E:Env)(a:List b9)(l:List (PO×PO)):Bool :=
 List.rec (motive:=λ_=>Bool) true (λp _ ih=>Bool.rec false ih (Ua1 (wa8 E a p.1) (D9 E a p.2))) l
def ab4(a:List b9)(l:List PI):Bool :=
 List.rec (motive:=λ_=>Bool) true (λp _ ih=>match p.dst with
  |some d=>match nth a d with
   |some _=>ih
   |none=>false
  |none=>false) l
inductive d8 where
 |normal
 |exit (id:Nat)
 |ret
def G4(keep:List Nat)(l:List b9):Nat->List b9 :=
 List.rec (motive:=λ_=>Nat->List b9) (λ_=>[]) (λx _ ih k=>Bool.rec .unk x (Ma5 k keep)::ih (k+1)) l
def wc3(k:Nat)(H:List c7)(roots:List Nat)(x:b9):b9×List Nat :=
 match x with
 |.v x=>(.v x,roots)
 |.unk=>(.unk,roots)
 |.ptr id i c g=>match blkAt H id g with
  |some _=>match ma6 roots id with
   |(j,r)=>(.ptr j i c (match Nat.blt j k with | true=>g | false=>0),r)
  |none=>(.unk,roots)
 |.sl id off n g=>match blkAt H id g with
  |some _=>match ma6 roots id with
   |(j,r)=>(.sl j off n (match Nat.blt j k with | true=>g | false=>0),r)
  |none=>(.unk,roots)
 |x=>(x,roots)
def Sb5(k:Nat)(H:List c7):List b9->List Nat->List b9×List Nat
 |[],roots=>([],roots)
 |x::r,roots=>match wc3 k H roots x with
  |(y,r1)=>match Sb5 k H r r1 with
   |(l,r2)=>(y::l,r2)
def wb3(k:Nat)(H:List c7)(roots:List Nat)(x:b9):b9×List Nat :=
 match x with
 |.v x=>(.v x,roots)
 |.unk=>(.unk,roots)
 |.fn f caps=>match Sb5 k H caps roots with
  |(l,r)=>(.fn f l,r)
 |.agg cs=>match Sb5 k H cs roots with
  |(l,r)=>(.agg l,r)
 |x=>wc3 k H roots x
def Ob1(k:Nat)(H:List c7):List b9->List Nat->List b9×List Nat
 |[],roots=>([],roots)
 |x::r,roots=>match wb3 k H roots x with
  |(y,r1)=>match Ob1 k H r r1 with
   |(l,r2)=>(y::l,r2)
def wc4(k:Nat)(H:List c7)(roots:List Nat)(x:b9):b9×List Nat :=
 match x with
 |.v x=>(.v x,roots)
 |.unk=>(.unk,roots)
 |.tup vs=>match Ob1 k H vs roots with
  |(l,r)=>(.tup l,r)
 |x=>wb3 k H roots x
def Sb6(k:Nat)(H:List c7):List b9->List Nat->List b9×List Nat
 |[],roots=>([],roots)
 |x::r,roots=>match wc4 k H roots x with
  |(y,r1)=>match Sb6 k H r r1 with
   |(l,r2)=>(y::l,r2)
def sa0(k:Nat)(H:List c7):Nat->List Nat->Option (List c7)
 |_,[]=>some []
 |j,id::r=>match nth H id with
  |some b=>match sa0 k H (j+1) r with
   |some l=>some ((match Nat.blt j k with | true=>b | false=>{ b with g:=0 })::l)
   |none=>none
  |none=>none
def tidy(k:Nat)(s:St):DT St :=
 match Sb6 k s.H s.a (List.range k) with
 |(a,roots)=>match sa0 k s.H 0 roots with
  |some H=>.ret ⟨a,H⟩
  |none=>.fail
def vb3(head:St->DT St)(body:St->DT (d8×St))(n:Nat):St->DT (d8×St) :=
 Nat.rec (motive:=λ_=>St->DT (d8×St)) (λ_=>.fail)
  (λ_ ih s=>(head s).bind λs=>(body s).bind λr =>
   d8.rec (motive:=λ_=>DT (d8×St)) (ih r.2) (λid=>.ret (.exit id,r.2)) (.ret (.ret,r.2)) r.1) n
def r5(b:c7):Bool:=Nat.beq b.es 0
def j8(H:List c7):List c7:=l9 (λb=>Bool.rec (motive:=λ_=>c7) b { b with dead:=true } (r5 b)) H
def T6(H:List c7)(x:b9):b9 :=
 match x with
 |.ptr id i c g=>match nth H id with
  |some b=>Bool.rec (motive:=λ_=>b9) (.ptr id i c g) .unk (r5 b)
  |none=>.unk
 |x=>x
def o9(H:List c7):List c7->List c7 :=
 List.rec (motive:=λ_=>List c7->List c7) (λl=>l) (λb _ ih l=>List.rec (motive:=λ_=>List c7) [] (λc r _=>Bool.rec (motive:=λ_=>c7) c b (r5 b)::ih r) l) H
def Y6(ds:List Nat)(a:List b9):List b9->Nat->List b9 :=
 List.rec (motive:=λ_=>List b9->Nat->List b9) (λ_ _=>[]) (λx _ ih l k=>Bool.rec (motive:=λ_=>b9) x (hdA l) (Ma5 k ds)::ih (tlA l) (k+1)) a
def vb4(H:List c7):List c7->Bool :=
 List.rec (motive:=λ_=>List c7->Bool) (λl=>List.rec (motive:=λ_=>Bool) true (λc _ ih=>Bool.and (Bool.rec (motive:=λ_=>Bool) true false (r5 c)) ih) l) (λb _ ih l=>List.rec (motive:=λ_=>Bool) false (λc r _=>Bool.and (Bool.rec (motive:=λ_=>Bool) (Bool.rec true false (r5 c)) true (r5 b)) (ih r)) l) H
def yd1:b9->Bool
 |.v x=>pc1 x
 |.tree ..=>true
 |.fn _ []=>true
 |.sl ..=>true
 |.ptr ..=>true
 |_=>false
def Ib7(et:Nat)(H:List c7)(x:b9):Option (Nat×Nat×Nat×c7) :=
 match x with
 |.ptr id i c g=>match nth H id with
  |some b=>match b.dead with
   |true=>none
   |false=>match r5 b&&Nat.beq b.et et with
    |true=>match Nat.beq b.g g with
     |true=>match Nat.beq i 0 with
      |true=>some (id,c,g,b)
      |false=>none
     |false=>none
    |false=>none
  |none=>none
 |_=>none
def Sb7(H:List c7)(et:Nat)(elems:List (List b9)):List c7:=app H [{ et,es:=0,elems,own:=true,dead:=false,g:=0 }]
def kc8(fl:List (Nat×CK))(key:List b9)(rows:List (List b9)):Option (List b9) :=
 List.rec (motive:=λ_=>Option (List b9)) none (λr _ ih=>Bool.rec (motive:=λ_=>Option (List b9)) ih (some r) (Ib6 fl key r)) rows
def jb5(kl:Nat)(fl:List (Nat×CK))(key:List b9)(rows:List (List b9)):Bool :=
 Option.rec (motive:=λ_=>Bool) false (λr=>toB (hdA (i9 r kl))) (kc8 fl key rows)
def Ma8(fl:List (Nat×CK))(key row:List b9)(rows:List (List b9)):List (List b9) :=
 List.rec (motive:=λ_=>List (List b9)) [row] (λr t ih=>Bool.rec (motive:=λ_=>List (List b9)) (r::ih) (row::t) (Ib6 fl key r)) rows
def Ma9(E:Env)(a:List b9)(H:List c7)(o:SP):DT (b9×List c7) :=
 match o with
 |.old n o=>(evalOp E (l9 (T6 H) (A7 a n)) (j8 H) o).bind λr=>.guard (vb4 H r.2) (.ret (r.1,o9 H r.2))
 |.balloc z=>.ret (.ptr (len H) 0 0 0,Sb7 H 0 [z])
 |.bbox x=>match Fa6 (c9 E a x)&&ia0 yd1 (A0 (c9 E a x)) with
  |true=>.ret (.ptr (len H) 0 0 0,Sb7 H 0 [A0 (c9 E a x)])
  |false=>.fail
 |.bload n agg p=>match Ib7 0 H (c9 E a (.t p)) with
  |some (_,c,_,b)=>match Nat.ble (c+n) (len (j6 b.elems 0)) with
   |true=>opt (eb7 agg (Bool.rec (motive:=λ_=>List b9) (A7 (i9 (j6 b.elems 0) c) n) (l9 (T6 H) (A7 (i9 (j6 b.elems 0) c) n)) agg)) H
   |false=>.fail
  |none=>.fail
 |.bstore n p y=>match Ib7 0 H (c9 E a (.t p)) with
  |some (id,c,_,b)=>match Nat.ble (c+n) (len (j6 b.elems 0))&&Nat.beq (len (A0 (c9 E a y))) n&&(Fa6 (c9 E a y)&&ia0 yd1 (A0 (c9 E a y))) with
   |true=>.ret (.v (.tuple #[]),setAt H id { b with elems:=[T8 (j6 b.elems 0) c (A0 (c9 E a y))] })
   |false=>.fail
  |none=>.fail
 |.bfld off p=>match Ib7 0 H (c9 E a (.t p)) with
  |some (id,c,g,_)=>.ret (.ptr id 0 (c+off) g,H)
  |none=>.fail
 |.bmv p=>.ret (c9 E a (.t p),H)
 |.mmake t=>.ret (.ptr (len H) 0 0 0,Sb7 H (t+1) [])
 |.mlook t kl fl m key=>match Ib7 (t+1) H (c9 E a (.t m)) with
  |some (_,_,_,b)=>match c9 E a key with
   |.agg ks=>.guard (Bool.and (Nat.beq (len ks) kl) (yd0 fl ks)) (.ret (.v (.bool (jb5 kl fl ks b.elems)),H))
   |_=>.fail
  |none=>.fail
 |.mupd t kl fl m key val=>match Ib7 (t+1) H (c9 E a (.t m)) with
  |some (id,_,_,b)=>match c9 E a key,c9 E a val with
   |.agg ks,.v (.bool v)=>.guard (Bool.and (Nat.beq (len ks) kl) (yd0 fl ks)) (.ret (.v (.tuple #[]),setAt H id { b with elems:=Ma8 fl ks (app ks [.v (.bool v)]) b.elems }))
   |_,_=>.fail
  |none=>.fail
 |.bad=>.fail
def uc4(E:Env)(s:St)(dst:Option Nat)(g:Option (Nat×Bool))(d:St->DT St):DT St :=
 Option.rec (motive:=λ_=>DT St) (d s)
  (λg=>match c9 E s.a (.t g.1) with
   | .v (.bool b) => Bool.rec (motive := fun _ => DT St)
     (.ite b (.ret ⟨putA (setAt s.a g.1 (.v (.bool true))) dst (.v (.tuple #[])),s.H⟩) (d ⟨setAt s.a g.1 (.v (.bool false)),s.H⟩))
     (.ite b (d ⟨setAt s.a g.1 (.v (.bool true)),s.H⟩) (.ret ⟨putA (setAt s.a g.1 (.v (.bool false))) dst (.v (.tuple #[])),s.H⟩)) g.2
   |.v (.tuple _)=>.ret ⟨putA s.a dst (.v (.tuple #[])),s.H⟩
   |_=>.fail)
  g
def yd2(E:Env)(s:St)(dst:Option Nat)(g:Option (Nat×Bool))(o:SP):DT St :=
 uc4 E s dst g λs=>(Ma9 E s.a s.H o).bind λr=>.ret ⟨putA s.a dst r.1,r.2⟩
def Id2(H:List c7)(cs:List b9)(roots:List Nat):List Nat :=
 List.rec (motive:=λ_=>List Nat->List Nat) (λr=>r) (λx _ ih r=>ih (match x with
  |.ptr id _ _ g=>match blkAt H id g with
   |some _=>(ma6 r id).2
   |none=>r
  |.sl id _ _ g=>match blkAt H id g with
   |some _=>(ma6 r id).2
   |none=>r
  |_=>r)) cs roots
def Pc9(H:List c7)(ids:List Nat):List Nat->List Nat :=
 List.rec (motive:=λ_=>List Nat->List Nat) (λr=>r) (λid _ ih r=>ih (match nth H id with
  |some b=>match r5 b&&Nat.beq b.et 0 with
   |true=>Id2 H (j6 b.elems 0) r
   |false=>r
  |none=>r)) ids
def ae5(k:Nat)(H:List c7)(R:List Nat)(x:b9):b9 :=
 match x with
 |.ptr id i c g=>match blkAt H id g with
  |some _=>match Ia8 id 0 R with
   |some j=>.ptr j i c (match Nat.blt j k with | true=>g | false=>0)
   |none=>.unk
  |none=>.unk
 |.sl id off n g=>match blkAt H id g with
  |some _=>match Ia8 id 0 R with
   |some j=>.sl j off n (match Nat.blt j k with | true=>g | false=>0)
   |none=>.unk
  |none=>.unk
 |x=>x
def Aa5(k:Nat)(H:List c7)(R:List Nat)(b:c7):c7 :=
 Bool.rec (motive:=λ_=>c7) b { b with elems:=l9 (l9 (ae5 k H R)) b.elems } (r5 b&&Nat.beq b.et 0)
def tidyM(k:Nat)(s:St):DT St :=
 match Sb6 k s.H s.a (List.range k) with
 |(a,roots)=>match sa0 k s.H 0 (Pc9 s.H roots roots) with
  |some H=>.ret ⟨a,l9 (Aa5 k s.H (Pc9 s.H roots roots)) H⟩
  |none=>.fail
def wb4(x:b9)(s:St):DT (d8×St) :=
 match x with
 |.v (.int .i64 (.ofNat n))=>match n with
  |0=>.ret (.normal,s)
  |1=>.ret (.ret,s)
  |n+2=>.ret (.exit n,s)
 |_=>.fail
def Ue2(ps:List Nat):List b9->List b9->List b9 :=
 List.rec (motive:=λ_=>List b9->List b9->List b9) (λ_ a=>a) (λp _ ih vs a=>ih (tlA vs) (setAt a p (hdA vs))) ps
def wc5(dst:Option Nat)(nIn nOut:Nat)(r:d8×St):St :=
 d8.rec (motive:=λ_=>St) ⟨putA (i9 r.2.a nOut) dst (.v (.bool true)),r.2.H⟩
  (λid=>⟨putA (setAt (i9 r.2.a nOut) nIn (.v (.int .i64 (.ofNat (id+2))))) dst (.v (.bool false)),r.2.H⟩)
  ⟨putA (setAt (i9 r.2.a nOut) nIn (.v (.int .i64 (.ofNat 1)))) dst (.v (.bool false)),r.2.H⟩ r.1
def Xc9(E:Env)(s:St)(args:List Arg)(nIn nOut:Nat)(ps:List Nat):St :=
 ⟨app (Ue2 ps (l9 (c9 E s.a) args) (A7 (i9 s.a (nIn+1)) nOut)) s.a,s.H⟩
def ob5(caps:List b9)(nIn:Nat)(s:St):St :=
 ⟨app (.unk::caps) (app (List.replicate (nIn-(len caps+1)) (.v (.tuple #[]))) (.v (.int .i64 (.ofNat 0))::s.a)),s.H⟩
def uc5(x:b9):Bool :=
 match x with
 |.v (.int .i64 (.ofNat n))=>match n with
  |0=>true
  |_+1=>false
 |_=>false
def jb6(id:Nat)(x:b9):b9 :=
 match x with
 |.ptr id' i c g=>Bool.rec (motive:=λ_=>b9) (.ptr id' i c g) .unk (Nat.beq id' id)
 |.sl id' off n g=>Bool.rec (motive:=λ_=>b9) (.sl id' off n g) .unk (Nat.beq id' id)
 |x=>x
def wc6(id:Nat)(x:b9):b9 :=
 match x with
 |.agg cs=>.agg (l9 (jb6 id) cs)
 |.fn f cs=>.fn f (l9 (jb6 id) cs)
 |.tup _=>.unk
 |x=>jb6 id x
def wb5(id:Nat):b9->Bool
 |.ptr id' _ _ _=>!Nat.beq id' id
 |.sl id' _ _ _=>!Nat.beq id' id
 |_=>true
def Rd7(f:List b9->Bool)(l:List (List b9)):Bool:=List.rec (motive:=λ_=>Bool) true (λx _ ih=>Bool.rec false ih (f x)) l
def jd5(id:Nat)(H:List c7):Bool :=
 List.rec (motive:=λ_=>Bool) true (λb _ ih=>Bool.rec (motive:=λ_=>Bool) ih (Bool.rec false ih (Rd7 (ia0 (wb5 id)) b.elems)) (r5 b)) H
def Yc0(k p:Nat)(s:St):DT (d8×St) :=
 match nth s.a p with
 |some (.ptr id i c g)=>match blkAt s.H id g with
  |some b=>match b.elems with
   |[row]=>match Nat.ble k id&&(Nat.beq i 0&&(Nat.beq c 0&&(b.own&&(!r5 b&&(ia0 yd1 row&&jd5 id s.H))))) with
    |true=>.ret (.normal,⟨setAt (l9 (wc6 id) s.a) p (.ptr id 0 0 (b.g+1)),setAt s.H id { b with et:=0,es:=0,g:=b.g+1 }⟩)
    |false=>.fail
   |_=>.fail
  |none=>.fail
 |_=>.fail
def A1(E:Env)(k:Nat)(c:PC):St->DT (d8×St) :=
 PC.rec (motive:=λ_=>St->DT (d8×St))
  (λs=>.ret (.normal,s))
  (λl s=>(D8 E l s).bind λs=>.ret (.normal,s))
  (λ_ asq l pairs s=>(D8 E asq s).bind λs=>(D8 E l s).bind λs =>
   Bool.rec (motive:=λ_=>DT (d8×St)) .fail (Bool.rec (motive:=λ_=>DT (d8×St)) .fail (.ret (.normal,s)) (ab4 s.a asq)) (qa0 E s.a pairs))
  (λ_ _ x y s=>(x s).bind λr=>d8.rec (motive:=λ_=>DT (d8×St)) (y r.2) (λid=>.ret (.exit id,r.2)) (.ret (.ret,r.2)) r.1)
  (λc _ _ x y s=>match c9 E s.a c with
   |.v (.bool b)=>.ite b (x s) (y s)
   |_=>.fail)
  (λid _ x s=>(x s).bind λr=>d8.rec (motive:=λ_=>DT (d8×St)) (.ret (.normal,r.2))
   (λid'=>Bool.rec (.ret (.exit id',r.2)) (.ret (.normal,r.2)) (Nat.beq id' id)) (.ret (.ret,r.2)) r.1)
  (λkeep _ x=>vb3 (λs=>tidy k ⟨G4 keep s.a 0,s.H⟩) x E.N)
  (λid s=>.ret (.exit id,s))
  (λs=>.ret (.ret,s))
  (λ_=>.fail)
  (λn ds _ x s=>(x ⟨l9 (T6 s.H) (A7 s.a n),j8 s.H⟩).bind λr=>.guard (vb4 s.H r.2.H) (.ret (r.1,⟨Y6 ds s.a r.2.a 0,o9 s.H r.2.H⟩)))
  (λdst g o s=>(yd2 E s dst g o).bind λs=>.ret (.normal,s))
  (λf x nIn _ c s=>match c9 E s.a x with
   |.fn f' caps=>match Nat.beq f f'&&(Nat.ble (len caps+1) nIn&&!Nat.ble bfB f) with
    | true => (c (ob5 caps nIn s)).bind fun r =>
      d8.rec (motive:=λ_=>DT (d8×St)) (wb4 (hdA (i9 r.2.a nIn)) ⟨i9 r.2.a (nIn+1),r.2.H⟩) (λ_=>.fail) (wb4 (hdA (i9 r.2.a nIn)) ⟨i9 r.2.a (nIn+1),r.2.H⟩) r.1
    |false=>.fail
   |_=>.fail)
  (λdst g args nIn nOut ps _ _ asq body s=>(uc4 E s dst g λs=>match uc5 (hdA (i9 s.a nIn)) with
   |true=>(asq (Xc9 E s args nIn nOut ps)).bind λr0 =>
    d8.rec (motive:=λ_=>DT St) ((body r0.2).bind λr=>.ret (wc5 dst nIn nOut r)) (λ_=>.fail) .fail r0.1
   |false=>.fail).bind λs=>.ret (.normal,s))
  (λkeep _ x=>vb3 (λs=>tidyM k ⟨G4 keep s.a 0,s.H⟩) x E.N)
  (λp s=>Yc0 k p s) c
def Na0(a:List b9)(H:List c7):cc4->Option b9
 |.t n=>match nth a n with
  |some (.tup _)=>none
  |some x=>some x
  |none=>none
 |.cell p n agg=>match nth a p with
  |some x=>match loadCells H x n with
   |some cs=>eb7 agg cs
   |none=>none
  |none=>none
def eb8:List b9->b9
 |[x]=>x
 |l=>.tup l
def wb6(k:Nat)(H:List c7)(r:b9):DT (b9×List c7) :=
 match wc4 k H (List.range k) r with
 |(r,roots)=>match sa0 k H 0 roots with
  |some out=>.ret (r,out)
  |none=>.fail
def m9(E:Env)(fn:PFn)(args:List b9)(blks:List c7):DT (b9×List c7) :=
 (A1 E (len blks) fn.body ⟨app args (List.replicate (fn.ntmps-len args) (.v (.tuple #[]))),blks⟩).bind λr =>
  match r.1 with
  |.exit _=>.fail
  |_=>match Ma4 (Na0 r.2.a r.2.H) fn.res with
   |some l=>wb6 (len blks) r.2.H (eb8 l)
   |none=>.fail
end Go.Ev
namespace Go.Ev
open Go
section
variable{α β:Type}
theorem p9(l:List α)(n:Nat):nth l n=l[n]?:=by
  induction l generalizing n with
  |nil=>rfl
  | cons x r ih=>cases n with
    |zero=>rfl
    |succ n=>exact (ih n).trans (by simp)
theorem r6(l:List α)(n:Nat)(x:α):setAt l n x=l.set n x:=by
  induction l generalizing n with
  |nil=>rfl
  | cons y r ih=>cases n with
    |zero=>rfl
    |succ n=>exact congrArg (y::·) (ih n)
theorem A8(l:List α)(n:Nat):A7 l n=l.take n:=by
  induction l generalizing n with
  |nil=>exact (List.take_nil).symm
  | cons y r ih=>cases n with
    |zero=>rfl
    |succ n=>exact congrArg (y::·) (ih n)
theorem v7(l:List α)(n:Nat):i9 l n=l.drop n:=by
  induction l generalizing n with
  |nil=>exact (List.drop_nil).symm
  | cons y r ih=>cases n with
    |zero=>rfl
    |succ n=>exact ih n
theorem E0(l r:List α):app l r=l++r:=by
  induction l with
  |nil=>rfl
  |cons x l ih=>exact congrArg (x::·) ih
theorem l6(l:List α):len l=l.length:=by
  induction l with
  |nil=>rfl
  |cons x l ih=>exact congrArg Nat.succ ih
theorem k9(f:α->β)(l:List α):l9 f l=l.map f:=by
  induction l with
  |nil=>rfl
  |cons x l ih=>exact congrArg (f x::·) ih
theorem Qc0 (f:α→Option β) (x:α) (l:List α):Ma4 f (x::l)=(match f x with | some y=>(match Ma4 f l with | some r=>some (y::r) | none=>none) | none=>none):=by
  have:Ma4 f (x::l)=Option.rec (motive:=λ_=>Option (List β)) none (λy=>Option.rec (motive:=λ_=>Option (List β)) none (λr=>some (y::r)) (Ma4 f l)) (f x):=rfl
  rw[this];cases f x with
  |none=>rfl
  |some y=>cases Ma4 f l<;>rfl
theorem Qc1{f:α->Option β}{l:List α}{r:List β}(h:Ma4 f l=some r):r.length=l.length/\∀(i:Nat) (x:α),l[i]?=some x->∃y,f x=some y/\r[i]?=some y:=by
  induction l generalizing r with
  | nil => have : r = [] := by injection h with h; exact h.symm
           subst this;simp
  | cons x l ih =>
    have h':=h;rw[Qc0] at h'
    grind
theorem we3(k:Nat)(l:List Nat):Ma5 k l=l.contains k:=by
  induction l with
  |nil=>simp[Ma5]
  | cons x l ih =>
    have:Ma5 k (x::l)=(match Nat.beq x k with | true=>true | false=>Ma5 k l):=by
      have:Ma5 k (x::l)=Bool.rec (Ma5 k l) true (Nat.beq x k):=rfl
      rw[this];cases Nat.beq x k<;>rfl
    rw[this,ih];cases h:Nat.beq x k with
    |true=>have:=Qae h;subst this;simp
    |false=>have:x≠k:=Nat.ne_of_beq_eq_false h;simp;intro h;exact absurd h.symm this
end
namespace DT
variable{α β γ:Type}
@[simp] theorem bind_ret(a:α)(f:α->DT β):(DT.ret a).bind f=f a:=rfl
@[simp] theorem bind_fail(f:α->DT β):(DT.fail:DT α).bind f=.fail:=rfl
@[simp] theorem bind_ite(b:Bool)(t e:DT α)(f:α->DT β):(DT.ite b t e).bind f=.ite b (t.bind f) (e.bind f):=rfl
@[simp] theorem run_ret(a:α):(DT.ret a).run=some a:=rfl
@[simp] theorem run_fail:(DT.fail:DT α).run=none:=rfl
theorem run_ite(b:Bool)(t e:DT α):(DT.ite b t e).run=if b then t.run else e.run:=by cases b<;>rfl
theorem run_bind (x:DT α) (f:α→DT β):(x.bind f).run=x.run.bind fun a=>(f a).run:=by
  induction x with
  |ret a=>rfl
  |fail=>rfl
  |ite b t e iht ihe=>cases b<;>simp[run_ite,iht,ihe]
theorem run_bind_some{x:DT α}{f:α->DT β}{r:β}(h:(x.bind f).run=some r):∃a,x.run=some a/\(f a).run=some r:=by
  rw[run_bind] at h;cases hx:x.run with
  |none=>simp[hx] at h
  |some a=>exact⟨a,rfl,by simpa [hx] using h⟩
theorem run_ite_some{b:Bool}{t e:DT α}{r:α}(h:(DT.ite b t e).run=some r):(b=true/\t.run=some r)\/(b=false/\e.run=some r):=by
  cases b
  · exact .inr ⟨rfl,by simpa [run_ite] using h⟩
  · exact .inl ⟨rfl,by simpa [run_ite] using h⟩
theorem run_guard_some{b:Bool}{t:DT α}{r:α}(h:(DT.guard b t).run=some r):b=true/\t.run=some r:=by
  rcases run_ite_some h with h|⟨_,h⟩
  · exact h
  · cases h
end DT
theorem Aa6{x:Option b9}{H:List c7}{r:b9×List c7}(h:(opt x H).run=some r):∃y,x=some y/\r=(y,H):=by
  cases x with
  |none=>cases h
  |some y=>exact⟨y,rfl,by simpa [opt,DT.run] using h.symm⟩
theorem jb7{x:Option (b9×List c7)}{r:b9×List c7}(h:(Rd6 x).run=some r):x=some r:=by
  cases x with
  |none=>cases h
  |some y=>simpa [Rd6,DT.run] using h
end Go.Ev
namespace Go.Ev
open Go
structure yd3 where
  blk:Nat
  off:Nat
  size:Nat
abbrev Rho:=Nat->yd3
abbrev Fz:=Nat->Nat->Prop
def Qa7(f:FuncId)(vs:Array Value):Value:=if Nat.ble bfB f&&!vs.isEmpty then .func (.func (f-bfB)) #[.agg vs] #[] else .func (.func f) #[] vs
theorem Ta6(f:FuncId):Qa7 f #[]=.func (.func f) #[] #[]:=by simp[Qa7]
theorem wb7{f:FuncId}(h:Nat.ble bfB f=false)(vs:Array Value):Qa7 f vs=.func (.func f) #[] vs:=by simp[Qa7,h]
theorem jd6{f:FuncId}(h:Nat.ble bfB f=true){vs:Array Value}(hv:vs≠#[]):Qa7 f vs=.func (.func (f-bfB)) #[.agg vs] #[]:=by simp[Qa7,h,hv]
theorem Ob2(f:FuncId)(vs:Array Value):∃p q r,Qa7 f vs=.func (.func p) q r:=by
  unfold Qa7;split
  · exact⟨_,_,_,rfl⟩
  · exact⟨_,_,_,rfl⟩
inductive J8 (F:Fz) (w:World):b9→Value→Prop
  |v (x:Value) (h1:x.oneCell'=true):J8 F w (.v x) x
  | fn (f : FuncId) (caps : List b9) (vs : Array Value) (x' : Value) (e : x' = Qa7 f vs) (hl : caps.length = vs.size) (hb : ia0 sb7 caps = true)
      (h:∀(i:Nat) (hi:i<caps.length) (hi':i<vs.size),J8 F w (caps[i]) (vs[i])):J8 F w (.fn f caps) x'
  | tree (es n : Nat) (get : Nat → List b9) (a : Addr) (cap : Nat) (cs : Nat → Nat → Value) (hs : 0 < n → a.spot = none) (hcap : n ≤ cap)
      (hes:∀i,i<n->(get i).length=es)
      (hF:∀i c,i<n->c<es->F a.block (a.off+(i*es+c)))
      (hw:∀i c,i<n->c<es->w.cell? ⟨a.block,a.off+(i*es+c),none⟩=some (cs i c))
      (hr:∀i c (_:i<n) (hc:c<(get i).length),J8 F w ((get i)[c]) (cs i c)):J8 F w (.tree es n get) (.slice (some a) n cap)
  |nil (es:Nat) (get:Nat->List b9):J8 F w (.tree es 0 get) (.slice none 0 0)
  | tptr (cs : List b9) (a : Addr) (vs : Nat → Value) (hs : a.spot = none) (hF : ∀ c, c < cs.length → F a.block (a.off + c))
      (hw:∀c,c<cs.length->w.cell? ⟨a.block,a.off+c,none⟩=some (vs c)) (hr:∀c (hc:c<cs.length),J8 F w (cs[c]) (vs c)):J8 F w (.tptr cs) (.pointer (some a))
theorem J8.fn0{F:Fz}{w:World}(f:FuncId):J8 F w (.fn f []) (.func (.func f) #[] #[]) :=
  .fn f [] #[] _ (Ta6 f).symm rfl rfl λi hi=>absurd hi (Nat.not_lt_zero i)
inductive J9 (ρ:Rho) (H:List c7) (F:Fz) (w:World):b9→Value→Prop
  |mem {x:b9} {x':Value} (h:J8 F w x x'):J9 ρ H F w x x'
  |v (x:Value):J9 ρ H F w (.v x) x
  | ptr (id i c g : Nat) (a : Addr) (b : c7) (hb : H[id]? = some b) (hd : b.dead = false) (hg : g ≤ b.g)
      (h:b.g=g->a=⟨(ρ id).blk,(ρ id).off+(i*b.es+c),none⟩):J9 ρ H F w (.ptr id i c g) (.pointer (some a))
  | sl (id off n g : Nat) (a : Addr) (cap : Nat) (b : c7) (hb : H[id]? = some b) (hd : b.dead = false) (hg : g ≤ b.g) (hn : n ≤ cap) (hs : a.spot = none) (hm : cap ≤ maxLen)
      (h:b.g=g->((cap=0/\0<off)\/a=⟨(ρ id).blk,(ρ id).off+off*b.es,none⟩)/\(off+cap)*b.es=(ρ id).size/\off+n<=b.elems.length) :
      J9 ρ H F w (.sl id off n g) (.slice (some a) n cap)
  | tptr (cs : List b9) (a : Addr) (vs : Nat → Value) (hs : a.spot = none)
      (hF:∀c,c<cs.length->F a.block (a.off+c))
      (hw:∀c,c<cs.length->w.cell? ⟨a.block,a.off+c,none⟩=some (vs c))
      (hr:∀c (hc:c<cs.length),J8 F w (cs[c]) (vs c)):J9 ρ H F w (.tptr cs) (.pointer (some a))
  |unk (x':Value):J9 ρ H F w .unk x'
inductive S5 (ρ:Rho) (H:List c7) (F:Fz) (w:World):b9→Value→Prop
  |cell {x:b9} {x':Value} (h:J9 ρ H F w x x'):S5 ρ H F w x x'
  |agg (cs:List b9) (vs:Array Value) (hl:cs.length=vs.size) (h:∀(i:Nat) x x',cs[i]?=some x->vs[i]?=some x'->J9 ρ H F w x x'):S5 ρ H F w (.agg cs) (.agg vs)
  |fn (f:FuncId) (caps:List b9) (vs:Array Value) (hl:caps.length=vs.size) (h:∀(i:Nat) x x',caps[i]?=some x->vs[i]?=some x'->J9 ρ H F w x x'):S5 ρ H F w (.fn f caps) (Qa7 f vs)
inductive v8 (ρ:Rho) (H:List c7) (F:Fz) (w:World):b9→Value→Prop
  |val {x:b9} {x':Value} (h:S5 ρ H F w x x'):v8 ρ H F w x x'
  |tup (xs:List b9) (vs:Array Value) (hl:xs.length=vs.size) (h:∀(i:Nat) x x',xs[i]?=some x->vs[i]?=some x'->S5 ρ H F w x x'):v8 ρ H F w (.tup xs) (.tuple vs)
structure pc3(W:Nat->Prop)(F:Fz)(w:World)(base:yd3)(b:c7)(cc:Array Value)(t:TypeId)(fr:Nat×Nat):Prop where
  obj:w.heap[base.blk]?=some (.cells cc t fr)
  room:base.off+base.size<=cc.size
  len:b.elems.length*b.es<=base.size
  rows:∀(i:Nat) r,b.elems[i]?=some r->r.length=b.es
  cell:∀(i:Nat) r (c:Nat) x,b.elems[i]?=some r->r[c]?=some x->∃x',cc[base.off+(i*b.es+c)]?=some x'/\J8 F w x x'
  own:b.own=true->fr=(0,0)/\W base.blk/\base.off=0/\base.size=cc.size/\(∀o,¬ F base.blk o)/\(b.et≠0->t=b.et)
  kept:b.own=false->∀o,o<b.elems.length*b.es->F base.blk (base.off+o)
structure r4(W:Nat->Prop)(ρ:Rho)(H:List c7)(F:Fz)(w:World):Prop where
  blk:∀(id:Nat) b,H[id]?=some b->b.dead=false->∃cc t fr,pc3 W F w (ρ id) b cc t fr
  apart:∀(id id':Nat) b b',H[id]?=some b->H[id']?=some b'->b.dead=false->b'.dead=false->b.own=true->id≠id'->(ρ id).blk≠(ρ id').blk
  frz:∀b o,F b o->(w.cell? ⟨b,o,none⟩).isSome
  new:∀k,w.heap.size<=k->W k
def da4(ρ:Rho)(H:List c7)(F:Fz)(w:World)(a:List b9)(vs:Array Value):Prop :=
  a.length=vs.size/\∀(i:Nat) x x',a[i]?=some x->vs[i]?=some x'->v8 ρ H F w x x'
structure Ext(W:Nat->Prop)(F:Fz)(w w':World):Prop where
  os:w'.os=w.os
  tape:w'.tape=w.tape
  output:w'.output=w.output
  size:w.heap.size<=w'.heap.size
  block:∀k,k<w.heap.size->¬ W k->w'.heap[k]?=w.heap[k]?
  cells:∀b o,F b o->w'.cell? ⟨b,o,none⟩=w.cell? ⟨b,o,none⟩
  drawn:w.drawn<=w'.drawn
def yd4(ρ:Rho)(H:List c7)(ρ':Rho)(H':List c7):Prop :=
  ∀(id:Nat) b,H[id]?=some b->∃b',H'[id]?=some b'/\b'.dead=b.dead/\b.g<=b'.g/\(b'.g=b.g->ρ' id=ρ id/\b'.es=b.es/\b.elems.length<=b'.elems.length)
structure Adv(W:Nat->Prop)(ρ:Rho)(H:List c7)(F:Fz)(w:World)(ρ':Rho)(H':List c7)(F':Fz)(w':World):Prop where
  ext:Ext W F w w'
  heap:yd4 ρ H ρ' H'
  more:∀b o,F b o->F' b o
  new:∀b o,F' b o->F b o\/W b
  fresh:∀(id:Nat) b',H'[id]?=some b'->(∀b,H[id]?=some b->b'.g≠b.g)->W (ρ' id).blk
section
variable{W:Nat->Prop}{ρ ρ' ρ'':Rho}{H H' H'':List c7}{F F' F'':Fz}{w w' w'':World}
theorem Ext.refl:Ext W F w w:=⟨rfl,rfl,rfl,Qac _,λ_ _ _=>rfl,λ_ _ _=>rfl,Qac _⟩
theorem Ext.trans(h:Ext W F w w')(hf:∀b o,F b o->F' b o)(k:Ext W F' w' w''):Ext W F w w'' :=
  ⟨k.os.trans h.os,k.tape.trans h.tape,k.output.trans h.output,Qad h.size k.size,
   λi hi hw=>(k.block i (Qaj hi h.size) hw).trans (h.block i hi hw),λb o hb=>(k.cells b o (hf b o hb)).trans (h.cells b o hb),Qad h.drawn k.drawn⟩
theorem yd4.refl:yd4 ρ H ρ H:=λ_ b h=>⟨b,h,rfl,Qac _,λ_=>⟨rfl,rfl,Qac _⟩⟩
theorem yd4.trans(h:yd4 ρ H ρ' H')(k:yd4 ρ' H' ρ'' H''):yd4 ρ H ρ'' H'':=by
  intro id b hb;obtain⟨b1,h1,hd1,hg1,e1⟩:=h id b hb;obtain⟨b2,h2,hd2,hg2,e2⟩:=k id b1 h1
  grind
theorem Adv.refl:Adv W ρ H F w ρ H F w:=⟨.refl,.refl,λ_ _ h=>h,λ_ _ h=>.inl h,λ_ b h hn=>absurd rfl (hn b h)⟩
theorem Adv.trans(h:Adv W ρ H F w ρ' H' F' w')(k:Adv W ρ' H' F' w' ρ'' H'' F'' w''):Adv W ρ H F w ρ'' H'' F'' w'' :=
  ⟨h.ext.trans h.more k.ext,h.heap.trans k.heap,fun b o hb=>k.more b o (h.more b o hb),fun b o hb=>(k.new b o hb).elim (h.new b o) .inr,fun id b'' hb'' hn=>by
    by_cases hc:∃b',H'[id]?=some b'/\b''.g=b'.g
    · obtain⟨b',hb',hg⟩:=hc
      obtain⟨b2,h2,_,_,e2⟩:=k.heap id b' hb'
      have:b2=b'':=Qah (h2.symm.trans hb'')
      subst this;rw[(e2 hg).1];exact h.fresh id b' hb' λb hb=>hg ▸ hn b hb
    · exact k.fresh id b'' hb'' λb' hb' hg=>hc ⟨b',hb',hg⟩⟩
theorem J8.adv{x:b9}{x':Value}(h:J8 F w x x')(hf:∀b o,F b o->F' b o)(hw:∀b o,F b o->w'.cell? ⟨b,o,none⟩=w.cell? ⟨b,o,none⟩):J8 F' w' x x':=by
  induction h with
  |v x h1=>exact .v x h1
  |fn f caps vs x' e hl hb h ih=>exact .fn f caps vs x' e hl hb λi hi hi'=>ih i hi hi'
  | tree es n get a cap cs hs hcap hes hF hw0 hr ih =>
    exact .tree es n get a cap cs hs hcap hes (λi c hi hc=>hf _ _ (hF i c hi hc)) (λi c hi hc=>(hw _ _ (hF i c hi hc)).trans (hw0 i c hi hc)) (λi c hi hc=>ih i c hi hc)
  |nil es get=>exact .nil es get
  |tptr cs a vs hs hF hw0 hr ih=>exact .tptr cs a vs hs (λc hc=>hf _ _ (hF c hc)) (λc hc=>(hw _ _ (hF c hc)).trans (hw0 c hc)) λc hc=>ih c hc
theorem J9.adv{x:b9}{x':Value}(h:J9 ρ H F w x x')(k:Adv W ρ H F w ρ' H' F' w'):J9 ρ' H' F' w' x x':=by
  cases h with
  |mem h=>exact .mem (h.adv k.more k.ext.cells)
  |v=>exact .v _
  | ptr id i c g a b hb hd hg h =>
    obtain⟨b',hb',hd',hg',e⟩:=k.heap id b hb;refine .ptr id i c g a b' hb' (hd'.trans hd) (Qad hg hg') λhge=>?_
    grind
  | sl id off n g a cap b hb hd hg hn hs hm h =>
    obtain⟨b',hb',hd',hg',e⟩:=k.heap id b hb;refine .sl id off n g a cap b' hb' (hd'.trans hd) (Qad hg hg') hn hs hm λhge=>?_
    grind
  |tptr cs a vs hs hF hw hr=>exact .tptr cs a vs hs (λc hc=>k.more _ _ (hF c hc)) (λc hc=>(k.ext.cells _ _ (hF c hc)).trans (hw c hc)) (λc hc=>(hr c hc).adv k.more k.ext.cells)
  |unk x'=>exact .unk x'
theorem S5.adv{x:b9}{x':Value}(h:S5 ρ H F w x x')(k:Adv W ρ H F w ρ' H' F' w'):S5 ρ' H' F' w' x x':=by
  cases h with
  |cell h=>exact .cell (h.adv k)
  |agg cs vs hl h=>exact .agg cs vs hl λi x x' hx hx'=>(h i x x' hx hx').adv k
  |fn f caps vs hl h=>exact .fn f caps vs hl λi x x' hx hx'=>(h i x x' hx hx').adv k
theorem v8.adv{x:b9}{x':Value}(h:v8 ρ H F w x x')(k:Adv W ρ H F w ρ' H' F' w'):v8 ρ' H' F' w' x x':=by
  cases h with
  |val h=>exact .val (h.adv k)
  |tup xs vs hl h=>exact .tup xs vs hl λi x x' hx hx'=>(h i x x' hx hx').adv k
theorem da4.adv{a:List b9}{vs:Array Value}(h:da4 ρ H F w a vs)(k:Adv W ρ H F w ρ' H' F' w'):da4 ρ' H' F' w' a vs :=
  ⟨h.1,λi x x' hx hx'=>(h.2 i x x' hx hx').adv k⟩
theorem J8.one{x:b9}{x':Value}(h:J8 F w x x'):x'.oneCell'=true:=by
  cases h with
  | fn f caps vs _ e =>
    obtain⟨p,q,r,e2⟩:=Ob2 f vs;rw[e,e2];rfl
  |_=>first | rfl | assumption
theorem v8.ofv(x:Value):v8 ρ H F w (.v x) x:=.val (.cell (.v x))
theorem v8.unk(x:Value):v8 ρ H F w .unk x:=.val (.cell (.unk x))
theorem da4.put{a:List b9}{vs:Array Value}(h:da4 ρ H F w a vs)(d:Nat){x:b9}{x':Value}(hx:v8 ρ H F w x x'):da4 ρ H F w (a.set d x) (vs.setIfInBounds d x'):=by
  refine⟨by simpa using h.1,λi y y' hy hy'=>?_⟩
  by_cases hid:d=i
  · grind
  · rw[Qaf hid] at hy
    rw[Array.getElem?_setIfInBounds_ne hid] at hy';exact h.2 i y y' hy hy'
end
section
variable{W:Nat->Prop}{ρ:Rho}{H:List c7}{F:Fz}{w w':World}
theorem ab5{b o:Nat}(h:(w.cell? ⟨b,o,none⟩).isSome):b<w.heap.size:=by
 obtain⟨u,hu⟩:=Option.isSome_iff_exists.1 h;exact World.block_lt_of_cell? _ _ hu
theorem pc3.cellAt{base:yd3}{b:c7}{cc:Array Value}{t:TypeId}{fr:Nat×Nat}(h:pc3 W F w base b cc t fr)(o:Nat):w.cell? ⟨base.blk,o,none⟩=cc[o]?:=by
 simp[World.cell?,h.obj]
theorem pc3.lt{base:yd3}{b:c7}{cc:Array Value}{t:TypeId}{fr:Nat×Nat}(h:pc3 W F w base b cc t fr):base.blk<w.heap.size:=by
 rcases Qan base.blk w.heap.size with hh|hh
 ·exact hh
 ·have:=h.obj;rw[Array.getElem?_eq_none hh] at this;cases this
theorem Ext.same(hh:w'.heap=w.heap)(h1:w'.os=w.os)(h2:w'.tape=w.tape)(h3:w'.output=w.output)(h4:w.drawn<=w'.drawn):Ext W F w w' :=
 ⟨h1,h2,h3,by rw[hh];exact Qac _,λ_ _ _=>by rw[hh],λ_ _ _=>by simp[World.cell?,hh],h4⟩
theorem r4.same(h:r4 W ρ H F w)(hh:w'.heap=w.heap):r4 W ρ H F w':=by
 have hc:∀a,w'.cell? a=w.cell? a:=λa=>by simp[World.cell?,hh]
 refine⟨λid b hb hd=>?_,h.apart,λb o hf=>by rw[hc];exact h.frz b o hf,λk hk=>h.new k (by rw[<- hh];exact hk)⟩
 obtain⟨cc,t,fr,hB⟩:=h.blk id b hb hd;refine⟨cc,t,fr,by rw[hh];exact hB.obj,hB.room,hB.len,hB.rows,λi r c x hr hx=>?_,hB.own,hB.kept⟩
 obtain⟨x',h1,h2⟩:=hB.cell i r c x hr hx;exact⟨x',h1,h2.adv (λ_ _ h=>h) (λ_ _ _=>hc _)⟩
theorem Adv.same(hh:w'.heap=w.heap)(h1:w'.os=w.os)(h2:w'.tape=w.tape)(h3:w'.output=w.output)(h4:w.drawn<=w'.drawn):Adv W ρ H F w ρ H F w' :=
 ⟨.same hh h1 h2 h3 h4,.refl,λ_ _ h=>h,λ_ _ h=>.inl h,λ_ b h hn=>absurd rfl (hn b h)⟩
theorem pc3.keep{base:yd3}{b:c7}{cc:Array Value}{t:TypeId}{fr:Nat×Nat}(h:pc3 W F w base b cc t fr)(hblk:w'.heap[base.blk]?=w.heap[base.blk]?)
  (hw:∀b o,F b o->w'.cell? ⟨b,o,none⟩=w.cell? ⟨b,o,none⟩):pc3 W F w' base b cc t fr :=
 ⟨hblk.trans h.obj,h.room,h.len,h.rows,λi r c x hr hx=>by
  obtain⟨x',h1,h2⟩:=h.cell i r c x hr hx;exact⟨x',h1,h2.adv (λ_ _ h=>h) hw⟩,h.own,h.kept⟩
def ρnew(ρ:Rho)(H:List c7)(base:yd3):Rho:=λid=>if id=H.length then base else ρ id
theorem r4.newAt(h:r4 W ρ H F w)(hos:w'.os=w.os)(htape:w'.tape=w.tape)(hout:w'.output=w.output)(hdrawn:w.drawn<=w'.drawn)(hsize:w.heap.size<=w'.heap.size)
  (hold:∀k,k<w.heap.size->w'.heap[k]?=w.heap[k]?) (gb:Nat) (hgb:w.heap.size<=gb)
  (et es:Nat) (elems:List (List b9)) (cc:Array Value) (t:TypeId) (hobj:w'.heap[gb]?=some (.cells cc t (0,0)))
  (hrows:∀(i:Nat) r,elems[i]?=some r->r.length=es) (hlen:elems.length*es<=cc.size)
  (hcell:∀(i:Nat) r (c:Nat) x,elems[i]?=some r->r[c]?=some x->∃x',cc[i*es+c]?=some x'/\J8 F w x x') (ht:et≠0->t=et) :
  Adv W ρ H F w (ρnew ρ H ⟨gb,0,cc.size⟩) (H++[{ et,es,elems,own:=true,dead:=false,g:=0 }]) F w' /\
  r4 W (ρnew ρ H ⟨gb,0,cc.size⟩) (H++[{ et,es,elems,own:=true,dead:=false,g:=0 }]) F w':=by
 have hcells:∀b o,F b o->w'.cell? ⟨b,o,none⟩=w.cell? ⟨b,o,none⟩:=λb o hf=>by
  have:=hold b (ab5 (h.frz b o hf))
  simp[World.cell?,this]
 have hρ:∀id,id<H.length->ρnew ρ H ⟨gb,0,cc.size⟩ id=ρ id:=λid hid=>by
  simp[ρnew,Qak hid]
 have hρn:ρnew ρ H ⟨gb,0,cc.size⟩ H.length=⟨gb,0,cc.size⟩:=by simp[ρnew]
 have hlook:∀(id:Nat) b,(H++[{ et,es,elems,own:=true,dead:=false,g:=0 }])[id]?=some b->(id<H.length/\H[id]?=some b)\/(id=H.length/\b={ et,es,elems,own:=true,dead:=false,g:=0 }):=λid b hb=>by
  rcases Qan id H.length with hh|hh
  ·rw[List.getElem?_append_left hh] at hb;exact .inl ⟨hh,hb⟩
  ·rw[List.getElem?_append_right hh] at hb;have h0:id-H.length=0:=by
    rcases Nat.eq_zero_or_pos (id-H.length) with h0|h0
    ·exact h0
    ·rw[Qal (by simp;omega)] at hb;cases hb
   rw[h0] at hb;exact .inr ⟨by omega,by simpa using hb.symm⟩
 constructor
 ·refine⟨⟨hos,htape,hout,hsize,λk hk _=>hold k hk,hcells,hdrawn⟩,λid b hb=>?_,λ_ _ h=>h,λ_ _ h=>.inl h,λid b' hb' hn=>?_⟩
  ·grind
  ·rcases hlook id b' hb' with⟨_,h0⟩|⟨rfl,_⟩
   ·simp_all
   ·rw[hρn];exact h.new _ hgb
 ·refine⟨λid b hb hd=>?_,λid id' b b' hb hb' hd hd' ho hne=>?_,λb o hf=>by rw[hcells b o hf];exact h.frz b o hf,λk hk=>h.new k (by omega)⟩
  ·rcases hlook id b hb with⟨hid,hb0⟩|⟨rfl,rfl⟩
   ·obtain⟨cc',t',fr,hB⟩:=h.blk id b hb0 hd;rw[hρ id hid];exact⟨cc',t',fr,hB.keep (hold _ hB.lt) hcells⟩
   ·rw[hρn];refine⟨cc,t,(0,0),hobj,by simp,hlen,hrows,λi r c x hr hx=>?_,λ_=>⟨rfl,h.new _ hgb,rfl,rfl,λo hf=>?_,ht⟩,λhc=>by cases hc⟩
    ·obtain⟨x',h1,h2⟩:=hcell i r c x hr hx;exact⟨x',by simpa using h1,h2.adv (λ_ _ h=>h) hcells⟩
    ·have:=ab5 (h.frz _ _ hf)
     simp at this
     omega
  ·rcases hlook id b hb with⟨hid,hb0⟩|⟨rfl,rfl⟩<;>rcases hlook id' b' hb' with⟨hid',hb0'⟩|⟨rfl,rfl⟩
   ·rw[hρ id hid,hρ id' hid'];exact h.apart id id' b b' hb0 hb0' hd hd' ho hne
   ·rw[hρ id hid,hρn];obtain⟨cc',t',fr,hB⟩:=h.blk id b hb0 hd;exact Qak (Qaj hB.lt hgb)
   ·rw[hρ id' hid',hρn];obtain⟨cc',t',fr,hB⟩:=h.blk id' b' hb0' hd';exact (Qak (Qaj hB.lt hgb)).symm
   ·exact absurd rfl hne
theorem r4.alloc(h:r4 W ρ H F w)(et es:Nat)(elems:List (List b9))(cc:Array Value)(t:TypeId)
  (hrows:∀(i:Nat) r,elems[i]?=some r->r.length=es) (hlen:elems.length*es<=cc.size)
  (hcell:∀(i:Nat) r (c:Nat) x,elems[i]?=some r->r[c]?=some x->∃x',cc[i*es+c]?=some x'/\J8 F w x x') (ht:et≠0->t=et) :
  Adv W ρ H F w (ρnew ρ H ⟨w.heap.size,0,cc.size⟩) (H++[{ et,es,elems,own:=true,dead:=false,g:=0 }]) F (w.alloc (.cells cc t)) /\
  r4 W (ρnew ρ H ⟨w.heap.size,0,cc.size⟩) (H++[{ et,es,elems,own:=true,dead:=false,g:=0 }]) F (w.alloc (.cells cc t)) :=
 h.newAt (w':=w.alloc (.cells cc t)) rfl rfl rfl (Qac _) (by simp) (λk hk=>by simp only[World.alloc,Qam];rw[if_neg (Qak hk)]) w.heap.size (Qac _) et es elems cc t
  (by simp only[World.alloc,Qam];simp) hrows hlen hcell ht
def ρset(ρ:Rho)(id:Nat)(base:yd3):Rho:=λk=>if k=id then base else ρ k
theorem r4.moveAt(h:r4 W ρ H F w)(id:Nat)(b b':c7)(hb:H[id]?=some b)(hd:b.dead=false)(ho:b.own=true)
  (hos:w'.os=w.os) (htape:w'.tape=w.tape) (hout:w'.output=w.output) (hdrawn:w.drawn<=w'.drawn) (hsize:w.heap.size<=w'.heap.size)
  (hold:∀k,k<w.heap.size->k≠(ρ id).blk->w'.heap[k]?=w.heap[k]?) (gb:Nat) (hgb:gb=(ρ id).blk\/w.heap.size<=gb)
  (cc:Array Value) (t:TypeId) (hobj:w'.heap[gb]?=some (.cells cc t (0,0)))
  (e3:b'.own=true) (e4:b'.dead=false) (e5:b.g<b'.g) (het:b'.et≠0->t=b'.et)
  (hrows:∀(i:Nat) r,b'.elems[i]?=some r->r.length=b'.es) (hlen:b'.elems.length*b'.es<=cc.size)
  (hcell:∀(i:Nat) r (c:Nat) x,b'.elems[i]?=some r->r[c]?=some x->∃x',cc[i*b'.es+c]?=some x'/\J8 F w x x') :
  Adv W ρ H F w (ρset ρ id ⟨gb,0,cc.size⟩) (H.set id b') F w'/\r4 W (ρset ρ id ⟨gb,0,cc.size⟩) (H.set id b') F w':=by
 have hid:id<H.length:=(Qab.1 hb).1;obtain⟨cc0,t0,fr0,hB0⟩:=h.blk id b hb hd;obtain⟨_,hW,hoff,hsz,hnF,_⟩:=hB0.own ho;have hcells:∀k o,F k o->w'.cell? ⟨k,o,none⟩=w.cell? ⟨k,o,none⟩:=λk o hf=>by
  have:=hold k (ab5 (h.frz k o hf)) (λe=>hnF o (e ▸ hf))
  simp[World.cell?,this]
 have hρ:∀k,k≠id->ρset ρ id ⟨gb,0,cc.size⟩ k=ρ k:=λk hk=>by simp[ρset,hk]
 have hρn:ρset ρ id ⟨gb,0,cc.size⟩ id=⟨gb,0,cc.size⟩:=by simp[ρset]
 have hlook:∀(k:Nat) c,(H.set id b')[k]?=some c->(k≠id/\H[k]?=some c)\/(k=id/\c=b'):=λk c hk=>by
  by_cases e:id=k
  ·subst e;simp[hid] at hk;exact .inr ⟨rfl,hk.symm⟩
  ·rw[Qaf e] at hk;exact .inl ⟨λh=>e h.symm,hk⟩
 have hWg:W gb:=hgb.elim (λe=>e ▸ hW) (h.new gb)
 have hnFg:∀o,¬ F gb o:=λo hf=>hgb.elim (λe=>hnF o (e ▸ hf)) (λhle=>by have:=ab5 (h.frz gb o hf);omega)
 refine⟨⟨⟨hos,htape,hout,hsize,λk hk hw=>hold k hk (λe=>hw (e ▸ hW)),hcells,hdrawn⟩,λk c hk=>?_,λ_ _ h=>h,λ_ _ h=>.inl h,λk c hk hn=>?_⟩,?_⟩
 ·grind
 ·grind
 ·have hother : ∀ k c, k ≠ id → H[k]? = some c → c.dead = false → (ρ k).blk ≠ gb := fun k c hne hk hdc => by
   obtain⟨cc1,t1,fr1,hB1⟩:=h.blk k c hk hdc
   rcases hgb with e|hle
   ·rw[e];exact (h.apart id k b c hb hk hd hdc ho (Ne.symm hne)).symm
   ·exact Qak (Qaj hB1.lt hle)
  refine⟨λk c hk hdc=>?_,λk k' c c' hk hk' hd1 hd2 hoc hne=>?_,λk o hf=>by rw[hcells k o hf];exact h.frz k o hf,λk hk=>h.new k (by omega)⟩
  ·rcases hlook k c hk with⟨hne,hk0⟩|⟨rfl,rfl⟩
   ·obtain⟨cc1,t1,fr1,hB1⟩:=h.blk k c hk0 hdc;rw[hρ k hne];exact⟨cc1,t1,fr1,hB1.keep (hold _ hB1.lt (h.apart id k b c hb hk0 hd hdc ho (Ne.symm hne)).symm) hcells⟩
   ·rw[hρn];refine⟨cc,t,(0,0),hobj,by simp,hlen,hrows,λi r x u hr hx=>?_,λ_=>⟨rfl,hWg,rfl,rfl,hnFg,het⟩,λhn=>by rw[e3] at hn;cases hn⟩
    obtain⟨x',h1,h2⟩:=hcell i r x u hr hx;exact⟨x',by simpa using h1,h2.adv (λ_ _ h=>h) hcells⟩
  ·rcases hlook k c hk with⟨hne1,hk0⟩|⟨rfl,rfl⟩<;>rcases hlook k' c' hk' with⟨hne2,hk0'⟩|⟨rfl,rfl⟩
   ·rw[hρ k hne1,hρ k' hne2];exact h.apart k k' c c' hk0 hk0' hd1 hd2 hoc hne
   ·simp_all
   ·grind
   ·exact absurd rfl hne
theorem r4.disown(h:r4 W ρ H F w)(id:Nat)(b:c7)(hb:H[id]?=some b)(hd:b.dead=false) :
  ∃F',Adv W ρ H F w ρ (H.set id { b with own:=false }) F' w/\r4 W ρ (H.set id { b with own:=false }) F' w /\
   (∀o,o<b.elems.length*b.es->F' (ρ id).blk ((ρ id).off+o)):=by
 obtain⟨cc,t,fr,hB⟩:=h.blk id b hb hd;have hid:id<H.length:=(Qab.1 hb).1;have hlook:∀(k:Nat) b',(H.set id { b with own:=false })[k]?=some b'->(k≠id/\H[k]?=some b')\/(k=id/\b'={ b with own:=false }):=λk b' hk=>by
  by_cases e:id=k
  ·subst e;simp[hid] at hk;exact .inr ⟨rfl,hk.symm⟩
  ·rw[Qaf e] at hk;exact .inl ⟨λh=>e h.symm,hk⟩
 refine⟨λk o=>F k o\/(b.own=true/\k=(ρ id).blk/\(ρ id).off<=o/\o<(ρ id).off+b.elems.length*b.es),?_,?_,?_⟩
 ·refine⟨.refl,λk b' hk=>?_,λ_ _ h=>.inl h,λk o hk=>?_,λk b' hk hn=>?_⟩
  ·grind
  ·rcases hk with hk|⟨ho,rfl,_⟩
   ·exact .inl hk
   ·exact .inr (hB.own ho).2.1
  grind
 ·have hm:∀{x x'},J8 F w x x'->J8 (λk o=>F k o\/(b.own=true/\k=(ρ id).blk/\(ρ id).off<=o/\o<(ρ id).off+b.elems.length*b.es)) w x x':=λhx=>hx.adv (λ_ _ h=>.inl h) (λ_ _ _=>rfl)
  refine⟨λk b' hk hd'=>?_,λk k' c c' hk hk' hd1 hd2 ho hne=>?_,λk o hk=>?_,h.new⟩
  ·rcases hlook k b' hk with⟨hne,hk0⟩|⟨rfl,rfl⟩
   ·obtain⟨cc',t',fr',hB'⟩:=h.blk k b' hk0 hd';refine⟨cc',t',fr',hB'.obj,hB'.room,hB'.len,hB'.rows,λi r c x hr hx=>?_,λho=>?_,λho o hlt=>.inl (hB'.kept ho o hlt)⟩
    ·obtain⟨x',h1,h2⟩:=hB'.cell i r c x hr hx;exact⟨x',h1,hm h2⟩
    ·obtain⟨h1,h2,h3,h4,h5,h6⟩:=hB'.own ho;refine⟨h1,h2,h3,h4,λo hf=>?_,h6⟩
     rcases hf with hf|⟨_,he,_⟩
     ·exact h5 o hf
     ·exact h.apart k id b' b hk0 hb hd' hd ho hne he
   ·refine⟨cc,t,fr,hB.obj,hB.room,hB.len,hB.rows,λi r c x hr hx=>?_,(λho=>by cases ho),λ_ o hlt=>?_⟩
    ·obtain⟨x',h1,h2⟩:=hB.cell i r c x hr hx;exact⟨x',h1,hm h2⟩
    ·cases ho:b.own with
     |false=>exact .inl (hB.kept ho o hlt)
     |true=>exact .inr ⟨rfl,rfl,by omega,by simpa using hlt⟩
  ·rcases hlook k c hk with⟨hne1,hk0⟩|⟨rfl,rfl⟩
   ·rcases hlook k' c' hk' with⟨hne2,hk0'⟩|⟨rfl,rfl⟩
    ·exact h.apart k k' c c' hk0 hk0' hd1 hd2 ho hne
    ·exact h.apart k k' c b hk0 hb hd1 hd ho hne
   ·cases ho
  ·rcases hk with hk|⟨ho,rfl,h1,h2⟩
   ·exact h.frz k o hk
   ·rw[hB.cellAt]
    have:o<cc.size:=by have:=hB.room;have:=hB.len;omega
    simp[this]
 ·intro o hlt;cases ho:b.own with
  |false=>exact .inl (hB.kept ho o hlt)
  |true=>exact .inr ⟨rfl,rfl,by omega,by omega⟩
theorem r4.rewrite(h:r4 W ρ H F w)(id:Nat)(b b':c7)(hb:H[id]?=some b)(hd:b.dead=false)(ho:b.own=true)
  (cc:Array Value) (t:TypeId) (hB:pc3 W F w (ρ id) b cc t (0,0)) (cc':Array Value) (hsz:cc'.size=cc.size)
  (e1:b'.es=b.es) (e2:b'.et=b.et) (e3:b'.own=true) (e4:b'.dead=false) (e5:b.g<=b'.g) (e6:b'.g=b.g->b.elems.length<=b'.elems.length)
  (hlen:b'.elems.length*b.es<=(ρ id).size) (hrows:∀(i:Nat) r,b'.elems[i]?=some r->r.length=b.es)
  (hcell:∀(i:Nat) r (c:Nat) x,b'.elems[i]?=some r->r[c]?=some x->∃x',cc'[i*b.es+c]?=some x'/\J8 F w x x') :
  Adv W ρ H F w ρ (H.set id b') F (w.setRow (ρ id).blk cc')/\r4 W ρ (H.set id b') F (w.setRow (ρ id).blk cc'):=by
 have hid:id<H.length:=(Qab.1 hb).1;obtain⟨_,hW,hoff,hsize,hnF,het⟩:=hB.own ho;have hother:∀k,k≠(ρ id).blk->(w.setRow (ρ id).blk cc').heap[k]?=w.heap[k]?:=λk hk=>setRow_other w _ k _ hk
 have hcells:∀k o,F k o->(w.setRow (ρ id).blk cc').cell? ⟨k,o,none⟩=w.cell? ⟨k,o,none⟩:=λk o hf=>by
  have:k≠(ρ id).blk:=λe=>hnF o (e ▸ hf)
  simp[World.cell?,hother k this]
 have hlook:∀(k:Nat) c,(H.set id b')[k]?=some c->(k≠id/\H[k]?=some c)\/(k=id/\c=b'):=λk c hk=>by
  by_cases e:id=k
  ·subst e;simp[hid] at hk;exact .inr ⟨rfl,hk.symm⟩
  ·rw[Qaf e] at hk;exact .inl ⟨λh=>e h.symm,hk⟩
 refine⟨⟨⟨rfl,rfl,rfl,by simp,λk _ hk=>hother k (λe=>hk (e ▸ hW)),hcells,Qac _⟩,λk c hk=>?_,λ_ _ h=>h,λ_ _ h=>.inl h,λk c hk hn=>?_⟩,?_⟩
 ·grind
 ·grind
 ·refine⟨λk c hk hdc=>?_,λk k' c c' hk hk' hd1 hd2 hoc hne=>?_,λk o hf=>by rw[hcells k o hf];exact h.frz k o hf,λk hk=>h.new k (by simpa using hk)⟩
  ·rcases hlook k c hk with⟨hne,hk0⟩|⟨rfl,rfl⟩
   ·obtain⟨cc1,t1,fr1,hB1⟩:=h.blk k c hk0 hdc;exact⟨cc1,t1,fr1,hB1.keep (hother _ (h.apart id k b c hb hk0 hd hdc ho (Ne.symm hne)).symm) hcells⟩
   ·refine⟨cc',t,(0,0),setRow_heap w _ cc _ t _ hB.obj,by rw[hsz];exact hB.room,by rw[e1];exact hlen,by rw[e1];exact hrows,λi r x u hr hx=>?_,λ_=>⟨rfl,hW,hoff,by rw[hsz];exact hsize,hnF,by rw[e2];exact het⟩,λhn=>by rw[e3] at hn;cases hn⟩
    rw[e1,hoff,Nat.zero_add];obtain⟨x',h1,h2⟩:=hcell i r x u hr hx;exact⟨x',h1,h2.adv (λ_ _ h=>h) hcells⟩
  ·rcases hlook k c hk with⟨hne1,hk0⟩|⟨rfl,rfl⟩<;>rcases hlook k' c' hk' with⟨hne2,hk0'⟩|⟨rfl,rfl⟩
   ·exact h.apart k k' c c' hk0 hk0' hd1 hd2 hoc hne
   ·exact h.apart k k' c b hk0 hb hd1 hd hoc hne
   ·exact h.apart k k' b c' hb hk0' hd hd2 ho hne
   ·exact absurd rfl hne
theorem r4.pull{ρ':Rho}{H':List c7}(h:r4 W ρ H F w)(π:Nat->Nat)(hπ:∀(i:Nat) b,H'[i]?=some b->b.dead=false->H[π i]?=some b/\ρ' i=ρ (π i))(inj:∀(i i':Nat) b b',H'[i]?=some b->b.dead=false->H'[i']?=some b'->b'.dead=false->π i=π i'->i=i'):r4 W ρ' H' F w:=by
 refine⟨λid b hb hd=>?_,λid id' b b' hb hb' hd hd' ho hne=>?_,h.frz,h.new⟩
 ·obtain⟨h1,h2⟩:=hπ id b hb hd;rw[h2];exact h.blk _ b h1 hd
 ·obtain⟨h1,h2⟩:=hπ id b hb hd;obtain⟨h3,h4⟩:=hπ id' b' hb' hd';rw[h2,h4];exact h.apart _ _ b b' h1 h3 hd hd' ho λe=>hne (inj id id' b b' hb hd hb' hd' e)
end
def szT(P:Program)(t:TypeId):Nat :=
 match P.info? t with
 |some i=>i.size
 |none=>0
def byT(P:Program)(t:TypeId):Nat :=
 match P.info? t with
 |some i=>i.bytes
 |none=>0
def agT(P:Program)(t:TypeId):Bool :=
 match P.underlying t with
 |some (.struct _) | some (.array _ _)=>true
 |_=>false
def zeT(P:Program)(t:TypeId):Option (List b9) :=
 match P.info? t with
 |some i=>match i.zero with
  |some z=>if z.cells.toList.all pc1 then some (z.cells.toList.map .v) else none
  |none=>none
 |none=>none
def ae6(P:Program)(t:TypeId):Bool :=
 match P.info? t with
 |some i=>match i.zero with
  |some z=>Nat.beq z.cells.size i.size
  |none=>false
 |none=>false
def Yc1(P:Program)(sl:Bool):Nat->TypeId->List CK
 |0,t=>List.replicate (szT P t) .any
 |d+1,t=>match P.underlying t with
  |some (.int k)=>[.int k]
  |some .bool=>[.bool]
  |some (.slice e)=>match sl with
   |true=>[.sl (szT P e)]
   |false=>[.any]
  |some (.struct fs)=>fs.toList.flatMap λf=>Yc1 P sl d f.type
  |some (.array n e)=>(List.replicate n (Yc1 P sl d e)).flatten
  |_=>List.replicate (szT P t) .any
def g9:Operand->Arg
 |.tmp t=>.t t
 |.const v=>.c (ofVal v)
 |.global g=>.g g
 |.func f=>.c (.fn f [])
def Ob3(P:Program)(t:TypeId)(i:Nat):Option (Nat×Nat) :=
 match P.underlying t with
 |some (.struct fs)=>match fs[i]? with
  |some f=>some (f.offset,szT P f.type)
  |none=>none
 |some (.array _ e)=>some (i*szT P e,szT P e)
 |some (.slice e)=>some (i*szT P e,szT P e)
 |_=>none
def Fa7(P:Program)(t:TypeId):List (Nat×Operand)->Option (List (Nat×Nat×Arg))
 |[]=>some []
 |(i,x)::r=>match Ob3 P t i with
  |some (off,size)=>match Fa7 P t r with
   |some l=>some ((off,size,g9 x)::l)
   |none=>none
  |none=>none
def kc9(o:Oper):Oper:={ o with dst:=none,pos := "", after:=#[],guard:=none }
def Aa7:List Operand->Option (List Nat)
 |[]=>some []
 |.tmp t::r=>match Aa7 r with
  |some l=>some (t::l)
  |none=>none
 |.global _::_=>none
 |_::r=>Aa7 r
def Yc2(P:Program)(t:TypeId):Bool :=
 match P.underlying t with
 |some (.struct fs)=>fs.all λf=>(P.info? f.type).isSome
 |some (.array _ e)=>(P.info? e).isSome
 |_=>false
def wb8(o:Oper):PO :=
 match Aa7 o.op.operands.toList with
 |some ts=>.gen (kc9 o) ts
 |none=>.bad
def ca0:List (Option (List (Nat×CK)))->Option (List (Nat×CK))
 |[]=>some []
 |x::r=>match x,ca0 r with
  |some a,some b=>some (a++b)
  |_,_=>none
def wb9(off n:Nat)(x:Option (List (Nat×CK))):Option (List (Nat×CK)):=match x with
 |some l=>if l.all (λp=>Nat.blt p.1 n) then some (l.map λp=>(off+p.1,p.2)) else none
 |none=>none
def O5(P:Program):Nat->TypeId->Option (List (Nat×CK))
 |0,_=>none
 |d+1,t=>match P.underlying t with
  |some (.int k)=>some [(0,.int k)]
  |some .bool=>some [(0,.bool)]
  |some (.struct fs)=>if P.stoodInHeld t then none else ca0 (fs.toList.map λf=>if f.name = "_" then none else wb9 f.offset (szT P f.type) (O5 P d f.type))
  |some (.array n e)=>if (P.info? e).isSome then ca0 ((List.range n).map λi=>wb9 (i*szT P e) (szT P e) (O5 P d e)) else none
  |_=>none
def ab6(P:Program)(t:TypeId):Nat :=
 match P.underlying t with
 |some (.slice _)=>0
 |some (.pointer _)=>1
 |some (.func _ _ _)=>2
 |_=>3
def Ue3(P:Program)(o:Oper)(op:BinOp)(t:TypeId)(x y:Operand):PO :=
 match op with
 |.eql=>if agT P t then (match O5 P 9 t with | some fl=>if P.eqGuardType P.depth t then .bad else .eqc false fl (g9 x) (g9 y) | none=>.bad) else match Aa7 o.op.operands.toList with
  |some ts=>.eqn (ab6 P t) false (g9 x) (g9 y) (kc9 o) ts
  |none=>.bad
 |.neq=>if agT P t then (match O5 P 9 t with | some fl=>if P.eqGuardType P.depth t then .bad else .eqc true fl (g9 x) (g9 y) | none=>.bad) else match Aa7 o.op.operands.toList with
  |some ts=>.eqn (ab6 P t) true (g9 x) (g9 y) (kc9 o) ts
  |none=>.bad
 |_=>wb8 o
def Yc3(P:Program):List Operand->List TypeId->PO
 |[s,x],[t,u]=>match P.underlying t with
  |some (.slice e)=>if Nat.blt 0 (szT P e)&&Nat.blt 0 (byT P e)&&ae6 P e&&!(Nat.beq e 0)&&Nat.beq t u then .append e (szT P e) (byT P e) (g9 s) (g9 x) else .bad
  |_=>.bad
 |_,_=>.bad
def jf2(P:Program):List Operand->List TypeId->PO
 |[d,s],[t,_]=>match P.underlying t with
  |some (.slice e)=>if (P.info? e).isSome then .copy (szT P e) (g9 d) (g9 s) else .bad
  |_=>.bad
 |_,_=>.bad
def Ue4(P:Program):List Operand->List TypeId->PO
 |[x],[t]=>match P.underlying t with
  |some (.slice e)=>match zeT P e with
   |some z=>if Nat.blt 0 (szT P e) then .clr (szT P e) z (g9 x) else .bad
   |none=>.bad
  |_=>.bad
 |_,_=>.bad
def Ue5(P:Program)(o:Oper):List Operand->List TypeId->PO
 |[x],[t]=>match P.underlying t with
  |some (.slice _)=>.len (g9 x)
  |some (.array n _)=>.mv (.c (.v (.int .i64 n)))
  |some .string=>.slen (g9 x)
  |_=>.bad
 |_,_=>.bad
def ae7(P:Program)(name:String)(t:Nat):Option (Nat×FuncId) :=
 match P.info? t with
 |some i=>match i.methods.find? (λm=>m.name==name) with
  |some m=>match m.path.toList,m.func,P.underlying t with
   |[],some (f,false),some (.struct _)=>some (t,f)
   |_,_,_=>none
  |none=>none
 |none=>none
def Yc4(P:Program)(name:String):List (Nat×FuncId):=(List.range P.types.size).filterMap (ae7 P name)
def cOp(P:Program)(o:Oper):PO :=
 match o.op with
 |.move x | .assign x=>.mv (g9 x)
 |.nilCheck x=>.nilck (g9 x)
 |.pick c x y=>.pick (g9 c) (g9 x) (g9 y)
 |.alloc t=>match zeT P t with
  |some z=>.alloc z
  |none=>.bad
 |.box _ x=>.box (g9 x)
 |.build t parts=>match zeT P t with
  |some z=>match Fa7 P t parts.toList with
   |some l=>if Yc2 P t then .build z l else .bad
   |none=>.bad
  |none=>.bad
 |.buildSlice t n parts=>match P.underlying t with
  |some (.slice e)=>match zeT P e with
   |some z=>match Fa7 P t parts.toList with
    |some l=>if Nat.ble (n*szT P e) 16777216&&Nat.beq z.length (szT P e)&&Nat.blt 0 (szT P e) then .bslice e (szT P e) n (List.replicate n z).flatten l else .bad
    |none=>.bad
   |none=>.bad
  |_=>.bad
 |.load t x=>match P.underlying t with
  |some _=>.load (Yc1 P true 8 t) (szT P t) (agT P t) (g9 x)
  |none=>.bad
 |.store t x y=>if Nat.beq (szT P t) 0 then .bad else .store (szT P t) (g9 x) (g9 y)
 |.fieldAddr s x f=>match P.underlying s with
  |some (.struct fs)=>match fs[f]? with
   |some fd=>if Nat.beq (szT P fd.type) 0 then .bad else .fld fd.offset (g9 x)
   |none=>.bad
  |_=>.bad
 |.indexAddr t x i=>match P.underlying t with
  |some (.array n e)=>if (P.info? e).isSome then .idxA n (szT P e) (g9 x) (g9 i) else .bad
  |some (.slice e)=>if (P.info? e).isSome then .idxS (szT P e) (g9 x) (g9 i) else .bad
  |_=>.bad
 |.slice t x lo hi mx=>match P.underlying t,mx with
  |some (.slice e),none=>if (P.info? e).isSome then .slice (szT P e) (g9 x) (lo.map g9) (hi.map g9) else .bad
  |some (.array n e),none=>match lo,hi with
   |none,none=>if (P.info? e).isSome&&(Nat.blt 0 n&&Nat.blt 0 (szT P e)) then .asl n (szT P e) (g9 x) else .bad
   |_,_=>.bad
  |some .string,none=>wb8 o
  |_,_=>.bad
 |.makeSlice t l c=>match P.underlying t with
  |some (.slice e)=>match zeT P e with
   |some z=>if Nat.beq z.length (szT P e)&&Nat.blt 0 (szT P e) then .mksl e (szT P e) (byT P e) z (g9 l) (g9 c) else .bad
   |none=>.bad
  |_=>.bad
 |.makeFunc (.func f) first caps=>if first.isEmpty then (if Nat.ble bfB f then .bad else .mkfn f (caps.toList.map g9)) else if caps.isEmpty then .mkfn (f+bfB) (first.toList.map g9) else .bad
 |.extract x i=>.ext (g9 x) i
 |.field t x f=>match P.underlying t with
  |some (.struct fs)=>match fs[f]? with
   |some fd=>if (P.underlying fd.type).isSome then .field fd.offset (szT P fd.type) (agT P fd.type) (g9 x) else .bad
   |none=>.bad
  |_=>.bad
 |.index t x i=>match P.underlying t with
  |some (.array n e)=>if (P.underlying e).isSome then .index (Yc1 P false 8 e) n (szT P e) (agT P e) (g9 x) (g9 i) else .bad
  |some .string=>.sidx (g9 x) (g9 i)
  |_=>.bad
 |.binOp op t x y _ =>
  let plain:=wb8 o
  match P.underlying t with
  |some (.int _)=>match op with
   |.add | .sub | .mul | .quo | .rem | .lss | .leq | .gtr | .geq | .eql | .neq | .and | .shr=>.bin op (g9 x) (g9 y)
   |_=>plain
  |_=>Ue3 P o op t x y
 |.unOp op t x =>
  match op,P.underlying t with
  |.not,_=>.not (g9 x)
  |.neg,some (.int _)=>.neg (g9 x)
  |_,_=>wb8 o
 |.call c=>match c.callee with
  |.value (.func f)=>.call f (c.args.toList.map g9)
  |.value x=>.calld (g9 x) (c.args.toList.map g9)
  |.invoke r name=>.invk (Yc4 P name) (g9 r) (c.args.toList.map g9)
  |.builtin b=>match b with
   |.append=>Yc3 P c.args.toList c.argTypes.toList
   |.clear=>Ue4 P c.args.toList c.argTypes.toList
   |.len=>Ue5 P o c.args.toList c.argTypes.toList
   |.max=>wb8 o
   |.min=>wb8 o
   |_=>.bad
 |.convert _ _ _=>wb8 o
 |.makeInterface _ _=>wb8 o
 |.typeAssert _ _ _ _=>wb8 o
 |_=>.bad
def S6(ops:Array Oper)(o:Oper):Option (Option (Nat×Bool)) :=
 match o.guard with
 |none=>some none
 |some (j,want)=>match ops[j]? with
  |some oj=>match oj.dst with
   |some d=>some (some (d,want))
   |none=>none
  |none=>none
def jf3(ops:Array Oper)(s:Nat):Bool:=ops.toList.any λq=>match q.op,q.dst with
 |.slice _ _ none (some _) none,some d=>Nat.beq d s
 |_,_=>false
def jf4(P:Program)(ops:Array Oper)(po:PO):List Operand->List TypeId->PO
 |[.tmp s,x],[t,u]=>match P.underlying t with
  |some (.slice e)=>if jf3 ops s&&(Nat.blt 0 (szT P e)&&Nat.beq t u) then .apre (szT P e) (.t s) (g9 x) else po
  |_=>po
 |_,_=>po
def we4(ops:Array Oper)(o:Oper):Bool:=match o.dst with
 |some d=>ops.toList.any λq=>match q.op with
  |.buildSlice _ _ parts=>parts.toList.any λp=>match p.2 with
   |.tmp s=>Nat.beq s d
   |_=>false
  |_=>false
 |none=>false
def ae8(ops:Array Oper)(s:Nat):Bool:=ops.toList.any λq=>match q.op,q.dst with
 |.makeFunc (.method _) _ _,some d=>Nat.beq d s
 |_,_=>false
def jb8(P:Program)(ops:Array Oper)(o:Oper):PO:=match o.op with
 |.call c=>match c.callee with
  |.builtin .append=>jf4 P ops (cOp P o) c.args.toList c.argTypes.toList
  |_=>cOp P o
 |.makeFunc (.func f) first caps=>if first.isEmpty&&(!caps.isEmpty&&we4 ops o) then .mkfz f (caps.toList.map g9) else cOp P o
 |.makeFunc (.method _) _ _=>wb8 o
 |.nilCheck (.tmp s)=>if ae8 ops s then wb8 o else cOp P o
 |_=>cOp P o
def Ob4(P:Program)(ops:Array Oper):List Oper->Option (List PI)
 |[]=>some []
 |o::r=>match S6 ops o with
  |some g=>match Ob4 P ops r with
   |some l=>some (⟨o.dst,g,[],jb8 P ops o⟩::l)
   |none=>none
  |none=>none
def Ia9(o:Oper):Bool:=match o.op with
 |.alloc _=>o.guard.isNone
 |.buildSlice _ n ps=>match n,ps.toList with
  |0,[]=>o.guard.isNone
  |_,_=>false
 |_=>false
def uc6:PO->Bool
 |.mv _ | .nilck _ | .pick .. | .build .. | .tslice .. | .tmk .. | .load .. | .fld .. | .idxA .. | .idxS .. | .slice .. | .mkfn .. | .ext .. | .field .. | .index .. | .bin .. | .eqn .. | .eqc .. | .not _ | .neg _ | .gen .. | .len _ | .sidx .. | .slen _=>true
 |_=>false
def ka5:Arg->List Nat
 |.t n=>[n]
 |_=>[]
def yd5:Option Arg->List Nat
 |some x=>ka5 x
 |none=>[]
def ab7:PO->List Nat
 |.mv x | .nilck x | .box x | .load _ _ _ x | .fld _ x | .ext x _ | .field _ _ _ x | .not x | .neg x | .len x | .slen x | .clr _ _ x | .asl _ _ x=>ka5 x
 |.pick c x y=>ka5 c++ka5 x++ka5 y
 |.alloc _ | .bad=>[]
 |.build _ ps | .bslice _ _ _ _ ps | .tslice _ _ _ ps=>ps.flatMap λp=>ka5 p.2.2
 |.store _ x y | .idxA _ _ x y | .idxS _ x y | .mksl _ _ _ _ x y | .tmk _ _ _ x y | .index _ _ _ _ x y | .bin _ x y | .eqc _ _ x y | .append _ _ _ x y | .copy _ x y | .apre _ x y | .sidx x y=>ka5 x++ka5 y
 |.eqn _ _ x y _ ts=>ka5 x++ka5 y++ts
 |.slice _ x lo hi=>ka5 x++yd5 lo++yd5 hi
 |.mkfn _ xs | .mkfz _ xs | .call _ xs=>xs.flatMap ka5
 |.gen _ ts=>ts
 |.calld x xs | .invk _ x xs=>ka5 x++xs.flatMap ka5
def Ob5:Option (Nat×Bool)->List Nat
 |some (d,_)=>[d]
 |none=>[]
def w8(o:Oper):List Nat:=(o.after.toList.filter λe=>Region.binds .any e).map (·.on)
def Yc5(ops:Array Oper)(M:List Nat):Bool :=
 (List.range ops.size).all λj=>match ops[j]? with
  |some o=>(w8 o).all (Nat.blt · j)&&(List.range ops.size).all λi=>!(M.getD j 0).testBit i||(w8 o).any λm=>Nat.beq m i||(M.getD m 0).testBit i
  |none=>false
def p8(M:List Nat)(i j:Nat):Bool:=(M.getD j 0).testBit i
def ob6:PO->Bool
 |.load .. | .idxS .. | .slice .. | .store .. | .append .. | .copy .. | .apre .. | .clr .. | .call .. | .calld .. | .invk ..=>false
 |_=>true
def we5(ops:Array Oper)(M:List Nat)(j:Nat)(loose:Bool)(reads:List Nat)(dst:Option Nat):Bool :=
 (List.range ops.size).all λi=>match ops[i]? with
  |some o=>match o.dst with
   |some d=>(!(reads.contains d)||p8 M i j||(loose&&!Ia9 o&&(p8 M j i||Nat.beq i j)))&&(Nat.beq i j||dst != some d)
   |none=>true
  |none=>false
def Ue6:b9->Bool
 |.v (.slice none _ _)=>true
 |_=>false
def Na1(tr:Nat)(o:PO):PO:=match o with
 |.bslice et es n z ps=>match Nat.beq tr 0||Nat.beq n 0||(Nat.beq tr 1&&z.any Ue6) with
  |true=>.bslice et es n z ps
  |false=>.tslice es n z ps
 |.mksl et es bytes z l c=>match Nat.beq tr 0 with
  |true=>.mksl et es bytes z l c
  |false=>.tmk es bytes z l c
 |.asl ..=>.bad
 |.mkfz ..=>.bad
 |o=>o
def Jb9(tr:Nat)(P:Program)(ops:Array Oper)(o:Oper):Nat:=if Ia9 o then 0 else if uc6 (Na1 tr (jb8 P ops o)) then 1 else 2
def cc5(ops:Array Oper)(M:List Nat)(j:Nat):List Nat:=(List.range ops.size).filterMap λi=>match ops[i]? with
 |some oi=>if Ia9 oi&&!p8 M i j then oi.dst else none
 |none=>none
def cPI(tr:Nat)(P:Program)(ops:Array Oper)(M:List Nat)(j:Nat)(o:Oper):Option (Nat×PI) :=
 match S6 ops o with
 |some g=>some (Jb9 tr P ops o,⟨o.dst,g,if Nat.beq (Jb9 tr P ops o) 2 then cc5 ops M j else [],Na1 tr (jb8 P ops o)⟩)
 |none=>none
def jd7(tr:Nat)(P:Program)(ops:Array Oper)(M:List Nat):Nat->List Oper->Option (List (Nat×PI))
 |_,[]=>some []
 |j,o::r=>match cPI tr P ops M j o,jd7 tr P ops M (j+1) r with
  |some x,some l=>some (x::l)
  |_,_=>none
def ab8(ks:List (Nat×PI))(j:Nat):Option PI:=match ks[j]? with
 |some (0,p)=>some p
 |_=>none
def Kb0(ks:List (Nat×PI))(j:Nat):Option PI:=match ks[j]? with
 |some (_+1,p)=>some p
 |_=>none
def uc7:Arg->Bool
 |.c x=>match x with
  |.ptr .. | .sl ..=>false
  |_=>true
 |_=>true
def jd8:PO->Bool
 |.load _ _ _ x=>uc7 x
 |.idxS _ x _=>uc7 x
 |.slice _ x _ _=>uc7 x
 |_=>true
def Eb8(ops:Array Oper)(M:List Nat)(ks:List (Nat×PI))(j:Nat):Bool:=match ks[j]? with
 |some (k,p)=>we5 ops M j (ob6 p.op) (Ob5 p.guard++ab7 p.op) p.dst&&jd8 p.op&&(!Nat.beq k 0||p.dst.isSome)&&(!Nat.beq k 2||(List.range j).all λi=>match ks[i]? with
  |some (2,_)=>p8 M i j&&Nat.beq ((M.getD i 0) &&& (M.getD j 0)) (M.getD i 0)
  |_=>true)
 |none=>false
def ka9(n:Nat)(M:List Nat)(ks:List (Nat×PI)):List (PO×PO):=(List.range n).flatMap λj=>match ks[j]? with
 |some (1,pj)=>(List.range n).filterMap λi=>match ks[i]? with
  |some (2,pi)=>if p8 M i j||p8 M j i then none else some (pj.op,pi.op)
  |_=>none
 |_=>[]
def wc7(ops:Array Oper)(M:List Nat)(ks:List (Nat×PI)):PC :=
 match Yc5 ops M&&(List.range ops.size).all (Eb8 ops M ks) with
 |true=>.draw (ops.toList.filterMap (·.dst)) ((List.range ops.size).filterMap (ab8 ks)) ((List.range ops.size).filterMap (Kb0 ks)) (ka9 ops.size M ks)
 |false=>.bad
def Aa8(tr:Nat)(P:Program)(ops:Array Oper):PC :=
 let M:=(Region.before ops).toList
 match jd7 tr P ops M 0 ops.toList with
 |some ks=>wc7 ops M ks
 |none=>.bad
def ra5(P:Program)(ops:Array Oper):PC :=
 match Aa8 0 P ops with
 |.draw a b c d=>.draw a b c d
 |_=>match Aa8 1 P ops with
  |.draw a b c d=>.draw a b c d
  |_=>Aa8 2 P ops
def Sb8(P:Program):Code->PC
 |.skip=>.skip
 |.region _ ops d=>match d with
  |false=>match Ob4 P ops ops.toList with
   |some l=>.ops l
   |none=>.bad
  |true=>ra5 P ops
 |.seq a b=>.seq (Sb8 P a) (Sb8 P b)
 |.cond c x y=>.cond (g9 c) (Sb8 P x) (Sb8 P y)
 |.block id c=>.block id (Sb8 P c)
 |.loop c=>.loop [] (Sb8 P c)
 |.scope c=>Sb8 P c
 |.label _=>.skip
 |.exit id=>.exit id
 |.ret=>.ret
 |_=>.bad
def bit(n:Nat):Nat:=2 ^ n
def less(s n:Nat):Nat:=if s.testBit n then s-2 ^ n else s
def wc8:Arg->Nat
 |.t n=>bit n
 |_=>0
def Id3(l:List Arg):Nat:=l.foldl (λs x=>s ||| wc8 x) 0
def jf5:Option Arg->Nat
 |some x=>wc8 x
 |none=>0
def rOp:PO->Nat
 |.mv x | .nilck x | .box x | .load _ _ _ x | .fld _ x | .ext x _ | .field _ _ _ x | .not x | .neg x | .len x | .slen x | .clr _ _ x | .asl _ _ x=>wc8 x
 |.pick c x y=>wc8 c ||| wc8 x ||| wc8 y
 |.alloc _ | .bad=>0
 |.build _ ps | .bslice _ _ _ _ ps | .tslice _ _ _ ps=>Id3 (ps.map (·.2.2))
 |.store _ x y | .idxA _ _ x y | .idxS _ x y | .mksl _ _ _ _ x y | .tmk _ _ _ x y | .index _ _ _ _ x y | .bin _ x y | .eqc _ _ x y | .eqn _ _ x y _ _ | .append _ _ _ x y | .copy _ x y | .apre _ x y | .sidx x y=>wc8 x ||| wc8 y
 |.slice _ x lo hi=>wc8 x ||| jf5 lo ||| jf5 hi
 |.mkfn _ xs | .mkfz _ xs | .call _ xs=>Id3 xs
 |.gen _ ts=>Id3 (ts.map .t)
 |.calld x xs | .invk _ x xs=>wc8 x ||| Id3 xs
def Ue7:Option (Nat×Bool)->Nat
 |some (d,_)=>bit d
 |none=>0
def Yc6:List PI->Nat->Nat
 |[],out=>out
 |o::r,out =>
  let s:=Yc6 r out
  (match o.dst with | some d=>less s d | none=>s) ||| rOp o.op ||| Ue7 o.guard
def live(ret:Nat):PC->Nat->(Nat->Nat)->Nat
 |.skip,out,_=>out
 |.ops l,out,_=>Yc6 l out
 |.draw _ asq l _,out,_=>Yc6 (asq++l) out
 |.seq a b,out,ex=>live ret a (live ret b out ex) ex
 |.cond c x y,out,ex=>wc8 c ||| live ret x out ex ||| live ret y out ex
 |.block id c,out,ex=>live ret c out (λk=>if k==id then out else ex k)
 |.loop _ c,_,ex =>
  let l1:=live ret c 0 ex
  let l2:=live ret c l1 ex
  l2 ||| live ret c l2 ex
 |.exit id,_,ex=>ex id
 |.ret,_,_=>ret
 |.bad,_,_=>0
 |.mask ..,_,_=>0
 |.sp ..,_,_=>0
 |.inner ..,_,_=>0
 |.round ..,_,_=>0
 |.loopM ..,_,_=>0
 |.adopt _,_,_=>0
def Ue8(n s:Nat):List Nat:=(List.range n).filter (s.testBit ·)
def note(n ret:Nat):PC->Nat->(Nat->Nat)->PC
 |.seq a b,out,ex=>.seq (note n ret a (live ret b out ex) ex) (note n ret b out ex)
 |.cond c x y,out,ex=>.cond c (note n ret x out ex) (note n ret y out ex)
 |.block id c,out,ex=>.block id (note n ret c out (λk=>if k==id then out else ex k))
 |.loop _ c,_,ex =>
  let l1:=live ret c 0 ex
  let l2:=l1 ||| live ret c l1 ex
  let l3:=l2 ||| live ret c l2 ex
  .loop (Ue8 n l3) (note n ret c l3 ex)
 |c,_,_=>c
def wc9(P:Program):ResultVar->cc4
 |.tmp t=>.t t
 |.cell a t=>.cell a (szT P t) (agT P t)
def jd9(P:Program):ResultVar->Bool
 |.tmp _=>true
 |.cell _ t=>(P.underlying t).isSome
def we6:List cc4->Nat
 |[]=>0
 |.t n::r=>bit n ||| we6 r
 |.cell a _ _::r=>bit a ||| we6 r
def Eb9(P:Program)(fn:Func):Option PFn :=
 match fn.body with
 |some c =>
  let res:=fn.results.toList.map (wc9 P)
  if fn.results.toList.all (jd9 P) then some ⟨fn.ntmps,res,note fn.ntmps (we6 res) (Sb8 P c) (we6 res) (λ_=>0)⟩ else none
 |none=>none
section
variable{W:Nat->Prop}{ρ ρ':Rho}{H H':List c7}{F F':Fz}{w w':World}
theorem K5{x x':Value}(h:v8 ρ H F w (.v x) x'):x'=x:=by
 cases h with
 |val h=>cases h with
  |cell h=>cases h with
   |mem h=>cases h;rfl
   |v=>rfl
theorem la0{id i c g:Nat}{x':Value}(h:v8 ρ H F w (.ptr id i c g) x'):∃(a:Addr) (b:c7),x'=.pointer (some a)/\H[id]?=some b/\b.dead=false/\g<=b.g/\(b.g=g->a=⟨(ρ id).blk,(ρ id).off+(i*b.es+c),none⟩):=by
 cases h with
 |val h=>cases h with
  |cell h=>cases h with
   |mem h=>cases h
   |ptr _ _ _ _ a b hb hd hg h=>exact⟨a,b,rfl,hb,hd,hg,h⟩
theorem wa9{id off n g:Nat}{x':Value}(h:v8 ρ H F w (.sl id off n g) x'):∃(a:Addr) (cap:Nat) (b:c7),x'=.slice (some a) n cap/\H[id]?=some b/\b.dead=false/\g<=b.g/\n<=cap/\a.spot=none/\cap<=maxLen /\
  (b.g=g->((cap=0/\0<off)\/a=⟨(ρ id).blk,(ρ id).off+off*b.es,none⟩)/\(off+cap)*b.es=(ρ id).size/\off+n<=b.elems.length):=by
 cases h with
 |val h=>cases h with
  |cell h=>cases h with
   |mem h=>cases h
   |sl _ _ _ _ a cap b hb hd hg hn hs hm h=>exact⟨a,cap,b,rfl,hb,hd,hg,hn,hs,hm,h⟩
theorem aa8{es n:Nat}{get:Nat->List b9}{x':Value}(h:v8 ρ H F w (.tree es n get) x'):J8 F w (.tree es n get) x':=by
 cases h with
 |val h=>cases h with
  |cell h=>cases h with
   |mem h=>exact h
theorem Ua2{cs:List b9}{x':Value}(h:v8 ρ H F w (.tptr cs) x'):∃(a:Addr) (vs:Nat->Value),x'=.pointer (some a)/\a.spot=none/\(∀c,c<cs.length->F a.block (a.off+c)) /\
  (∀c,c<cs.length->w.cell? ⟨a.block,a.off+c,none⟩=some (vs c))/\∀c (hc:c<cs.length),J8 F w (cs[c]) (vs c):=by
 cases h with
 |val h=>cases h with
  |cell h=>cases h with
   |mem h=>cases h with
    |tptr _ a vs hs hF hw hr=>exact⟨a,vs,rfl,hs,hF,hw,hr⟩
   |tptr _ a vs hs hF hw hr=>exact⟨a,vs,rfl,hs,hF,hw,hr⟩
theorem ga4{cs:List b9}{x':Value}(h:v8 ρ H F w (.agg cs) x'):∃vs:Array Value,x'=.agg vs/\cs.length=vs.size/\∀(i:Nat) x x',cs[i]?=some x->vs[i]?=some x'->J9 ρ H F w x x':=by
 cases h with
 |val h=>cases h with
  |cell h=>cases h with
   |mem h=>cases h
  |agg _ vs hl h=>exact⟨vs,rfl,hl,h⟩
theorem Yc7{cs:List b9}{x':Value}(h:v8 ρ H F w (.tup cs) x'):∃vs:Array Value,x'=.tuple vs/\cs.length=vs.size/\∀(i:Nat) x x',cs[i]?=some x->vs[i]?=some x'->S5 ρ H F w x x':=by
 cases h with
 |val h=>cases h with
  |cell h=>cases h with
   |mem h=>cases h
 |tup _ vs hl h=>exact⟨vs,rfl,hl,h⟩
theorem eb9{f:FuncId}{cs:List b9}{x':Value}(h:v8 ρ H F w (.fn f cs) x'):∃vs:Array Value,x'=Qa7 f vs/\cs.length=vs.size/\∀(i:Nat) x x',cs[i]?=some x->vs[i]?=some x'->J9 ρ H F w x x':=by
 cases h with
 |val h=>cases h with
  |cell h=>cases h with
   |mem h=>cases h with
    | fn _ _ vs _ e hl hb h => exact ⟨vs, e, hl, fun i x x' hx hx' => by
      obtain⟨h1,rfl⟩:=Qab.1 hx;obtain⟨h2,rfl⟩:=Array.getElem?_eq_some_iff.1 hx';exact .mem (h i h1 h2)⟩
  |fn _ _ vs hl h=>exact⟨vs,rfl,hl,h⟩
theorem S5.ofVal1(v:Value):S5 ρ H F w (ofVal1 v) v:=by
 cases v with
 |agg cs =>
  exact .agg _ cs (by simp) λi x x' hx hx'=>by
   simp at hx
   obtain⟨y,hy,rfl⟩:=hx;rw[hy] at hx';injection hx' with e;subst e;exact .v _
 |_=>exact .cell (.v _)
theorem v8.ofVal(v:Value):v8 ρ H F w (ofVal v) v:=by
 cases v with
 |agg cs=>exact .val (S5.ofVal1 (.agg cs))
 |tuple vs =>
  exact .tup _ vs (by simp) λi x x' hx hx'=>by
   simp at hx
   obtain⟨y,hy,rfl⟩:=hx;rw[hy] at hx';injection hx' with e;subst e;exact S5.ofVal1 _
 |_=>exact .val (.cell (.v _))
def GOk(E:Env)(F:Fz)(w:World):Prop:=∀g (c:Nat) x,(E.G g)[c]?=some x->x.oneCell'=true/\F g c/\w.cell? ⟨g,c,none⟩=some x
theorem GOk.adv{E:Env}(h:GOk E F w)(k:Adv W ρ H F w ρ' H' F' w'):GOk E F' w':=λg c x hx=>by
 obtain⟨h1,h2,h3⟩:=h g c x hx;exact⟨h1,k.more _ _ h2,(k.ext.cells _ _ h2).trans h3⟩
theorem Ra2(E:Env)(a:List b9)(t:Nat):c9 E a (.t t)=(a[t]?).getD .unk:=by
 have:c9 E a (.t t)=Option.rec (motive:=λ_=>b9) .unk (λy=>y) (nth a t):=rfl
 rw[this,p9];cases a[t]?<;>rfl
theorem l5{E:Env}{a:List b9}{ac:Act}(hA:da4 ρ H F w a ac.tmps)(hG:GOk E F w)(x:Operand):v8 ρ H F w (c9 E a (g9 x)) (ac.eval x):=by
 cases x with
 |tmp t =>
  show v8 ρ H F w (c9 E a (.t t)) (ac.tmps.getD t undef);rw[Ra2]
  rcases Qan t a.length with hh|hh
  ·have hh':t<ac.tmps.size:=hA.1 ▸ hh;have h1:a[t]?=some a[t]:=Qaa hh;have h2:ac.tmps[t]?=some ac.tmps[t]:=Qai hh'
   have:=hA.2 t _ _ h1 h2
   simp_all
  ·rw[Qal hh];exact .unk _
 |const v=>exact v8.ofVal v
 |global g =>
  show v8 ρ H F w (.tptr (l9 .v (E.G g))) (.pointer (some ⟨g,0,none⟩));rw[k9];refine .val (.cell (.tptr _ _ (λc=>(E.G g).getD c undef) rfl (λc hc=>?_) (λc hc=>?_) λc hc=>?_))
  ·have hc':c<(E.G g).length:=by simpa using hc
   simpa using (hG g c _ (Qaa hc')).2.1
  ·have hc':c<(E.G g).length:=by simpa using hc
   have:=(hG g c _ (Qaa hc')).2.2
   simp_all
  ·have hc':c<(E.G g).length:=by simpa using hc
   have:=(hG g c _ (Qaa hc')).1
   simp only[List.getElem_map,List.getD,Qaa hc',Option.getD_some];exact .v _ this
 |func f=>exact .val (.cell (.mem (.fn0 f)))
def i6(P:Program)(o:Oper)(ac:Act)(w:World)(post:Value->World->Prop):Prop :=
 ∀(next:Act->World->Prop) (Q:Exit->Act->World->Prop),(∀x' w',post x' w'->next (ac.put o.dst x') w')->o.wp P ac w next Q
def C4(W:Nat->Prop)(ρ:Rho)(H:List c7)(F:Fz)(w:World)(x:b9)(H':List c7)(x':Value)(w':World):Prop :=
 ∃ρ' F',Adv W ρ H F w ρ' H' F' w'/\r4 W ρ' H' F' w'/\v8 ρ' H' F' w' x x'
section
variable{P:Program}{o:Oper}{ac:Act}{post:Value->World->Prop}
theorem i6.value{x':Value}(hrun:(execOp ac.eval o).run P w=.ok (.value x') w')(hp:post x' w'):i6 P o ac w post:=λnext Q h=>by
 unfold Oper.wp;rw[hrun];exact h x' w' hp
theorem i6.skip(hrun:(execOp ac.eval o).run P w=.ok .skip w')(hp:post undef w'):i6 P o ac w post:=λnext Q h=>by
 unfold Oper.wp;rw[hrun];exact h undef w' hp
theorem i6.enter{f:FuncId}{args:Array Value}(hrun:(execOp ac.eval o).run P w=.ok (.enter f args) w)(hp:Calls P f args w λe w'=>∃x',e=.returned x'/\post x' w'):i6 P o ac w post:=λnext Q h=>by
 unfold Oper.wp;rw[hrun];show Calls P f args w _;exact hp.mono λe w' ⟨x',he,hx⟩=>by subst he;exact h x' w' hx
theorem C4.stay(hH:r4 W ρ H F w){x:b9}{x':Value}(hx:v8 ρ H F w x x'):C4 W ρ H F w x H x' w:=⟨ρ,F,.refl,hH,hx⟩
end
theorem yd6{α:Type}{P:Program}{e:Sem α}{a:α}(h:ab3 P e=some a)(w:World):e.run P w=.ok a w:=by
 induction e with
 |pure b=>simp[ab3] at h;subst h;rfl
 |program k ih=>exact ih P (by simpa [ab3] using h)
 |mark m k ih=>simp only[Sem.run];exact ih (by simpa [ab3] using h)
 |_=>simp[ab3] at h
theorem Id4{f:FuncId}{caps:List b9}{vs:Array Value}{x' y:Value}(e:x'=Qa7 f vs)(hl:caps.length=vs.size)(hy:uc3 (.fn f caps)=some y):x'=y:=by
 cases caps with
 |nil =>
  have:vs=#[]:=by simpa using hl.symm
  subst this;rw[e,Ta6];injection hy
 |cons=>cases hy
theorem yd7{x:b9}{x' y:Value}(h:J9 ρ H F w x x')(hy:uc3 x=some y):x'=y:=by
 cases h with
 |v=>injection hy
 |mem h=>cases h with
  |v=>injection hy
  |fn f caps vs _ e hl=>exact Id4 e hl hy
  |tree=>cases hy
  |nil=>cases hy
  |tptr=>cases hy
 |_=>cases hy
theorem ae9{x:b9}{x' y:Value}(h:v8 ρ H F w x x')(hy:jd4 x=some y):x'=y:=by
 cases h with
 |tup=>cases hy
 |val h=>cases h with
  |fn f caps vs hl h =>
   cases caps with
   |nil =>
    have:vs=#[]:=by simpa using hl.symm
    subst this;rw[Ta6];injection hy
   |cons=>cases hy
  |agg cs vs hl h =>
   cases hm:Ma4 uc3 cs with
   |none=>simp[jd4,hm] at hy
   |some l =>
    simp[jd4,hm] at hy;subst hy;obtain⟨h1,h2⟩:=Qc1 hm;congr 1;apply Array.ext
    ·simp[<- hl,h1]
    ·intro i hi1 hi2;have hi:i<cs.length:=hl ▸ hi1;obtain⟨y,hy1,hy2⟩:=h2 i cs[i] (Qaa hi)
     have:=yd7 (h i _ _ (Qaa hi) (Qai hi1)) hy1
     have hi3:i<l.length:=by omega
     rw[Qaa hi3] at hy2;injection hy2 with hy2;simp[this,hy2]
  |cell h=>cases h with
   |v=>injection hy
   |mem h=>cases h with
    |v=>injection hy
    |fn f caps vs _ e hl=>cases caps with
     |nil=>exact Id4 e hl hy
     |cons=>cases hy
    |tree=>cases hy
    |nil=>cases hy
    |tptr=>cases hy
   |_=>cases hy
end
section
variable{W:Nat->Prop}{ρ:Rho}{H H':List c7}{F:Fz}{w:World}{E:Env}{o:Oper}{a:List b9}{ac:Act}{x:b9}
theorem ob7(x:Value):pc1 x=x.oneCell':=by cases x<;>rfl
theorem p5{id g:Nat}{b:c7}(h:blkAt H id g=some b):H[id]?=some b/\b.dead=false/\b.g=g:=by
  unfold blkAt at h;rw[p9] at h;cases hb:H[id]? with
  |none=>simp[hb] at h
  | some c =>
    simp only[hb] at h;cases hd:c.dead with
    |true=>simp[hd] at h
    | false =>
      simp only[hd] at h;cases hg:Nat.beq c.g g with
      |false=>simp[hg] at h
      | true =>
        simp[hg] at h;subst h;exact⟨rfl,hd,Qae hg⟩
theorem we7{P:Program}{op:BinOp}{p q r:b9}(he:(Te8 op p q).run=some r):∃k m n v,p=.v (.int k m)/\q=.v (.int k n)/\r=.v v/\∀t W,(binOp op t (.int k m) (.int k n)).run P W=.ok v W:=by
  unfold Te8 at he
  split at he
  · rename_i k m k' n
    split at he
    · rename_i hk
      subst hk;refine⟨k,m,n,?_⟩
      split at he<;>first
        |(have he':=(Qah he);subst he';exact⟨_,rfl,rfl,rfl,λt W=>by simp[binOp,Op.intArith,Op.intCmp,Op.intBits,if9]⟩)
        | (rcases DT.run_ite_some he with ⟨_, he⟩ | ⟨h0, he⟩
           · cases he
           · have h0':¬ n=0:=by simpa using h0
             have he':=(Qah he);subst he';exact⟨_,rfl,rfl,rfl,λt W=>by simp[binOp,Op.intDiv,h0']⟩)
        |cases he
    · cases he
  · cases he
theorem we8{P:Program}{op:BinOp}{p q r:b9}(he:(Te9 op p q).run=some r):∃k m k' n v,p=.v (.int k m)/\q=.v (.int k' n)/\r=.v v/\∀t W,(binOp op t (.int k m) (.int k' n)).run P W=.ok v W:=by
  unfold Te9 at he
  split at he
  · unfold jf1 at he
    split at he
    · rename_i k m k' n
      obtain⟨h0,he⟩:=DT.run_guard_some he;have h0:=of_decide_eq_true h0;have he':=(Qah he);subst he';exact⟨k,m,k',n,_,rfl,rfl,rfl,λt W=>by simp[binOp,Op.shift,show ¬ n<0 by omega,jf0]⟩
    · cases he
  · obtain⟨k,m,n,v,h⟩:=we7 (P:=P) he
    exact⟨k,m,k,n,v,h⟩
theorem Fb0{agg:Bool}{cs:List b9}{y:b9}(h:eb7 agg cs=some y):(agg=true/\y=.agg cs)\/(agg=false/\∃z,cs=[z]/\y=z):=by
  unfold eb7 at h
  split at h
  · injection h with h;exact .inl ⟨rfl,h.symm⟩
  · split at h
    · injection h with h;exact .inr ⟨rfl,_,rfl,h.symm⟩
    · cases h
theorem ob8{n:Int}{len:Nat}(h:inB n len=true):0<=n/\n<len/\n.toNat<len:=by
  cases n with
  | ofNat k =>
    have : k < len := by have : k + 1 ≤ len := by simpa [inB, Nat.blt, Nat.ble_eq] using h
                         omega
    exact⟨by simp,by simpa using this,by simpa using this⟩
  |negSucc k=>cases h
theorem Ua3{p:b9}{n:Int}{p':Value}(h:S4 p=some n)(hp:v8 ρ H F w p p'):∃k,p'=.int k n:=by
  unfold S4 at h
  split at h
  · rename_i k m
    injection h with h;subst h;exact⟨k,K5 hp⟩
  · cases h
theorem I5{ad:Addr}(hs:ad.spot=none)(k:Nat):ad.add k=⟨ad.block,ad.off+k,none⟩:=by
  obtain⟨b,of,sp⟩:=ad
  simp at hs
  subst hs;unfold Addr.add;split
  · rename_i h0;simp[h0]
  · rfl
theorem Ka1{P:Program}{t:TypeId}{d:TypeDesc}(h:P.underlying t=some d):∃i,P.info? t=some i/\i.size=szT P t:=by
  unfold Program.underlying at h;cases hi:P.info? t with
  |none=>simp[hi] at h
  |some i=>exact⟨i,rfl,by simp[szT,hi]⟩
section
variable(hA:da4 ρ H F w a ac.tmps)(hH:r4 W ρ H F w)(hG:GOk E F w)
include hA hH hG
theorem kd0{y:Operand}(ho:o.op=.move y\/o.op=.assign y)(he:(evalOp E a H (.mv (g9 y))).run=some (x,H')):i6 E.P o ac w (C4 W ρ H F w x H'):=by
  have he':some (c9 E a (g9 y),H)=some (x,H'):=he;injection he' with he';injection he' with h1 h2;subst h1 h2;refine .value (x':=ac.eval y) (w':=w) ?_ (.stay hH (l5 hA hG y))
  rcases ho with ho|ho<;>simp[execOp,ho]
theorem kd1{y:Operand}(ho:o.op=.nilCheck y)(he:(evalOp E a H (.nilck (g9 y))).run=some (x,H')):i6 E.P o ac w (C4 W ρ H F w x H'):=by
  have hy:=l5 hA hG y;simp only[evalOp] at he
  revert he hy
  cases c9 E a (g9 y) with
  | ptr id i c g =>
    intro he hy;have he':some (b9.ptr id i c g,H)=some (x,H'):=he;injection he' with he';injection he' with h1 h2;subst h1 h2
    obtain⟨ad,b,e,-⟩:=la0 hy;exact .value (x':=ac.eval y) (w':=w) (by simp[execOp,ho,e]) (.stay hH hy)
  | tptr cs =>
    intro he hy;have he':some (b9.tptr cs,H)=some (x,H'):=he;injection he' with he';injection he' with h1 h2;subst h1 h2
    obtain⟨ad,vs,e,-⟩:=Ua2 hy;exact .value (x':=ac.eval y) (w':=w) (by simp[execOp,ho,e]) (.stay hH hy)
  | fn f caps =>
    intro he hy;have he':some (b9.fn f caps,H)=some (x,H'):=he;injection he' with he';injection he' with h1 h2;subst h1 h2
    obtain⟨vs,e,-⟩:=eb9 hy;obtain⟨p,q,r,e2⟩:=Ob2 f vs;exact .value (x':=ac.eval y) (w':=w) (by simp[execOp,ho,e,e2]) (.stay hH hy)
  |_=>intro he;cases he
theorem yd8{c y z:Operand}(ho:o.op=.pick c y z)(he:(evalOp E a H (.pick (g9 c) (g9 y) (g9 z))).run=some (x,H')):i6 E.P o ac w (C4 W ρ H F w x H'):=by
  have hc:=l5 hA hG c;simp only[evalOp] at he
  revert he hc
  cases c9 E a (g9 c) with
  | v u =>
    cases u with
    | bool b =>
      intro he hc;have e:=K5 hc
      rcases DT.run_ite_some he with⟨rfl,he⟩|⟨rfl,he⟩
      · have he':some (c9 E a (g9 y),H)=some (x,H'):=he
        injection he' with he';injection he' with h1 h2;subst h1 h2
        exact .value (x':=ac.eval y) (w':=w) (by simp[execOp,ho,e,asBool]) (.stay hH (l5 hA hG y))
      · have he':some (c9 E a (g9 z),H)=some (x,H'):=he
        injection he' with he';injection he' with h1 h2;subst h1 h2
        exact .value (x':=ac.eval z) (w':=w) (by simp[execOp,ho,e,asBool]) (.stay hH (l5 hA hG z))
    |_=>intro he;cases he
  |_=>intro he;cases he
theorem Rd8{t:TypeId}{y:Operand}(ho:o.op=.unOp .not t y)(he:(evalOp E a H (.not (g9 y))).run=some (x,H')):i6 E.P o ac w (C4 W ρ H F w x H'):=by
  have hc:=l5 hA hG y;simp only[evalOp] at he
  revert he hc
  cases c9 E a (g9 y) with
  | v u =>
    cases u with
    | bool b =>
      intro he hc;have e:=K5 hc;have he':some (b9.v (.bool (!b)),H)=some (x,H'):=he;injection he' with he';injection he' with h1 h2;subst h1 h2
      exact .value (x':=.bool (!b)) (w':=w) (by simp[execOp,ho,e,Op.unary]) (.stay hH (.ofv _))
    |_=>intro he;cases he
  |_=>intro he;cases he
theorem Rd9{t:TypeId}{y:Operand}(ho:o.op=.unOp .neg t y)(he:(evalOp E a H (.neg (g9 y))).run=some (x,H')):i6 E.P o ac w (C4 W ρ H F w x H'):=by
  have hc:=l5 hA hG y;simp only[evalOp] at he
  revert he hc
  cases c9 E a (g9 y) with
  | v u =>
    cases u with
    | int k n =>
      intro he hc;have e:=K5 hc;have he':some (b9.v (.int k (k.wrap (0-n))),H)=some (x,H'):=he;injection he' with he';injection he' with h1 h2;subst h1 h2
      exact .value (x':=.int k (k.wrap (0-n))) (w':=w) (by simp[execOp,ho,e,Op.unary,Op.intArith]) (.stay hH (.ofv _))
    |_=>intro he;cases he
  |_=>intro he;cases he
theorem Sd0{op:BinOp}{t u:TypeId}{y z:Operand}(ho:o.op=.binOp op t y z u)(he:(evalOp E a H (.bin op (g9 y) (g9 z))).run=some (x,H')):i6 E.P o ac w (C4 W ρ H F w x H'):=by
  have hy:=l5 hA hG y;have hz:=l5 hA hG z;simp only[evalOp] at he;obtain⟨r,h1,h2⟩:=DT.run_bind_some he;have he':some (r,H)=some (x,H'):=h2;injection he' with he';injection he' with e1 e2;subst e1 e2
  obtain⟨k,m,k',n,v,hp,hq,rfl,hrun⟩:=we8 (P:=E.P) h1;rw[hp] at hy;rw[hq] at hz;refine .value (x':=v) (w':=w) ?_ (.stay hH (.ofv _))
  have hg:(eqGuard op t y z (.int k m) (.int k' n)).run E.P w=.ok () w:=by
    unfold eqGuard;cases op<;>rfl
  simp[execOp,ho,K5 hy,K5 hz,hg,hrun]
theorem Sd1{y:Operand}{i:Nat}(ho:o.op=.extract y i)(he:(evalOp E a H (.ext (g9 y) i)).run=some (x,H')):i6 E.P o ac w (C4 W ρ H F w x H'):=by
  have hy:=l5 hA hG y;simp only[evalOp] at he
  revert he hy
  cases c9 E a (g9 y) with
  | tup vs =>
    intro he hy;obtain⟨z,h1,h2⟩:=Aa6 he;injection h2 with e1 e2;subst e1 e2
    rw[p9] at h1;obtain⟨us,e,hl,h⟩:=Yc7 hy;have hi:i<us.size:=hl ▸ (Qab.1 h1).1;exact .value (x':=us[i]) (w':=w) (by simp[execOp,ho,e,Instr.extract,hi]) (.stay hH (.val (h i _ _ h1 (Qai hi))))
  |_=>intro he;cases he
theorem Sd2{s:TypeId}{y:Operand}{f:Nat}{fs:Array Field}{fd:Field}(ho:o.op=.fieldAddr s y f)(hs:E.P.underlying s=some (.struct fs))(hf:fs[f]?=some fd)
    (hz:szT E.P fd.type≠0) (he:(evalOp E a H (.fld fd.offset (g9 y))).run=some (x,H')):i6 E.P o ac w (C4 W ρ H F w x H'):=by
  have hy:=l5 hA hG y
  have hsz:∃ i,E.P.info? fd.type=some i∧i.size≠0:=by
    unfold szT at hz;cases hi:E.P.info? fd.type with
    |none=>simp[hi] at hz
    |some i=>exact⟨i,rfl,by simpa [hi] using hz⟩
  obtain⟨ti,hi,hi0⟩:=hsz;simp only[evalOp] at he
  revert he hy
  cases c9 E a (g9 y) with
  | ptr id i c g =>
    intro he hy;have he':some (b9.ptr id i (c+fd.offset) g,H)=some (x,H'):=he;injection he' with he';injection he' with h1 h2;subst h1 h2
    obtain⟨ad,b,e,hb,hd,hg,hh⟩:=la0 hy;refine .value (x':=.pointer (some (ad.add fd.offset))) (w':=w) (by simp[execOp,ho,e,Instr.fieldAt,Instr.sureAddr,run_underlying hs,hf,fieldPlace,sizeOf,typeInfo,hi,hi0]) (.stay hH (.val (.cell (.ptr id i (c+fd.offset) g _ b hb hd hg λhge=>?_))))
    rw[hh hge];unfold Addr.add;split
    · rename_i h0;simp[h0]
    · simp;omega
  | tptr cs =>
    intro he hy;have he':some (b9.tptr (i9 cs fd.offset),H)=some (x,H'):=he;injection he' with he';injection he' with h1 h2;subst h1 h2
    obtain⟨ad,vs,e,hsp,hF,hw,hr⟩:=Ua2 hy
    have hadd:ad.add fd.offset=⟨ad.block,ad.off+fd.offset,none⟩:=by
      obtain⟨b,of,sp⟩:=ad
      simp at hsp
      subst hsp;unfold Addr.add;split
      · rename_i h0;simp[h0]
      · rfl
    refine .value (x':=.pointer (some (ad.add fd.offset))) (w':=w) (by simp[execOp,ho,e,Instr.fieldAt,Instr.sureAddr,run_underlying hs,hf,fieldPlace,sizeOf,typeInfo,hi,hi0]) (.stay hH ?_)
    rw[v7,hadd];refine .val (.cell (.tptr _ _ (λc=>vs (fd.offset+c)) rfl (λc hc=>?_) (λc hc=>?_) λc hc=>?_))
    · have:=hF (fd.offset+c) (by simp at hc;omega);simpa [Qag] using this
    · have:=hw (fd.offset+c) (by simp at hc;omega);simpa [Qag] using this
    · simpa using hr (fd.offset+c) (by simp at hc;omega)
  |_=>intro he;cases he
theorem yd9{t e:TypeId}{n:Nat}{y z:Operand}{ei:TypeInfo}(ho:o.op=.indexAddr t y z)(hu:E.P.underlying t=some (.array n e))(hei:E.P.info? e=some ei)
    (he:(evalOp E a H (.idxA n (szT E.P e) (g9 y) (g9 z))).run=some (x,H')):i6 E.P o ac w (C4 W ρ H F w x H'):=by
  have hy:=l5 hA hG y;have hz:=l5 hA hG z;have hes:szT E.P e=ei.size:=by simp[szT,hei]
  simp only[evalOp] at he
  revert he
  cases hm:S4 (c9 E a (g9 z)) with
  |none=>intro he;cases he
  |some m =>
  obtain⟨k,ek⟩:=Ua3 hm hz
  simp only
  revert hy
  cases c9 E a (g9 y) with
  | ptr id i c g =>
    intro hy he;obtain⟨hb0,he⟩:=DT.run_guard_some he;have he':some (b9.ptr id i (c+m.toNat*szT E.P e) g,H)=some (x,H'):=he;injection he' with he';injection he' with h1 h2;subst h1 h2
    obtain⟨hm1,hm2,hm3⟩:=ob8 hb0;obtain⟨ad,b,e0,hb,hd,hg,hh⟩:=la0 hy;refine .value (x':=.pointer (some (ad.add (m.toNat*ei.size)))) (w':=w) (by simp[execOp,ho,e0,ek,Instr.indexAt,Instr.sureAddr,asIntOf,run_underlying hu,sizeOf,typeInfo,hei,hm1,hm2]) (.stay hH (.val (.cell (.ptr _ _ _ _ _ b hb hd hg λhge=>?_))))
    rw[hh hge,hes,I5 rfl]
    simp;omega
  | tptr cs =>
    intro hy he;obtain⟨hb0,he⟩:=DT.run_guard_some he;have he':some (b9.tptr (i9 cs (m.toNat*szT E.P e)),H)=some (x,H'):=he;injection he' with he';injection he' with h1 h2;subst h1 h2
    obtain⟨hm1,hm2,hm3⟩:=ob8 hb0;obtain⟨ad,vs,e0,hsp,hF,hw,hr⟩:=Ua2 hy;refine .value (x':=.pointer (some (ad.add (m.toNat*ei.size)))) (w':=w) (by simp[execOp,ho,e0,ek,Instr.indexAt,Instr.sureAddr,asIntOf,run_underlying hu,sizeOf,typeInfo,hei,hm1,hm2]) (.stay hH ?_)
    rw[v7,hes,I5 hsp];refine .val (.cell (.tptr _ _ (λc=>vs (m.toNat*ei.size+c)) rfl (λc hc=>?_) (λc hc=>?_) λc hc=>?_))
    · have:=hF (m.toNat*ei.size+c) (by simp at hc;omega);simpa [Qag] using this
    · have:=hw (m.toNat*ei.size+c) (by simp at hc;omega);simpa [Qag] using this
    · simpa using hr (m.toNat*ei.size+c) (by simp at hc;omega)
  |_=>intro _ he;cases he
theorem zd0{t e:TypeId}{y z:Operand}{ei:TypeInfo}(ho:o.op=.indexAddr t y z)(hu:E.P.underlying t=some (.slice e))(hei:E.P.info? e=some ei)
    (he:(evalOp E a H (.idxS (szT E.P e) (g9 y) (g9 z))).run=some (x,H')):i6 E.P o ac w (C4 W ρ H F w x H'):=by
  have hy:=l5 hA hG y;have hz:=l5 hA hG z;have hes:szT E.P e=ei.size:=by simp[szT,hei]
  simp only[evalOp] at he
  revert he
  cases hm:S4 (c9 E a (g9 z)) with
  |none=>intro he;cases he
  |some m =>
  obtain⟨k,ek⟩:=Ua3 hm hz
  simp only
  revert hy
  cases c9 E a (g9 y) with
  | sl id off n g =>
    intro hy he;cases hbk:blkAt H id g with
    |none=>simp[hbk] at he
    |some b =>
    obtain⟨hb,hd,hg⟩:=p5 hbk;cases hbe:Nat.beq b.es (szT E.P e) with
    |false=>simp[hbk,hbe] at he
    |true =>
    simp only[hbk,hbe] at he;have hbes:=Qae hbe;obtain⟨hb0,he⟩:=DT.run_guard_some he;have he':some (b9.ptr id (off+m.toNat) 0 g,H)=some (x,H'):=he;injection he' with he';injection he' with h1 h2;subst h1 h2
    obtain⟨hm1,hm2,hm3⟩:=ob8 hb0;obtain⟨ad,cap,b',e0,hb',hd',hg',hn,hs,-,hh⟩:=wa9 hy
    have:b'=b:=Qah (hb'.symm.trans hb)
    subst this;obtain⟨h3,h4,h5⟩:=hh hg;have hcap:cap≠0:=by omega
    have had:=h3.resolve_left (λh=>hcap h.1)
    refine .value (x':=.pointer (some (ad.add (m.toNat*ei.size)))) (w':=w) (by simp[execOp,ho,e0,ek,Instr.indexAt,asIntOf,run_underlying hu,sizeOf,typeInfo,hei,hm1,hm2]) (.stay hH (.val (.cell (.ptr _ _ _ _ _ b' hb hd (by omega) λhge=>?_))))
    rw[had,I5 rfl,hbes,hes,Nat.add_mul]
    simp;omega
  | tree es' n get =>
    intro hy he;cases hbe:Nat.beq es' (szT E.P e) with
    |false=>simp[hbe] at he
    |true =>
    simp only[hbe] at he;have hbes:=Qae hbe;obtain⟨hb0,he⟩:=DT.run_guard_some he;have he':some (b9.tptr (get m.toNat),H)=some (x,H'):=he;injection he' with he';injection he' with h1 h2;subst h1 h2
    obtain⟨hm1,hm2,hm3⟩:=ob8 hb0;have ht:=aa8 hy;generalize hv:ac.eval y=v at *
    cases ht with
    |tree _ _ _ ad cap cs hs0 hcap hes' hF hw hr =>
    have hs:=hs0 (by omega)
    refine .value (x':=.pointer (some (ad.add (m.toNat*ei.size)))) (w':=w) (by simp[execOp,ho,hv,ek,Instr.indexAt,asIntOf,run_underlying hu,sizeOf,typeInfo,hei,hm1,hm2]) (.stay hH ?_)
    rw[I5 hs,<- hes,<- hbes];have hle:=hes' _ hm3;refine .val (.cell (.tptr _ _ (λc=>cs m.toNat c) rfl (λc hc=>?_) (λc hc=>?_) λc hc=>hr _ c hm3 hc))
    · have:=hF m.toNat c hm3 (by omega);simpa [Qag] using this
    · have:=hw m.toNat c hm3 (by omega);simpa [Qag] using this
    |nil=>omega
  |_=>intro _ he;cases he
end
end
end Go.Ev
