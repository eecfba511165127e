/- Own work. -/
import Derived.Test.YtkfaiccnekeklaaGreatChecked
import Derived.Test.YtkfaiccnekeklaaGreatEvOaCePf
import Derived.KernelRfl
set_option linter.all false
def Qha:=@List.getD_eq_getElem?_getD
def Qhb:=@List.getElem?_eq_getElem
def Qhc:=@List.drop_eq_getElem_cons
def Qhd:=@Eq.trans
def Qhe:=@Nat.le_refl
def Qhf:=@List.length_mergeSort
def Qhg:=@Bool.false_eq_true
namespace Go.Ev.Ce
open Go Go.Ev Go.Proofs
set_option maxRecDepth 1000000
theorem mx:(Tryz.prog).follows .mixedOrders=true:=Checked.mixed Tryz.checked
abbrev Bdq(n:Nat)(pf:PFn):Prop:=qd3 Tryz.prog n λE=>Lb6 E pf
theorem bdq{f:FuncId}{fn:Func}(hf:(Tryz.prog).funcs[f]?=some fn)(hn:decide (fn.name ≠ "runtime.NumGoroutine")=true:=by kernel_rfl)(hc:Option.isSome (g8 Tryz.prog fn)=true:=by kernel_rfl):Bdq f (got (g8 Tryz.prog fn)):=Ne4 mx hf hn (Rc7 hc)
theorem b3:Bdq 3 pf3:=bdq Tryz.func3
theorem b4:Bdq 4 pf4:=bdq Tryz.func4
theorem b5:Bdq 5 pf5:=bdq Tryz.func5
theorem b6:Bdq 6 pf6:=bdq Tryz.func6
theorem b8:Bdq 8 pf8:=bdq Tryz.func8
theorem b9:Bdq 9 pf9:=bdq Tryz.func9
theorem b10:Bdq 10 Ne5:=bdq Tryz.func10
theorem b11:qd3 Tryz.prog 11 λE=>lb1 E ye3:=Rd9 (h:=h11) mx Tryz.func11 (by kernel_rfl) Tryz.func30 (by kernel_rfl) (Rc7 (by kernel_rfl))
theorem b13:Bdq 13 Ne6:=bdq Tryz.func13
theorem b15:Bdq 15 Ne7:=bdq Tryz.func15
theorem b17:Bdq 17 Ne8:=bdq Tryz.func17
theorem b18:Bdq 18 Ne9:=bdq Tryz.func18
theorem b20:Bdq 20 Oe0:=bdq Tryz.func20
theorem b21:Bdq 21 Oe1:=bdq Tryz.func21
theorem b22:qd3 Tryz.prog 22 λE=>lb1 E ie6:=Rd9 (h:=h22) mx Tryz.func22 (by kernel_rfl) Tryz.func76 (by kernel_rfl) (Rc7 (by kernel_rfl))
theorem b23:Bdq 23 ye4:=bdq Tryz.func23
theorem b24:Bdq 24 Oe2:=bdq Tryz.func24
theorem b25:Bdq 25 He5:=bdq Tryz.func25
theorem b26:Bdq 26 Oe3:=bdq Tryz.func26
theorem b27:Bdq 27 Oe4:=bdq Tryz.func27
theorem b28:Bdq 28 Oe5:=bdq Tryz.func28
theorem b30:Bdq 30 Oe6:=bdq Tryz.func30
theorem b32:Bdq 32 Oe7:=bdq Tryz.func32
theorem b33:Bdq 33 He6:=bdq Tryz.func33
theorem b34:Bdq 34 He7:=bdq Tryz.func34
theorem b35:Bdq 35 Oe8:=bdq Tryz.func35
theorem b36:Bdq 36 Oe9:=bdq Tryz.func36
theorem b37:Bdq 37 He8:=bdq Tryz.func37
theorem b38:Bdq 38 He9:=bdq Tryz.func38
theorem b43:Bdq 43 Ie0:=bdq Tryz.func43
theorem b44:Bdq 44 Pe0:=bdq Tryz.func44
theorem b45:Bdq 45 Pe1:=bdq Tryz.func45
theorem b46:Bdq 46 Ie1:=bdq Tryz.func46
theorem b47:Bdq 47 Pe2:=bdq Tryz.func47
theorem b49:Bdq 49 Pe3:=bdq Tryz.func49
theorem b50:Bdq 50 Pe4:=bdq Tryz.func50
theorem b52:Bdq 52 Pe5:=bdq Tryz.func52
theorem b53:Bdq 53 Pe6:=bdq Tryz.func53
theorem b54:Bdq 54 Pe7:=bdq Tryz.func54
theorem b55:Bdq 55 Ie2:=bdq Tryz.func55
theorem b56:Bdq 56 ye5:=bdq Tryz.func56
theorem b57:Bdq 57 Ie3:=bdq Tryz.func57
theorem b58:Bdq 58 Pe8:=bdq Tryz.func58
theorem b59:Bdq 59 Sd0:=bdq Tryz.func59
theorem b61:Bdq 61 Pe9:=bdq Tryz.func61
theorem b69:Bdq 69 Qe0:=bdq Tryz.func69
theorem b70:Bdq 70 Qe1:=bdq Tryz.func70
theorem b71:qd3 Tryz.prog 71 λE=>lb1 E ie7:=Rd9 (h:=h71) mx Tryz.func71 (by kernel_rfl) Tryz.func76 (by kernel_rfl) (Rc7 (by kernel_rfl))
theorem b72:Bdq 72 Qe2:=bdq Tryz.func72
theorem b74:Bdq 74 Qe3:=bdq Tryz.func74
theorem b75:Bdq 75 ye6:=bdq Tryz.func75
theorem b77:Bdq 77 Qe4:=bdq Tryz.func77
theorem b78:Bdq 78 Qe5:=bdq Tryz.func78
theorem b79:Bdq 79 Qe6:=bdq Tryz.func79
theorem b82:Bdq 82 Ie4:=bdq Tryz.func82
theorem b83:Bdq 83 ye7:=bdq Tryz.func83
theorem b84:Bdq 84 Qe7:=bdq Tryz.func84
theorem b85:Bdq 85 Qe8:=bdq Tryz.func85
theorem b86:Bdq 86 Qe9:=bdq Tryz.func86
theorem b87:Bdq 87 Re0:=bdq Tryz.func87
theorem b88:Bdq 88 Sd1:=bdq Tryz.func88
theorem b89:Bdq 89 Ie5:=bdq Tryz.func89
theorem b90:Bdq 90 Re1:=bdq Tryz.func90
theorem b91:Bdq 91 Re2:=bdq Tryz.func91
theorem b94:Bdq 94 Re3:=bdq Tryz.func94
theorem b96:Bdq 96 Ie6:=bdq Tryz.func96
theorem b97:Bdq 97 Re4:=bdq Tryz.func97
theorem b98:Bdq 98 Re5:=bdq Tryz.func98
theorem Re6:Bdq 109 Ie7:=bdq Tryz.func109
theorem Re7:Bdq 110 re5:=bdq Tryz.func110
theorem Re8:Bdq 111 Ie8:=bdq Tryz.func111
theorem Re9:Bdq 120 Ie9:=bdq Tryz.func120
end Go.Ev.Ce
namespace Go.Ev.L
open Go Go.Ev
noncomputable def ub4:RT->PC->PS2
 |.s a b,.seq x y=>.seq (ub4 a x) (ub4 b y)
 |.c a b,.cond g x y=>.cond g (ub4 a x) (ub4 b y)
 |.b a,.block id x=>.block id (ub4 a x)
 |.i a,.inner f x n c=>.inner f x n (ub4 a c)
 |.u S,_=>.sum S
 |_,c=>.pc c
theorem Rc8{E:Env}{k:Nat}(rt:RT)(c:PC):Ba6 (λx=>∀s,S4 (x.1 s) (J0 E k x.2 s)) (Bb5 rt c)->ba5 E k (ub4 rt c) c:=by
 induction rt generalizing c with
 |p=>intro h;cases c<;>exact .pc _
 |s a b iha ihb =>
  intro h;cases c with
  |seq x y=>exact .seq (iha x (Ba6.app h).1) (ihb y (Ba6.app h).2)
  |_=>exact .pc _
 |c a b iha ihb =>
  intro h;cases c with
  |cond g x y=>exact .cond g (iha x (Ba6.app h).1) (ihb y (Ba6.app h).2)
  |_=>exact .pc _
 |b a iha =>
  intro h;cases c with
  |block id x=>exact .block id (iha x h)
  |_=>exact .pc _
 |l a iha=>intro h;cases c<;>exact .pc _
 |i a iha =>
  intro h;cases c with
  |inner f x n c=>exact .inner f x n (iha c h)
  |_=>exact .pc _
 |u S =>
  intro h
  have:Bb5 (.u S) c=[(S,c)]:=by cases c<;>rfl
  rw[this] at h;cases h with
  |cons h t =>
   have e:ub4 (.u S) c=.sum S:=by cases c<;>rfl
   rw[e];exact .sum h
section
variable{π σ:Type}{E:Env}{k:Nat}{keep:List Nat}{alts:List (Al2 π σ)}{enc:π->σ->St}{step:π->σ->Stp σ}{xs:Xs π σ}{body:PS2}{c:PC}
theorem tb5.belowM(hb:ba5 E k body c)(hN:E.N=rounds+1)(w:tb5 ed2 k keep (Xb4 E k body) alts step xs enc)(s:St):S4 (Jc9 ed2 k keep alts step xs s) (J0 E k (.loopM keep c) s):=λr hr=>by
 obtain⟨t,h1,h2⟩:=w.go hr;rw[qd2,hN];exact kb4 hb.le _ _ _ (zb3 h1 h2)
theorem tb5.belowML(hb:ba5 E k body c)(hN:E.N=rounds+1)(w:tb5 tb2 k keep (Xb4 E k body) alts step xs enc)(s:St):S4 (Jc9 tb2 k keep alts step xs s) (J0 E k (.loop keep c) s):=λr hr=>by
 obtain⟨t,h1,h2⟩:=w.go hr;rw[Jc8,hN];exact kb4 hb.le _ _ _ (zb3 h1 h2)
end
end Go.Ev.L
namespace Go.Ev.Ab
open Go Go.Ev
@[reducible] def o(d:Nat)(x:PO):PI:=⟨some d,none,[],x⟩
@[reducible] def s(x:PO):PI:=⟨none,none,[],x⟩
@[reducible] def ci(n:Int):Arg:=.c (.v (.int .i64 n))
@[reducible] def cb(b:Bool):Arg:=.c (.v (.bool b))
@[reducible] def vi(n:Int):b7:=.v (.int .i64 n)
@[reducible] def rep{α:Type}(n:Nat)(x:α):List α:=List.replicate n x
@[reducible] def ki(n:Nat):List CK:=List.replicate n (.int .i64)
@[reducible] def mv(d n:Nat):PI:=o d (.mv (.t n))
@[reducible] def mc(d:Nat)(n:Int):PI:=o d (.mv (ci n))
@[reducible] def mb(d:Nat)(x:Bool):PI:=o d (.mv (cb x))
@[reducible] def fd(d k n:Nat):PI:=o d (.fld k (.t n))
@[reducible] def lf(d k n:Nat):PI:=o d (.load (ki k) k false (.t n))
@[reducible] def ex(d x k:Nat):PI:=o d (.ext (.t x) k)
@[reducible] def ca(d f:Nat)(l:List Arg):PI:=o d (.call f l)
@[reducible] def gf(n:Nat)(x:PI):PI:=⟨x.dst,some (n,false),x.hide,x.op⟩
@[reducible] def so(l:List PI)(x:PC):PC:=.seq (.ops l) x
@[reducible] def sq(x y:PC):PC:=.seq x y
@[reducible] def ts(l:List Nat):List Arg:=l.map .t
@[reducible] def cl(f:Nat)(l:List Nat):PO:=.call f (ts l)
@[reducible] def sT(k a b:Nat):PI:=s (.store k (.t a) (.t b))
@[reducible] def pa(d c x:Nat):PI:=o d (.pick (.t c) (.t x) (cb false))
@[reducible] def po(d c x:Nat):PI:=o d (.pick (.t c) (cb true) (.t x))
@[reducible] def al(d k:Nat)(n:Int):PI:=o d (.alloc (rep k (vi n)))
@[reducible] def ap(d et es n x y:Nat):PI:=o d (.append et es n (.t x) (.t y))
@[reducible] def gm(f:Builtin)(a b t:Nat):PO:=.gen ⟨none,.call ⟨.builtin f,#[.tmp a,.tmp b],#[t,t]⟩,t, "", #[],none⟩ [a,b]
end Go.Ev.Ab
namespace Go.Ev.L
open Go Go.Ev
def Cps{π σ:Type}(u:∀{α:Type},(σ->α)->(Nat->α)->α->π->σ->α):Prop :=
 ∀{α β:Type} (F:α->β) (k:σ->α) (e:Nat->α) (z:α) (p:π) (s:σ),F (u k e z p s)=u (λx=>F (k x)) (λt=>F (e t)) (F z) p s
@[reducible] noncomputable def foL{π σ:Type}(en:π->σ->St)(xs:Xs π σ)(p:π)(s:σ):Stp σ->Option (e8×St):=tb3 (λs'=>some (.normal,en p s')) (λt=>xOf xs p s t 1) none
structure Lo(π σ:Type) where
 E:Env
 k:Nat
 F:PFn
 at':List Nat
 kp:List Nat
 rt:RT
 al:List (Al2 π σ)
 st:π->σ->Stp σ
 xs:Xs π σ
 en:π->σ->St
namespace Lo
variable{π σ:Type}(L:Lo π σ)
noncomputable def lc:PC:=Ne2 L.at' L.F.body
noncomputable def ls:St->DT (e8×St):=Jc9 tb2 L.k L.kp L.al L.st L.xs
noncomputable def lsM:St->DT (e8×St):=Jc9 ed2 L.k L.kp L.al L.st L.xs
noncomputable def pr:(St->DT (e8×St))×PC:=(L.ls,.loop L.kp L.lc)
noncomputable def prM:(St->DT (e8×St))×PC:=(L.lsM,.loopM L.kp L.lc)
def Ok:Prop:=∀s,X3 L.k L.F.res (L.pr.1 s) (J0 L.E L.k L.pr.2 s)
def OkE:Prop:=∀s,S4 (L.pr.1 s) (J0 L.E L.k L.pr.2 s)
def OkM:Prop:=∀s,S4 (L.prM.1 s) (J0 L.E L.k L.prM.2 s)
def Rd(hd:St->DT St)(bd:St->DT (e8×St))(p:π)(s:σ)(a:St)(b:Stp σ):Prop:=(kb5 hd bd a).run=foL L.en L.xs p s b
def H0:Prop:=∀p s,L.Rd (tb2 L.k L.kp) (vd8 L.E L.k L.F.res (Dc8 L.rt L.lc)) p s (L.en p s) (L.st p s)
def H1:Prop:=∀p s,L.Rd (tb2 L.k L.kp) (Xb4 L.E L.k (ub4 L.rt L.lc)) p s (L.en p s) (L.st p s)
def H2:Prop:=∀p s,L.Rd (ed2 L.k L.kp) (Xb4 L.E L.k (ub4 L.rt L.lc)) p s (L.en p s) (L.st p s)
def HA:Prop:=Ba6 (λx=>∀a H,(⟨Fd3 x.sh a,Fd4 x.bl H⟩:St)=L.en (x.rd a H).1 (x.rd a H).2) L.al
variable{L}
theorem Rd.of {hd : St → DT St} {bd : St → DT (e8 × St)} {p : π} {s : σ} {a : St} (u : ∀ {α : Type}, (σ → α) → (Nat → α) → α → π → σ → α)
  (q:Cps @u) (H:(kb5 hd bd a).run=u (λx=>foL L.en L.xs p s (.next x)) (λt=>foL L.en L.xs p s (.exit t)) (foL L.en L.xs p s .fail) p s):L.Rd hd bd p s a (u .next .exit .fail p s) :=
 H.trans (q (foL L.en L.xs p s) Stp.next Stp.exit Stp.fail p s).symm
theorem Rd.sel{hd:St->DT St}{bd:St->DT (e8×St)}{p:π}{s:σ}{a1 a0:St}{b1 b0:Stp σ}(c:Bool)(h1:L.Rd hd bd p s a1 b1)(h0:L.Rd hd bd p s a0 b0):L.Rd hd bd p s (sel c a1 a0) (sel c b1 b0):=by
 cases c with
 |true=>exact h1
 |false=>exact h0
theorem ok(l:List ((St->DT (e8×St))×PC))(hs:Bb5 L.rt L.lc=l)(hl:Ba6 (λx=>∀s,X3 L.k L.F.res (x.1 s) (J0 L.E L.k x.2 s)) l)(hN:L.E.N=rounds+1)(ha:L.HA)(h:L.H0):L.Ok :=
 tb5.belowC (wd8 _ _ (by rw[hs];exact hl)) hN ⟨ha,h⟩
theorem okE(l:List ((St->DT (e8×St))×PC))(hs:Bb5 L.rt L.lc=l)(hl:Ba6 (λx=>∀s,S4 (x.1 s) (J0 L.E L.k x.2 s)) l)(hN:L.E.N=rounds+1)(ha:L.HA)(h:L.H1):L.OkE :=
 tb5.belowML (Rc8 _ _ (by rw[hs];exact hl)) hN ⟨ha,h⟩
theorem okM(l:List ((St->DT (e8×St))×PC))(hs:Bb5 L.rt L.lc=l)(hl:Ba6 (λx=>∀s,S4 (x.1 s) (J0 L.E L.k x.2 s)) l)(hN:L.E.N=rounds+1)(ha:L.HA)(h:L.H2):L.OkM :=
 tb5.belowM (Rc8 _ _ (by rw[hs];exact hl)) hN ⟨ha,h⟩
end Lo
theorem fb5 {E : Env} {F : PFn} {args : List b7} {blks : List c8} {o : Option (b7 × List c8)} (rt : RT) (l : List ((St → DT (e8 × St)) × PC)) (hs : Bb5 rt F.body = l)
  (hl:Ba6 (λx=>∀s,X3 (len blks) F.res (x.1 s) (J0 E (len blks) x.2 s)) l) (h:(Ge5 E F (Dc8 rt F.body) args blks).run=o) (r:b7×List c8) (hr:o=some r):(Lb6 E F args blks).run=some r :=
 od2 (wd8 rt _ (by rw[hs];exact hl)) r (h.trans hr)
theorem Lc0 {E : Env} {F : PFn} {args : List b7} {blks : List c8} {o : Option (b7 × List c8)} (rt : RT) (l : List ((St → DT (e8 × St)) × PC)) (hs : Bb5 rt F.body = l)
  (hl:Ba6 (λx=>∀s,S4 (x.1 s) (J0 E (len blks) x.2 s)) l) (h:(re4 E F (ub4 rt F.body) args blks).run=o) (r:b7×List c8) (hr:o=some r):(lb1 E F args blks).run=some r :=
 ed1 (Rc8 rt _ (by rw[hs];exact hl)) r (h.trans hr)
theorem C8{A o:Option (b7×List c8)}(h:A=o)(r:b7×List c8)(hr:o=some r):A=some r:=h.trans hr
noncomputable abbrev upq(x:St)(l:List (Nat×b7)):St:=⟨l.foldl (λa q=>a.set q.1 q.2) x.a,x.H⟩
noncomputable abbrev sIq:S2:=.s (.o (.int .i64))
noncomputable abbrev sUq:S2:=.s (.o .unk)
noncomputable abbrev sBq:S2:=.s (.o .bool)
noncomputable abbrev sPq(n:Nat):S2:=.s (.o (.ptr n 0 0 0))
noncomputable abbrev sTq(n:Nat):S2:=.s (.o (.tree n))
noncomputable abbrev sLq{α:Type}(t:Ty α):S2:=.s (.c t.es (nL t))
noncomputable abbrev kLq(n:Nat):List K:=List.replicate n (.o (.int .i64))
noncomputable abbrev aIq(a:List b7)(n:Nat):Int:=toI (slT a n)
noncomputable abbrev aBq(a:List b7)(n:Nat):Bool:=toB (slT a n)
noncomputable abbrev aNq(a:List b7)(n:Nat):Nat:=toN (slT a n)
noncomputable abbrev aGq(a:List b7)(n:Nat):Nat->List b7:=toG (slT a n)
noncomputable abbrev aLq{α:Type}(t:Ty α)(a:List b7)(n:Nat):List α:=rL t (slT a n)
noncomputable abbrev hIq(H:List c8)(m r n:Nat):Int:=toI (slT (rwT (elT H m) r) n)
noncomputable abbrev cIq(a:List b7)(m n:Nat):Int:=toI (slT (cellsOf (slT a m)) n)
noncomputable abbrev cNq(a:List b7)(m n:Nat):Nat:=toN (slT (cellsOf (slT a m)) n)
noncomputable abbrev cGq(a:List b7)(m n:Nat):Nat->List b7:=toG (slT (cellsOf (slT a m)) n)
noncomputable abbrev hNq(H:List c8)(m r n:Nat):Nat:=toN (slT (rwT (elT H m) r) n)
noncomputable abbrev hGq(H:List c8)(m r n:Nat):Nat->List b7:=toG (slT (rwT (elT H m) r) n)
noncomputable abbrev hLq{α:Type}(t:Ty α)(H:List c8)(m r n:Nat):List α:=rL t (slT (rwT (elT H m) r) n)
end Go.Ev.L
namespace Go.Ev.Ce
structure V3 where
 x:Int
 y:Int
 z:Int
structure Pln where
 n:V3
 b:Int
structure Pt where
 px:Int
 py:Int
 pz:Int
 pw:Int
def c7(a b:V3):V3:=⟨a.y*b.z-a.z*b.y,a.z*b.x-a.x*b.z,a.x*b.y-a.y*b.x⟩
def dot(a b:V3):Int:=a.x*b.x+a.y*b.y+a.z*b.z
def mw(p q r:Pln):Int:=dot p.n (c7 q.n r.n)
end Go.Ev.Ce
namespace Go.Ev.Ce
open Go Go.Ev Go.Ev.L Go.Proofs
@[reducible] noncomputable def prog:Program:=Tryz.prog
noncomputable def G:Nat->List Value:=λ_=>[]
noncomputable def En(l:List (Nat×Sum)):Env:={ P:=prog,G,fns:=λ_=>none,call:=we0 l,own:=λf j=>Bool.and (Ka3 f [48,57,82,88,73,75]) (Nat.beq j 0),N:=18446744073709551616 }
@[reducible] def u:b7:=.v (.tuple #[])
theorem Je0{l:List (Nat×Sum)}(h:k9 prog G l):∀f,i5 (En l).P (En l).G f ((En l).call f):=vd6 h
theorem bd{l:List (Nat×Sum)}{f:FuncId}{R:Env->Sum}(b:qd3 prog f R)(h:k9 prog G l):i5 prog G f (R (En l)):=b rfl (Je0 h)
noncomputable def tV:Ty V3 where
 es:=3
 row x:=[i x.x,i x.y,i x.z]
 rd r:=⟨toI (hdA r),toI (hdA (tlA r)),toI (hdA (tlA (tlA r)))⟩
 ok r:=ya4 3 r
 cks:=List.replicate 3 (.int .i64)
 d:=⟨0,0,0⟩
 h0 _:=rfl
 h1 _:=rfl
 h2 _:=rfl
 h3 _ h:=.of (Ra9 h)
 h4 _:=rfl
 h5 _:=rfl
noncomputable def r1V:R1 V3:=r1A tV 3 λ_ h=>h
noncomputable def tP:Ty Pln where
 es:=4
 row x:=[i x.n.x,i x.n.y,i x.n.z,i x.b]
 rd r:=⟨⟨toI (hdA r),toI (hdA (tlA r)),toI (hdA (tlA (tlA r)))⟩,toI (hdA (tlA (tlA (tlA r))))⟩
 ok r:=ya4 4 r
 cks:=List.replicate 4 (.int .i64)
 d:=⟨⟨0,0,0⟩,0⟩
 h0 _:=rfl
 h1 _:=rfl
 h2 _:=rfl
 h3 _ h:=.of (Ra9 h)
 h4 _:=rfl
 h5 _:=rfl
noncomputable def r1P:R1 Pln:=r1A tP 4 λ_ h=>h
structure Tp where
 p:Pln
 q:Pln
 r:Pln
structure Q2 where
 a:V3
 b:V3
set_option maxRecDepth 100000
noncomputable def qd4:List (Nat×Sum):=[]
theorem ed3:k9 prog G qd4:=trivial
noncomputable def Ga3(x:V3)(y:V3):Int:=(W ((W ((W (x.x*y.x))+(W (x.y*y.y))))+(W (x.z*y.z))))
noncomputable def Xb5:Sum:=Ga1 (W9 tV) (W9 tV) (λx y=>.ret ((one r1I).enc (Ga3 x y),[]))
theorem vc0:i5 prog G 86 Xb5:=Za4 (bd b86 ed3) λx y=>C8 (by kernel_rfl)
noncomputable def Rc9:List (Nat×Sum):=[]
theorem Ec1:k9 prog G Rc9:=trivial
noncomputable def Ka6(x:V3)(y:V3):V3:=(⟨W ((W (x.y*y.z))-(W (x.z*y.y))),W ((W (x.z*y.x))-(W (x.x*y.z))),W ((W (x.x*y.y))-(W (x.y*y.x)))⟩:V3)
noncomputable def fc2:Sum:=Ga1 (W9 tV) (W9 tV) (λx y=>.ret ((one r1V).enc (Ka6 x y),[]))
theorem Sc0:i5 prog G 90 fc2:=Za4 (bd b90 Ec1) λx y=>C8 (by kernel_rfl)
noncomputable def Za7:List (Nat×Sum):=[]
theorem Ib7:k9 prog G Za7:=trivial
@[reducible] noncomputable def sa9:Sum:=Lb6 (En Za7) re5
theorem Ba9:i5 prog G 110 sa9:=bd Re7 Ib7
noncomputable def ic0:List (Nat×Sum):=[]
theorem Xb6:k9 prog G ic0:=trivial
noncomputable def oa8(x:Int):Option (b7×List c8):=(sl (decide (x<0)) (some (i (W (0-x)),[])) (some (i x,[])))
noncomputable def ga9(x:Int):Int:=W0 (one r1I) (oa8 x)
noncomputable def ha0(x:Int):Bool:=okO (one r1I) (oa8 x)
noncomputable def ub5:Sum:=L9 cI (λx=>.guard (ha0 x) (.ret ((one r1I).enc (ga9 x),[])))
theorem ic1:i5 prog G 111 ub5:=Ga2 (bd Re8 Xb6) (one r1I) (o:=oa8) λx=>C8 (by kernel_rfl)
noncomputable def fc3:List (Nat×Sum):=[(111,ub5),(110,sa9)]
theorem Sc1:k9 prog G fc3:=⟨ic1,Ba9,trivial⟩
structure da5 where
 (is6 e7 d9 g7 ka0 ka1 ka2:Int)
structure M4 where
 (is5 is7:Int)
noncomputable def Db4(p:da5)(s:M4):St:=⟨.unk::.ptr 0 0 0 0::.ptr 1 0 0 0::.unk::.ptr 2 0 0 0::i s.is5::i p.is6::i s.is7::ra 38 [],[⟨0,3,[[i p.e7,i p.d9,i p.g7]],true,false,0⟩,⟨0,3,[[i 0,i 0,i 0]],true,false,0⟩,⟨0,3,[[i p.ka0,i p.ka1,i p.ka2]],true,false,0⟩]⟩
noncomputable def oa9{α:Type}(k:M4->α)(e:Nat->α)(z:α)(p:da5)(s:M4):α:=(sl (decide (s.is7>0)) (sl (s.is7==0) z (k ⟨s.is7,Int.tmod s.is5 s.is7⟩)) (e 1))
noncomputable def Y5(p:da5)(s:M4):Stp M4:=oa9 .next .exit .fail p s
noncomputable def lb4:Lo da5 M4:=⟨En fc3,0,Ie5,[1,1,1,0,1,4,4,1,0,4,1,1,4,4],[1,2,4,5,6,7],.p,[⟨sUq::sPq 0::sPq 1::sUq::sPq 2::sIq::sIq::sIq::ru2 38 [],[⟨0,3,true,some [kLq 3]⟩,⟨0,3,true,some [[.o (.lit .i64 0),.o (.lit .i64 0),.o (.lit .i64 0)]]⟩,⟨0,3,true,some [kLq 3]⟩],λa H=>(⟨aIq a 6,hIq H 0 0 0,hIq H 0 0 1,hIq H 0 0 2,hIq H 2 0 0,hIq H 2 0 1,hIq H 2 0 2⟩,⟨aIq a 5,aIq a 7⟩)⟩],Y5,[(some 2,λp s=>upq (Db4 p s) [(23,i s.is7),(24,b (decide (s.is7>0)))])],Db4⟩
theorem Ec2:lb4.Ok:=Lo.ok [] (by kernel_rfl) .nil rfl (.cons (λa H=>by kernel_rfl) .nil) λp s=>(.of @oa9 (λF _ _ _ _ _=>by unfold oa9;(repeat' apply u7 (f:=F))<;>rfl) (by kernel_rfl))
noncomputable def Ua3(x:V3):Option (b7×List c8):=let t1:=(ga9 x.x);let t2:=(lp (Y5 (⟨0,x.x,x.y,x.z,x.x,x.y,x.z⟩:da5)) (⟨0,t1⟩:M4));let t3:=(ga9 x.y);let t4:=(lp (Y5 (⟨1,x.x,x.y,x.z,x.x,x.y,x.z⟩:da5)) (⟨t2.2.is5,t3⟩:M4));let t5:=(ga9 x.z);let t6:=(lp (Y5 (⟨2,x.x,x.y,x.z,x.x,x.y,x.z⟩:da5)) (⟨t4.2.is5,t5⟩:M4));(sl (x.x==(-9223372036854775808)) (some (.tup [.agg [i 0,i 0,i 0],i 0],[])) (sl (ha0 x.x) (sl (Nat.beq t2.1 1) (sl (x.y==(-9223372036854775808)) (some (.tup [.agg [i 0,i 0,i 0],i 0],[])) (sl (ha0 x.y) (sl (Nat.beq t4.1 1) (sl (x.z==(-9223372036854775808)) (some (.tup [.agg [i 0,i 0,i 0],i 0],[])) (sl (ha0 x.z) (sl (Nat.beq t6.1 1) (sl (t6.2.is5==0) (some (.tup [.agg [i 0,i 0,i 0],i 0],[])) (sl (t6.2.is5==0) none (sl (t6.2.is5==0) none (sl (t6.2.is5==0) none (some (.tup [.agg [i (W (Int.tdiv x.x t6.2.is5)),i (W (Int.tdiv x.y t6.2.is5)),i (W (Int.tdiv x.z t6.2.is5))],i t6.2.is5],[])))))) none) none)) none) none)) none) none))
noncomputable def ya6(x:V3):V3×Int:=W0 (two r1V r1I) (Ua3 x)
noncomputable def Ua4(x:V3):Bool:=okO (two r1V r1I) (Ua3 x)
noncomputable def Ib8:Sum:=L9 (W9 tV) (λx=>.guard (Ua4 x) (.ret ((two r1V r1I).enc (ya6 x),[])))
theorem fc4:i5 prog G 89 Ib8:=Ga2 (bd b89 Sc1) (two r1V r1I) (o:=Ua3) λx=>fb5 (.s .p (.s .p (.s .p (.s (.s .p (.b (.l (.s .p (.s (.b (.s .p (.s .p (.b (.u lb4.ls))))) .p))))) .p)))) [lb4.pr] (by kernel_rfl) (.cons Ec2 .nil) (by kernel_rfl)
noncomputable def Sc2:List (Nat×Sum):=[(89,Ib8),(110,sa9)]
theorem Ec3:k9 prog G Sc2:=⟨fc4,Ba9,trivial⟩
noncomputable def Ka7(x:Pln):Option (b7×List c8):=let t1:=(ya6 x.n);(sl (decide (x.n.x<(-4608))) (some (b false,[])) (sl (decide (x.n.x>4608)) (some (b false,[])) (sl (decide (x.n.y<(-4608))) (some (b false,[])) (sl (decide (x.n.y>4608)) (some (b false,[])) (sl (decide (x.n.z<(-4608))) (some (b false,[])) (sl (decide (x.n.z>4608)) (some (b false,[])) (sl (Ua4 x.n) (sl (t1.2==1) (sl (decide (x.b>=(-2097152))) (some (b (decide (x.b<=2097152)),[])) (some (b false,[]))) (some (b false,[]))) none)))))))
noncomputable def Za8(x:Pln):Bool:=W0 (one r1B) (Ka7 x)
noncomputable def Za9(x:Pln):Bool:=okO (one r1B) (Ka7 x)
noncomputable def fc5:Sum:=L9 (W9 tP) (λx=>.guard (Za9 x) (.ret ((one r1B).enc (Za8 x),[])))
theorem Sc3:i5 prog G 84 fc5:=Ga2 (bd b84 Ec3) (one r1B) (o:=Ka7) λx=>C8 (by kernel_rfl)
noncomputable def qd5:List (Nat×Sum):=[]
theorem ed4:k9 prog G qd5:=trivial
noncomputable def fb6(x:Int)(y:Int):Option (b7×List c8):=(sl (decide (y<1)) (some (i 0,[])) (sl (y==0) none (sl (y==0) none (some (i (Int.tmod (W ((Int.tmod x y)+y)) y),[])))))
noncomputable def Sa1(x:Int)(y:Int):Int:=W0 (one r1I) (fb6 x y)
noncomputable def Sa2(x:Int)(y:Int):Bool:=okO (one r1I) (fb6 x y)
noncomputable def Xb7:Sum:=Ga1 cI cI (λx y=>.guard (Sa2 x y) (.ret ((one r1I).enc (Sa1 x y),[])))
theorem vc1:i5 prog G 28 Xb7:=Wb5 (bd b28 ed4) (one r1I) (o:=fb6) λx y=>C8 (by kernel_rfl)
noncomputable def Sc4:List (Nat×Sum):=[]
theorem Ec4:k9 prog G Sc4:=trivial
noncomputable def z6(x:V3)(y:V3):Int:=(W ((W ((W (x.x*y.x))+(W (x.y*y.y))))+(W (x.z*y.z))))
noncomputable def pa0:Sum:=Ga1 (W9 tV) (W9 tV) (λx y=>.ret ((one r1I).enc (z6 x y),[]))
theorem ta0:i5 prog G 35 pa0:=Za4 (bd b35 Ec4) λx y=>C8 (by kernel_rfl)
noncomputable def Sc5:List (Nat×Sum):=[]
theorem Ec5:k9 prog G Sc5:=trivial
noncomputable def pa1(x:V3)(y:V3):V3:=(⟨W (x.x+y.x),W (x.y+y.y),W (x.z+y.z)⟩:V3)
noncomputable def fc6:Sum:=Ga1 (W9 tV) (W9 tV) (λx y=>.ret ((one r1V).enc (pa1 x y),[]))
theorem Sc6:i5 prog G 18 fc6:=Za4 (bd b18 Ec5) λx y=>C8 (by kernel_rfl)
noncomputable def vc2:List (Nat×Sum):=[]
theorem ic2:k9 prog G vc2:=trivial
noncomputable def B4(x:V3)(y:V3):V3:=(⟨W ((W (x.y*y.z))-(W (x.z*y.y))),W ((W (x.z*y.x))-(W (x.x*y.z))),W ((W (x.x*y.y))-(W (x.y*y.x)))⟩:V3)
noncomputable def ma4:Sum:=Ga1 (W9 tV) (W9 tV) (λx y=>.ret ((one r1V).enc (B4 x y),[]))
theorem pa2:i5 prog G 36 ma4:=Za4 (bd b36 ic2) λx y=>C8 (by kernel_rfl)
noncomputable def ob3:List (Nat×Sum):=[]
theorem Xb8:k9 prog G ob3:=trivial
structure ha3 where
 is0:Int
 Cd0:List Int
 is8:Int
structure G8 where
 is9:Int
noncomputable def ab0(p:ha3)(s:G8):St:=⟨i p.is0::ra 6 (eL tI p.Cd0::i p.is8::i s.is9::ra 13 []),[]⟩
noncomputable def Z9{α:Type}(k:G8->α)(e:Nat->α)(z:α)(p:ha3)(s:G8):α:=(sl (decide (s.is9<p.is8)) (sl (inB s.is9 (List.length p.Cd0)) (sl (decide ((gL tI p.Cd0 s.is9.toNat)<(W (0-p.is0)))) (e 1) (sl (decide ((gL tI p.Cd0 s.is9.toNat)>p.is0)) (e 1) (k ⟨W (s.is9+1)⟩))) z) (e 2))
noncomputable def da6(p:ha3)(s:G8):Stp G8:=Z9 .next .exit .fail p s
noncomputable def Ga4:Lo ha3 G8:=⟨En ob3,0,Ie0,[1,0,1,4,4],[0,7,8,9],.p,[⟨sIq::ru2 6 (sLq tI::sIq::sIq::ru2 13 []),[],λa H=>(⟨aIq a 0,aLq tI a 7,aIq a 8⟩,⟨aIq a 9⟩)⟩],da6,[(none,λp s=>⟨[b false],[]⟩),(some 0,λp s=>upq (ab0 p s) [(10,b (decide (s.is9<p.is8)))])],ab0⟩
theorem Pb6:Ga4.Ok:=Lo.ok [] (by kernel_rfl) .nil rfl (.cons (λa H=>by kernel_rfl) .nil) λp s=>(.of @Z9 (λF _ _ _ _ _=>by unfold Z9;(repeat' apply u7 (f:=F))<;>rfl) (by kernel_rfl))
noncomputable def pa3(x:Int)(y:List Int):Option (b7×List c8):=let t1:=(lp (da6 (⟨x,rt tI y,(↑(List.length y):Int)⟩:ha3)) (⟨0⟩:G8));(sl ((cnE tI y)&&true) (sl (Nat.beq t1.1 1) (some (b false,[])) (sl (Nat.beq t1.1 2) (some (b true,[])) none)) none)
noncomputable def ha4(x:Int)(y:List Int):Bool:=W0 (one r1B) (pa3 x y)
noncomputable def ha5(x:Int)(y:List Int):Bool:=okO (one r1B) (pa3 x y)
noncomputable def Ua5:Sum:=Ga1 cI (ya3 tI) (λx y=>.guard (ha5 x y) (.ret ((one r1B).enc (ha4 x y),[])))
theorem ob4:i5 prog G 43 Ua5:=Wb5 (bd b43 Xb8) (one r1B) (o:=pa3) λx y=>fb5 (.s .p (.s (.s .p (.b (.u Ga4.ls))) .p)) [Ga4.pr] (by kernel_rfl) (.cons Pb6 .nil) (by kernel_rfl)
noncomputable def Pb7:List (Nat×Sum):=[]
theorem Ib9:k9 prog G Pb7:=trivial
noncomputable def ta1(x:Int):Int:=(if (W (0-x))>x then (W (0-x)) else x)
noncomputable def fb7:Sum:=L9 cI (λx=>.ret ((one r1I).enc (ta1 x),[]))
theorem Pb8:i5 prog G 109 fb7:=kb6 (bd Re6 Ib9) λx=>C8 (by kernel_rfl)
noncomputable def Ga5:List (Nat×Sum):=[(109,fb7)]
theorem Pb9:k9 prog G Ga5:=⟨Pb8,trivial⟩
structure T7 where
 bb2:List Int
 (is7 is8:Int)
structure J3 where
 (is3 is5:Int)
noncomputable def Ua6(p:T7)(s:J3):St:=⟨ra 3 (i s.is3::.unk::i s.is5::eL tI p.bb2::i p.is7::i p.is8::ra 15 []),[]⟩
noncomputable def X0{α:Type}(k:J3->α)(e:Nat->α)(z:α)(p:T7)(s:J3):α:=(sl (decide (s.is5>0)) (sl (s.is5==0) z (k ⟨s.is5,Int.tmod s.is3 s.is5⟩)) (e 1))
noncomputable def Q5(p:T7)(s:J3):Stp J3:=X0 .next .exit .fail p s
noncomputable def Ca0:Lo T7 J3:=⟨En Ga5,0,ye7,[1,1,0,1,4,4,1,1,0,4,1,1,1,4,4],[3,5,6,7,8],.p,[⟨ru2 3 (sIq::sUq::sIq::sLq tI::sIq::sIq::ru2 15 []),[],λa H=>(⟨aLq tI a 6,aIq a 7,aIq a 8⟩,⟨aIq a 3,aIq a 5⟩)⟩],Q5,[(some 2,λp s=>upq (Ua6 p s) [(16,i s.is5),(17,b (decide (s.is5>0)))])],Ua6⟩
theorem Jb0:Ca0.Ok:=Lo.ok [] (by kernel_rfl) .nil rfl (.cons (λa H=>by kernel_rfl) .nil) λp s=>(.of @X0 (λF _ _ _ _ _=>by unfold X0;(repeat' apply u7 (f:=F))<;>rfl) (by kernel_rfl))
structure da7 where
 is7:Int
structure D4 where
 is3:Int
 bb2:List Int
 is8:Int
noncomputable def Ua7(p:da7)(s:D4):St:=⟨ra 3 (i s.is3::.unk::.unk::eL tI s.bb2::i p.is7::i s.is8::ra 15 []),[]⟩
noncomputable def X1{α:Type}(k:D4->α)(e:Nat->α)(z:α)(p:da7)(s:D4):α:=let t1:=(ta1 (gL tI s.bb2 s.is8.toNat));let t2:=(lp (Q5 (⟨rt tI s.bb2,p.is7,s.is8⟩:T7)) (⟨s.is3,t1⟩:J3));(sl (decide (s.is8<p.is7)) (sl (inB s.is8 (List.length s.bb2)) (sl ((gL tI s.bb2 s.is8.toNat)==(-9223372036854775808)) (e 1) (sl ((cnE tI s.bb2)&&true) (sl (Nat.beq t2.1 1) (k ⟨t2.2.is3,rt tI s.bb2,W (s.is8+1)⟩) z) z)) z) (e 2))
noncomputable def aa0(p:da7)(s:D4):Stp D4:=X1 .next .exit .fail p s
noncomputable def Ca1:Lo da7 D4:=⟨En Ga5,0,ye7,[1,1,0,1,4,4],[3,6,7,8],.s .p (.s .p (.s (.b (.s .p (.s .p (.s .p (.b (.u Ca0.ls)))))) .p)),[⟨ru2 3 (sIq::sUq::sUq::sLq tI::sIq::sIq::ru2 15 []),[],λa H=>(⟨aIq a 7⟩,⟨aIq a 3,aLq tI a 6,aIq a 8⟩)⟩],aa0,[(none,λp s=>⟨[i 0],[]⟩),(some 0,λp s=>upq (Ua7 p s) [(9,b (decide (s.is8<p.is7)))])],Ua7⟩
theorem Jb1:Ca1.Ok:=Lo.ok [Ca0.pr] (by kernel_rfl) (.cons Jb0 .nil) rfl (.cons (λa H=>by kernel_rfl) .nil) λp s=>(.of @X1 (λF _ _ _ _ _=>by unfold X1;(repeat' apply u7 (f:=F))<;>rfl) (by kernel_rfl))
noncomputable def ka6(x:List Int):Option (b7×List c8):=let t1:=(lp (aa0 (⟨(↑(List.length x):Int)⟩:da7)) (⟨0,rt tI x,0⟩:D4));(sl ((cnE tI x)&&true) (sl (Nat.beq t1.1 1) (some (i 0,[])) (sl (Nat.beq t1.1 2) (some (i t1.2.is3,[])) none)) none)
noncomputable def W4(x:List Int):Int:=W0 (one r1I) (ka6 x)
noncomputable def W5(x:List Int):Bool:=okO (one r1I) (ka6 x)
noncomputable def Ma3:Sum:=L9 (ya3 tI) (λx=>.guard (W5 x) (.ret ((one r1I).enc (W4 x),[])))
theorem fb8:i5 prog G 83 Ma3:=Ga2 (bd b83 Pb9) (one r1I) (o:=ka6) λx=>fb5 (.s .p (.s .p (.s (.s .p (.b (.u Ca1.ls))) .p))) [Ca1.pr] (by kernel_rfl) (.cons Jb1 .nil) (by kernel_rfl)
noncomputable def vc3:List (Nat×Sum):=[(43,Ua5),(83,Ma3)]
theorem ic3:k9 prog G vc3:=⟨ob4,fb8,trivial⟩
noncomputable def ua8(x:Pln):Option (b7×List c8):=let t1:=(ha4 4608 [x.n.x,x.n.y,x.n.z]);let t2:=(W4 [x.n.x,x.n.y,x.n.z]);let t3:=(ha4 2097152 [x.b]);(sl (ha5 4608 [x.n.x,x.n.y,x.n.z]) (sl t1 (sl (W5 [x.n.x,x.n.y,x.n.z]) (sl (t2==1) (sl (ha5 2097152 [x.b]) (some (b t3,[])) none) (some (b false,[]))) none) (some (b false,[]))) none)
noncomputable def Ia7(x:Pln):Bool:=W0 (one r1B) (ua8 x)
noncomputable def Ia8(x:Pln):Bool:=okO (one r1B) (ua8 x)
noncomputable def Db5:Sum:=L9 (W9 tP) (λx=>.guard (Ia8 x) (.ret ((one r1B).enc (Ia7 x),[])))
theorem vc4:i5 prog G 52 Db5:=Ga2 (bd b52 ic3) (one r1B) (o:=ua8) λx=>C8 (by kernel_rfl)
noncomputable def vc5:List (Nat×Sum):=[]
theorem ic4:k9 prog G vc5:=trivial
noncomputable def ua9(x:Int)(y:Int):Option (b7×List c8):=(sl (decide (x<y)) (some (i (-1),[])) (sl (decide (x>y)) (some (i 1,[])) (some (i 0,[]))))
noncomputable def Y6(x:Int)(y:Int):Int:=W0 (one r1I) (ua9 x y)
noncomputable def Y7(x:Int)(y:Int):Bool:=okO (one r1I) (ua9 x y)
noncomputable def cb2:Sum:=Ga1 cI cI (λx y=>.guard (Y7 x y) (.ret ((one r1I).enc (Y6 x y),[])))
theorem ub6:i5 prog G 53 cb2:=Wb5 (bd b53 ic4) (one r1I) (o:=ua9) λx y=>C8 (by kernel_rfl)
noncomputable def Xb9:List (Nat×Sum):=[(53,cb2)]
theorem Qb0:k9 prog G Xb9:=⟨ub6,trivial⟩
noncomputable def ka7(x:Pln)(y:Pln):Option (b7×List c8):=let t1:=(Y6 x.n.x y.n.x);let t2:=(Y6 x.n.y y.n.y);let t3:=(Y6 x.n.z y.n.z);let t4:=(Y6 x.b y.b);(sl (Y7 x.n.x y.n.x) (sl (t1==0) (sl (Y7 x.n.y y.n.y) (sl (t2==0) (sl (Y7 x.n.z y.n.z) (sl (t3==0) (sl (Y7 x.b y.b) (sl (t4==0) (some (i t4,[])) (some (i t4,[]))) none) (some (i t3,[]))) none) (some (i t2,[]))) none) (some (i t1,[]))) none)
noncomputable def wa7(x:Pln)(y:Pln):Int:=W0 (one r1I) (ka7 x y)
noncomputable def wa8(x:Pln)(y:Pln):Bool:=okO (one r1I) (ka7 x y)
noncomputable def Ma4:Sum:=Ga1 (W9 tP) (W9 tP) (λx y=>.guard (wa8 x y) (.ret ((one r1I).enc (wa7 x y),[])))
theorem Yb0:i5 prog G 49 Ma4:=Wb5 (bd b49 Qb0) (one r1I) (o:=ka7) λx y=>C8 (by kernel_rfl)
noncomputable def ed5:List (Nat×Sum):=[(43,Ua5)]
theorem Sc7:k9 prog G ed5:=⟨ob4,trivial⟩
noncomputable def Ua8(x:V3):Option (b7×List c8):=let t1:=(ha4 24 [x.x,x.y,x.z]);(sl (ha5 24 [x.x,x.y,x.z]) (some (b t1,[])) none)
noncomputable def pa4(x:V3):Bool:=W0 (one r1B) (Ua8 x)
noncomputable def pa5(x:V3):Bool:=okO (one r1B) (Ua8 x)
noncomputable def lb5:Sum:=L9 (W9 tV) (λx=>.guard (pa5 x) (.ret ((one r1B).enc (pa4 x),[])))
theorem ub7:i5 prog G 20 lb5:=Ga2 (bd b20 Sc7) (one r1B) (o:=Ua8) λx=>C8 (by kernel_rfl)
end Go.Ev.Ce
namespace Go.Proofs
open Go.Shelf
set_option maxRecDepth 100000 in
def Ce.sortLay_ren:Go.Shelf.Ren:=⟨fun | 6=>48 | 15=>81 | 14=>80 | 28=>107 | 29=>108 | 20=>99 | 21=>100 | 22=>101 | 23=>102 | 24=>103 | 25=>104 | 26=>105 | 27=>106 | 46=>121 | 47=>122 | 48=>123 | 49=>124 | 50=>125 | 57=>129 | n=>n,fun | 22=>47 | 24=>60 | 25=>81 | 3=>3 | 39=>104 | 0=>0 | 53=>123 | 55=>125 | 4=>4 | 46=>116 | 45=>115 | 50=>120 | 5=>5 | 9=>9 | 66=>134 | 70=>138 | 76=>142 | 77=>143 | n=>n,fun | n=>n⟩
set_option maxRecDepth 100000 in
theorem Ce.sortLay:Go.Proofs.SlLaysF0.n6 Tryz.prog Ce.sortLay_ren:={
 mixed:=by kernel_rfl
 f6:=⟨Tryz.f48.name,by decide,Tryz.func48.trans (congrArg some (by kernel_rfl))⟩
 f14:=⟨Tryz.f80.name,by decide,Tryz.func80.trans (congrArg some (by kernel_rfl))⟩
 f15:=Tryz.func81.trans (congrArg some (by kernel_rfl))
 f20:=⟨Tryz.f99.name,by decide,Tryz.func99.trans (congrArg some (by kernel_rfl))⟩
 f21:=⟨Tryz.f100.name,by decide,Tryz.func100.trans (congrArg some (by kernel_rfl))⟩
 f22:=⟨Tryz.f101.name,by decide,Tryz.func101.trans (congrArg some (by kernel_rfl))⟩
 f23:=⟨Tryz.f102.name,by decide,Tryz.func102.trans (congrArg some (by kernel_rfl))⟩
 f24:=⟨Tryz.f103.name,by decide,Tryz.func103.trans (congrArg some (by kernel_rfl))⟩
 f25:=⟨Tryz.f104.name,by decide,Tryz.func104.trans (congrArg some (by kernel_rfl))⟩
 f26:=⟨Tryz.f105.name,by decide,Tryz.func105.trans (congrArg some (by kernel_rfl))⟩
 f27:=⟨Tryz.f106.name,by decide,Tryz.func106.trans (congrArg some (by kernel_rfl))⟩
 f28:=Tryz.func107.trans (congrArg some (by kernel_rfl))
 f29:=Tryz.func108.trans (congrArg some (by kernel_rfl))
 f46:=⟨Tryz.f121.name,by decide,Tryz.func121.trans (congrArg some (by kernel_rfl))⟩
 f47:=Tryz.func122.trans (congrArg some (by kernel_rfl))
 f48:=Tryz.func123.trans (congrArg some (by kernel_rfl))
 f49:=⟨Tryz.f124.name,by decide,Tryz.func124.trans (congrArg some (by kernel_rfl))⟩
 f50:=⟨Tryz.f125.name,by decide,Tryz.func125.trans (congrArg some (by kernel_rfl))⟩
 f57:=⟨Tryz.f129.name,by decide,Tryz.func129.trans (congrArg some (by kernel_rfl))⟩
 t0:=Tryz.underlying0
 a0:=Tryz.isAgg0
 z0:=Tryz.sizeOf0
 v0:=Tryz.zeroValue0
 t3:=Tryz.underlying3
 a3:=Tryz.isAgg3
 z3:=Tryz.sizeOf3
 v3:=Tryz.zeroValue3
 t4:=Tryz.underlying4
 a4:=Tryz.isAgg4
 z4:=Tryz.sizeOf4
 v4:=Tryz.zeroValue4
 t5:=Tryz.underlying5
 a5:=Tryz.isAgg5
 z5:=Tryz.sizeOf5
 v5:=Tryz.zeroValue5
 t9:=Tryz.underlying9
 a9:=Tryz.isAgg9
 z9:=Tryz.sizeOf9
 v9:=Tryz.zeroValue9
 t22:=Tryz.underlying47
 a22:=Tryz.isAgg47
 z22:=Tryz.sizeOf47
 v22:=Tryz.zeroValue47
 t25:=Tryz.underlying81
 a25:=Tryz.isAgg81
 z25:=Tryz.sizeOf81
 v25:=Tryz.zeroValue81
 t39:=Tryz.underlying104
 a39:=Tryz.isAgg104
 z39:=Tryz.sizeOf104
 v39:=Tryz.zeroValue104
 t45:=Tryz.underlying115
 a45:=Tryz.isAgg115
 z45:=Tryz.sizeOf115
 v45:=Tryz.zeroValue115
 t46:=Tryz.underlying116
 a46:=Tryz.isAgg116
 z46:=Tryz.sizeOf116
 v46:=Tryz.zeroValue116
 t50:=Tryz.underlying120
 a50:=Tryz.isAgg120
 z50:=Tryz.sizeOf120
 v50:=Tryz.zeroValue120
 t53:=Tryz.underlying123
 a53:=Tryz.isAgg123
 z53:=Tryz.sizeOf123
 v53:=Tryz.zeroValue123
 t55:=Tryz.underlying125
 a55:=Tryz.isAgg125
 z55:=Tryz.sizeOf125
 v55:=Tryz.zeroValue125
 t66:=Tryz.underlying134
 a66:=Tryz.isAgg134
 z66:=Tryz.sizeOf134
 v66:=Tryz.zeroValue134
 t70:=Tryz.underlying138
 a70:=Tryz.isAgg138
 z70:=Tryz.sizeOf138
 v70:=Tryz.zeroValue138
 t76:=Tryz.underlying142
 a76:=Tryz.isAgg142
 z76:=Tryz.sizeOf142
 v76:=Tryz.zeroValue142
 t77:=Tryz.underlying143
 a77:=Tryz.isAgg143
 z77:=Tryz.sizeOf143
 v77:=Tryz.zeroValue143 }
end Go.Proofs
namespace Go.Ev.Ce
open Go Go.Ev Go.Ev.L Go.Proofs Go.Sort
def cb3(x y:Int):Int:=if x<y then -1 else if x>y then 1 else 0
def cb4(x y:Pln):Int :=
 if cb3 x.n.x y.n.x=0 then if cb3 x.n.y y.n.y=0 then if cb3 x.n.z y.n.z=0 then cb3 x.b y.b else cb3 x.n.z y.n.z else cb3 x.n.y y.n.y else cb3 x.n.x y.n.x
theorem lb6(x y:Int):cb3 x y<0↔x<y:=by unfold cb3;split<;>(try split)<;>omega
theorem Qb1(x y:Int):cb3 x y=0↔x=y:=by unfold cb3;split<;>(try split)<;>omega
def LtP(x y:Pln):Prop:=x.n.x<y.n.x\/x.n.x=y.n.x/\(x.n.y<y.n.y\/x.n.y=y.n.y/\(x.n.z<y.n.z\/x.n.z=y.n.z/\x.b<y.b))
instance(x y:Pln):Decidable (LtP x y):=by unfold LtP;exact inferInstance
theorem Sc8(x y:Pln):cb4 x y<0↔LtP x y:=by
 have h1:=lb6 x.n.x y.n.x;have h2:=Qb1 x.n.x y.n.x;have h3:=lb6 x.n.y y.n.y;have h4:=Qb1 x.n.y y.n.y;have h5:=lb6 x.n.z y.n.z;have h6:=Qb1 x.n.z y.n.z;have h7:=lb6 x.b y.b;unfold cb4 LtP;split
 ·split
  ·split<;>omega
  ·omega
 ·omega
theorem Ga6(x y:Pln):ltOf cb4 x y=decide (LtP x y):=by
 unfold ltOf;rw[decide_eq_decide];exact Sc8 x y
theorem Je1:SWO (ltOf cb4) where
 irrefl x:=by rw[Ga6];simp[LtP]
 trans x y z h1 h2:=by rw[Ga6,decide_eq_true_eq] at *;unfold LtP at *;omega
 ntrans x y z h1 h2:=by rw[Ga6,decide_eq_false_iff_not] at *;unfold LtP at *;omega
theorem Se0(x y:Pln)(h1:ltOf cb4 x y=false)(h2:ltOf cb4 y x=false):x=y:=by
 rw[Ga6,decide_eq_false_iff_not] at *
 unfold LtP at *
 obtain⟨⟨a,b,c⟩,d⟩:=x;obtain⟨⟨a',b',c'⟩,d'⟩:=y
 simp only at *
 have:a=a'/\b=b'/\c=c'/\d=d':=by omega
 obtain⟨rfl,rfl,rfl,rfl⟩:=this;rfl
theorem ed6(x y:Int):ua9 x y=some (i (cb3 x y),[]):=by
 unfold ua9 cb3;simp only[Ib3,decide_eq_true_eq]
 split<;>(try split)<;>rfl
theorem xd8(x y:Int):Y6 x y=cb3 x y:=by unfold Y6;rw[ed6];rfl
theorem xd9(x y:Int):Y7 x y=true:=by unfold Y7;rw[ed6];rfl
theorem vc6(x y:Pln):ka7 x y=some (i (cb4 x y),[]):=by
 unfold ka7 cb4;simp only[xd8,xd9,Ib3,beq_iff_eq,if_true]
 repeat' (first | rfl | split)
theorem Je2(x y:Pln):wa7 x y=cb4 x y:=by unfold wa7;rw[vc6];rfl
theorem Je3(x y:Pln):wa8 x y=true:=by unfold wa8;rw[vc6];rfl
theorem Je4(x y:Pln):(Ma4 [.agg (tP.row x),.agg (tP.row y)] []).run=some (i (cb4 x y),[]):=by
 have:(Ma4 [.agg (tP.row x),.agg (tP.row y)] []).run=sel (wa8 x y) (some (i (wa7 x y),[])) none:=by kernel_rfl
 rw[this,Je3,Je2]
def Xb3(p:Pln):List Value:=[.int .i64 p.n.x,.int .i64 p.n.y,.int .i64 p.n.z,.int .i64 p.b]
instance:Inhabited Pln:=⟨⟨⟨0,0,0⟩,0⟩⟩
def Db6(l:List Pln):List Pln:=l.mergeSort λx y=>!ltOf cb4 y x
theorem zb8(l:List Pln):(Db6 l).length=l.length:=Qhf l
noncomputable def za5:Sum:=xd0 tP 49 60 Db6
theorem Sd2:Ce.sortLay_ren.f 6=48:=by kernel_rfl
theorem Lc1:Ce.sortLay_ren.t 24=60:=by kernel_rfl
set_option maxRecDepth 100000 in
theorem cb5:i5 prog G 48 za5:=by
 refine xd1 (enc:=Xb3) (cf:=cb4) ⟨_,Tryz.func48,by kernel_rfl,of_decide_eq_true (by kernel_rfl)⟩ (by decide) (λ_=>rfl) (λr h=>Ra9 (n:=4) h) (λx v hv=>?_) zb8
  (λblk off size w=>wd9 Yb0 Je4 (λ_=>rfl) (λ_=>rfl) _ _ _ _ _) (λblk cap d w hcl hH hb hs=>?_)
 ·simp[Xb3] at hv
  rcases hv with rfl|rfl|rfl|rfl<;>rfl
 ·have eg:∀args w,(callFunc 49 args).run Tryz.prog w=.ok (.enter 49 args) w:=enters_of Tryz.func49 (by kernel_rfl) rfl
  have:=AnyQ.slices_SortFunc Ce.sortLay 4 (by rw[Lc1];exact Tryz.isAgg60) (by rw[Lc1];exact Tryz.sizeOf60) Xb3 (λ_=>rfl) (λx v hv=>by simp[Xb3] at hv;rcases hv with rfl | rfl | rfl | rfl<;>rfl) cb4 Je1 49 #[] blk 0 cap d w eg (hcl 0 d.size) hH hb hs
  rw[Sd2] at this;refine this.mono λe w' ⟨h1,d',n,os,h2,h3,h4⟩=>⟨h1,n,os,?_⟩
  have h5:=sorted_unique_holds Je1 Se0 d d' h2 h3;rw[h4];show _=sortWorldK Xb3 4 w blk 0 n (d.toList.mergeSort λx y=>!ltOf cb4 y x).toArray os
  rw[<- h5]
end Go.Ev.Ce
namespace Go.Ev.Ce
open Go Go.Ev Go.Ev.L Go.Proofs
set_option maxRecDepth 100000
structure wa9 where
 is1:Int
 B0:List Int
 d9:Int
noncomputable def Yb1:List (Nat×Sum):=[(28,Xb7)]
theorem Qb2:k9 prog G Yb1:=⟨vc1,trivial⟩
structure xa0 where
 alt:Nat
 (is0 d9:Int)
noncomputable def ca7{α:Type}(kk:xa0->α)(x:wa9):α:=let t1:=(Sa1 (gL tI x.B0 (W ((W (x.d9+1))-1)).toNat) x.is1);(sl (decide (x.d9>=(↑(List.length x.B0):Int))) (kk ⟨1,0,x.d9⟩) (sl (inB (W ((W (x.d9+1))-1)) (List.length x.B0)) (sl (Sa2 (gL tI x.B0 (W ((W (x.d9+1))-1)).toNat) x.is1) (kk ⟨1,t1,W (x.d9+1)⟩) (kk ⟨0,0,0⟩)) (kk ⟨0,0,0⟩)))
noncomputable def z8(x:wa9):xa0:=ca7 (λr=>r) x
noncomputable def Ga7(x:wa9)(r:xa0):DT (b7×List c8):=(.ite (Nat.beq r.alt 1) (.ret (i r.is0,[⟨0,2,[[eL tI x.B0,i r.d9]],true,false,0⟩])) .fail)
theorem ic5{α β:Type}(F:α->β)(kk:xa0->α)(x:wa9):F (ca7 kk x)=ca7 (λr=>F (kk r)) x:=by unfold ca7;(repeat' apply u7 (f:=F))<;>rfl
noncomputable def ob5:Sum:=kb7 ⟨[.s (.o (.ptr 0 0 0 0)),.s (.o (.int .i64))],[⟨0,2,true,some [[.c 1 (nL tI),.o (.int .i64)]]⟩],λa H=>(⟨toI (slT a 1),rL tI (slT (rwT (elT H 0) 0) 0),toI (slT (rwT (elT H 0) 0) 1)⟩,())⟩ (λx=>Ga7 x (z8 x))
theorem Yb2:i5 prog G 58 ob5:=ba4 (enc:=λx=>⟨[.ptr 0 0 0 0,i x.is1],[⟨0,2,[[eL tI x.B0,i x.d9]],true,false,0⟩]⟩) (λa H=>by kernel_rfl) (bd b58 Qb2) λx=>C8 (Qhd (b:=ca7 (λr=>(Ga7 x r).run) x) (by kernel_rfl) (ic5 (λr=>(Ga7 x r).run) (λr=>r) x).symm)
noncomputable def qd6:List (Nat×Sum):=[]
theorem ed7:k9 prog G qd6:=trivial
noncomputable def Ga8(x:V3)(y:V3):V3:=(⟨W (x.x-y.x),W (x.y-y.y),W (x.z-y.z)⟩:V3)
noncomputable def Lc2:Sum:=Ga1 (W9 tV) (W9 tV) (λx y=>.ret ((one r1V).enc (Ga8 x y),[]))
theorem qd7:i5 prog G 91 Lc2:=Za4 (bd b91 ed7) λx y=>C8 (by kernel_rfl)
noncomputable def Hd7:List (Nat×Sum):=[(110,sa9)]
theorem qd8:k9 prog G Hd7:=⟨Ba9,trivial⟩
noncomputable def ub8(x:V3):Option (b7×List c8):=(sl (decide (x.x<(-24))) (some (b false,[])) (sl (decide (x.x>24)) (some (b false,[])) (sl (decide (x.y<(-24))) (some (b false,[])) (sl (decide (x.y>24)) (some (b false,[])) (sl (decide (x.z<(-24))) (some (b false,[])) (sl (decide (x.z>24)) (some (b false,[])) (some (b true,[]))))))))
noncomputable def Ua9(x:V3):Bool:=W0 (one r1B) (ub8 x)
noncomputable def Va0(x:V3):Bool:=okO (one r1B) (ub8 x)
noncomputable def vc7:Sum:=L9 (W9 tV) (λx=>.guard (Va0 x) (.ret ((one r1B).enc (Ua9 x),[])))
theorem Lc3:i5 prog G 85 vc7:=Ga2 (bd b85 qd8) (one r1B) (o:=ub8) λx=>C8 (by kernel_rfl)
noncomputable def vc8:List (Nat×Sum):=[(85,vc7),(91,Lc2),(90,fc2),(89,Ib8),(86,Xb5)]
theorem ic6:k9 prog G vc8:=⟨Lc3,qd7,Sc0,fc4,vc0,trivial⟩
noncomputable def va0(x:V3)(y:V3)(z:V3):Option (b7×List c8):=let t1:=(Ua9 x);let t2:=(Ua9 y);let t3:=(Ua9 z);let t4:=(Ga8 y x);let t5:=(Ga8 z x);let t6:=(Ka6 t4 t5);let t7:=(ya6 t6);let t8:=(Ga3 t7.1 x);(sl (Va0 x) (sl (!t1) (some (.tup [.agg [i 0,i 0,i 0,i 0],b false],[])) (sl (Va0 y) (sl (!t2) (some (.tup [.agg [i 0,i 0,i 0,i 0],b false],[])) (sl (Va0 z) (sl (!t3) (some (.tup [.agg [i 0,i 0,i 0,i 0],b false],[])) (sl (Ua4 t6) (sl (t7.2==0) (some (.tup [.agg [i 0,i 0,i 0,i 0],b false],[])) (some (.tup [.agg [i t7.1.x,i t7.1.y,i t7.1.z,i t8],b true],[]))) none)) none)) none)) none)
noncomputable def Ia9(x:V3)(y:V3)(z:V3):Pln×Bool:=W0 (two r1P r1B) (va0 x y z)
noncomputable def Ja0(x:V3)(y:V3)(z:V3):Bool:=okO (two r1P r1B) (va0 x y z)
noncomputable def Db7:Sum:=Ob2 (W9 tV) (W9 tV) (W9 tV) (λx y z=>.guard (Ja0 x y z) (.ret ((two r1P r1B).enc (Ia9 x y z),[])))
theorem vc9:i5 prog G 61 Db7:=ge3 (bd b61 ic6) (two r1P r1B) (o:=va0) λx y z=>C8 (by kernel_rfl)
noncomputable def ed8:List (Nat×Sum):=[(84,fc5),(85,vc7),(86,Xb5)]
theorem Sc9:k9 prog G ed8:=⟨Sc3,Lc3,vc0,trivial⟩
noncomputable def ya7(x:Pln)(y:V3):Option (b7×List c8):=let t1:=(Za8 x);let t2:=(Ua9 y);let t3:=(Ga3 x.n y);(sl (Za9 x) (sl (!t1) (some (i 0,[])) (sl (Va0 y) (sl (!t2) (some (i 0,[])) (sl (decide ((W (t3-x.b))<0)) (some (i (-1),[])) (sl (decide ((W (t3-x.b))>0)) (some (i 1,[])) (some (i 0,[]))))) none)) none)
noncomputable def lb7(x:Pln)(y:V3):Int:=W0 (one r1I) (ya7 x y)
noncomputable def Jb2(x:Pln)(y:V3):Bool:=okO (one r1I) (ya7 x y)
noncomputable def wc0:Sum:=Ga1 (W9 tP) (W9 tV) (λx y=>.guard (Jb2 x y) (.ret ((one r1I).enc (lb7 x y),[])))
theorem ed9:i5 prog G 54 wc0:=Wb5 (bd b54 Sc9) (one r1I) (o:=ya7) λx y=>C8 (by kernel_rfl)
structure Ld4 where
 (e7 d9 g7 j9 q8 o7 o4 Ra2:Int)
structure Ld5 where
 is7:Int
noncomputable def Ka8:List (Nat×Sum):=[(61,Db7),(54,wc0)]
theorem Tc0:k9 prog G Ka8:=⟨vc9,ed9,trivial⟩
structure ja0 where
 j5:List V3
 (is3 is4 is5:Int)
 bs7:Bool
 (e7 d9 g7 j9:Int)
structure X4 where
 is8:Int
noncomputable def cb6(p:ja0)(s:X4):St:=⟨eL tV p.j5::.unk::.unk::i p.is3::i p.is4::i p.is5::.ptr 0 0 0 0::b p.bs7::i s.is8::ra 48 [],[⟨0,4,[[i p.e7,i p.d9,i p.g7,i p.j9]],true,false,0⟩]⟩
noncomputable def T1{α:Type}(k:X4->α)(e:Nat->α)(z:α)(p:ja0)(s:X4):α:=let t1:=(lb7 (⟨(⟨p.e7,p.d9,p.g7⟩:V3),p.j9⟩:Pln) (gL tV p.j5 s.is8.toNat));(sl (decide (s.is8<(↑(List.length p.j5):Int))) (sl p.bs7 (sl (inB s.is8 (List.length p.j5)) (sl (Jb2 (⟨(⟨p.e7,p.d9,p.g7⟩:V3),p.j9⟩:Pln) (gL tV p.j5 s.is8.toNat)) (sl (t1 != 0) (e 1) (k ⟨W (s.is8+1)⟩)) z) z) (e 2)) (e 3))
noncomputable def y6(p:ja0)(s:X4):Stp X4:=T1 .next .exit .fail p s
noncomputable def lb8:Lo ja0 X4:=⟨En Ka8,0,Sd0,[1,0,1,4,4,1,0,4,1,4,4,1,0,4,1,4,4,1,0,4,1,1,4,4],[0,3,4,5,6,7,8],.p,[⟨sLq tV::sUq::sUq::sIq::sIq::sIq::sPq 0::sBq::sIq::ru2 48 [],[⟨0,4,true,some [kLq 4]⟩],λa H=>(⟨aLq tV a 0,aIq a 3,aIq a 4,aIq a 5,aBq a 7,hIq H 0 0 0,hIq H 0 0 1,hIq H 0 0 2,hIq H 0 0 3⟩,⟨aIq a 8⟩)⟩],y6,[(none,λp s=>⟨[b false],[]⟩),(some 6,λp s=>upq (cb6 p s) [(41,i s.is8),(42,eL tV p.j5),(43,i (↑(List.length p.j5):Int)),(44,b (decide (s.is8<(↑(List.length p.j5):Int)))),(45,b true),(46,b p.bs7),(47,b p.bs7)]),(some 6,λp s=>upq (cb6 p s) [(41,i s.is8),(42,eL tV p.j5),(43,i (↑(List.length p.j5):Int)),(44,b (decide (s.is8<(↑(List.length p.j5):Int)))),(45,b false),(46,u),(47,b false)])],cb6⟩
theorem Ec6:lb8.Ok:=Lo.ok [] (by kernel_rfl) .nil rfl (.cons (λa H=>by kernel_rfl) .nil) λp s=>(.of @T1 (λF _ _ _ _ _=>by unfold T1;(repeat' apply u7 (f:=F))<;>rfl) (by kernel_rfl))
structure Ca2 where
 (is3 is4:Int)
structure X5 where
 j5:List V3
 is5:Int
noncomputable def Db8(p:Ca2)(s:X5):St:=⟨eL tV s.j5::.unk::.unk::i p.is3::i p.is4::i s.is5::ra 51 [],[]⟩
noncomputable def aa1{α:Type}(k:X5->α)(e:Nat->α)(z:α)(p:Ca2)(s:X5):α:=let t1:=(Ia9 (gL tV s.j5 p.is3.toNat) (gL tV s.j5 p.is4.toNat) (gL tV s.j5 s.is5.toNat));let t2:=(lp (y6 (⟨rt tV s.j5,p.is3,p.is4,s.is5,t1.2,t1.1.n.x,t1.1.n.y,t1.1.n.z,t1.1.b⟩:ja0)) (⟨0⟩:X4));(sl (decide (s.is5<p.is4)) (sl (inB p.is3 (List.length s.j5)) (sl (inB p.is4 (List.length s.j5)) (sl (inB s.is5 (List.length s.j5)) (sl (Ja0 (gL tV s.j5 p.is3.toNat) (gL tV s.j5 p.is4.toNat) (gL tV s.j5 s.is5.toNat)) (sl ((cnE tV s.j5)&&true) (sl (Nat.beq t2.1 1) (e 1) (sl (Nat.beq t2.1 2) (k ⟨rt tV s.j5,W (s.is5+1)⟩) (sl (Nat.beq t2.1 3) (k ⟨rt tV s.j5,W (s.is5+1)⟩) z))) z) z) z) z) z) (e 2))
noncomputable def M1(p:Ca2)(s:X5):Stp X5:=aa1 .next .exit .fail p s
noncomputable def lb9:Lo Ca2 X5:=⟨En Ka8,0,Sd0,[1,0,1,4,4,1,0,4,1,4,4,1,0,4,1,4,4],[0,3,4,5],.s .p (.s (.b (.s .p (.s .p (.b (.u lb8.ls))))) .p),[⟨sLq tV::sUq::sUq::sIq::sIq::sIq::ru2 51 [],[],λa H=>(⟨aIq a 3,aIq a 4⟩,⟨aLq tV a 0,aIq a 5⟩)⟩],M1,[(none,λp s=>⟨[b false],[]⟩),(some 4,λp s=>upq (Db8 p s) [(20,i s.is5),(21,i p.is4),(22,b (decide (s.is5<p.is4)))])],Db8⟩
theorem Ec7:lb9.Ok:=Lo.ok [lb8.pr] (by kernel_rfl) (.cons Ec6 .nil) rfl (.cons (λa H=>by kernel_rfl) .nil) λp s=>(.of @aa1 (λF _ _ _ _ _=>by unfold aa1;(repeat' apply u7 (f:=F))<;>rfl) (by kernel_rfl))
structure Ca3 where
 is3:Int
structure X6 where
 j5:List V3
 is4:Int
noncomputable def Db9(p:Ca3)(s:X6):St:=⟨eL tV s.j5::.unk::.unk::i p.is3::i s.is4::ra 52 [],[]⟩
noncomputable def aa2{α:Type}(k:X6->α)(e:Nat->α)(z:α)(p:Ca3)(s:X6):α:=let t1:=(lp (M1 (⟨p.is3,s.is4⟩:Ca2)) (⟨rt tV s.j5,0⟩:X5));(sl (decide (s.is4<p.is3)) (sl ((cnE tV s.j5)&&true) (sl (Nat.beq t1.1 1) (e 1) (sl (Nat.beq t1.1 2) (k ⟨t1.2.j5,W (s.is4+1)⟩) z)) z) (e 2))
noncomputable def M2(p:Ca3)(s:X6):Stp X6:=aa2 .next .exit .fail p s
noncomputable def mb0:Lo Ca3 X6:=⟨En Ka8,0,Sd0,[1,0,1,4,4,1,0,4,1,4,4],[0,3,4],.s .p (.s (.b (.s .p (.b (.u lb9.ls)))) .p),[⟨sLq tV::sUq::sUq::sIq::sIq::ru2 52 [],[],λa H=>(⟨aIq a 3⟩,⟨aLq tV a 0,aIq a 4⟩)⟩],M2,[(none,λp s=>⟨[b false],[]⟩),(some 2,λp s=>upq (Db9 p s) [(15,i s.is4),(16,i p.is3),(17,b (decide (s.is4<p.is3)))])],Db9⟩
theorem Ec8:mb0.Ok:=Lo.ok [lb9.pr] (by kernel_rfl) (.cons Ec7 .nil) rfl (.cons (λa H=>by kernel_rfl) .nil) λp s=>(.of @aa2 (λF _ _ _ _ _=>by unfold aa2;(repeat' apply u7 (f:=F))<;>rfl) (by kernel_rfl))
structure Ca4 where
structure X7 where
 j5:List V3
 is3:Int
noncomputable def Eb0(p:Ca4)(s:X7):St:=⟨eL tV s.j5::.unk::.unk::i s.is3::ra 53 [],[]⟩
noncomputable def aa3{α:Type}(k:X7->α)(e:Nat->α)(z:α)(p:Ca4)(s:X7):α:=let t1:=(lp (M2 (⟨s.is3⟩:Ca3)) (⟨rt tV s.j5,0⟩:X6));(sl (decide (s.is3<(↑(List.length s.j5):Int))) (sl ((cnE tV s.j5)&&true) (sl (Nat.beq t1.1 1) (e 1) (sl (Nat.beq t1.1 2) (k ⟨t1.2.j5,W (s.is3+1)⟩) z)) z) (e 2))
noncomputable def M3(p:Ca4)(s:X7):Stp X7:=aa3 .next .exit .fail p s
noncomputable def mb1:Lo Ca4 X7:=⟨En Ka8,0,Sd0,[1,0,1,4,4],[0,3],.s .p (.s (.b (.s .p (.b (.u mb0.ls)))) .p),[⟨sLq tV::sUq::sUq::sIq::ru2 53 [],[],λa H=>(⟨⟩,⟨aLq tV a 0,aIq a 3⟩)⟩],M3,[(none,λp s=>⟨[b false],[]⟩),(some 0,λp s=>upq (Eb0 p s) [(9,i s.is3),(10,eL tV s.j5),(11,i (↑(List.length s.j5):Int)),(12,b (decide (s.is3<(↑(List.length s.j5):Int))))])],Eb0⟩
theorem Ec9:mb1.Ok:=Lo.ok [mb0.pr] (by kernel_rfl) (.cons Ec8 .nil) rfl (.cons (λa H=>by kernel_rfl) .nil) λp s=>(.of @aa3 (λF _ _ _ _ _=>by unfold aa3;(repeat' apply u7 (f:=F))<;>rfl) (by kernel_rfl))
noncomputable def ya8(x:List V3):Option (b7×List c8):=let t1:=(lp (M3 (⟨⟩:Ca4)) (⟨rt tV x,0⟩:X7));(sl ((cnE tV x)&&true) (sl (Nat.beq t1.1 1) (some (b false,[])) (sl (Nat.beq t1.1 2) (some (b true,[])) none)) none)
noncomputable def Va1(x:List V3):Bool:=W0 (one r1B) (ya8 x)
noncomputable def Ga9(x:List V3):Bool:=okO (one r1B) (ya8 x)
noncomputable def wc1:Sum:=L9 (ya3 tV) (λx=>.guard (Ga9 x) (.ret ((one r1B).enc (Va1 x),[])))
theorem fd0:i5 prog G 59 wc1:=Ga2 (bd b59 Tc0) (one r1B) (o:=ya8) λx=>fb5 (.s .p (.s (.s .p (.b (.u mb1.ls))) .p)) [mb1.pr] (by kernel_rfl) (.cons Ec9 .nil) (by kernel_rfl)
structure de2 where
 j5:List V3
structure de3 where
 is3:Int
structure de4 where
 Xa9:List V3
 (e7 d9 g7 j9:Int)
structure de5 where
 is5:Int
structure re6 where
 ba0:List Pln
 (e7 d9 g7 j9:Int)
structure re7 where
 is5:Int
structure de6 where
 j5:List V3
 (is6 is7:Int)
structure de7 where
 ph:Nat
 is8:Int
 ue3:List Pln
structure de8 where
 is6:Int
structure de9 where
 ph:Nat
 j5:List V3
 is7:Int
 ue3:List Pln
structure ee0 where
structure ee1 where
 ph:Nat
 j5:List V3
 is6:Int
 ue3:List Pln
noncomputable def Eb1:List (Nat×Sum):=[(58,ob5),(59,wc1)]
theorem wc2:k9 prog G Eb1:=⟨Yb2,fd0,trivial⟩
structure T2 where
 is4:Int
structure o9 where
 ph:Nat
 is6:Int
 B0:List Int
 d9:Int
 ns5:Nat
 eh1:List (List b7)
noncomputable def fb9(p:T2)(s:o9):St:=⟨ra 3 (.ptr 0 0 0 0::i p.is4::.v (.slice none 0 0)::i s.is6::ra 127 []),[⟨0,2,[[eL tI s.B0,i s.d9]],true,false,0⟩]⟩
noncomputable def gb0(p:T2)(s:o9):St:=⟨ra 3 (.ptr 0 0 0 0::i p.is4::.sl 1 0 s.ns5 0::i s.is6::ra 127 []),[⟨0,2,[[eL tI s.B0,i s.d9]],true,false,0⟩,⟨25,3,s.eh1,true,false,0⟩]⟩
noncomputable def ic7(p:T2)(s:o9):St:=(sel (Nat.beq s.ph 1) (gb0 p s) (fb9 p s))
noncomputable def Q6{α:Type}(k:o9->α)(e:Nat->α)(z:α)(p:T2)(s:o9):α:=let t1:=(z8 ⟨17,rt tI s.B0,s.d9⟩);let t2:=(z8 ⟨17,rt tI (rt tI s.B0),t1.d9⟩);let t3:=(z8 ⟨17,rt tI (rt tI (rt tI s.B0)),t2.d9⟩);let t4:=(z8 ⟨6,rt tI (rt tI (rt tI (rt tI s.B0))),t3.d9⟩);let w0:α:=(sl (t4.is0==3) (sl (decide (s.is6>2)) z (k ⟨1,W (s.is6+1),rt tI (rt tI (rt tI (rt tI s.B0))),t4.d9,1,[[i (W (t1.is0-8)),i (W (t2.is0-8)),i (W (t3.is0-8))]]⟩)) (k ⟨1,W (s.is6+1),rt tI (rt tI (rt tI (rt tI s.B0))),t4.d9,1,[[i (W (t1.is0-8)),i (W (t2.is0-8)),i (W (t3.is0-8))]]⟩));(sl (decide (s.is6<p.is4)) (sl ((cnE tI s.B0)&&true) (sl (Nat.beq t1.alt 1) (sl ((cnE tI (rt tI s.B0))&&true) (sl (Nat.beq t2.alt 1) (sl ((cnE tI (rt tI (rt tI s.B0)))&&true) (sl (Nat.beq t3.alt 1) (sl ((cnE tI (rt tI (rt tI (rt tI s.B0))))&&true) (sl (Nat.beq t4.alt 1) (sl (t4.is0==1) (sl (decide (s.is6>1)) z (sl (t4.is0==2) (sl (decide (s.is6>0)) z w0) w0)) (sl (t4.is0==2) (sl (decide (s.is6>0)) z w0) w0)) z) z) z) z) z) z) z) z) (e 1))
noncomputable def o5{α:Type}(k:o9->α)(e:Nat->α)(z:α)(p:T2)(s:o9):α:=let t1:=(z8 ⟨17,rt tI s.B0,s.d9⟩);let a0:=(i7 s.eh1 (0+(W (s.is6-1)).toNat));let a1:=(Nat.beq s.ns5 (len s.eh1)&&Nat.ble ((s.ns5+1)*24) room);let a3:=(i6 (i7 s.eh1 (0+(W (s.is6-2)).toNat)) 0);let a4:=((Nat.blt (0+(W (s.is6-1)).toNat) (len s.eh1))&&(Nat.ble (2+1) (len a0)));let a5:=(i (W (Int.tdiv (W ((toI (hdA (tlA (i6 a0 0))))+(toI (hdA (tlA a3))))) 2)));let a6:=(i (W (Int.tdiv (W ((toI (hdA (i6 a0 0)))+(toI (hdA a3)))) 2)));let a7:=(app s.eh1 [[a6,a5,i (W (Int.tdiv (W ((toI (hdA (tlA (tlA (i6 a0 0)))))+(toI (hdA (tlA (tlA a3)))))) 2))]]);let a8:=(inB (W (s.is6-1)) s.ns5);let a9:=(i (toI (hdA (tlA (i6 a0 0)))));let a10:=((Nat.blt (0+(W (s.is6-1)).toNat) (len s.eh1))&&(Nat.ble (0+3) (len a0)));let a11:=(i (toI (hdA (i6 a0 0))));let a12:=(app s.eh1 [[a11,a9,i (toI (hdA (tlA (tlA (i6 a0 0)))))]]);let a13:=(i (toI (hdA (i6 a0 2))));let a14:=(rt tI (rt tI s.B0));let t2:=(z8 ⟨17,a14,t1.d9⟩);let t3:=(z8 ⟨17,rt tI a14,t2.d9⟩);let a2:=(rt tI (rt tI a14));let t4:=(z8 ⟨6,a2,t3.d9⟩);let w0:α:=(sl (t4.is0==3) (sl (decide (s.is6>2)) (sl a8 (sl (a4&&(na9 [CK.int .i64] (i6 a0 2))) (sl a1 (k ⟨1,W (s.is6+1),a2,t4.d9,s.ns5+1,app s.eh1 [[i (W (t1.is0-8)),i (W (t2.is0-8)),a13]]⟩) z) z) z) (sl a1 (k ⟨1,W (s.is6+1),a2,t4.d9,s.ns5+1,app s.eh1 [[i (W (t1.is0-8)),i (W (t2.is0-8)),i (W (t3.is0-8))]]⟩) z)) (sl a1 (k ⟨1,W (s.is6+1),a2,t4.d9,s.ns5+1,app s.eh1 [[i (W (t1.is0-8)),i (W (t2.is0-8)),i (W (t3.is0-8))]]⟩) z));let w1:α:=(sl a8 (sl (a10&&(na9 [CK.int .i64,CK.int .i64,CK.int .i64] (i6 a0 0))) (sl (t4.is0==3) (sl (decide (s.is6>2)) (sl a8 (sl (a4&&(na9 [CK.int .i64] (i6 a0 2))) (sl a1 (k ⟨1,W (s.is6+1),a2,t4.d9,s.ns5+1,app s.eh1 [[a11,a9,a13]]⟩) z) z) z) (sl a1 (k ⟨1,W (s.is6+1),a2,t4.d9,s.ns5+1,a12⟩) z)) (sl a1 (k ⟨1,W (s.is6+1),a2,t4.d9,s.ns5+1,a12⟩) z)) z) z);let w2:α:=(sl (t4.is0==3) (sl (decide (s.is6>2)) (sl a8 (sl (a4&&(na9 [CK.int .i64] (i6 a0 2))) (sl a1 (k ⟨1,W (s.is6+1),a2,t4.d9,s.ns5+1,app s.eh1 [[a6,a5,a13]]⟩) z) z) z) (sl a1 (k ⟨1,W (s.is6+1),a2,t4.d9,s.ns5+1,a7⟩) z)) (sl a1 (k ⟨1,W (s.is6+1),a2,t4.d9,s.ns5+1,a7⟩) z));(sl (decide (s.is6<p.is4)) (sl ((cnE tI s.B0)&&true) (sl (Nat.beq t1.alt 1) (sl ((cnE tI (rt tI s.B0))&&true) (sl (Nat.beq t2.alt 1) (sl ((cnE tI a14)&&true) (sl (Nat.beq t3.alt 1) (sl ((cnE tI (rt tI a14))&&true) (sl (Nat.beq t4.alt 1) (sl (t4.is0==1) (sl (decide (s.is6>1)) (sl a8 (sl (a10&&(na9 [CK.int .i64,CK.int .i64,CK.int .i64] (i6 a0 0))) (sl (inB (W (s.is6-2)) s.ns5) (sl (((Nat.blt (0+(W (s.is6-2)).toNat) (len s.eh1))&&(Nat.ble (0+3) (len (i7 s.eh1 (0+(W (s.is6-2)).toNat)))))&&(na9 [CK.int .i64,CK.int .i64,CK.int .i64] a3)) (sl (t4.is0==2) (sl (decide (s.is6>0)) w1 w2) w2) z) z) z) z) (sl (t4.is0==2) (sl (decide (s.is6>0)) w1 w0) w0)) (sl (t4.is0==2) (sl (decide (s.is6>0)) w1 w0) w0)) z) z) z) z) z) z) z) z) (e 2))
noncomputable def ca8(p:T2)(s:o9):Stp o9:=(sel (Nat.beq s.ph 1) (o5 .next .exit .fail p s) (Q6 .next .exit .fail p s))
noncomputable def Va2:Lo T2 o9:=⟨En Eb1,0,He6,[1,1,1,1,0,1,4,4],[3,4,5,6],.p,[⟨ru2 3 (sPq 0::sIq::.s (.o .nil)::sIq::ru2 127 []),[⟨0,2,true,some [[.c 1 (nL tI),.o (.int .i64)]]⟩],λa H=>(⟨aIq a 4⟩,⟨0,aIq a 6,hLq tI H 0 0 0,hIq H 0 0 1,0,[]⟩)⟩,⟨ru2 3 (sPq 0::sIq::.s (.o (.sl 1 0 (some 0) none))::sIq::ru2 127 []),[⟨0,2,true,some [[.c 1 (nL tI),.o (.int .i64)]]⟩,⟨25,3,true,none⟩],λa H=>(⟨aIq a 4⟩,⟨1,aIq a 6,hLq tI H 0 0 0,hIq H 0 0 1,slN (slT a 5),elT H 1⟩)⟩],ca8,[(some 0,λp s=>upq (fb9 p s) [(18,i s.is6),(19,i p.is4),(20,b (decide (s.is6<p.is4)))]),(some 0,λp s=>upq (gb0 p s) [(18,i s.is6),(19,i p.is4),(20,b (decide (s.is6<p.is4)))])],ic7⟩
theorem ic8:Va2.Ok:=Lo.ok [] (by kernel_rfl) .nil rfl (.cons (λa H=>by kernel_rfl) (.cons (λa H=>by kernel_rfl) .nil)) λp s=>(.sel (Nat.beq s.ph 1) (.of @o5 (λF _ _ _ _ _=>by unfold o5;(repeat' apply u7 (f:=F))<;>rfl) (by kernel_rfl)) (.of @Q6 (λF _ _ _ _ _=>by unfold Q6;(repeat' apply u7 (f:=F))<;>rfl) (by kernel_rfl)))
noncomputable def ja1(x:List Int):Option (b7×List c8):=let t1:=(z8 ⟨5,rt tI x,0⟩);let t2:=(lp (ca8 (⟨W (4+t1.is0)⟩:T2)) (⟨0,0,rt tI (rt tI x),t1.d9,0,[]⟩:o9));let t3:=(Va1 []);let t4:=(Va1 (lsL tV t2.2.ns5 (λk=>i7 t2.2.eh1 (0+k))));let a0:=(i6 (i7 t2.2.eh1 0) 0);let a1:=(i (toI (hdA (tlA (tlA a0)))));let a2:=(i (W ((toI (hdA a0))-3)));let a3:=(setAt t2.2.eh1 1 (P1 (i7 t2.2.eh1 1) 0 [a2,i (toI (hdA (tlA a0))),a1]));let a4:=(i (W ((toI (hdA (tlA a0)))-2)));(sl ((cnE tI x)&&true) (sl (Nat.beq t1.alt 1) (sl ((cnE tI (rt tI x))&&true) (sl (Nat.beq t2.1 1) (sl (Ga9 []) (sl t3 none (some (.v (.slice none 0 0),[]))) none) (sl (Nat.beq t2.1 2) (sl (okL tV t2.2.ns5 (λk=>i7 t2.2.eh1 (0+k))) (sl (Ga9 (lsL tV t2.2.ns5 (λk=>i7 t2.2.eh1 (0+k)))) (sl t4 (sl (inB 0 t2.2.ns5) (sl (((Nat.blt 0 (len t2.2.eh1))&&(Nat.ble (0+3) (len (i7 t2.2.eh1 0))))&&(na9 [CK.int .i64,CK.int .i64,CK.int .i64] a0)) (sl (inB 1 t2.2.ns5) (sl ((Nat.blt 1 (len t2.2.eh1))&&(Nat.ble (0+3) (len (i7 t2.2.eh1 1)))) (sl (inB 2 t2.2.ns5) (sl ((Nat.blt 2 (len a3))&&(Nat.ble (0+3) (len (i7 a3 2)))) (sl (inB 3 t2.2.ns5) (sl ((Nat.blt 3 (len (setAt a3 2 (P1 (i7 a3 2) 0 [i (toI (hdA a0)),a4,a1]))))&&(Nat.ble (0+3) (len (i7 (setAt a3 2 (P1 (i7 a3 2) 0 [i (toI (hdA a0)),a4,a1])) 3)))) (some (.sl 0 0 t2.2.ns5 0,[⟨25,3,setAt (setAt a3 2 (P1 (i7 a3 2) 0 [i (toI (hdA a0)),a4,a1])) 3 (P1 (i7 (setAt a3 2 (P1 (i7 a3 2) 0 [i (toI (hdA a0)),a4,a1])) 3) 0 [i (toI (hdA a0)),i (toI (hdA (tlA a0))),i (W ((toI (hdA (tlA (tlA a0))))-1))]),true,false,0⟩])) none) none) none) none) none) none) none) none) (some (.sl 0 0 t2.2.ns5 0,[⟨25,3,t2.2.eh1,true,false,0⟩]))) none) none) none)) none) none) none)
noncomputable def r4(x:List Int):List V3:=W0 (one (r1L tV)) (ja1 x)
noncomputable def Pa0(x:List Int):Bool:=okO (one (r1L tV)) (ja1 x)
noncomputable def Tc1:Sum:=L9 (ya3 tI) (λx=>.guard (Pa0 x) (.ret ((one (r1L tV)).enc (r4 x),[])))
theorem Fc0:i5 prog G 33 Tc1:=Ga2 (bd b33 wc2) (one (r1L tV)) (o:=ja1) λx=>fb5 (.s .p (.s .p (.s .p (.s .p (.s (.s .p (.b (.u Va2.ls))) .p))))) [Va2.pr] (by kernel_rfl) (.cons ic8 .nil) (by kernel_rfl)
noncomputable def Tc2:List (Nat×Sum):=[]
theorem Fc1:k9 prog G Tc2:=trivial
noncomputable def D1(x:V3)(y:V3):V3:=(⟨W (x.x-y.x),W (x.y-y.y),W (x.z-y.z)⟩:V3)
noncomputable def Ka9:Sum:=Ga1 (W9 tV) (W9 tV) (λx y=>.ret ((one r1V).enc (D1 x y),[]))
theorem Pa1:i5 prog G 27 Ka9:=Za4 (bd b27 Fc1) λx y=>C8 (by kernel_rfl)
noncomputable def Fc2:List (Nat×Sum):=[(27,Ka9)]
theorem wc3:k9 prog G Fc2:=⟨Pa1,trivial⟩
noncomputable def ta2(x:Pln):Pln:=let t1:=(D1 (⟨0,0,0⟩:V3) x.n);(⟨t1,W (0-x.b)⟩:Pln)
noncomputable def Qb3:Sum:=L9 (W9 tP) (λx=>.ret ((one r1P).enc (ta2 x),[]))
theorem Fc3:i5 prog G 78 Qb3:=kb6 (bd b78 wc3) λx=>C8 (by kernel_rfl)
noncomputable def Fc4:List (Nat×Sum):=[(83,Ma3)]
theorem wc4:k9 prog G Fc4:=⟨fb8,trivial⟩
noncomputable def Ca5(x:V3):Option (b7×List c8):=let t1:=(W4 [x.x,x.y,x.z]);(sl (W5 [x.x,x.y,x.z]) (sl (t1==0) (some (.tup [.agg [i 0,i 0,i 0],i 0],[])) (sl (t1==0) none (sl (t1==0) none (sl (t1==0) none (some (.tup [.agg [i (W (Int.tdiv x.x t1)),i (W (Int.tdiv x.y t1)),i (W (Int.tdiv x.z t1))],i t1],[])))))) none)
noncomputable def ta3(x:V3):V3×Int:=W0 (two r1V r1I) (Ca5 x)
noncomputable def Pa2(x:V3):Bool:=okO (two r1V r1I) (Ca5 x)
noncomputable def Qb4:Sum:=L9 (W9 tV) (λx=>.guard (Pa2 x) (.ret ((two r1V r1I).enc (ta3 x),[])))
theorem Fc5:i5 prog G 98 Qb4:=Ga2 (bd b98 wc4) (two r1V r1I) (o:=Ca5) λx=>C8 (by kernel_rfl)
noncomputable def Yb3:List (Nat×Sum):=[(20,lb5),(27,Ka9),(36,ma4),(98,Qb4),(35,pa0)]
theorem Qb5:k9 prog G Yb3:=⟨ub7,Pa1,pa2,Fc5,ta0,trivial⟩
noncomputable def ka8(x:V3)(y:V3)(z:V3):Option (b7×List c8):=let t1:=(pa4 x);let t2:=(pa4 y);let t3:=(pa4 z);let t4:=(D1 y x);let t5:=(D1 z x);let t6:=(B4 t4 t5);let t7:=(ta3 t6);let t8:=(z6 t7.1 x);(sl (pa5 x) (sl (!t1) (some (.tup [.agg [i 0,i 0,i 0,i 0],b false],[])) (sl (pa5 y) (sl (!t2) (some (.tup [.agg [i 0,i 0,i 0,i 0],b false],[])) (sl (pa5 z) (sl (!t3) (some (.tup [.agg [i 0,i 0,i 0,i 0],b false],[])) (sl (Pa2 t6) (some (.tup [.agg [i t7.1.x,i t7.1.y,i t7.1.z,i t8],b (decide (t7.2>0))],[])) none)) none)) none)) none)
noncomputable def G3(x:V3)(y:V3)(z:V3):Pln×Bool:=W0 (two r1P r1B) (ka8 x y z)
noncomputable def ca9(x:V3)(y:V3)(z:V3):Bool:=okO (two r1P r1B) (ka8 x y z)
noncomputable def Ma5:Sum:=Ob2 (W9 tV) (W9 tV) (W9 tV) (λx y z=>.guard (ca9 x y z) (.ret ((two r1P r1B).enc (G3 x y z),[])))
theorem gb1:i5 prog G 77 Ma5:=ge3 (bd b77 Qb5) (two r1P r1B) (o:=ka8) λx y z=>C8 (by kernel_rfl)
noncomputable def Fc6:List (Nat×Sum):=[(52,Db5),(20,lb5),(35,pa0),(53,cb2)]
theorem wc5:k9 prog G Fc6:=⟨vc4,ub7,ta0,ub6,trivial⟩
noncomputable def Ca6(x:Pln)(y:V3):Option (b7×List c8):=let t1:=(Ia7 x);let t2:=(pa4 y);let t3:=(z6 x.n y);let t4:=(Y6 t3 x.b);(sl (Ia8 x) (sl (!t1) (some (i 0,[])) (sl (pa5 y) (sl (!t2) (some (i 0,[])) (sl (Y7 t3 x.b) (some (i t4,[])) none)) none)) none)
noncomputable def K3(x:Pln)(y:V3):Int:=W0 (one r1I) (Ca6 x y)
noncomputable def S5(x:Pln)(y:V3):Bool:=okO (one r1I) (Ca6 x y)
noncomputable def ta4:Sum:=Ga1 (W9 tP) (W9 tV) (λx y=>.guard (S5 x y) (.ret ((one r1I).enc (K3 x y),[])))
theorem va1:i5 prog G 30 ta4:=Wb5 (bd b30 wc5) (one r1I) (o:=Ca6) λx y=>C8 (by kernel_rfl)
structure Ja1 where
 (ia3 ia4 ia5 e7 d9 g7 j9:Int)
noncomputable def wc6:List (Nat×Sum):=[(30,ta4)]
theorem ic9:k9 prog G wc6:=⟨va1,trivial⟩
structure Ja2 where
 alt:Nat
 bs0:Bool
noncomputable def ma5{α:Type}(kk:Ja2->α)(x:Ja1):α:=let t1:=(K3 (⟨(⟨x.e7,x.d9,x.g7⟩:V3),x.j9⟩:Pln) (⟨x.ia3,x.ia4,x.ia5⟩:V3));(sl (S5 (⟨(⟨x.e7,x.d9,x.g7⟩:V3),x.j9⟩:Pln) (⟨x.ia3,x.ia4,x.ia5⟩:V3)) (kk ⟨1,t1 != 0⟩) (kk ⟨0,false⟩))
noncomputable def Ja3(x:Ja1):Ja2:=ma5 (λr=>r) x
noncomputable def Va3(x:Ja1)(r:Ja2):DT (b7×List c8):=(.ite (Nat.beq r.alt 1) (.ret (b r.bs0,[⟨0,4,[[i x.e7,i x.d9,i x.g7,i x.j9]],true,false,0⟩])) .fail)
theorem Fc7{α β:Type}(F:α->β)(kk:Ja2->α)(x:Ja1):F (ma5 kk x)=ma5 (λr=>F (kk r)) x:=by unfold ma5;(repeat' apply u7 (f:=F))<;>rfl
noncomputable def Eb2:Sum:=kb7 ⟨[.agg (kLq 3),sPq 0],[⟨0,4,true,some [kLq 4]⟩],λa H=>(⟨cIq a 0 0,cIq a 0 1,cIq a 0 2,hIq H 0 0 0,hIq H 0 0 1,hIq H 0 0 2,hIq H 0 0 3⟩,())⟩ (λx=>Va3 x (Ja3 x))
theorem wc7:i5 prog G 94 Eb2:=ba4 (enc:=λx=>⟨[.agg [i x.ia3,i x.ia4,i x.ia5],.ptr 0 0 0 0],[⟨0,4,[[i x.e7,i x.d9,i x.g7,i x.j9]],true,false,0⟩]⟩) (λa H=>by kernel_rfl) (bd b94 ic9) λx=>C8 (Qhd (b:=ma5 (λr=>(Va3 x r).run) x) (by kernel_rfl) (Fc7 (λr=>(Va3 x r).run) (λr=>r) x).symm)
structure T8 where
 j5:List V3
 (e7 d9 g7 j9:Int)
noncomputable def va2:List (Nat×Sum):=[(94,Eb2)]
theorem Ya0:k9 prog G va2:=⟨wc7,trivial⟩
structure I1 where
 j5:List V3
 (is7 e7 d9 g7 j9:Int)
structure n7 where
 is8:Int
noncomputable def pa6(p:I1)(s:n7):St:=⟨eL tV p.j5::.fn 94 [.ptr 0 0 0 0]::ra 5 (i p.is7::i s.is8::ra 10 []),[⟨0,4,[[i p.e7,i p.d9,i p.g7,i p.j9]],true,false,0⟩]⟩
noncomputable def D5{α:Type}(k:n7->α)(e:Nat->α)(z:α)(p:I1)(s:n7):α:=let t1:=(Ja3 ⟨(gL tV p.j5 s.is8.toNat).x,(gL tV p.j5 s.is8.toNat).y,(gL tV p.j5 s.is8.toNat).z,p.e7,p.d9,p.g7,p.j9⟩);(sl (decide (s.is8<p.is7)) (sl (inB s.is8 (List.length p.j5)) (sl (Nat.beq t1.alt 1) (sl t1.bs0 (e 1) (k ⟨W (s.is8+1)⟩)) z) z) (e 2))
noncomputable def E9(p:I1)(s:n7):Stp n7:=D5 .next .exit .fail p s
noncomputable def ba8:Lo I1 n7:=⟨En va2,1,Sd1,[1,0,1,4,4],[0,1,7,8],.p,[⟨sLq tV::.fn 94 [.o (.ptr 0 0 0 0)]::ru2 5 (sIq::sIq::ru2 10 []),[⟨0,4,true,some [kLq 4]⟩],λa H=>(⟨aLq tV a 0,aIq a 7,hIq H 0 0 0,hIq H 0 0 1,hIq H 0 0 2,hIq H 0 0 3⟩,⟨aIq a 8⟩)⟩],E9,[(none,λp s=>⟨[i s.is8],[⟨0,4,[[i p.e7,i p.d9,i p.g7,i p.j9]],true,false,0⟩]⟩),(some 0,λp s=>upq (pa6 p s) [(9,b (decide (s.is8<p.is7)))])],pa6⟩
theorem Va4:ba8.Ok:=Lo.ok [] (by kernel_rfl) .nil rfl (.cons (λa H=>by kernel_rfl) .nil) λp s=>(.of @D5 (λF _ _ _ _ _=>by unfold D5;(repeat' apply u7 (f:=F))<;>rfl) (by kernel_rfl))
structure T9 where
 alt:Nat
 is0:Int
noncomputable def E2{α:Type}(kk:T9->α)(x:T8):α:=let t1:=(lp (E9 (⟨rt tV x.j5,(↑(List.length x.j5):Int),x.e7,x.d9,x.g7,x.j9⟩:I1)) (⟨0⟩:n7));(sl ((cnE tV x.j5)&&true) (sl (Nat.beq t1.1 1) (kk ⟨1,t1.2.is8⟩) (sl (Nat.beq t1.1 2) (kk ⟨1,-1⟩) (kk ⟨0,0⟩))) (kk ⟨0,0⟩))
noncomputable def U0(x:T8):T9:=E2 (λr=>r) x
noncomputable def ea9(x:T8)(r:T9):DT (b7×List c8):=(.ite (Nat.beq r.alt 1) (.ret (i r.is0,[⟨0,4,[[i x.e7,i x.d9,i x.g7,i x.j9]],true,false,0⟩])) .fail)
theorem gb2{α β:Type}(F:α->β)(kk:T9->α)(x:T8):F (E2 kk x)=E2 (λr=>F (kk r)) x:=by unfold E2;(repeat' apply u7 (f:=F))<;>rfl
noncomputable def za6:Sum:=kb7 ⟨[sLq tV,.fn 94 [.o (.ptr 0 0 0 0)]],[⟨0,4,true,some [kLq 4]⟩],λa H=>(⟨aLq tV a 0,hIq H 0 0 0,hIq H 0 0 1,hIq H 0 0 2,hIq H 0 0 3⟩,())⟩ (λx=>ea9 x (U0 x))
theorem cb7:i5 prog G 88 za6:=ba4 (enc:=λx=>⟨[eL tV x.j5,.fn 94 [.ptr 0 0 0 0]],[⟨0,4,[[i x.e7,i x.d9,i x.g7,i x.j9]],true,false,0⟩]⟩) (λa H=>by kernel_rfl) (bd b88 Ya0) λx=>fb5 (.s .p (.s (.s .p (.b (.u ba8.ls))) .p)) [ba8.pr] (by kernel_rfl) (.cons Va4 .nil) (Qhd (b:=E2 (λr=>(ea9 x r).run) x) (by kernel_rfl) (gb2 (λr=>(ea9 x r).run) (λr=>r) x).symm)
structure M5 where
 j5:List V3
 (e7 d9 g7 j9:Int)
noncomputable def Pa3:List (Nat×Sum):=[(88,za6)]
theorem Ma6:k9 prog G Pa3:=⟨cb7,trivial⟩
structure M6 where
 alt:Nat
 bs0:Bool
noncomputable def A1{α:Type}(kk:M6->α)(x:M5):α:=let t1:=(U0 ⟨rt tV x.j5,x.e7,x.d9,x.g7,x.j9⟩);(sl ((cnE tV x.j5)&&true) (sl (Nat.beq t1.alt 1) (kk ⟨1,decide (t1.is0>=0)⟩) (kk ⟨0,false⟩)) (kk ⟨0,false⟩))
noncomputable def p7(x:M5):M6:=A1 (λr=>r) x
noncomputable def X8(x:M5)(r:M6):DT (b7×List c8):=(.ite (Nat.beq r.alt 1) (.ret (b r.bs0,[⟨0,4,[[i x.e7,i x.d9,i x.g7,i x.j9]],true,false,0⟩])) .fail)
theorem Va5{α β:Type}(F:α->β)(kk:M6->α)(x:M5):F (A1 kk x)=A1 (λr=>F (kk r)) x:=by unfold A1;(repeat' apply u7 (f:=F))<;>rfl
noncomputable def pa7:Sum:=kb7 ⟨[sLq tV,.fn 94 [.o (.ptr 0 0 0 0)]],[⟨0,4,true,some [kLq 4]⟩],λa H=>(⟨aLq tV a 0,hIq H 0 0 0,hIq H 0 0 1,hIq H 0 0 2,hIq H 0 0 3⟩,())⟩ (λx=>X8 x (p7 x))
theorem Pa4:i5 prog G 70 pa7:=ba4 (enc:=λx=>⟨[eL tV x.j5,.fn 94 [.ptr 0 0 0 0]],[⟨0,4,[[i x.e7,i x.d9,i x.g7,i x.j9]],true,false,0⟩]⟩) (λa H=>by kernel_rfl) (bd b70 Ma6) λx=>C8 (Qhd (b:=A1 (λr=>(X8 x r).run) x) (by kernel_rfl) (Va5 (λr=>(X8 x r).run) (λr=>r) x).symm)
noncomputable def ob6:List (Nat×Sum):=[]
theorem Yb4:k9 prog G ob6:=trivial
@[reducible] noncomputable def ha6:Sum:=Lb6 (En ob6) Ie1
theorem ka9:i5 prog G 46 ha6:=bd b46 Yb4
noncomputable def Pa5:List (Nat×Sum):=[(77,Ma5),(70,pa7),(46,ha6)]
theorem Fc8:k9 prog G Pa5:=⟨gb1,Pa4,ka9,trivial⟩
structure Y8 where
 (is3 is4 is9 w7 fa6 l9 nc5:Int)
 (d7 f7:List V3)
structure G4 where
 C0:Int
noncomputable def ub9(p:Y8)(s:G4):St:=⟨.unk::.ptr 0 0 0 0::.unk::i p.is3::i p.is4::ra 4 (i p.is9::i p.w7::ra 5 (i p.fa6::i p.l9::ra 5 (i p.nc5::i s.C0::ra 35 (i 0::.unk::.ptr 1 0 0 0::.ptr 2 0 0 0::ra 8 [])))),[⟨0,1,[[eL tV p.d7]],true,false,0⟩,⟨0,1,[[eL tV p.f7]],true,false,0⟩,⟨0,1,[[b false]],true,false,0⟩]⟩
noncomputable def la0{α:Type}(k:G4->α)(e:Nat->α)(z:α)(p:Y8)(s:G4):α:=let t1:=(G3 (gL tV p.d7 s.C0.toNat) (gL tV p.d7 p.is4.toNat) (gL tV p.d7 p.is3.toNat));let t2:=(p7 ⟨rt tV p.f7,t1.1.n.x,t1.1.n.y,t1.1.n.z,t1.1.b⟩);(sl (decide (s.C0<p.nc5)) (sl (inB s.C0 (List.length p.d7)) (sl (inB p.is4 (List.length p.d7)) (sl (inB p.is3 (List.length p.d7)) (sl (ca9 (gL tV p.d7 s.C0.toNat) (gL tV p.d7 p.is4.toNat) (gL tV p.d7 p.is3.toNat)) (sl t1.2 (sl t1.2 (sl ((cnE tV p.f7)&&true) (sl (Nat.beq t2.alt 1) (e 1) z) z) (k ⟨W (s.C0+1)⟩)) (sl t1.2 z (k ⟨W (s.C0+1)⟩))) z) z) z) z) (e 2))
noncomputable def M7(p:Y8)(s:G4):Stp G4:=la0 .next .exit .fail p s
noncomputable def cb8:Lo Y8 G4:=⟨En Pa5,0,ie7,[1,0,1,4,4,1,4,4,1,1,0,4,1,1,4,4,1,1,0,4,1,1,4,4],[1,3,4,9,10,16,17,23,24,60,62,63],.p,[⟨sUq::sPq 0::sUq::sIq::sIq::ru2 4 (sIq::sIq::ru2 5 (sIq::sIq::ru2 5 (sIq::sIq::ru2 35 (.s (.o (.lit .i64 0))::sUq::sPq 1::sPq 2::ru2 8 [])))),[⟨0,1,true,some [[.c 3 (nL tV)]]⟩,⟨0,1,true,some [[.c 3 (nL tV)]]⟩,⟨0,1,true,some [[.o (.blit false)]]⟩],λa H=>(⟨aIq a 3,aIq a 4,aIq a 9,aIq a 10,aIq a 16,aIq a 17,aIq a 23,hLq tV H 0 0 0,hLq tV H 1 0 0⟩,⟨aIq a 24⟩)⟩],M7,[(none,λp s=>let t1:=(G3 (gL tV p.d7 s.C0.toNat) (gL tV p.d7 p.is4.toNat) (gL tV p.d7 p.is3.toNat));let t2:=(p7 ⟨rt tV p.f7,t1.1.n.x,t1.1.n.y,t1.1.n.z,t1.1.b⟩);⟨.unk::.ptr 0 0 0 0::.unk::i p.is3::i p.is4::i s.C0::.ptr 3 0 0 0::b t1.2::.unk::i p.is9::i p.w7::ra 5 (i p.fa6::i p.l9::ra 5 (i p.nc5::i s.C0::b (decide (s.C0<p.nc5))::i s.C0::.tup [.agg [i t1.1.n.x,i t1.1.n.y,i t1.1.n.z,i t1.1.b],b t1.2]::eL tV p.d7::i s.C0::.tptr [i (gL tV p.d7 s.C0.toNat).x,i (gL tV p.d7 s.C0.toNat).y,i (gL tV p.d7 s.C0.toNat).z]::.agg [i (gL tV p.d7 s.C0.toNat).x,i (gL tV p.d7 s.C0.toNat).y,i (gL tV p.d7 s.C0.toNat).z]::eL tV p.d7::i p.is4::.tptr [i (gL tV p.d7 p.is4.toNat).x,i (gL tV p.d7 p.is4.toNat).y,i (gL tV p.d7 p.is4.toNat).z]::.agg [i (gL tV p.d7 p.is4.toNat).x,i (gL tV p.d7 p.is4.toNat).y,i (gL tV p.d7 p.is4.toNat).z]::eL tV p.d7::i p.is3::.tptr [i (gL tV p.d7 p.is3.toNat).x,i (gL tV p.d7 p.is3.toNat).y,i (gL tV p.d7 p.is3.toNat).z]::.agg [i (gL tV p.d7 p.is3.toNat).x,i (gL tV p.d7 p.is3.toNat).y,i (gL tV p.d7 p.is3.toNat).z]::.tup [.agg [i t1.1.n.x,i t1.1.n.y,i t1.1.n.z,i t1.1.b],b t1.2]::.agg [i t1.1.n.x,i t1.1.n.y,i t1.1.n.z,i t1.1.b]::b t1.2::b t1.2::b true::.unk::.agg [i t1.1.n.x,i t1.1.n.y,i t1.1.n.z,i t1.1.b]::b false::b true::b true::.unk::u::u::u::u::b true::b true::ra 3 (i 1::.unk::.ptr 1 0 0 0::.ptr 2 0 0 0::ra 8 []))),[⟨0,1,[[eL tV p.d7]],true,false,0⟩,⟨0,1,[[eL tV p.f7]],true,false,0⟩,⟨0,1,[[b (!t2.bs0)]],true,false,0⟩,⟨0,4,[[i t1.1.n.x,i t1.1.n.y,i t1.1.n.z,i t1.1.b]],true,false,0⟩,⟨0,4,[[i t1.1.n.x,i t1.1.n.y,i t1.1.n.z,i t1.1.b]],true,false,0⟩]⟩),(some 4,λp s=>upq (ub9 p s) [(25,b (decide (s.C0<p.nc5)))])],ub9⟩
theorem wc8:cb8.OkM:=Lo.okM [] (by kernel_rfl) .nil rfl (.cons (λa H=>by kernel_rfl) .nil) λp s=>(.of @la0 (λF _ _ _ _ _=>by unfold la0;(repeat' apply u7 (f:=F))<;>rfl) (by kernel_rfl))
structure fa0 where
 (is3 is9 w7 fa6:Int)
structure J7 where
 l9:Int
 (d7 f7:List V3)
noncomputable def vb0(p:fa0)(s:J7):St:=⟨.unk::.ptr 0 0 0 0::.unk::i p.is3::ra 5 (i p.is9::i p.w7::ra 5 (i p.fa6::i s.l9::ra 42 (i 0::.unk::.ptr 1 0 0 0::.ptr 2 0 0 0::ra 8 []))),[⟨0,1,[[eL tV s.d7]],true,false,0⟩,⟨0,1,[[eL tV s.f7]],true,false,0⟩,⟨0,1,[[b false]],true,false,0⟩]⟩
noncomputable def la1{α:Type}(k:J7->α)(e:Nat->α)(z:α)(p:fa0)(s:J7):α:=let t1:=(lp (M7 (⟨p.is3,s.l9,p.is9,p.w7,p.fa6,s.l9,(↑(s.l9.toNat-0):Int),rt tV s.d7,rt tV s.f7⟩:Y8)) (⟨0⟩:G4));(sl (decide (s.l9<p.fa6)) (sl (inB s.l9 ((List.length s.d7)+1)) (sl ((cnE tV s.d7)&&((cnE tV s.f7)&&true)) (sl (Nat.beq t1.1 1) (e 1) (sl (Nat.beq t1.1 2) (k ⟨W (s.l9+1),rt tV s.d7,rt tV s.f7⟩) z)) z) z) (e 2))
noncomputable def T3(p:fa0)(s:J7):Stp J7:=la1 .next .exit .fail p s
noncomputable def cb9:Lo fa0 J7:=⟨En Pa5,0,ie7,[1,0,1,4,4,1,4,4,1,1,0,4,1,1,4,4],[1,3,9,10,16,17,60,62,63],.s .p (.s .p (.s (.b (.s .p (.s .p (.b (.u cb8.lsM))))) .p)),[⟨sUq::sPq 0::sUq::sIq::ru2 5 (sIq::sIq::ru2 5 (sIq::sIq::ru2 42 (.s (.o (.lit .i64 0))::sUq::sPq 1::sPq 2::ru2 8 []))),[⟨0,1,true,some [[.c 3 (nL tV)]]⟩,⟨0,1,true,some [[.c 3 (nL tV)]]⟩,⟨0,1,true,some [[.o (.blit false)]]⟩],λa H=>(⟨aIq a 3,aIq a 9,aIq a 10,aIq a 16⟩,⟨aIq a 17,hLq tV H 0 0 0,hLq tV H 1 0 0⟩)⟩],T3,[(none,λp s=>let t1:=(lp (M7 (⟨p.is3,s.l9,p.is9,p.w7,p.fa6,s.l9,(↑(s.l9.toNat-0):Int),rt tV s.d7,rt tV s.f7⟩:Y8)) (⟨0⟩:G4));let t2:=(G3 (gL tV (rt tV s.d7) t1.2.C0.toNat) (gL tV (rt tV s.d7) s.l9.toNat) (gL tV (rt tV s.d7) p.is3.toNat));let t3:=(p7 ⟨rt tV (rt tV s.f7),t2.1.n.x,t2.1.n.y,t2.1.n.z,t2.1.b⟩);⟨.unk::.ptr 0 0 0 0::.unk::i p.is3::i s.l9::i t1.2.C0::.ptr 3 0 0 0::b t2.2::.unk::i p.is9::i p.w7::ra 5 (i p.fa6::i s.l9::ra 5 (i (↑(s.l9.toNat-0):Int)::i t1.2.C0::b (decide (t1.2.C0<(↑(s.l9.toNat-0):Int)))::i t1.2.C0::.tup [.agg [i t2.1.n.x,i t2.1.n.y,i t2.1.n.z,i t2.1.b],b t2.2]::eL tV (rt tV s.d7)::i t1.2.C0::.tptr [i (gL tV (rt tV s.d7) t1.2.C0.toNat).x,i (gL tV (rt tV s.d7) t1.2.C0.toNat).y,i (gL tV (rt tV s.d7) t1.2.C0.toNat).z]::.agg [i (gL tV (rt tV s.d7) t1.2.C0.toNat).x,i (gL tV (rt tV s.d7) t1.2.C0.toNat).y,i (gL tV (rt tV s.d7) t1.2.C0.toNat).z]::eL tV (rt tV s.d7)::i s.l9::.tptr [i (gL tV (rt tV s.d7) s.l9.toNat).x,i (gL tV (rt tV s.d7) s.l9.toNat).y,i (gL tV (rt tV s.d7) s.l9.toNat).z]::.agg [i (gL tV (rt tV s.d7) s.l9.toNat).x,i (gL tV (rt tV s.d7) s.l9.toNat).y,i (gL tV (rt tV s.d7) s.l9.toNat).z]::eL tV (rt tV s.d7)::i p.is3::.tptr [i (gL tV (rt tV s.d7) p.is3.toNat).x,i (gL tV (rt tV s.d7) p.is3.toNat).y,i (gL tV (rt tV s.d7) p.is3.toNat).z]::.agg [i (gL tV (rt tV s.d7) p.is3.toNat).x,i (gL tV (rt tV s.d7) p.is3.toNat).y,i (gL tV (rt tV s.d7) p.is3.toNat).z]::.tup [.agg [i t2.1.n.x,i t2.1.n.y,i t2.1.n.z,i t2.1.b],b t2.2]::.agg [i t2.1.n.x,i t2.1.n.y,i t2.1.n.z,i t2.1.b]::b t2.2::b t2.2::b true::.unk::.agg [i t2.1.n.x,i t2.1.n.y,i t2.1.n.z,i t2.1.b]::b false::b true::b true::.unk::u::u::u::u::b true::b true::ra 3 (i 1::.unk::.ptr 1 0 0 0::.ptr 2 0 0 0::ra 8 []))),[⟨0,1,[[eL tV (rt tV s.d7)]],true,false,0⟩,⟨0,1,[[eL tV (rt tV s.f7)]],true,false,0⟩,⟨0,1,[[b (!t3.bs0)]],true,false,0⟩,⟨0,4,[[i t2.1.n.x,i t2.1.n.y,i t2.1.n.z,i t2.1.b]],true,false,0⟩,⟨0,4,[[i t2.1.n.x,i t2.1.n.y,i t2.1.n.z,i t2.1.b]],true,false,0⟩]⟩),(some 2,λp s=>upq (vb0 p s) [(18,b (decide (s.l9<p.fa6)))])],vb0⟩
theorem wc9:cb9.OkM:=Lo.okM [cb8.prM] (by kernel_rfl) (.cons wc8 .nil) rfl (.cons (λa H=>by kernel_rfl) .nil) λp s=>(.of @la1 (λF _ _ _ _ _=>by unfold la1;(repeat' apply u7 (f:=F))<;>rfl) (by kernel_rfl))
structure va3 where
 is9:Int
structure S6 where
 w7:Int
 (d7 f7:List V3)
noncomputable def vb1(p:va3)(s:S6):St:=⟨.unk::.ptr 0 0 0 0::ra 7 (i p.is9::i s.w7::ra 49 (i 0::.unk::.ptr 1 0 0 0::.ptr 2 0 0 0::ra 8 [])),[⟨0,1,[[eL tV s.d7]],true,false,0⟩,⟨0,1,[[eL tV s.f7]],true,false,0⟩,⟨0,1,[[b false]],true,false,0⟩]⟩
noncomputable def la2{α:Type}(k:S6->α)(e:Nat->α)(z:α)(p:va3)(s:S6):α:=let t1:=(lp (T3 (⟨s.w7,p.is9,s.w7,(↑(s.w7.toNat-0):Int)⟩:fa0)) (⟨0,rt tV s.d7,rt tV s.f7⟩:J7));(sl (decide (s.w7<p.is9)) (sl (inB s.w7 ((List.length s.d7)+1)) (sl ((cnE tV s.d7)&&((cnE tV s.f7)&&true)) (sl (Nat.beq t1.1 1) (e 1) (sl (Nat.beq t1.1 2) (k ⟨W (s.w7+1),t1.2.d7,t1.2.f7⟩) z)) z) z) (e 2))
noncomputable def ha7(p:va3)(s:S6):Stp S6:=la2 .next .exit .fail p s
noncomputable def db0:Lo va3 S6:=⟨En Pa5,0,ie7,[1,0,1,4,4,1,4,4],[1,9,10,60,62,63],.s .p (.s .p (.s (.b (.s .p (.s .p (.b (.u cb9.lsM))))) .p)),[⟨sUq::sPq 0::ru2 7 (sIq::sIq::ru2 49 (.s (.o (.lit .i64 0))::sUq::sPq 1::sPq 2::ru2 8 [])),[⟨0,1,true,some [[.c 3 (nL tV)]]⟩,⟨0,1,true,some [[.c 3 (nL tV)]]⟩,⟨0,1,true,some [[.o (.blit false)]]⟩],λa H=>(⟨aIq a 9⟩,⟨aIq a 10,hLq tV H 0 0 0,hLq tV H 1 0 0⟩)⟩],ha7,[(none,λp s=>let t1:=(lp (T3 (⟨s.w7,p.is9,s.w7,(↑(s.w7.toNat-0):Int)⟩:fa0)) (⟨0,rt tV s.d7,rt tV s.f7⟩:J7));let t2:=(lp (M7 (⟨s.w7,t1.2.l9,p.is9,s.w7,(↑(s.w7.toNat-0):Int),t1.2.l9,(↑(t1.2.l9.toNat-0):Int),rt tV t1.2.d7,rt tV t1.2.f7⟩:Y8)) (⟨0⟩:G4));let t3:=(G3 (gL tV (rt tV t1.2.d7) t2.2.C0.toNat) (gL tV (rt tV t1.2.d7) t1.2.l9.toNat) (gL tV (rt tV t1.2.d7) s.w7.toNat));let t4:=(p7 ⟨rt tV (rt tV t1.2.f7),t3.1.n.x,t3.1.n.y,t3.1.n.z,t3.1.b⟩);⟨.unk::.ptr 0 0 0 0::.unk::i s.w7::i t1.2.l9::i t2.2.C0::.ptr 3 0 0 0::b t3.2::.unk::i p.is9::i s.w7::ra 5 (i (↑(s.w7.toNat-0):Int)::i t1.2.l9::ra 5 (i (↑(t1.2.l9.toNat-0):Int)::i t2.2.C0::b (decide (t2.2.C0<(↑(t1.2.l9.toNat-0):Int)))::i t2.2.C0::.tup [.agg [i t3.1.n.x,i t3.1.n.y,i t3.1.n.z,i t3.1.b],b t3.2]::eL tV (rt tV t1.2.d7)::i t2.2.C0::.tptr [i (gL tV (rt tV t1.2.d7) t2.2.C0.toNat).x,i (gL tV (rt tV t1.2.d7) t2.2.C0.toNat).y,i (gL tV (rt tV t1.2.d7) t2.2.C0.toNat).z]::.agg [i (gL tV (rt tV t1.2.d7) t2.2.C0.toNat).x,i (gL tV (rt tV t1.2.d7) t2.2.C0.toNat).y,i (gL tV (rt tV t1.2.d7) t2.2.C0.toNat).z]::eL tV (rt tV t1.2.d7)::i t1.2.l9::.tptr [i (gL tV (rt tV t1.2.d7) t1.2.l9.toNat).x,i (gL tV (rt tV t1.2.d7) t1.2.l9.toNat).y,i (gL tV (rt tV t1.2.d7) t1.2.l9.toNat).z]::.agg [i (gL tV (rt tV t1.2.d7) t1.2.l9.toNat).x,i (gL tV (rt tV t1.2.d7) t1.2.l9.toNat).y,i (gL tV (rt tV t1.2.d7) t1.2.l9.toNat).z]::eL tV (rt tV t1.2.d7)::i s.w7::.tptr [i (gL tV (rt tV t1.2.d7) s.w7.toNat).x,i (gL tV (rt tV t1.2.d7) s.w7.toNat).y,i (gL tV (rt tV t1.2.d7) s.w7.toNat).z]::.agg [i (gL tV (rt tV t1.2.d7) s.w7.toNat).x,i (gL tV (rt tV t1.2.d7) s.w7.toNat).y,i (gL tV (rt tV t1.2.d7) s.w7.toNat).z]::.tup [.agg [i t3.1.n.x,i t3.1.n.y,i t3.1.n.z,i t3.1.b],b t3.2]::.agg [i t3.1.n.x,i t3.1.n.y,i t3.1.n.z,i t3.1.b]::b t3.2::b t3.2::b true::.unk::.agg [i t3.1.n.x,i t3.1.n.y,i t3.1.n.z,i t3.1.b]::b false::b true::b true::.unk::u::u::u::u::b true::b true::ra 3 (i 1::.unk::.ptr 1 0 0 0::.ptr 2 0 0 0::ra 8 []))),[⟨0,1,[[eL tV (rt tV t1.2.d7)]],true,false,0⟩,⟨0,1,[[eL tV (rt tV t1.2.f7)]],true,false,0⟩,⟨0,1,[[b (!t4.bs0)]],true,false,0⟩,⟨0,4,[[i t3.1.n.x,i t3.1.n.y,i t3.1.n.z,i t3.1.b]],true,false,0⟩,⟨0,4,[[i t3.1.n.x,i t3.1.n.y,i t3.1.n.z,i t3.1.b]],true,false,0⟩]⟩),(some 0,λp s=>upq (vb1 p s) [(11,b (decide (s.w7<p.is9)))])],vb1⟩
theorem xc0:db0.OkM:=Lo.okM [cb9.prM] (by kernel_rfl) (.cons wc9 .nil) rfl (.cons (λa H=>by kernel_rfl) .nil) λp s=>(.of @la2 (λF _ _ _ _ _=>by unfold la2;(repeat' apply u7 (f:=F))<;>rfl) (by kernel_rfl))
noncomputable def La0(x:List V3):Option (b7×List c8):=let t1:=(lp (ha7 (⟨(↑(List.length x):Int)⟩:va3)) (⟨0,rt tV x,rt tV x⟩:S6));let t2:=(lp (T3 (⟨t1.2.w7,(↑(List.length x):Int),t1.2.w7,(↑(t1.2.w7.toNat-0):Int)⟩:fa0)) (⟨0,rt tV t1.2.d7,rt tV t1.2.f7⟩:J7));let t3:=(lp (M7 (⟨t1.2.w7,t2.2.l9,(↑(List.length x):Int),t1.2.w7,(↑(t1.2.w7.toNat-0):Int),t2.2.l9,(↑(t2.2.l9.toNat-0):Int),rt tV t2.2.d7,rt tV t2.2.f7⟩:Y8)) (⟨0⟩:G4));let t4:=(G3 (gL tV (rt tV t2.2.d7) t3.2.C0.toNat) (gL tV (rt tV t2.2.d7) t2.2.l9.toNat) (gL tV (rt tV t2.2.d7) t1.2.w7.toNat));let t5:=(p7 ⟨rt tV (rt tV t2.2.f7),t4.1.n.x,t4.1.n.y,t4.1.n.z,t4.1.b⟩);(sl ((cnE tV x)&&((cnE tV x)&&true)) (sl (Nat.beq t1.1 1) (some (b (!t5.bs0),[])) (sl (Nat.beq t1.1 2) (some (b true,[])) none)) none)
noncomputable def ab1(x:List V3):Bool:=W0 (one r1B) (La0 x)
noncomputable def ab2(x:List V3):Bool:=okO (one r1B) (La0 x)
noncomputable def fc7:Sum:=L9 (ya3 tV) (λx=>.guard (ab2 x) (.ret ((one r1B).enc (ab1 x),[])))
theorem Tc3:i5 prog G 71 fc7:=Ga2 (bd b71 Fc8) (one r1B) (o:=La0) λx=>Lc0 (.s .p (.s (.s .p (.b (.i (.s .p (.b (.u db0.lsM)))))) .p)) [db0.prM] (by kernel_rfl) (.cons xc0 .nil) (by kernel_rfl)
structure xa1 where
 (ia3 ia4 ia5 e7 d9 g7 j9:Int)
noncomputable def Yb5:List (Nat×Sum):=[(30,ta4)]
theorem Qb6:k9 prog G Yb5:=⟨va1,trivial⟩
structure xa2 where
 alt:Nat
 bs0:Bool
noncomputable def da0{α:Type}(kk:xa2->α)(x:xa1):α:=let t1:=(K3 (⟨(⟨x.e7,x.d9,x.g7⟩:V3),x.j9⟩:Pln) (⟨x.ia3,x.ia4,x.ia5⟩:V3));(sl (S5 (⟨(⟨x.e7,x.d9,x.g7⟩:V3),x.j9⟩:Pln) (⟨x.ia3,x.ia4,x.ia5⟩:V3)) (kk ⟨1,decide (t1>0)⟩) (kk ⟨0,false⟩))
noncomputable def xa3(x:xa1):xa2:=da0 (λr=>r) x
noncomputable def Ha0(x:xa1)(r:xa2):DT (b7×List c8):=(.ite (Nat.beq r.alt 1) (.ret (b r.bs0,[⟨0,4,[[i x.e7,i x.d9,i x.g7,i x.j9]],true,false,0⟩])) .fail)
theorem jc0{α β:Type}(F:α->β)(kk:xa2->α)(x:xa1):F (da0 kk x)=da0 (λr=>F (kk r)) x:=by unfold da0;(repeat' apply u7 (f:=F))<;>rfl
noncomputable def ob7:Sum:=kb7 ⟨[.agg (kLq 3),sPq 0],[⟨0,4,true,some [kLq 4]⟩],λa H=>(⟨cIq a 0 0,cIq a 0 1,cIq a 0 2,hIq H 0 0 0,hIq H 0 0 1,hIq H 0 0 2,hIq H 0 0 3⟩,())⟩ (λx=>Ha0 x (xa3 x))
theorem Yb6:i5 prog G 79 ob7:=ba4 (enc:=λx=>⟨[.agg [i x.ia3,i x.ia4,i x.ia5],.ptr 0 0 0 0],[⟨0,4,[[i x.e7,i x.d9,i x.g7,i x.j9]],true,false,0⟩]⟩) (λa H=>by kernel_rfl) (bd b79 Qb6) λx=>C8 (Qhd (b:=da0 (λr=>(Ha0 x r).run) x) (by kernel_rfl) (jc0 (λr=>(Ha0 x r).run) (λr=>r) x).symm)
structure U1 where
 j5:List V3
 (e7 d9 g7 j9:Int)
noncomputable def va4:List (Nat×Sum):=[(79,ob7)]
theorem Ya1:k9 prog G va4:=⟨Yb6,trivial⟩
structure I4 where
 j5:List V3
 (is7 e7 d9 g7 j9:Int)
structure n8 where
 is8:Int
noncomputable def pa8(p:I4)(s:n8):St:=⟨eL tV p.j5::.fn 79 [.ptr 0 0 0 0]::ra 5 (i p.is7::i s.is8::ra 10 []),[⟨0,4,[[i p.e7,i p.d9,i p.g7,i p.j9]],true,false,0⟩]⟩
noncomputable def D6{α:Type}(k:n8->α)(e:Nat->α)(z:α)(p:I4)(s:n8):α:=let t1:=(xa3 ⟨(gL tV p.j5 s.is8.toNat).x,(gL tV p.j5 s.is8.toNat).y,(gL tV p.j5 s.is8.toNat).z,p.e7,p.d9,p.g7,p.j9⟩);(sl (decide (s.is8<p.is7)) (sl (inB s.is8 (List.length p.j5)) (sl (Nat.beq t1.alt 1) (sl t1.bs0 (e 1) (k ⟨W (s.is8+1)⟩)) z) z) (e 2))
noncomputable def F4(p:I4)(s:n8):Stp n8:=D6 .next .exit .fail p s
noncomputable def ba9:Lo I4 n8:=⟨En va4,1,Sd1,[1,0,1,4,4],[0,1,7,8],.p,[⟨sLq tV::.fn 79 [.o (.ptr 0 0 0 0)]::ru2 5 (sIq::sIq::ru2 10 []),[⟨0,4,true,some [kLq 4]⟩],λa H=>(⟨aLq tV a 0,aIq a 7,hIq H 0 0 0,hIq H 0 0 1,hIq H 0 0 2,hIq H 0 0 3⟩,⟨aIq a 8⟩)⟩],F4,[(none,λp s=>⟨[i s.is8],[⟨0,4,[[i p.e7,i p.d9,i p.g7,i p.j9]],true,false,0⟩]⟩),(some 0,λp s=>upq (pa8 p s) [(9,b (decide (s.is8<p.is7)))])],pa8⟩
theorem Va6:ba9.Ok:=Lo.ok [] (by kernel_rfl) .nil rfl (.cons (λa H=>by kernel_rfl) .nil) λp s=>(.of @D6 (λF _ _ _ _ _=>by unfold D6;(repeat' apply u7 (f:=F))<;>rfl) (by kernel_rfl))
structure U2 where
 alt:Nat
 is0:Int
noncomputable def E3{α:Type}(kk:U2->α)(x:U1):α:=let t1:=(lp (F4 (⟨rt tV x.j5,(↑(List.length x.j5):Int),x.e7,x.d9,x.g7,x.j9⟩:I4)) (⟨0⟩:n8));(sl ((cnE tV x.j5)&&true) (sl (Nat.beq t1.1 1) (kk ⟨1,t1.2.is8⟩) (sl (Nat.beq t1.1 2) (kk ⟨1,-1⟩) (kk ⟨0,0⟩))) (kk ⟨0,0⟩))
noncomputable def U3(x:U1):U2:=E3 (λr=>r) x
noncomputable def fa1(x:U1)(r:U2):DT (b7×List c8):=(.ite (Nat.beq r.alt 1) (.ret (i r.is0,[⟨0,4,[[i x.e7,i x.d9,i x.g7,i x.j9]],true,false,0⟩])) .fail)
theorem gb3{α β:Type}(F:α->β)(kk:U2->α)(x:U1):F (E3 kk x)=E3 (λr=>F (kk r)) x:=by unfold E3;(repeat' apply u7 (f:=F))<;>rfl
noncomputable def za7:Sum:=kb7 ⟨[sLq tV,.fn 79 [.o (.ptr 0 0 0 0)]],[⟨0,4,true,some [kLq 4]⟩],λa H=>(⟨aLq tV a 0,hIq H 0 0 0,hIq H 0 0 1,hIq H 0 0 2,hIq H 0 0 3⟩,())⟩ (λx=>fa1 x (U3 x))
theorem db1:i5 prog G 88 za7:=ba4 (enc:=λx=>⟨[eL tV x.j5,.fn 79 [.ptr 0 0 0 0]],[⟨0,4,[[i x.e7,i x.d9,i x.g7,i x.j9]],true,false,0⟩]⟩) (λa H=>by kernel_rfl) (bd b88 Ya1) λx=>fb5 (.s .p (.s (.s .p (.b (.u ba9.ls))) .p)) [ba9.pr] (by kernel_rfl) (.cons Va6 .nil) (Qhd (b:=E3 (λr=>(fa1 x r).run) x) (by kernel_rfl) (gb3 (λr=>(fa1 x r).run) (λr=>r) x).symm)
structure M8 where
 j5:List V3
 (e7 d9 g7 j9:Int)
noncomputable def Pa6:List (Nat×Sum):=[(88,za7)]
theorem Ma7:k9 prog G Pa6:=⟨db1,trivial⟩
structure M9 where
 alt:Nat
 bs0:Bool
noncomputable def A2{α:Type}(kk:M9->α)(x:M8):α:=let t1:=(U3 ⟨rt tV x.j5,x.e7,x.d9,x.g7,x.j9⟩);(sl ((cnE tV x.j5)&&true) (sl (Nat.beq t1.alt 1) (kk ⟨1,decide (t1.is0>=0)⟩) (kk ⟨0,false⟩)) (kk ⟨0,false⟩))
noncomputable def N0(x:M8):M9:=A2 (λr=>r) x
noncomputable def X9(x:M8)(r:M9):DT (b7×List c8):=(.ite (Nat.beq r.alt 1) (.ret (b r.bs0,[⟨0,4,[[i x.e7,i x.d9,i x.g7,i x.j9]],true,false,0⟩])) .fail)
theorem Va7{α β:Type}(F:α->β)(kk:M9->α)(x:M8):F (A2 kk x)=A2 (λr=>F (kk r)) x:=by unfold A2;(repeat' apply u7 (f:=F))<;>rfl
noncomputable def pa9:Sum:=kb7 ⟨[sLq tV,.fn 79 [.o (.ptr 0 0 0 0)]],[⟨0,4,true,some [kLq 4]⟩],λa H=>(⟨aLq tV a 0,hIq H 0 0 0,hIq H 0 0 1,hIq H 0 0 2,hIq H 0 0 3⟩,())⟩ (λx=>X9 x (N0 x))
theorem Pa7:i5 prog G 70 pa9:=ba4 (enc:=λx=>⟨[eL tV x.j5,.fn 79 [.ptr 0 0 0 0]],[⟨0,4,[[i x.e7,i x.d9,i x.g7,i x.j9]],true,false,0⟩]⟩) (λa H=>by kernel_rfl) (bd b70 Ma7) λx=>C8 (Qhd (b:=A2 (λr=>(X9 x r).run) x) (by kernel_rfl) (Va7 (λr=>(X9 x r).run) (λr=>r) x).symm)
noncomputable def xc1:List (Nat×Sum):=[(70,pa9)]
theorem jc1:k9 prog G xc1:=⟨Pa7,trivial⟩
noncomputable def va5(x:List V3)(y:Pln):Option (b7×List c8):=let t1:=(N0 ⟨rt tV x,y.n.x,y.n.y,y.n.z,y.b⟩);(sl ((cnE tV x)&&true) (sl (Nat.beq t1.alt 1) (some (b t1.bs0,[])) none) none)
noncomputable def Y9(x:List V3)(y:Pln):Bool:=W0 (one r1B) (va5 x y)
noncomputable def G5(x:List V3)(y:Pln):Bool:=okO (one r1B) (va5 x y)
noncomputable def Eb3:Sum:=Ga1 (ya3 tV) (W9 tP) (λx y=>.guard (G5 x y) (.ret ((one r1B).enc (Y9 x y),[])))
theorem xc2:i5 prog G 47 Eb3:=Wb5 (bd b47 jc1) (one r1B) (o:=va5) λx y=>C8 (by kernel_rfl)
noncomputable def jc2:List (Nat×Sum):=[(20,lb5)]
theorem Yb7:k9 prog G jc2:=⟨ub7,trivial⟩
noncomputable def qa0(x:V3):Option (b7×List c8):=let t1:=(pa4 x);(sl (pa5 x) (some (b (!t1),[])) none)
noncomputable def Ca7(x:V3):Bool:=W0 (one r1B) (qa0 x)
noncomputable def Ca8(x:V3):Bool:=okO (one r1B) (qa0 x)
noncomputable def vb2:Sum:=L9 (W9 tV) (λx=>.guard (Ca8 x) (.ret ((one r1B).enc (Ca7 x),[])))
theorem jc3:i5 prog G 69 vb2:=Ga2 (bd b69 Yb7) (one r1B) (o:=qa0) λx=>C8 (by kernel_rfl)
structure U4 where
 j5:List V3
noncomputable def va6:List (Nat×Sum):=[(69,vb2)]
theorem Ya2:k9 prog G va6:=⟨jc3,trivial⟩
structure I5 where
 j5:List V3
 is7:Int
structure n9 where
 is8:Int
noncomputable def qa1(p:I5)(s:n9):St:=⟨eL tV p.j5::.fn 69 []::ra 5 (i p.is7::i s.is8::ra 10 []),[]⟩
noncomputable def D7{α:Type}(k:n9->α)(e:Nat->α)(z:α)(p:I5)(s:n9):α:=let t1:=(Ca7 (gL tV p.j5 s.is8.toNat));(sl (decide (s.is8<p.is7)) (sl (inB s.is8 (List.length p.j5)) (sl (Ca8 (gL tV p.j5 s.is8.toNat)) (sl t1 (e 1) (k ⟨W (s.is8+1)⟩)) z) z) (e 2))
noncomputable def F5(p:I5)(s:n9):Stp n9:=D7 .next .exit .fail p s
noncomputable def ca0:Lo I5 n9:=⟨En va6,0,Sd1,[1,0,1,4,4],[0,1,7,8],.p,[⟨sLq tV::.s (.o (.fn 69))::ru2 5 (sIq::sIq::ru2 10 []),[],λa H=>(⟨aLq tV a 0,aIq a 7⟩,⟨aIq a 8⟩)⟩],F5,[(none,λp s=>⟨[i s.is8],[]⟩),(some 0,λp s=>upq (qa1 p s) [(9,b (decide (s.is8<p.is7)))])],qa1⟩
theorem Va8:ca0.Ok:=Lo.ok [] (by kernel_rfl) .nil rfl (.cons (λa H=>by kernel_rfl) .nil) λp s=>(.of @D7 (λF _ _ _ _ _=>by unfold D7;(repeat' apply u7 (f:=F))<;>rfl) (by kernel_rfl))
structure U5 where
 alt:Nat
 is0:Int
noncomputable def E4{α:Type}(kk:U5->α)(x:U4):α:=let t1:=(lp (F5 (⟨rt tV x.j5,(↑(List.length x.j5):Int)⟩:I5)) (⟨0⟩:n9));(sl ((cnE tV x.j5)&&true) (sl (Nat.beq t1.1 1) (kk ⟨1,t1.2.is8⟩) (sl (Nat.beq t1.1 2) (kk ⟨1,-1⟩) (kk ⟨0,0⟩))) (kk ⟨0,0⟩))
noncomputable def U6(x:U4):U5:=E4 (λr=>r) x
noncomputable def fa2(x:U4)(r:U5):DT (b7×List c8):=(.ite (Nat.beq r.alt 1) (.ret (i r.is0,[])) .fail)
theorem gb4{α β:Type}(F:α->β)(kk:U5->α)(x:U4):F (E4 kk x)=E4 (λr=>F (kk r)) x:=by unfold E4;(repeat' apply u7 (f:=F))<;>rfl
noncomputable def za8:Sum:=kb7 ⟨[sLq tV,.s (.o (.fn 69))],[],λa H=>(⟨aLq tV a 0⟩,())⟩ (λx=>fa2 x (U6 x))
theorem db2:i5 prog G 88 za8:=ba4 (enc:=λx=>⟨[eL tV x.j5,.fn 69 []],[]⟩) (λa H=>by kernel_rfl) (bd b88 Ya2) λx=>fb5 (.s .p (.s (.s .p (.b (.u ca0.ls))) .p)) [ca0.pr] (by kernel_rfl) (.cons Va8 .nil) (Qhd (b:=E4 (λr=>(fa2 x r).run) x) (by kernel_rfl) (gb4 (λr=>(fa2 x r).run) (λr=>r) x).symm)
structure N1 where
 j5:List V3
noncomputable def Pa8:List (Nat×Sum):=[(88,za8)]
theorem Ma8:k9 prog G Pa8:=⟨db2,trivial⟩
structure N2 where
 alt:Nat
 bs0:Bool
noncomputable def A3{α:Type}(kk:N2->α)(x:N1):α:=let t1:=(U6 ⟨rt tV x.j5⟩);(sl ((cnE tV x.j5)&&true) (sl (Nat.beq t1.alt 1) (kk ⟨1,decide (t1.is0>=0)⟩) (kk ⟨0,false⟩)) (kk ⟨0,false⟩))
noncomputable def N4(x:N1):N2:=A3 (λr=>r) x
noncomputable def Y0(x:N1)(r:N2):DT (b7×List c8):=(.ite (Nat.beq r.alt 1) (.ret (b r.bs0,[])) .fail)
theorem Va9{α β:Type}(F:α->β)(kk:N2->α)(x:N1):F (A3 kk x)=A3 (λr=>F (kk r)) x:=by unfold A3;(repeat' apply u7 (f:=F))<;>rfl
noncomputable def qa2:Sum:=kb7 ⟨[sLq tV,.s (.o (.fn 69))],[],λa H=>(⟨aLq tV a 0⟩,())⟩ (λx=>Y0 x (N4 x))
theorem Pa9:i5 prog G 70 qa2:=ba4 (enc:=λx=>⟨[eL tV x.j5,.fn 69 []],[]⟩) (λa H=>by kernel_rfl) (bd b70 Ma8) λx=>C8 (Qhd (b:=A3 (λr=>(Y0 x r).run) x) (by kernel_rfl) (Va9 (λr=>(Y0 x r).run) (λr=>r) x).symm)
noncomputable def Fc9:List (Nat×Sum):=[(70,qa2),(71,fc7)]
theorem xc3:k9 prog G Fc9:=⟨Pa9,Tc3,trivial⟩
noncomputable def Ca9(x:List V3):Option (b7×List c8):=let t1:=(N4 ⟨rt tV x⟩);let t2:=(ab1 (rt tV x));(sl (decide ((↑(List.length x):Int)>48)) (some (i 2,[])) (sl ((cnE tV x)&&true) (sl (Nat.beq t1.alt 1) (sl t1.bs0 (some (i 3,[])) (sl (okE tV x) (sl (ab2 (rt tV x)) (sl t2 (some (i 11,[])) (some (i 0,[]))) none) none)) none) none))
noncomputable def ta5(x:List V3):Int:=W0 (one r1I) (Ca9 x)
noncomputable def ta6(x:List V3):Bool:=okO (one r1I) (Ca9 x)
noncomputable def Qa0:Sum:=L9 (ya3 tV) (λx=>.guard (ta6 x) (.ret ((one r1I).enc (ta5 x),[])))
theorem db3:i5 prog G 44 Qa0:=Ga2 (bd b44 xc3) (one r1I) (o:=Ca9) λx=>C8 (by kernel_rfl)
noncomputable def Yb8:List (Nat×Sum):=[]
theorem Qb7:k9 prog G Yb8:=trivial
noncomputable def xa4(x:Int):Bool:=(x != x)
noncomputable def ob8:Sum:=L9 cI (λx=>.ret ((one r1B).enc (xa4 x),[]))
theorem Yb9:i5 prog G 120 ob8:=kb6 (bd Re9 Qb7) λx=>C8 (by kernel_rfl)
noncomputable def Jb3:List (Nat×Sum):=[(120,ob8)]
theorem Bb7:k9 prog G Jb3:=⟨Yb9,trivial⟩
noncomputable def da8(x:Int)(y:Int):Option (b7×List c8):=let t1:=(xa4 x);let t2:=(xa4 y);(sl t1 (sl t2 (some (i 0,[])) (some (i (-1),[]))) (sl t2 (some (i 1,[])) (sl (decide (x<y)) (some (i (-1),[])) (sl (decide (x>y)) (some (i 1,[])) (some (i 0,[]))))))
noncomputable def U7(x:Int)(y:Int):Int:=W0 (one r1I) (da8 x y)
noncomputable def U8(x:Int)(y:Int):Bool:=okO (one r1I) (da8 x y)
noncomputable def ab3:Sum:=Ga1 cI cI (λx y=>.guard (U8 x y) (.ret ((one r1I).enc (U7 x y),[])))
theorem Jb4:i5 prog G 97 ab3:=Wb5 (bd b97 Bb7) (one r1I) (o:=da8) λx y=>C8 (by kernel_rfl)
noncomputable def Eb4:List (Nat×Sum):=[]
theorem xc4:k9 prog G Eb4:=trivial
structure qa3 where
 bb2:List Int
 is7:Int
structure J8 where
 is8:Int
noncomputable def ob9(p:qa3)(s:J8):St:=⟨ra 3 (i 0::.unk::.unk::eL tI p.bb2::i p.is7::i s.is8::ra 9 []),[]⟩
noncomputable def Ha1{α:Type}(k:J8->α)(e:Nat->α)(z:α)(p:qa3)(s:J8):α:=(sl (decide (s.is8<p.is7)) (sl (inB s.is8 (List.length p.bb2)) (sl ((gL tI p.bb2 s.is8.toNat) != 0) (e 1) (k ⟨W (s.is8+1)⟩)) z) (e 2))
noncomputable def W6(p:qa3)(s:J8):Stp J8:=Ha1 .next .exit .fail p s
noncomputable def Wa0:Lo qa3 J8:=⟨En Eb4,0,Ie6,[1,1,0,1,4,4],[3,6,7,8],.p,[⟨ru2 3 (.s (.o (.lit .i64 0))::sUq::sUq::sLq tI::sIq::sIq::ru2 9 []),[],λa H=>(⟨aLq tI a 6,aIq a 7⟩,⟨aIq a 8⟩)⟩],W6,[(none,λp s=>⟨[i (gL tI p.bb2 s.is8.toNat)],[]⟩),(some 0,λp s=>upq (ob9 p s) [(9,b (decide (s.is8<p.is7)))])],ob9⟩
theorem jc4:Wa0.Ok:=Lo.ok [] (by kernel_rfl) .nil rfl (.cons (λa H=>by kernel_rfl) .nil) λp s=>(.of @Ha1 (λF _ _ _ _ _=>by unfold Ha1;(repeat' apply u7 (f:=F))<;>rfl) (by kernel_rfl))
noncomputable def Da0(x:List Int):Option (b7×List c8):=let t1:=(lp (W6 (⟨rt tI x,(↑(List.length x):Int)⟩:qa3)) (⟨0⟩:J8));(sl ((cnE tI x)&&true) (sl (Nat.beq t1.1 1) (some (i (gL tI (rt tI x) t1.2.is8.toNat),[])) (sl (Nat.beq t1.1 2) (some (i 0,[])) none)) none)
noncomputable def Qa1(x:List Int):Int:=W0 (one r1I) (Da0 x)
noncomputable def Qa2(x:List Int):Bool:=okO (one r1I) (Da0 x)
noncomputable def Qb8:Sum:=L9 (ya3 tI) (λx=>.guard (Qa2 x) (.ret ((one r1I).enc (Qa1 x),[])))
theorem Gc0:i5 prog G 96 Qb8:=Ga2 (bd b96 xc4) (one r1I) (o:=Da0) λx=>fb5 (.s .p (.s .p (.s (.s .p (.b (.u Wa0.ls))) .p))) [Wa0.pr] (by kernel_rfl) (.cons jc4 .nil) (by kernel_rfl)
noncomputable def jc5:List (Nat×Sum):=[(97,ab3),(96,Qb8)]
theorem Zb0:k9 prog G jc5:=⟨Jb4,Gc0,trivial⟩
noncomputable def qa4(x:V3)(y:V3):Option (b7×List c8):=let t1:=(U7 x.x y.x);let t2:=(U7 x.y y.y);let t3:=(U7 x.z y.z);let t4:=(Qa1 [t1,t2,t3]);(sl (U8 x.x y.x) (sl (U8 x.y y.y) (sl (U8 x.z y.z) (sl (Qa2 [t1,t2,t3]) (some (i t4,[])) none) none) none) none)
noncomputable def Da1(x:V3)(y:V3):Int:=W0 (one r1I) (qa4 x y)
noncomputable def Da2(x:V3)(y:V3):Bool:=okO (one r1I) (qa4 x y)
noncomputable def Wa1:Sum:=Ga1 (W9 tV) (W9 tV) (λx y=>.guard (Da2 x y) (.ret ((one r1I).enc (Da1 x y),[])))
theorem jc6:i5 prog G 74 Wa1:=Wb5 (bd b74 Zb0) (one r1I) (o:=qa4) λx y=>C8 (by kernel_rfl)
end Go.Ev.Ce
namespace Go.Ev.L
open Go Go.Ev
theorem ie8(n:Int):W n=(n+9223372036854775808) % 18446744073709551616-9223372036854775808:=IntKind.wrap_i64 n
theorem I6{n:Int}(h1:-9223372036854775808<=n)(h2:n<=9223372036854775807):W n=n:=by rw[ie8];omega
theorem Sd3(n:Int):∃k,W n=n+18446744073709551616*k:=⟨-((n+9223372036854775808) / 18446744073709551616),by rw[ie8];omega⟩
theorem Zb1(n k:Int):W (n+18446744073709551616*k)=W n:=by rw[ie8,ie8];omega
theorem Jb5(a b:Int):W (W a+b)=W (a+b):=by
 obtain⟨k,hk⟩:=Sd3 a;rw[hk,show a+18446744073709551616*k+b=a+b+18446744073709551616*k by omega,Zb1]
theorem Zb2(a b:Int):W (a+W b)=W (a+b):=by rw[Int.add_comm,Jb5,Int.add_comm]
theorem Tc4(a b:Int):W (W a-b)=W (a-b):=by
 obtain⟨k,hk⟩:=Sd3 a;rw[hk,show a+18446744073709551616*k-b=a-b+18446744073709551616*k by omega,Zb1]
theorem qd9(a b:Int):W (a-W b)=W (a-b):=by
 obtain⟨k,hk⟩:=Sd3 b;rw[hk,show a-(b+18446744073709551616*k)=a-b+18446744073709551616*(-k) by omega,Zb1]
theorem D2{j n:Nat}(h:j<n)(hn:n<=4611686018427387904):W ((j:Int)+1)=((j+1:Nat):Int):=by
 rw[I6 (by omega) (by omega)];omega
theorem xc5{j n:Nat}(h:j<n):decide ((j:Int)<(n:Int))=true:=decide_eq_true (by omega)
theorem Qb9{j n:Nat}(h:¬ j<n):decide ((j:Int)<(n:Int))=false:=decide_eq_false (by omega)
theorem i9{j n:Nat}(h:j<n):inB (j:Int) n=true:=by
 show Nat.blt j n=true;rw[Nat.blt_eq];exact h
theorem ie9(m:Int)(n:Nat):inB m n=decide (0<=m/\m<n):=by
 unfold inB;cases m with
 |ofNat k =>
  rw[Bool.eq_iff_iff,decide_eq_true_eq];show Nat.blt k n=true↔_;rw[Nat.blt_eq];constructor
  ·intro h;exact⟨Int.natCast_nonneg k,Int.ofNat_lt.2 h⟩
  ·intro h;exact Int.ofNat_lt.1 h.2
 |negSucc k=>exact (decide_eq_false (λh=>by omega)).symm
theorem bt{c:Bool}(h:c=true){α:Type}(t e:α):sl c t e=t:=by rw[h];rfl
theorem bf{c:Bool}(h:c=false){α:Type}(t e:α):sl c t e=e:=by rw[h];rfl
theorem je0{n:Nat}(h:n<=1000000000000):Nat.ble (n*32) room=true:=by
 rw[Nat.ble_eq];unfold room;omega
theorem Sd4 {σ : Type} {step : σ → Stp σ} {I : Nat → σ → Prop} {Q : Nat → σ → Prop} (h : ∀ m s, I m s → (∃ t, step s = .exit t ∧ Q t s) ∨ ∃ s' m', m = m' + 1 ∧ step s = .next s' ∧ I m' s') :
  ∀(m n:Nat) (s:σ),m<=n->I m s->Q (lp0 step n s).1 (lp0 step n s).2
 |m,n,s,hn,hi=>by
  rcases h m s hi with⟨t,h1,h2⟩|⟨s',m',rfl,h1,h2⟩
  ·rw[tc0 h1];exact h2
  ·cases n with
   |zero=>omega
   |succ n =>
    rw[bd3 h1];exact Sd4 h m' n s' (by omega) h2
theorem Zb3 {σ : Type} {step : σ → Stp σ} {I : Nat → σ → Prop} {Q : Nat → σ → Prop} (h : ∀ m s, I m s → (∃ t, step s = .exit t ∧ Q t s) ∨ ∃ s' m', m = m' + 1 ∧ step s = .next s' ∧ I m' s')
  (m:Nat) (s:σ) (hm:m<=18446744073709551615) (hi:I m s):Q (lp step s).1 (lp step s).2:=by
 rw[Nd9];exact Sd4 h m rounds s (by unfold rounds;omega) hi
section
variable{σ τ α:Type}{step:σ->Stp σ}
theorem je1 {mk : Nat → τ → σ} {f : τ → α → τ} {fin : Nat} (t : Ty α) (l : List α) (I : Nat → τ → Prop) (hl : l.length ≤ 1000000000)
  (h:∀j a,j<l.length->I j a->step (mk j a)=.next (mk (j+1) (f a (gL t l j)))/\I (j+1) (f a (gL t l j)))
  (hf:∀a,I l.length a->step (mk l.length a)=.exit fin) (j0:Nat) (hj:j0<=l.length) (a:τ) (hi:I j0 a) :
  lp step (mk j0 a)=(fin,mk l.length ((l.drop j0).foldl f a))/\I l.length ((l.drop j0).foldl f a):=by
 have key:=Zb3 (step:=step) (I:=λm s=>∃j b,m=l.length-j/\j<=l.length/\s=mk j b/\I j b/\(l.drop j).foldl f b=(l.drop j0).foldl f a)
  (Q:=λu s=>u=fin/\s=mk l.length ((l.drop j0).foldl f a)/\I l.length ((l.drop j0).foldl f a)) (λm s ⟨j,b,hm,hj,hs,hb,he⟩=>by
   subst hs;by_cases hlt:j<l.length
   ·obtain⟨h1,h2⟩:=h j b hlt hb;refine .inr ⟨_,l.length-(j+1),by omega,h1,j+1,_,rfl,by omega,rfl,h2,?_⟩
    rw[<- he,Qhc hlt,List.foldl_cons];simp[gL,Qha,Qhb hlt]
   ·have:j=l.length:=by omega
    subst this;have he:b=(l.drop j0).foldl f a:=by rw[<- he];simp
    subst he;exact .inl ⟨fin,hf _ hb,rfl,rfl,hb⟩) (l.length-j0) (mk j0 a) (by omega) ⟨j0,a,rfl,hj,rfl,hi,rfl⟩
 exact⟨by rw[<- key.2.1,<- key.1],key.2.2⟩
theorem Tc5 {mk : Nat → σ} {c : α → Bool} {u fin : Nat} (t : Ty α) (l : List α) (hl : l.length ≤ 1000000000)
  (h:∀j,j<l.length->step (mk j)=sl (c (gL t l j)) (.exit u) (.next (mk (j+1)))) (hf:step (mk l.length)=.exit fin) (j0:Nat) (hj:j0<=l.length) :
  (lp step (mk j0)).1=if (l.drop j0).any c then u else fin :=
 Zb3 (step:=step) (I:=λm s=>∃j,m=l.length-j/\j<=l.length/\s=mk j/\(l.drop j).any c=(l.drop j0).any c)
  (Q:=λv _=>v=if (l.drop j0).any c then u else fin) (λm s ⟨j,hm,hj,hs,he⟩=>by
   subst hs;by_cases hlt:j<l.length
   ·have h1:=h j hlt;have e:gL t l j=l[j]:=by simp[gL,Qha,Qhb hlt]
    have e2:(l.drop j).any c=(c l[j]||(l.drop (j+1)).any c):=by rw[Qhc hlt,List.any_cons]
    rw[e] at h1;cases hc:c l[j] with
    |true =>
     rw[hc] at h1;refine .inl ⟨u,h1,?_⟩;rw[<- he,e2,hc];rfl
    |false =>
     rw[hc] at h1;refine .inr ⟨_,l.length-(j+1),by omega,h1,j+1,rfl,by omega,rfl,?_⟩
     rw[<- he,e2,hc];rfl
   ·have:j=l.length:=by omega
    subst this;refine .inl ⟨fin,hf,?_⟩;rw[<- he];simp) (l.length-j0) (mk j0) (by omega) ⟨j0,rfl,hj,rfl,rfl⟩
theorem ab4 {mk : Nat → σ} {c : α → Bool} {u fin : Nat} (t : Ty α) (l : List α) (hl : l.length ≤ 1000000000)
  (h:∀j,j<l.length->step (mk j)=sl (c (gL t l j)) (.exit u) (.next (mk (j+1)))) (hf:step (mk l.length)=.exit fin) (j0:Nat) (hj:j0<=l.length) :
  lp step (mk j0)=if (l.drop j0).any c then (u,mk (j0+(l.drop j0).findIdx c)) else (fin,mk l.length):=by
 have key:=Zb3 (step:=step) (I:=λm s=>∃j,m=l.length-j/\j<=l.length/\j0<=j/\s=mk j/\(l.drop j).any c=(l.drop j0).any c/\j+(l.drop j).findIdx c=j0+(l.drop j0).findIdx c)
  (Q:=λv s=>(v,s)=if (l.drop j0).any c then (u,mk (j0+(l.drop j0).findIdx c)) else (fin,mk l.length)) (λm s ⟨j,hm,hj,hj0,hs,he,hi⟩=>by
   subst hs;by_cases hlt:j<l.length
   ·have h1:=h j hlt;have e:gL t l j=l[j]:=by simp[gL,Qha,Qhb hlt]
    have e2:(l.drop j).any c=(c l[j]||(l.drop (j+1)).any c):=by rw[Qhc hlt,List.any_cons]
    have e3:(l.drop j).findIdx c=if c l[j] then 0 else (l.drop (j+1)).findIdx c+1:=by rw[Qhc hlt,List.findIdx_cons];cases c l[j]<;>rfl
    rw[e] at h1;cases hc:c l[j] with
    |true =>
     rw[hc] at h1;refine .inl ⟨u,h1,?_⟩;rw[<- he,e2,hc,<- hi,e3,hc];rfl
    |false =>
     rw[hc] at h1;refine .inr ⟨_,l.length-(j+1),by omega,h1,j+1,rfl,by omega,by omega,rfl,?_,?_⟩
     ·rw[<- he,e2,hc];rfl
     ·rw[<- hi,e3,hc];simp only[Qhg,if_false];omega
   ·have:j=l.length:=by omega
    subst this;refine .inl ⟨fin,hf,?_⟩;rw[<- he];simp) (l.length-j0) (mk j0) (by omega) ⟨j0,rfl,hj,Qhe _,rfl,rfl,rfl⟩
 exact key
end
theorem db4{α:Type}(t:Ty α){l:List α}{j:Nat}(h:j<l.length):gL t l j∈l:=by
 simp[gL,Qha,Qhb h]
theorem pb0{α:Type}(t:Ty α){l:List α}{j:Nat}(h:j<l.length):gL t l j=l[j]:=by
 simp[gL,Qha,Qhb h]
def euF:Nat->Int->Int->Int
 |0,g,_=>g
 |k+1,g,n=>if n=0 then g else euF k n (Int.tmod g n)
def eu(g n:Int):Int:=euF (n.natAbs+1) g n
theorem Ra8{g n:Int}(h:n≠0):(Int.tmod g n).natAbs<n.natAbs:=by
 rw[Int.natAbs_tmod];exact Nat.mod_lt _ (by omega)
theorem fd1:∀(k m:Nat) {g n:Int},n.natAbs<k->n.natAbs<m->euF k g n=euF m g n
 |0,_,_,_,h,_=>by omega
 |_+1,0,_,_,_,h=>by omega
 |k+1,m+1,g,n,h1,h2=>by
  unfold euF;by_cases h:n=0
  ·rw[if_pos h,if_pos h]
  ·rw[if_neg h,if_neg h]
   have:=Ra8 (g:=g) h
   exact fd1 k m (by omega) (by omega)
theorem Rb0(g:Int):eu g 0=g:=by simp[eu,euF]
theorem Tc6{g n:Int}(h:n≠0):eu g n=eu n (Int.tmod g n):=by
 have:=Ra8 (g:=g) h
 unfold eu
 conv=>lhs;unfold euF
 rw[if_neg h];exact fd1 _ _ (by omega) (by omega)
theorem ye8:∀(k:Nat) (g n:Int),n.natAbs<=k->(eu g n).natAbs=Int.gcd g n:=by
 intro k
 induction k with
 |zero =>
  intro g n h
  have:n=0:=by omega
  subst this;rw[Rb0];simp
 |succ k ih =>
  intro g n h;by_cases h0:n=0
  ·subst h0;rw[Rb0];simp
  ·have:=Ra8 (g:=g) h0
   rw[Tc6 h0,ih n (Int.tmod g n) (by omega)]
   unfold Int.gcd;rw[Int.natAbs_tmod,Nat.gcd_comm g.natAbs,Nat.gcd_comm n.natAbs,<- Nat.gcd_rec]
theorem ye9(g n:Int):(eu g n).natAbs=Int.gcd g n:=ye8 _ g n (Qhe _)
theorem Hd8:∀(k:Nat) (g n:Int),n.natAbs<=k->0<=g->0<=n->0<=eu g n:=by
 intro k
 induction k with
 |zero =>
  intro g n h hg _
  have:n=0:=by omega
  subst this;rw[Rb0];exact hg
 |succ k ih =>
  intro g n h hg hn;by_cases h0:n=0
  ·subst h0;rw[Rb0];exact hg
  ·have:=Ra8 (g:=g) h0
   rw[Tc6 h0];exact ih n _ (by omega) hn (Int.tmod_nonneg _ hg)
theorem ze0{g n:Int}(hg:0<=g)(hn:0<=n):eu g n=(Int.gcd g n:Int):=by
 have h1:=Hd8 _ g n (Qhe _) hg hn;have h2:=ye9 g n;omega
section
variable{σ:Type}{step:σ->Stp σ}{mk:Int->Int->σ}
theorem fc8(h:∀g n,0<n->step (mk g n)=.next (mk n (Int.tmod g n)))(h0:∀g,step (mk g 0)=.exit 1)(g n:Int)(hg:0<=g)(h1:0<=n)(hn:n<=9223372036854775808):lp step (mk g n)=(1,mk (eu g n) 0):=by
 have:=Zb3 (step:=step) (I:=λm s=>∃a c,s=mk a c/\c.natAbs<=m/\0<=a/\0<=c/\eu a c=eu g n) (Q:=λu s=>(u,s)=(1,mk (eu g n) 0)) (λm s ⟨a,c,hs,hm,ha,hc0,he⟩=>by
  subst hs;by_cases hc:c=0
  ·subst hc;rw[Rb0] at he;subst he;exact .inl ⟨1,h0 _,rfl⟩
  ·have ht:=Ra8 (g:=a) hc;exact .inr ⟨_,m-1,by omega,h a c (by omega),c,_,rfl,by omega,hc0,Int.tmod_nonneg _ ha,by rw[<- he,Tc6 hc]⟩) n.natAbs (mk g n) (by omega) ⟨g,n,rfl,Qhe _,hg,h1,rfl⟩
 exact this
end
theorem mb{a c A C:Int}(h1:-A<=a)(h2:a<=A)(h3:-C<=c)(h4:c<=C):-(A*C)<=a*c/\a*c<=A*C:=by
 have hA:a.natAbs<=A.natAbs:=by omega
 have hC:c.natAbs<=C.natAbs:=by omega
 have h5:=Nat.mul_le_mul hA hC;rw[<- Int.natAbs_mul,<- Int.natAbs_mul] at h5;have h6:0<=A*C:=Int.mul_nonneg (by omega) (by omega)
 omega
end Go.Ev.L
namespace Go.Proofs
open Go.Shelf
set_option maxRecDepth 100000 in
def Ce.sortLayV_ren:Go.Shelf.Ren:=⟨fun | 6=>73 | 15=>81 | 14=>95 | 28=>107 | 29=>108 | 20=>112 | 21=>113 | 22=>114 | 23=>115 | 24=>116 | 25=>117 | 26=>118 | 27=>119 | 46=>126 | 47=>122 | 48=>123 | 49=>127 | 50=>128 | 57=>130 | n=>n,fun | 22=>23 | 24=>25 | 25=>36 | 3=>3 | 39=>104 | 0=>0 | 53=>123 | 55=>125 | 4=>4 | 46=>116 | 45=>115 | 50=>120 | 5=>5 | 9=>9 | 66=>134 | 70=>138 | 76=>142 | 77=>143 | n=>n,fun | n=>n⟩
set_option maxRecDepth 100000 in
theorem Ce.sortLayV:Go.Proofs.SlLaysF0.n6 Tryz.prog Ce.sortLayV_ren:={
 mixed:=by kernel_rfl
 f6:=⟨Tryz.f73.name,by decide,Tryz.func73.trans (congrArg some (by kernel_rfl))⟩
 f14:=⟨Tryz.f95.name,by decide,Tryz.func95.trans (congrArg some (by kernel_rfl))⟩
 f15:=Tryz.func81.trans (congrArg some (by kernel_rfl))
 f20:=⟨Tryz.f112.name,by decide,Tryz.func112.trans (congrArg some (by kernel_rfl))⟩
 f21:=⟨Tryz.f113.name,by decide,Tryz.func113.trans (congrArg some (by kernel_rfl))⟩
 f22:=⟨Tryz.f114.name,by decide,Tryz.func114.trans (congrArg some (by kernel_rfl))⟩
 f23:=⟨Tryz.f115.name,by decide,Tryz.func115.trans (congrArg some (by kernel_rfl))⟩
 f24:=⟨Tryz.f116.name,by decide,Tryz.func116.trans (congrArg some (by kernel_rfl))⟩
 f25:=⟨Tryz.f117.name,by decide,Tryz.func117.trans (congrArg some (by kernel_rfl))⟩
 f26:=⟨Tryz.f118.name,by decide,Tryz.func118.trans (congrArg some (by kernel_rfl))⟩
 f27:=⟨Tryz.f119.name,by decide,Tryz.func119.trans (congrArg some (by kernel_rfl))⟩
 f28:=Tryz.func107.trans (congrArg some (by kernel_rfl))
 f29:=Tryz.func108.trans (congrArg some (by kernel_rfl))
 f46:=⟨Tryz.f126.name,by decide,Tryz.func126.trans (congrArg some (by kernel_rfl))⟩
 f47:=Tryz.func122.trans (congrArg some (by kernel_rfl))
 f48:=Tryz.func123.trans (congrArg some (by kernel_rfl))
 f49:=⟨Tryz.f127.name,by decide,Tryz.func127.trans (congrArg some (by kernel_rfl))⟩
 f50:=⟨Tryz.f128.name,by decide,Tryz.func128.trans (congrArg some (by kernel_rfl))⟩
 f57:=⟨Tryz.f130.name,by decide,Tryz.func130.trans (congrArg some (by kernel_rfl))⟩
 t0:=Tryz.underlying0
 a0:=Tryz.isAgg0
 z0:=Tryz.sizeOf0
 v0:=Tryz.zeroValue0
 t3:=Tryz.underlying3
 a3:=Tryz.isAgg3
 z3:=Tryz.sizeOf3
 v3:=Tryz.zeroValue3
 t4:=Tryz.underlying4
 a4:=Tryz.isAgg4
 z4:=Tryz.sizeOf4
 v4:=Tryz.zeroValue4
 t5:=Tryz.underlying5
 a5:=Tryz.isAgg5
 z5:=Tryz.sizeOf5
 v5:=Tryz.zeroValue5
 t9:=Tryz.underlying9
 a9:=Tryz.isAgg9
 z9:=Tryz.sizeOf9
 v9:=Tryz.zeroValue9
 t22:=Tryz.underlying23
 a22:=Tryz.isAgg23
 z22:=Tryz.sizeOf23
 v22:=Tryz.zeroValue23
 t25:=Tryz.underlying36
 a25:=Tryz.isAgg36
 z25:=Tryz.sizeOf36
 v25:=Tryz.zeroValue36
 t39:=Tryz.underlying104
 a39:=Tryz.isAgg104
 z39:=Tryz.sizeOf104
 v39:=Tryz.zeroValue104
 t45:=Tryz.underlying115
 a45:=Tryz.isAgg115
 z45:=Tryz.sizeOf115
 v45:=Tryz.zeroValue115
 t46:=Tryz.underlying116
 a46:=Tryz.isAgg116
 z46:=Tryz.sizeOf116
 v46:=Tryz.zeroValue116
 t50:=Tryz.underlying120
 a50:=Tryz.isAgg120
 z50:=Tryz.sizeOf120
 v50:=Tryz.zeroValue120
 t53:=Tryz.underlying123
 a53:=Tryz.isAgg123
 z53:=Tryz.sizeOf123
 v53:=Tryz.zeroValue123
 t55:=Tryz.underlying125
 a55:=Tryz.isAgg125
 z55:=Tryz.sizeOf125
 v55:=Tryz.zeroValue125
 t66:=Tryz.underlying134
 a66:=Tryz.isAgg134
 z66:=Tryz.sizeOf134
 v66:=Tryz.zeroValue134
 t70:=Tryz.underlying138
 a70:=Tryz.isAgg138
 z70:=Tryz.sizeOf138
 v70:=Tryz.zeroValue138
 t76:=Tryz.underlying142
 a76:=Tryz.isAgg142
 z76:=Tryz.sizeOf142
 v76:=Tryz.zeroValue142
 t77:=Tryz.underlying143
 a77:=Tryz.isAgg143
 z77:=Tryz.sizeOf143
 v77:=Tryz.zeroValue143 }
end Go.Proofs
namespace Go.Ev.Ce
open Go Go.Ev Go.Ev.L Go.Proofs Go.Sort
theorem yd0(x y:Int):da8 x y=some (i (cb3 x y),[]):=by
 unfold da8 xa4 cb3;simp only[bne_self_eq_false,Ib3,decide_eq_true_eq,Qhg,if_false]
 split<;>(try split)<;>rfl
theorem ze1(x y:Int):U7 x y=cb3 x y:=by unfold U7;rw[yd0];rfl
theorem ze2(x y:Int):U8 x y=true:=by unfold U8;rw[yd0];rfl
def orI(a c d:Int):Int:=if a=0 then if c=0 then d else c else a
theorem je2(a c d:Int):((lp (W6 ⟨[a,c,d],3⟩) ⟨0⟩).1=1/\gL tI [a,c,d] (lp (W6 ⟨[a,c,d],3⟩) ⟨0⟩).2.is8.toNat=orI a c d)\/((lp (W6 ⟨[a,c,d],3⟩) ⟨0⟩).1=2/\orI a c d=0):=by
 have g0:gL tI [a,c,d] 0=a:=rfl;have g1:gL tI [a,c,d] 1=c:=rfl;have g2:gL tI [a,c,d] 2=d:=rfl;refine Zb3 (step:=W6 ⟨[a,c,d],3⟩) (I:=λm s=>(m=3/\s=⟨0⟩)\/(m=2/\s=⟨1⟩/\a=0)\/(m=1/\s=⟨2⟩/\a=0/\c=0)\/(m=0/\s=⟨3⟩/\a=0/\c=0/\d=0))
  (Q:=λt s=>(t=1/\gL tI [a,c,d] s.is8.toNat=orI a c d)\/(t=2/\orI a c d=0)) (λm s hi=>?_) 3 ⟨0⟩ (by omega) (.inl ⟨rfl,rfl⟩)
 rcases hi with⟨rfl,rfl⟩|⟨rfl,rfl,ha⟩|⟨rfl,rfl,ha,hc⟩|⟨rfl,rfl,ha,hc,hd⟩
 ·by_cases h:a=0
  ·exact .inr ⟨⟨1⟩,2,rfl,by subst h;rfl,.inr (.inl ⟨rfl,rfl,h⟩)⟩
  ·refine .inl ⟨1,?_,.inl ⟨rfl,by unfold orI;rw[if_neg h];rfl⟩⟩
   show sl (a != 0) (Stp.exit 1) (Stp.next (⟨W (0+1)⟩:J8))=_;rw[bt (by simpa using h)]
 ·by_cases h:c=0
  ·exact .inr ⟨⟨2⟩,1,rfl,by subst h;rfl,.inr (.inr (.inl ⟨rfl,rfl,ha,h⟩))⟩
  ·refine .inl ⟨1,?_,.inl ⟨rfl,by unfold orI;rw[if_pos ha,if_neg h];rfl⟩⟩
   show sl (c != 0) (Stp.exit 1) (Stp.next (⟨W (1+1)⟩:J8))=_;rw[bt (by simpa using h)]
 ·by_cases h:d=0
  ·exact .inr ⟨⟨3⟩,0,rfl,by subst h;rfl,.inr (.inr (.inr ⟨rfl,rfl,ha,hc,h⟩))⟩
  ·refine .inl ⟨1,?_,.inl ⟨rfl,by unfold orI;rw[if_pos ha,if_pos hc];rfl⟩⟩
   show sl (d != 0) (Stp.exit 1) (Stp.next (⟨W (2+1)⟩:J8))=_;rw[bt (by simpa using h)]
 ·exact .inl ⟨2,rfl,.inr ⟨rfl,by unfold orI;rw[if_pos ha,if_pos hc];exact hd⟩⟩
theorem re8(a c d:Int):Da0 [a,c,d]=some (i (orI a c d),[]):=by
 have h:=je2 a c d;unfold Da0;simp only[q9,m9];rw[show ((([a,c,d]:List Int).length:Nat):Int)=3 from rfl]
 generalize lp (W6 ⟨[a,c,d],3⟩) ⟨0⟩=r at *
 rcases h with⟨h1,h2⟩|⟨h1,h2⟩
 ·rw[h1,h2];rfl
 ·rw[h1,h2];rfl
theorem Se1(a c d:Int):Qa1 [a,c,d]=orI a c d:=by unfold Qa1;rw[re8];rfl
theorem Se2(a c d:Int):Qa2 [a,c,d]=true:=by unfold Qa2;rw[re8];rfl
def db5(x y:V3):Int:=orI (cb3 x.x y.x) (cb3 x.y y.y) (cb3 x.z y.z)
def LtV(x y:V3):Prop:=x.x<y.x\/x.x=y.x/\(x.y<y.y\/x.y=y.y/\x.z<y.z)
instance(x y:V3):Decidable (LtV x y):=by unfold LtV;exact inferInstance
theorem je3(x y:V3):db5 x y<0↔LtV x y:=by
 have h1:=lb6 x.x y.x;have h2:=Qb1 x.x y.x;have h3:=lb6 x.y y.y;have h4:=Qb1 x.y y.y;have h5:=lb6 x.z y.z;unfold db5 orI LtV;split
 ·split<;>omega
 ·omega
theorem za9(x y:V3):ltOf db5 x y=decide (LtV x y):=by
 unfold ltOf;rw[decide_eq_decide];exact je3 x y
theorem Je5:SWO (ltOf db5) where
 irrefl x:=by rw[za9];simp[LtV]
 trans x y z h1 h2:=by rw[za9,decide_eq_true_eq] at *;unfold LtV at *;omega
 ntrans x y z h1 h2:=by rw[za9,decide_eq_false_iff_not] at *;unfold LtV at *;omega
theorem Se3(x y:V3)(h1:ltOf db5 x y=false)(h2:ltOf db5 y x=false):x=y:=by
 rw[za9,decide_eq_false_iff_not] at *
 unfold LtV at *
 obtain⟨a,b,c⟩:=x;obtain⟨a',b',c'⟩:=y
 simp only at *
 have:a=a'/\b=b'/\c=c':=by omega
 obtain⟨rfl,rfl,rfl⟩:=this;rfl
theorem fc9(x y:V3):qa4 x y=some (i (db5 x y),[]):=by
 unfold qa4 db5;simp only[ze1,ze2,Se1,Se2,y7]
theorem ze3(x y:V3):Da1 x y=db5 x y:=by unfold Da1;rw[fc9];rfl
theorem ze4(x y:V3):Da2 x y=true:=by unfold Da2;rw[fc9];rfl
theorem ze5(x y:V3):(Wa1 [.agg (tV.row x),.agg (tV.row y)] []).run=some (i (db5 x y),[]):=by
 have:(Wa1 [.agg (tV.row x),.agg (tV.row y)] []).run=sel (Da2 x y) (some (i (Da1 x y),[])) none:=by kernel_rfl
 rw[this,ze4,ze3]
def Sd5(p:V3):List Value:=[.int .i64 p.x,.int .i64 p.y,.int .i64 p.z]
instance:Inhabited V3:=⟨⟨0,0,0⟩⟩
def pb1(l:List V3):List V3:=l.mergeSort λx y=>!ltOf db5 y x
theorem Lc4(l:List V3):(pb1 l).length=l.length:=Qhf l
noncomputable def na5:Sum:=xd0 tV 74 25 pb1
theorem Hd9:Ce.sortLayV_ren.f 6=73:=by kernel_rfl
theorem xc6:Ce.sortLayV_ren.t 24=25:=by kernel_rfl
set_option maxRecDepth 100000 in
theorem Da3:i5 prog G 73 na5:=by
 refine xd1 (enc:=Sd5) (cf:=db5) ⟨_,Tryz.func73,by kernel_rfl,of_decide_eq_true (by kernel_rfl)⟩ (by decide) (λ_=>rfl) (λr h=>Ra9 (n:=3) h) (λx v hv=>?_) Lc4
  (λblk off size w=>wd9 jc6 ze5 (λ_=>rfl) (λ_=>rfl) _ _ _ _ _) (λblk cap d w hcl hH hb hs=>?_)
 ·simp[Sd5] at hv
  rcases hv with rfl|rfl|rfl<;>rfl
 ·have eg:∀args w,(callFunc 74 args).run Tryz.prog w=.ok (.enter 74 args) w:=enters_of Tryz.func74 (by kernel_rfl) rfl
  have:=AnyQ.slices_SortFunc Ce.sortLayV 3 (by rw[xc6];exact Tryz.isAgg25) (by rw[xc6];exact Tryz.sizeOf25) Sd5 (λ_=>rfl) (λx v hv=>by simp[Sd5] at hv;rcases hv with rfl | rfl | rfl<;>rfl) db5 Je5 74 #[] blk 0 cap d w eg (hcl 0 d.size) hH hb hs
  rw[Hd9] at this;refine this.mono λe w' ⟨h1,d',n,os,h2,h3,h4⟩=>⟨h1,n,os,?_⟩
  have h5:=sorted_unique_holds Je5 Se3 d d' h2 h3;rw[h4];show _=sortWorldK Sd5 3 w blk 0 n (d.toList.mergeSort λx y=>!ltOf db5 y x).toArray os
  rw[<- h5]
end Go.Ev.Ce
namespace Go.Ev.Ce
open Go Go.Ev Go.Ev.L Go.Proofs
set_option maxRecDepth 100000
noncomputable def Bb8:List (Nat×Sum):=[]
theorem vb3:k9 prog G Bb8:=trivial
structure ja2 where
 (alt ns0:Nat)
 eh0:List (List b7)
noncomputable def Q7{α:Type}(kk:ja2->α)(x:V3×List V3):α:=(sl (Nat.beq 0 0&&Nat.ble ((0+(len (s8 (λk=>(tV).row (gL tV (x.1::x.2) k)) (List.range (List.length x.2+1)))))*24) room) (kk ⟨1,(0+(len (s8 (λk=>(tV).row (gL tV (x.1::x.2) k)) (List.range (List.length x.2+1))))),(app [] (s8 (λk=>(tV).row (gL tV (x.1::x.2) k)) (List.range (List.length x.2+1))))⟩) (kk ⟨0,0,[]⟩))
noncomputable def aa4(x:V3×List V3):ja2:=Q7 (λr=>r) x
noncomputable def ua5(r:ja2):DT (b7×List c8):=(.ite (Nat.beq r.alt 1) (.ret (.sl 0 0 r.ns0 0,[⟨25,3,r.eh0,true,false,0⟩])) .fail)
theorem Jb6{α β:Type}(F:α->β)(kk:ja2->α)(x:V3×List V3):F (Q7 kk x)=Q7 (λr=>F (kk r)) x:=by unfold Q7;(repeat' apply u7 (f:=F))<;>rfl
noncomputable def ya9:Sum:=L9 (bd6 tV) (λx=>ua5 (aa4 x))
theorem Oa3:i5 prog G 72 ya9:=kb6 (bd b72 vb3) λx=>C8 (Qhd (b:=Q7 (λr=>(ua5 r).run) x) (by kernel_rfl) (Jb6 (λr=>(ua5 r).run) (λr=>r) x).symm)
structure da9 where
 ns0:Nat
 eh0:List (List b7)
noncomputable def na6:List (Nat×Sum):=[]
theorem mb2:k9 prog G na6:=trivial
structure C3 where
 (ns0 os4 ns4:Nat)
structure o6 where
 (is3 is5:Int)
 eh0:List (List b7)
noncomputable def Aa0(p:C3)(s:o6):St:=⟨.sl 0 0 p.ns0 0::.unk::.unk::i s.is3::.sl 0 p.os4 p.ns4 0::i s.is5::ra 55 [],[⟨25,3,s.eh0,true,false,0⟩]⟩
noncomputable def J9{α:Type}(k:o6->α)(e:Nat->α)(z:α)(p:C3)(s:o6):α:=(sl (decide (s.is5<(↑p.ns4:Int))) (sl (inB s.is5 p.ns4) (sl (ldR tV s.eh0 (p.os4+s.is5.toNat)) (sl (inB (W (s.is5-1)) p.ns4) (sl (ldR tV s.eh0 (p.os4+(W (s.is5-1)).toNat)) (sl (!(((rdR tV s.eh0 (p.os4+s.is5.toNat)).x==(rdR tV s.eh0 (p.os4+(W (s.is5-1)).toNat)).x)&&(((rdR tV s.eh0 (p.os4+s.is5.toNat)).y==(rdR tV s.eh0 (p.os4+(W (s.is5-1)).toNat)).y)&&(((rdR tV s.eh0 (p.os4+s.is5.toNat)).z==(rdR tV s.eh0 (p.os4+(W (s.is5-1)).toNat)).z)&&true)))) (sl (inB s.is5 p.ns4) (sl (ldR tV s.eh0 (p.os4+s.is5.toNat)) (sl (inB s.is3 p.ns0) (sl ((Nat.blt (0+s.is3.toNat) (len s.eh0))&&(Nat.ble (0+3) (len (i7 s.eh0 (0+s.is3.toNat))))) (k ⟨W (s.is3+1),W (s.is5+1),setAt s.eh0 (0+s.is3.toNat) (P1 (i7 s.eh0 (0+s.is3.toNat)) 0 [i (rdR tV s.eh0 (p.os4+s.is5.toNat)).x,i (rdR tV s.eh0 (p.os4+s.is5.toNat)).y,i (rdR tV s.eh0 (p.os4+s.is5.toNat)).z])⟩) z) z) z) z) (k ⟨s.is3,W (s.is5+1),s.eh0⟩)) z) z) z) z) (e 1))
noncomputable def r5(p:C3)(s:o6):Stp o6:=J9 .next .exit .fail p s
noncomputable def ja3:Lo C3 o6:=⟨En na6,1,ye6,[1,1,0,1,4,4,1,0,4,1,2,1,0,1,4,4],[0,3,4,5],.p,[⟨.s (.o (.sl 0 0 (some 0) none))::sUq::sUq::sIq::.s (.o (.sl 0 0 none none))::sIq::ru2 55 [],[⟨25,3,true,none⟩],λa H=>(⟨slN (slT a 0),slO (slT a 4),slN (slT a 4)⟩,⟨aIq a 3,aIq a 5,elT H 0⟩)⟩],r5,[(some 2,λp s=>upq (Aa0 p s) [(29,i s.is5),(30,.sl 0 p.os4 p.ns4 0),(31,i (↑p.ns4:Int)),(32,b (decide (s.is5<(↑p.ns4:Int))))])],Aa0⟩
theorem gb5:ja3.Ok:=Lo.ok [] (by kernel_rfl) .nil rfl (.cons (λa H=>by kernel_rfl) .nil) λp s=>(.of @J9 (λF _ _ _ _ _=>by unfold J9;(repeat' apply u7 (f:=F))<;>rfl) (by kernel_rfl))
structure N5 where
 ns0:Nat
 eh0:List (List b7)
structure s7 where
 is3:Int
noncomputable def Aa1(p:N5)(s:s7):St:=⟨.sl 0 0 p.ns0 0::.unk::.unk::i s.is3::ra 57 [],[⟨25,3,p.eh0,true,false,0⟩]⟩
noncomputable def K0{α:Type}(k:s7->α)(e:Nat->α)(z:α)(p:N5)(s:s7):α:=let t1:=(lp (r5 (⟨p.ns0,0+s.is3.toNat,p.ns0-s.is3.toNat⟩:C3)) (⟨s.is3,1,p.eh0⟩:o6));(sl (decide (s.is3<(↑p.ns0:Int))) (sl (inB s.is3 p.ns0) (sl (ldR tV p.eh0 (0+s.is3.toNat)) (sl (inB (W (s.is3-1)) p.ns0) (sl (ldR tV p.eh0 (0+(W (s.is3-1)).toNat)) (sl (((rdR tV p.eh0 (0+s.is3.toNat)).x==(rdR tV p.eh0 (0+(W (s.is3-1)).toNat)).x)&&(((rdR tV p.eh0 (0+s.is3.toNat)).y==(rdR tV p.eh0 (0+(W (s.is3-1)).toNat)).y)&&(((rdR tV p.eh0 (0+s.is3.toNat)).z==(rdR tV p.eh0 (0+(W (s.is3-1)).toNat)).z)&&true))) (sl (inB s.is3 (p.ns0+1)) (sl (Nat.beq t1.1 1) (sl (inB t1.2.is3 (p.ns0+1)) (sl (inB t1.2.is3 (p.ns0+1)) (e 1) z) z) z) z) (k ⟨W (s.is3+1)⟩)) z) z) z) z) (e 2))
noncomputable def L1(p:N5)(s:s7):Stp s7:=K0 .next .exit .fail p s
noncomputable def ja4:Lo N5 s7:=⟨En na6,1,ye6,[1,1,0,1,4,4],[0,3],.s .p (.s (.b (.s .p (.c (.s .p (.s (.s .p (.b (.u ja3.ls))) .p)) .p))) .p),[⟨.s (.o (.sl 0 0 (some 0) none))::sUq::sUq::sIq::ru2 57 [],[⟨25,3,true,none⟩],λa H=>(⟨slN (slT a 0),elT H 0⟩,⟨aIq a 3⟩)⟩],L1,[(none,λp s=>let t1:=(lp (r5 (⟨p.ns0,0+s.is3.toNat,p.ns0-s.is3.toNat⟩:C3)) (⟨s.is3,1,p.eh0⟩:o6));⟨[.sl 0 0 (t1.2.is3.toNat-0) 0],[⟨25,3,app (G7 t1.2.eh0 (0+t1.2.is3.toNat)) (app (List.replicate (p.ns0-t1.2.is3.toNat) [i 0,i 0,i 0]) (i6 t1.2.eh0 ((0+t1.2.is3.toNat)+(p.ns0-t1.2.is3.toNat)))),true,false,0⟩]⟩),(some 0,λp s=>upq (Aa1 p s) [(10,i s.is3),(11,.sl 0 0 p.ns0 0),(12,i (↑p.ns0:Int)),(13,b (decide (s.is3<(↑p.ns0:Int))))])],Aa1⟩
theorem gb6:ja4.Ok:=Lo.ok [ja3.pr] (by kernel_rfl) (.cons gb5 .nil) rfl (.cons (λa H=>by kernel_rfl) .nil) λp s=>(.of @K0 (λF _ _ _ _ _=>by unfold K0;(repeat' apply u7 (f:=F))<;>rfl) (by kernel_rfl))
structure ea0 where
 (alt ns0:Nat)
 eh0:List (List b7)
noncomputable def L2{α:Type}(kk:ea0->α)(x:da9):α:=let t1:=(lp (L1 (⟨x.ns0,x.eh0⟩:N5)) (⟨1⟩:s7));let t2:=(lp (r5 (⟨x.ns0,0+t1.2.is3.toNat,x.ns0-t1.2.is3.toNat⟩:C3)) (⟨t1.2.is3,1,x.eh0⟩:o6));(sl (decide ((↑x.ns0:Int)<2)) (kk ⟨1,x.ns0,x.eh0⟩) (sl (Nat.beq t1.1 1) (kk ⟨1,t2.2.is3.toNat-0,app (G7 t2.2.eh0 (0+t2.2.is3.toNat)) (app (List.replicate (x.ns0-t2.2.is3.toNat) [i 0,i 0,i 0]) (i6 t2.2.eh0 ((0+t2.2.is3.toNat)+(x.ns0-t2.2.is3.toNat))))⟩) (sl (Nat.beq t1.1 2) (kk ⟨1,x.ns0,x.eh0⟩) (kk ⟨0,0,[]⟩))))
noncomputable def L3(x:da9):ea0:=L2 (λr=>r) x
noncomputable def na7(x:da9)(r:ea0):DT (b7×List c8):=(.ite (Nat.beq r.alt 1) (.ret (.sl 0 0 r.ns0 0,[⟨25,3,r.eh0,true,false,0⟩])) .fail)
theorem vb4{α β:Type}(F:α->β)(kk:ea0->α)(x:da9):F (L2 kk x)=L2 (λr=>F (kk r)) x:=by unfold L2;(repeat' apply u7 (f:=F))<;>rfl
noncomputable def qa5:Sum:=kb7 ⟨[.s (.o (.sl 0 0 (some 0) none))],[⟨25,3,true,none⟩],λa H=>(⟨slN (slT a 0),elT H 0⟩,())⟩ (λx=>na7 x (L3 x))
theorem Fa2:i5 prog G 75 qa5:=ba4 (enc:=λx=>⟨[.sl 0 0 x.ns0 0],[⟨25,3,x.eh0,true,false,0⟩]⟩) (λa H=>by kernel_rfl) (bd b75 mb2) λx=>fb5 (.s .p (.s .p (.s (.s .p (.b (.u ja4.ls))) .p))) [ja4.pr] (by kernel_rfl) (.cons gb6 .nil) (Qhd (b:=L2 (λr=>(na7 x r).run) x) (by kernel_rfl) (vb4 (λr=>(na7 x r).run) (λr=>r) x).symm)
noncomputable def Zb4:List (Nat×Sum):=[(72,ya9),(73,na5),(75,qa5)]
theorem Rb1:k9 prog G Zb4:=⟨Oa3,Da3,Fa2,trivial⟩
noncomputable def la3(x:V3×List V3):Option (b7×List c8):=let t1:=(aa4 (hC tV (λk=>(tV).row (gL tV (x.1::x.2) k)),tC tV (List.length x.2) (λk=>(tV).row (gL tV (x.1::x.2) k))));let t2:=(L3 ⟨t1.ns0,app (bL tV (pb1 (slR tV t1.eh0 0 t1.ns0))) (i6 t1.eh0 t1.ns0)⟩);(sl (okL tV (List.length x.2+1) (λk=>(tV).row (gL tV (x.1::x.2) k))) (sl (Nat.beq t1.alt 1) (sl (Bool.and (Nat.ble t1.ns0 room) (Bool.and (Nat.ble t1.ns0 (len t1.eh0)) (okS tV t1.eh0 0 t1.ns0))) (sl (Nat.beq t2.alt 1) (some (.sl 0 0 t2.ns0 0,[⟨25,3,t2.eh0,true,false,0⟩])) none) none) none) none)
noncomputable def Ma9(x:V3×List V3):List V3:=W0 (one (r1L tV)) (la3 x)
noncomputable def Na0(x:V3×List V3):Bool:=okO (one (r1L tV)) (la3 x)
noncomputable def pb2:Sum:=L9 (bd6 tV) (λx=>.guard (Na0 x) (.ret ((one (r1L tV)).enc (Ma9 x),[])))
theorem Zb5:i5 prog G 45 pb2:=Ga2 (bd b45 Rb1) (one (r1L tV)) (o:=la3) λx=>C8 (by kernel_rfl)
noncomputable def Ja4:List (Nat×Sum):=[(44,Qa0),(45,pb2),(77,Ma5),(78,Qb3),(47,Eb3),(48,za5),(46,ha6)]
theorem xc7:k9 prog G Ja4:=⟨db3,Zb5,gb1,Fc3,xc2,cb5,ka9,trivial⟩
structure N6 where
 (is3 is4 is9 w7 fa6 l9 nc5:Int)
 (d7 f7:List V3)
structure A4 where
 ph:Nat
 C0:Int
 eh4:List (List b7)
 B5:Nat
 eh5:List (List b7)
noncomputable def gb7(p:N6)(s:A4):St:=⟨.unk::.ptr 0 0 0 0::.unk::i p.is3::i p.is4::ra 4 (i p.is9::i p.w7::ra 5 (i p.fa6::i p.l9::ra 5 (i p.nc5::i s.C0::ra 35 (i 0::.unk::.ptr 1 0 0 0::.v (.slice none 0 0)::i 0::.unk::.ptr 2 0 0 0::.ptr 3 0 0 0::ra 28 [])))),[⟨0,1,[[eL tV p.d7]],true,false,0⟩,⟨0,1,[[eL tV p.f7]],true,false,0⟩,⟨0,0,[[.ptr 4 0 0 0]],true,false,0⟩,⟨0,0,[[.v (.slice none 0 0)]],true,false,0⟩,⟨76,0,s.eh4,true,false,0⟩]⟩
noncomputable def gb8(p:N6)(s:A4):St:=⟨.unk::.ptr 0 0 0 0::.unk::i p.is3::i p.is4::ra 4 (i p.is9::i p.w7::ra 5 (i p.fa6::i p.l9::ra 5 (i p.nc5::i s.C0::ra 35 (i 0::.unk::.ptr 1 0 0 0::.v (.slice none 0 0)::i 0::.unk::.ptr 2 0 0 0::.ptr 3 0 0 0::ra 28 [])))),[⟨0,1,[[eL tV p.d7]],true,false,0⟩,⟨0,1,[[eL tV p.f7]],true,false,0⟩,⟨0,0,[[.ptr 4 0 0 0]],true,false,0⟩,⟨0,0,[[.sl 5 0 s.B5 0]],true,false,0⟩,⟨76,0,s.eh4,true,false,0⟩,⟨60,4,s.eh5,true,false,0⟩]⟩
noncomputable def jc7(p:N6)(s:A4):St:=(sel (Nat.beq s.ph 1) (gb8 p s) (gb7 p s))
noncomputable def Q8{α:Type}(k:A4->α)(e:Nat->α)(z:α)(p:N6)(s:A4):α:=let t1:=(G3 (gL tV p.d7 s.C0.toNat) (gL tV p.d7 p.is4.toNat) (gL tV p.d7 p.is3.toNat));let t2:=(ta2 t1.1);let t3:=(Y9 (rt tV p.f7) t2);let t4:=(Y9 (rt tV p.f7) t1.1);(sl (decide (s.C0<p.nc5)) (sl (inB s.C0 (List.length p.d7)) (sl (inB p.is4 (List.length p.d7)) (sl (inB p.is3 (List.length p.d7)) (sl (ca9 (gL tV p.d7 s.C0.toNat) (gL tV p.d7 p.is4.toNat) (gL tV p.d7 p.is3.toNat)) (sl t1.2 (sl t1.2 (sl (Sa4 4 [(0,.int .i64),(1,.int .i64),(2,.int .i64),(3,.int .i64)] [i t1.1.n.x,i t1.1.n.y,i t1.1.n.z,i t1.1.b] s.eh4) (sl (Sa4 4 [(0,.int .i64),(1,.int .i64),(2,.int .i64),(3,.int .i64)] [i t2.n.x,i t2.n.y,i t2.n.z,i t2.b] s.eh4) (k ⟨0,W (s.C0+1),s.eh4,0,[]⟩) (sl (okE tV p.f7) (sl (G5 (rt tV p.f7) t2) (sl (!t3) (k ⟨1,W (s.C0+1),Z8 [(0,.int .i64),(1,.int .i64),(2,.int .i64),(3,.int .i64)] [i t2.n.x,i t2.n.y,i t2.n.z,i t2.b] [i t2.n.x,i t2.n.y,i t2.n.z,i t2.b,b true] s.eh4,1,[[i t2.n.x,i t2.n.y,i t2.n.z,i t2.b]]⟩) (k ⟨0,W (s.C0+1),Z8 [(0,.int .i64),(1,.int .i64),(2,.int .i64),(3,.int .i64)] [i t2.n.x,i t2.n.y,i t2.n.z,i t2.b] [i t2.n.x,i t2.n.y,i t2.n.z,i t2.b,b true] s.eh4,0,[]⟩)) z) z)) (sl (okE tV p.f7) (sl (G5 (rt tV p.f7) t1.1) (sl (!t4) (sl (Sa4 4 [(0,.int .i64),(1,.int .i64),(2,.int .i64),(3,.int .i64)] [i t2.n.x,i t2.n.y,i t2.n.z,i t2.b] (Z8 [(0,.int .i64),(1,.int .i64),(2,.int .i64),(3,.int .i64)] [i t1.1.n.x,i t1.1.n.y,i t1.1.n.z,i t1.1.b] [i t1.1.n.x,i t1.1.n.y,i t1.1.n.z,i t1.1.b,b true] s.eh4)) (k ⟨1,W (s.C0+1),Z8 [(0,.int .i64),(1,.int .i64),(2,.int .i64),(3,.int .i64)] [i t1.1.n.x,i t1.1.n.y,i t1.1.n.z,i t1.1.b] [i t1.1.n.x,i t1.1.n.y,i t1.1.n.z,i t1.1.b,b true] s.eh4,1,[[i t1.1.n.x,i t1.1.n.y,i t1.1.n.z,i t1.1.b]]⟩) (sl (okE tV p.f7) (sl (G5 (rt tV p.f7) t2) (sl (!t3) (k ⟨1,W (s.C0+1),Z8 [(0,.int .i64),(1,.int .i64),(2,.int .i64),(3,.int .i64)] [i t2.n.x,i t2.n.y,i t2.n.z,i t2.b] [i t2.n.x,i t2.n.y,i t2.n.z,i t2.b,b true] (Z8 [(0,.int .i64),(1,.int .i64),(2,.int .i64),(3,.int .i64)] [i t1.1.n.x,i t1.1.n.y,i t1.1.n.z,i t1.1.b] [i t1.1.n.x,i t1.1.n.y,i t1.1.n.z,i t1.1.b,b true] s.eh4),2,[[i t1.1.n.x,i t1.1.n.y,i t1.1.n.z,i t1.1.b],[i t2.n.x,i t2.n.y,i t2.n.z,i t2.b]]⟩) (k ⟨1,W (s.C0+1),Z8 [(0,.int .i64),(1,.int .i64),(2,.int .i64),(3,.int .i64)] [i t2.n.x,i t2.n.y,i t2.n.z,i t2.b] [i t2.n.x,i t2.n.y,i t2.n.z,i t2.b,b true] (Z8 [(0,.int .i64),(1,.int .i64),(2,.int .i64),(3,.int .i64)] [i t1.1.n.x,i t1.1.n.y,i t1.1.n.z,i t1.1.b] [i t1.1.n.x,i t1.1.n.y,i t1.1.n.z,i t1.1.b,b true] s.eh4),1,[[i t1.1.n.x,i t1.1.n.y,i t1.1.n.z,i t1.1.b]]⟩)) z) z)) (sl (Sa4 4 [(0,.int .i64),(1,.int .i64),(2,.int .i64),(3,.int .i64)] [i t2.n.x,i t2.n.y,i t2.n.z,i t2.b] (Z8 [(0,.int .i64),(1,.int .i64),(2,.int .i64),(3,.int .i64)] [i t1.1.n.x,i t1.1.n.y,i t1.1.n.z,i t1.1.b] [i t1.1.n.x,i t1.1.n.y,i t1.1.n.z,i t1.1.b,b true] s.eh4)) (k ⟨0,W (s.C0+1),Z8 [(0,.int .i64),(1,.int .i64),(2,.int .i64),(3,.int .i64)] [i t1.1.n.x,i t1.1.n.y,i t1.1.n.z,i t1.1.b] [i t1.1.n.x,i t1.1.n.y,i t1.1.n.z,i t1.1.b,b true] s.eh4,0,[]⟩) (sl (okE tV p.f7) (sl (G5 (rt tV p.f7) t2) (sl (!t3) (k ⟨1,W (s.C0+1),Z8 [(0,.int .i64),(1,.int .i64),(2,.int .i64),(3,.int .i64)] [i t2.n.x,i t2.n.y,i t2.n.z,i t2.b] [i t2.n.x,i t2.n.y,i t2.n.z,i t2.b,b true] (Z8 [(0,.int .i64),(1,.int .i64),(2,.int .i64),(3,.int .i64)] [i t1.1.n.x,i t1.1.n.y,i t1.1.n.z,i t1.1.b] [i t1.1.n.x,i t1.1.n.y,i t1.1.n.z,i t1.1.b,b true] s.eh4),1,[[i t2.n.x,i t2.n.y,i t2.n.z,i t2.b]]⟩) (k ⟨0,W (s.C0+1),Z8 [(0,.int .i64),(1,.int .i64),(2,.int .i64),(3,.int .i64)] [i t2.n.x,i t2.n.y,i t2.n.z,i t2.b] [i t2.n.x,i t2.n.y,i t2.n.z,i t2.b,b true] (Z8 [(0,.int .i64),(1,.int .i64),(2,.int .i64),(3,.int .i64)] [i t1.1.n.x,i t1.1.n.y,i t1.1.n.z,i t1.1.b] [i t1.1.n.x,i t1.1.n.y,i t1.1.n.z,i t1.1.b,b true] s.eh4),0,[]⟩)) z) z))) z) z)) (k ⟨0,W (s.C0+1),s.eh4,0,[]⟩)) (sl t1.2 z (k ⟨0,W (s.C0+1),s.eh4,0,[]⟩))) z) z) z) z) (e 1))
noncomputable def Q9{α:Type}(k:A4->α)(e:Nat->α)(z:α)(p:N6)(s:A4):α:=let t1:=(G3 (gL tV p.d7 s.C0.toNat) (gL tV p.d7 p.is4.toNat) (gL tV p.d7 p.is3.toNat));let t2:=(ta2 t1.1);let t3:=(Y9 (rt tV p.f7) t2);let t4:=(Y9 (rt tV p.f7) t1.1);let a0:=(Nat.beq s.B5 (len s.eh5)&&Nat.ble ((s.B5+1)*32) room);(sl (decide (s.C0<p.nc5)) (sl (inB s.C0 (List.length p.d7)) (sl (inB p.is4 (List.length p.d7)) (sl (inB p.is3 (List.length p.d7)) (sl (ca9 (gL tV p.d7 s.C0.toNat) (gL tV p.d7 p.is4.toNat) (gL tV p.d7 p.is3.toNat)) (sl t1.2 (sl t1.2 (sl (Sa4 4 [(0,.int .i64),(1,.int .i64),(2,.int .i64),(3,.int .i64)] [i t1.1.n.x,i t1.1.n.y,i t1.1.n.z,i t1.1.b] s.eh4) (sl (Sa4 4 [(0,.int .i64),(1,.int .i64),(2,.int .i64),(3,.int .i64)] [i t2.n.x,i t2.n.y,i t2.n.z,i t2.b] s.eh4) (k ⟨1,W (s.C0+1),s.eh4,s.B5,s.eh5⟩) (sl (okE tV p.f7) (sl (G5 (rt tV p.f7) t2) (sl (!t3) (sl a0 (k ⟨1,W (s.C0+1),Z8 [(0,.int .i64),(1,.int .i64),(2,.int .i64),(3,.int .i64)] [i t2.n.x,i t2.n.y,i t2.n.z,i t2.b] [i t2.n.x,i t2.n.y,i t2.n.z,i t2.b,b true] s.eh4,s.B5+1,app s.eh5 [[i t2.n.x,i t2.n.y,i t2.n.z,i t2.b]]⟩) z) (k ⟨1,W (s.C0+1),Z8 [(0,.int .i64),(1,.int .i64),(2,.int .i64),(3,.int .i64)] [i t2.n.x,i t2.n.y,i t2.n.z,i t2.b] [i t2.n.x,i t2.n.y,i t2.n.z,i t2.b,b true] s.eh4,s.B5,s.eh5⟩)) z) z)) (sl (okE tV p.f7) (sl (G5 (rt tV p.f7) t1.1) (sl (!t4) (sl a0 (sl (Sa4 4 [(0,.int .i64),(1,.int .i64),(2,.int .i64),(3,.int .i64)] [i t2.n.x,i t2.n.y,i t2.n.z,i t2.b] (Z8 [(0,.int .i64),(1,.int .i64),(2,.int .i64),(3,.int .i64)] [i t1.1.n.x,i t1.1.n.y,i t1.1.n.z,i t1.1.b] [i t1.1.n.x,i t1.1.n.y,i t1.1.n.z,i t1.1.b,b true] s.eh4)) (k ⟨1,W (s.C0+1),Z8 [(0,.int .i64),(1,.int .i64),(2,.int .i64),(3,.int .i64)] [i t1.1.n.x,i t1.1.n.y,i t1.1.n.z,i t1.1.b] [i t1.1.n.x,i t1.1.n.y,i t1.1.n.z,i t1.1.b,b true] s.eh4,s.B5+1,app s.eh5 [[i t1.1.n.x,i t1.1.n.y,i t1.1.n.z,i t1.1.b]]⟩) (sl (okE tV p.f7) (sl (G5 (rt tV p.f7) t2) (sl (!t3) (sl (Nat.beq (s.B5+1) (len (app s.eh5 [[i t1.1.n.x,i t1.1.n.y,i t1.1.n.z,i t1.1.b]]))&&Nat.ble (((s.B5+1)+1)*32) room) (k ⟨1,W (s.C0+1),Z8 [(0,.int .i64),(1,.int .i64),(2,.int .i64),(3,.int .i64)] [i t2.n.x,i t2.n.y,i t2.n.z,i t2.b] [i t2.n.x,i t2.n.y,i t2.n.z,i t2.b,b true] (Z8 [(0,.int .i64),(1,.int .i64),(2,.int .i64),(3,.int .i64)] [i t1.1.n.x,i t1.1.n.y,i t1.1.n.z,i t1.1.b] [i t1.1.n.x,i t1.1.n.y,i t1.1.n.z,i t1.1.b,b true] s.eh4),(s.B5+1)+1,app (app s.eh5 [[i t1.1.n.x,i t1.1.n.y,i t1.1.n.z,i t1.1.b]]) [[i t2.n.x,i t2.n.y,i t2.n.z,i t2.b]]⟩) z) (k ⟨1,W (s.C0+1),Z8 [(0,.int .i64),(1,.int .i64),(2,.int .i64),(3,.int .i64)] [i t2.n.x,i t2.n.y,i t2.n.z,i t2.b] [i t2.n.x,i t2.n.y,i t2.n.z,i t2.b,b true] (Z8 [(0,.int .i64),(1,.int .i64),(2,.int .i64),(3,.int .i64)] [i t1.1.n.x,i t1.1.n.y,i t1.1.n.z,i t1.1.b] [i t1.1.n.x,i t1.1.n.y,i t1.1.n.z,i t1.1.b,b true] s.eh4),s.B5+1,app s.eh5 [[i t1.1.n.x,i t1.1.n.y,i t1.1.n.z,i t1.1.b]]⟩)) z) z)) z) (sl (Sa4 4 [(0,.int .i64),(1,.int .i64),(2,.int .i64),(3,.int .i64)] [i t2.n.x,i t2.n.y,i t2.n.z,i t2.b] (Z8 [(0,.int .i64),(1,.int .i64),(2,.int .i64),(3,.int .i64)] [i t1.1.n.x,i t1.1.n.y,i t1.1.n.z,i t1.1.b] [i t1.1.n.x,i t1.1.n.y,i t1.1.n.z,i t1.1.b,b true] s.eh4)) (k ⟨1,W (s.C0+1),Z8 [(0,.int .i64),(1,.int .i64),(2,.int .i64),(3,.int .i64)] [i t1.1.n.x,i t1.1.n.y,i t1.1.n.z,i t1.1.b] [i t1.1.n.x,i t1.1.n.y,i t1.1.n.z,i t1.1.b,b true] s.eh4,s.B5,s.eh5⟩) (sl (okE tV p.f7) (sl (G5 (rt tV p.f7) t2) (sl (!t3) (sl a0 (k ⟨1,W (s.C0+1),Z8 [(0,.int .i64),(1,.int .i64),(2,.int .i64),(3,.int .i64)] [i t2.n.x,i t2.n.y,i t2.n.z,i t2.b] [i t2.n.x,i t2.n.y,i t2.n.z,i t2.b,b true] (Z8 [(0,.int .i64),(1,.int .i64),(2,.int .i64),(3,.int .i64)] [i t1.1.n.x,i t1.1.n.y,i t1.1.n.z,i t1.1.b] [i t1.1.n.x,i t1.1.n.y,i t1.1.n.z,i t1.1.b,b true] s.eh4),s.B5+1,app s.eh5 [[i t2.n.x,i t2.n.y,i t2.n.z,i t2.b]]⟩) z) (k ⟨1,W (s.C0+1),Z8 [(0,.int .i64),(1,.int .i64),(2,.int .i64),(3,.int .i64)] [i t2.n.x,i t2.n.y,i t2.n.z,i t2.b] [i t2.n.x,i t2.n.y,i t2.n.z,i t2.b,b true] (Z8 [(0,.int .i64),(1,.int .i64),(2,.int .i64),(3,.int .i64)] [i t1.1.n.x,i t1.1.n.y,i t1.1.n.z,i t1.1.b] [i t1.1.n.x,i t1.1.n.y,i t1.1.n.z,i t1.1.b,b true] s.eh4),s.B5,s.eh5⟩)) z) z))) z) z)) (k ⟨1,W (s.C0+1),s.eh4,s.B5,s.eh5⟩)) (sl t1.2 z (k ⟨1,W (s.C0+1),s.eh4,s.B5,s.eh5⟩))) z) z) z) z) (e 2))
noncomputable def O8(p:N6)(s:A4):Stp A4:=(sel (Nat.beq s.ph 1) (Q9 .next .exit .fail p s) (Q8 .next .exit .fail p s))
noncomputable def Wa2:Lo N6 A4:=⟨En Ja4,0,ie6,[1,1,1,1,1,0,1,4,4,1,4,4,1,1,0,4,1,1,4,4,1,1,0,4,1,1,4,4],[1,3,4,9,10,16,17,23,24,60,62,63,64,66,67],.p,[⟨sUq::sPq 0::sUq::sIq::sIq::ru2 4 (sIq::sIq::ru2 5 (sIq::sIq::ru2 5 (sIq::sIq::ru2 35 (.s (.o (.lit .i64 0))::sUq::sPq 1::.s (.o .nil)::.s (.o (.lit .i64 0))::sUq::sPq 2::sPq 3::ru2 28 [])))),[⟨0,1,true,some [[.c 3 (nL tV)]]⟩,⟨0,1,true,some [[.c 3 (nL tV)]]⟩,⟨0,0,true,some [[.o (.ptr 4 0 0 0)]]⟩,⟨0,0,true,some [[.o .nil]]⟩,⟨76,0,true,none⟩],λa H=>(⟨aIq a 3,aIq a 4,aIq a 9,aIq a 10,aIq a 16,aIq a 17,aIq a 23,hLq tV H 0 0 0,hLq tV H 1 0 0⟩,⟨0,aIq a 24,elT H 4,0,[]⟩)⟩,⟨sUq::sPq 0::sUq::sIq::sIq::ru2 4 (sIq::sIq::ru2 5 (sIq::sIq::ru2 5 (sIq::sIq::ru2 35 (.s (.o (.lit .i64 0))::sUq::sPq 1::.s (.o .nil)::.s (.o (.lit .i64 0))::sUq::sPq 2::sPq 3::ru2 28 [])))),[⟨0,1,true,some [[.c 3 (nL tV)]]⟩,⟨0,1,true,some [[.c 3 (nL tV)]]⟩,⟨0,0,true,some [[.o (.ptr 4 0 0 0)]]⟩,⟨0,0,true,some [[.o (.sl 5 0 (some 0) none)]]⟩,⟨76,0,true,none⟩,⟨60,4,true,none⟩],λa H=>(⟨aIq a 3,aIq a 4,aIq a 9,aIq a 10,aIq a 16,aIq a 17,aIq a 23,hLq tV H 0 0 0,hLq tV H 1 0 0⟩,⟨1,aIq a 24,elT H 4,slN (slT (rwT (elT H 3) 0) 0),elT H 5⟩)⟩],O8,[(some 4,λp s=>upq (gb7 p s) [(25,b (decide (s.C0<p.nc5)))]),(some 4,λp s=>upq (gb8 p s) [(25,b (decide (s.C0<p.nc5)))])],jc7⟩
theorem jc8:Wa2.OkM:=Lo.okM [] (by kernel_rfl) .nil rfl (.cons (λa H=>by kernel_rfl) (.cons (λa H=>by kernel_rfl) .nil)) λp s=>(.sel (Nat.beq s.ph 1) (.of @Q9 (λF _ _ _ _ _=>by unfold Q9;(repeat' apply u7 (f:=F))<;>rfl) (by kernel_rfl)) (.of @Q8 (λF _ _ _ _ _=>by unfold Q8;(repeat' apply u7 (f:=F))<;>rfl) (by kernel_rfl)))
structure N7 where
 (is3 is9 w7 fa6:Int)
structure y5 where
 ph:Nat
 l9:Int
 (d7 f7:List V3)
 eh4:List (List b7)
 B5:Nat
 eh5:List (List b7)
noncomputable def gb9(p:N7)(s:y5):St:=⟨.unk::.ptr 0 0 0 0::.unk::i p.is3::ra 5 (i p.is9::i p.w7::ra 5 (i p.fa6::i s.l9::ra 42 (i 0::.unk::.ptr 1 0 0 0::.v (.slice none 0 0)::i 0::.unk::.ptr 2 0 0 0::.ptr 3 0 0 0::ra 28 []))),[⟨0,1,[[eL tV s.d7]],true,false,0⟩,⟨0,1,[[eL tV s.f7]],true,false,0⟩,⟨0,0,[[.ptr 4 0 0 0]],true,false,0⟩,⟨0,0,[[.v (.slice none 0 0)]],true,false,0⟩,⟨76,0,s.eh4,true,false,0⟩]⟩
noncomputable def hb5(p:N7)(s:y5):St:=⟨.unk::.ptr 0 0 0 0::.unk::i p.is3::ra 5 (i p.is9::i p.w7::ra 5 (i p.fa6::i s.l9::ra 42 (i 0::.unk::.ptr 1 0 0 0::.v (.slice none 0 0)::i 0::.unk::.ptr 2 0 0 0::.ptr 3 0 0 0::ra 28 []))),[⟨0,1,[[eL tV s.d7]],true,false,0⟩,⟨0,1,[[eL tV s.f7]],true,false,0⟩,⟨0,0,[[.ptr 4 0 0 0]],true,false,0⟩,⟨0,0,[[.sl 5 0 s.B5 0]],true,false,0⟩,⟨76,0,s.eh4,true,false,0⟩,⟨60,4,s.eh5,true,false,0⟩]⟩
noncomputable def jc9(p:N7)(s:y5):St:=(sel (Nat.beq s.ph 1) (hb5 p s) (gb9 p s))
noncomputable def R3{α:Type}(k:y5->α)(e:Nat->α)(z:α)(p:N7)(s:y5):α:=let t1:=(lp (O8 (⟨p.is3,s.l9,p.is9,p.w7,p.fa6,s.l9,(↑(s.l9.toNat-0):Int),rt tV s.d7,rt tV s.f7⟩:N6)) (⟨0,0,s.eh4,0,[]⟩:A4));(sl (decide (s.l9<p.fa6)) (sl (inB s.l9 ((List.length s.d7)+1)) (sl ((cnE tV s.d7)&&((cnE tV s.f7)&&true)) (sl (Nat.beq t1.1 1) (k ⟨0,W (s.l9+1),rt tV s.d7,rt tV s.f7,t1.2.eh4,0,[]⟩) (sl (Nat.beq t1.1 2) (k ⟨1,W (s.l9+1),rt tV s.d7,rt tV s.f7,t1.2.eh4,t1.2.B5,t1.2.eh5⟩) z)) z) z) (e 1))
noncomputable def R4{α:Type}(k:y5->α)(e:Nat->α)(z:α)(p:N7)(s:y5):α:=let t1:=(lp (O8 (⟨p.is3,s.l9,p.is9,p.w7,p.fa6,s.l9,(↑(s.l9.toNat-0):Int),rt tV s.d7,rt tV s.f7⟩:N6)) (⟨1,0,s.eh4,s.B5,s.eh5⟩:A4));(sl (decide (s.l9<p.fa6)) (sl (inB s.l9 ((List.length s.d7)+1)) (sl ((cnE tV s.d7)&&((cnE tV s.f7)&&true)) (sl (Nat.beq t1.1 1) (k ⟨0,W (s.l9+1),rt tV s.d7,rt tV s.f7,t1.2.eh4,0,[]⟩) (sl (Nat.beq t1.1 2) (k ⟨1,W (s.l9+1),rt tV s.d7,rt tV s.f7,t1.2.eh4,t1.2.B5,t1.2.eh5⟩) z)) z) z) (e 2))
noncomputable def W7(p:N7)(s:y5):Stp y5:=(sel (Nat.beq s.ph 1) (R4 .next .exit .fail p s) (R3 .next .exit .fail p s))
noncomputable def Wa3:Lo N7 y5:=⟨En Ja4,0,ie6,[1,1,1,1,1,0,1,4,4,1,4,4,1,1,0,4,1,1,4,4],[1,3,9,10,16,17,60,62,63,64,66,67],.s .p (.s .p (.s (.b (.s .p (.s .p (.b (.u Wa2.lsM))))) .p)),[⟨sUq::sPq 0::sUq::sIq::ru2 5 (sIq::sIq::ru2 5 (sIq::sIq::ru2 42 (.s (.o (.lit .i64 0))::sUq::sPq 1::.s (.o .nil)::.s (.o (.lit .i64 0))::sUq::sPq 2::sPq 3::ru2 28 []))),[⟨0,1,true,some [[.c 3 (nL tV)]]⟩,⟨0,1,true,some [[.c 3 (nL tV)]]⟩,⟨0,0,true,some [[.o (.ptr 4 0 0 0)]]⟩,⟨0,0,true,some [[.o .nil]]⟩,⟨76,0,true,none⟩],λa H=>(⟨aIq a 3,aIq a 9,aIq a 10,aIq a 16⟩,⟨0,aIq a 17,hLq tV H 0 0 0,hLq tV H 1 0 0,elT H 4,0,[]⟩)⟩,⟨sUq::sPq 0::sUq::sIq::ru2 5 (sIq::sIq::ru2 5 (sIq::sIq::ru2 42 (.s (.o (.lit .i64 0))::sUq::sPq 1::.s (.o .nil)::.s (.o (.lit .i64 0))::sUq::sPq 2::sPq 3::ru2 28 []))),[⟨0,1,true,some [[.c 3 (nL tV)]]⟩,⟨0,1,true,some [[.c 3 (nL tV)]]⟩,⟨0,0,true,some [[.o (.ptr 4 0 0 0)]]⟩,⟨0,0,true,some [[.o (.sl 5 0 (some 0) none)]]⟩,⟨76,0,true,none⟩,⟨60,4,true,none⟩],λa H=>(⟨aIq a 3,aIq a 9,aIq a 10,aIq a 16⟩,⟨1,aIq a 17,hLq tV H 0 0 0,hLq tV H 1 0 0,elT H 4,slN (slT (rwT (elT H 3) 0) 0),elT H 5⟩)⟩],W7,[(some 2,λp s=>upq (gb9 p s) [(18,b (decide (s.l9<p.fa6)))]),(some 2,λp s=>upq (hb5 p s) [(18,b (decide (s.l9<p.fa6)))])],jc9⟩
theorem kc0:Wa3.OkM:=Lo.okM [Wa2.prM] (by kernel_rfl) (.cons jc8 .nil) rfl (.cons (λa H=>by kernel_rfl) (.cons (λa H=>by kernel_rfl) .nil)) λp s=>(.sel (Nat.beq s.ph 1) (.of @R4 (λF _ _ _ _ _=>by unfold R4;(repeat' apply u7 (f:=F))<;>rfl) (by kernel_rfl)) (.of @R3 (λF _ _ _ _ _=>by unfold R3;(repeat' apply u7 (f:=F))<;>rfl) (by kernel_rfl)))
structure T4 where
 is9:Int
structure A5 where
 ph:Nat
 w7:Int
 (d7 f7:List V3)
 eh4:List (List b7)
 B5:Nat
 eh5:List (List b7)
noncomputable def hb6(p:T4)(s:A5):St:=⟨.unk::.ptr 0 0 0 0::ra 7 (i p.is9::i s.w7::ra 49 (i 0::.unk::.ptr 1 0 0 0::.v (.slice none 0 0)::i 0::.unk::.ptr 2 0 0 0::.ptr 3 0 0 0::ra 28 [])),[⟨0,1,[[eL tV s.d7]],true,false,0⟩,⟨0,1,[[eL tV s.f7]],true,false,0⟩,⟨0,0,[[.ptr 4 0 0 0]],true,false,0⟩,⟨0,0,[[.v (.slice none 0 0)]],true,false,0⟩,⟨76,0,s.eh4,true,false,0⟩]⟩
noncomputable def hb7(p:T4)(s:A5):St:=⟨.unk::.ptr 0 0 0 0::ra 7 (i p.is9::i s.w7::ra 49 (i 0::.unk::.ptr 1 0 0 0::.v (.slice none 0 0)::i 0::.unk::.ptr 2 0 0 0::.ptr 3 0 0 0::ra 28 [])),[⟨0,1,[[eL tV s.d7]],true,false,0⟩,⟨0,1,[[eL tV s.f7]],true,false,0⟩,⟨0,0,[[.ptr 4 0 0 0]],true,false,0⟩,⟨0,0,[[.sl 5 0 s.B5 0]],true,false,0⟩,⟨76,0,s.eh4,true,false,0⟩,⟨60,4,s.eh5,true,false,0⟩]⟩
noncomputable def kc1(p:T4)(s:A5):St:=(sel (Nat.beq s.ph 1) (hb7 p s) (hb6 p s))
noncomputable def R5{α:Type}(k:A5->α)(e:Nat->α)(z:α)(p:T4)(s:A5):α:=let t1:=(lp (W7 (⟨s.w7,p.is9,s.w7,(↑(s.w7.toNat-0):Int)⟩:N7)) (⟨0,0,rt tV s.d7,rt tV s.f7,s.eh4,0,[]⟩:y5));(sl (decide (s.w7<p.is9)) (sl (inB s.w7 ((List.length s.d7)+1)) (sl ((cnE tV s.d7)&&((cnE tV s.f7)&&true)) (sl (Nat.beq t1.1 1) (k ⟨0,W (s.w7+1),t1.2.d7,t1.2.f7,t1.2.eh4,0,[]⟩) (sl (Nat.beq t1.1 2) (k ⟨1,W (s.w7+1),t1.2.d7,t1.2.f7,t1.2.eh4,t1.2.B5,t1.2.eh5⟩) z)) z) z) (e 1))
noncomputable def R6{α:Type}(k:A5->α)(e:Nat->α)(z:α)(p:T4)(s:A5):α:=let t1:=(lp (W7 (⟨s.w7,p.is9,s.w7,(↑(s.w7.toNat-0):Int)⟩:N7)) (⟨1,0,rt tV s.d7,rt tV s.f7,s.eh4,s.B5,s.eh5⟩:y5));(sl (decide (s.w7<p.is9)) (sl (inB s.w7 ((List.length s.d7)+1)) (sl ((cnE tV s.d7)&&((cnE tV s.f7)&&true)) (sl (Nat.beq t1.1 1) (k ⟨0,W (s.w7+1),t1.2.d7,t1.2.f7,t1.2.eh4,0,[]⟩) (sl (Nat.beq t1.1 2) (k ⟨1,W (s.w7+1),t1.2.d7,t1.2.f7,t1.2.eh4,t1.2.B5,t1.2.eh5⟩) z)) z) z) (e 2))
noncomputable def xa5(p:T4)(s:A5):Stp A5:=(sel (Nat.beq s.ph 1) (R6 .next .exit .fail p s) (R5 .next .exit .fail p s))
noncomputable def Wa4:Lo T4 A5:=⟨En Ja4,0,ie6,[1,1,1,1,1,0,1,4,4,1,4,4],[1,9,10,60,62,63,64,66,67],.s .p (.s .p (.s (.b (.s .p (.s .p (.b (.u Wa3.lsM))))) .p)),[⟨sUq::sPq 0::ru2 7 (sIq::sIq::ru2 49 (.s (.o (.lit .i64 0))::sUq::sPq 1::.s (.o .nil)::.s (.o (.lit .i64 0))::sUq::sPq 2::sPq 3::ru2 28 [])),[⟨0,1,true,some [[.c 3 (nL tV)]]⟩,⟨0,1,true,some [[.c 3 (nL tV)]]⟩,⟨0,0,true,some [[.o (.ptr 4 0 0 0)]]⟩,⟨0,0,true,some [[.o .nil]]⟩,⟨76,0,true,none⟩],λa H=>(⟨aIq a 9⟩,⟨0,aIq a 10,hLq tV H 0 0 0,hLq tV H 1 0 0,elT H 4,0,[]⟩)⟩,⟨sUq::sPq 0::ru2 7 (sIq::sIq::ru2 49 (.s (.o (.lit .i64 0))::sUq::sPq 1::.s (.o .nil)::.s (.o (.lit .i64 0))::sUq::sPq 2::sPq 3::ru2 28 [])),[⟨0,1,true,some [[.c 3 (nL tV)]]⟩,⟨0,1,true,some [[.c 3 (nL tV)]]⟩,⟨0,0,true,some [[.o (.ptr 4 0 0 0)]]⟩,⟨0,0,true,some [[.o (.sl 5 0 (some 0) none)]]⟩,⟨76,0,true,none⟩,⟨60,4,true,none⟩],λa H=>(⟨aIq a 9⟩,⟨1,aIq a 10,hLq tV H 0 0 0,hLq tV H 1 0 0,elT H 4,slN (slT (rwT (elT H 3) 0) 0),elT H 5⟩)⟩],xa5,[(some 0,λp s=>upq (hb6 p s) [(11,b (decide (s.w7<p.is9)))]),(some 0,λp s=>upq (hb7 p s) [(11,b (decide (s.w7<p.is9)))])],kc1⟩
theorem kc2:Wa4.OkM:=Lo.okM [Wa3.prM] (by kernel_rfl) (.cons kc0 .nil) rfl (.cons (λa H=>by kernel_rfl) (.cons (λa H=>by kernel_rfl) .nil)) λp s=>(.sel (Nat.beq s.ph 1) (.of @R6 (λF _ _ _ _ _=>by unfold R6;(repeat' apply u7 (f:=F))<;>rfl) (by kernel_rfl)) (.of @R5 (λF _ _ _ _ _=>by unfold R5;(repeat' apply u7 (f:=F))<;>rfl) (by kernel_rfl)))
noncomputable def ja5(x:V3×List V3):Option (b7×List c8):=let t1:=(ta5 (rt tV (x.1::x.2)));let t2:=(Ma9 (hC tV (λk=>(tV).row (gL tV (x.1::x.2) k)),tC tV (List.length x.2) (λk=>(tV).row (gL tV (x.1::x.2) k))));let t3:=(lp (xa5 (⟨(↑(List.length t2):Int)⟩:T4)) (⟨0,0,rt tV t2,rt tV t2,[],0,[]⟩:A5));(sl (okE tV (x.1::x.2)) (sl (ta6 (rt tV (x.1::x.2))) (sl (t1 != 0) (some (.tup [.v (.slice none 0 0),i t1],[])) (sl (okL tV (List.length x.2+1) (λk=>(tV).row (gL tV (x.1::x.2) k))) (sl (Na0 (hC tV (λk=>(tV).row (gL tV (x.1::x.2) k)),tC tV (List.length x.2) (λk=>(tV).row (gL tV (x.1::x.2) k)))) (sl ((cnE tV t2)&&((cnE tV t2)&&true)) (sl (Nat.beq t3.1 1) none (sl (Nat.beq t3.1 2) (sl (Bool.and (Nat.ble t3.2.B5 room) (Bool.and (Nat.ble t3.2.B5 (len t3.2.eh5)) (okS tP t3.2.eh5 0 t3.2.B5))) (some (.tup [.sl 0 0 t3.2.B5 0,i 0],[⟨60,4,app (bL tP (Db6 (slR tP t3.2.eh5 0 t3.2.B5))) (i6 t3.2.eh5 t3.2.B5),true,false,0⟩])) none) none)) none) none) none)) none) none)
noncomputable def Qa3(x:V3×List V3):List Pln×Int:=W0 (two (r1L tP) r1I) (ja5 x)
noncomputable def Qa4(x:V3×List V3):Bool:=okO (two (r1L tP) r1I) (ja5 x)
noncomputable def Rb2:Sum:=L9 (bd6 tV) (λx=>.guard (Qa4 x) (.ret ((two (r1L tP) r1I).enc (Qa3 x),[])))
theorem Eb5:i5 prog G 22 Rb2:=Ga2 (bd b22 xc7) (two (r1L tP) r1I) (o:=ja5) λx=>Lc0 (.s .p (.s .p (.s .p (.s .p (.s .p (.s (.s .p (.b (.i (.s .p (.b (.u Wa4.lsM)))))) .p)))))) [Wa4.prM] (by kernel_rfl) (.cons kc2 .nil) (by kernel_rfl)
end Go.Ev.Ce
