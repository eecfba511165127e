/- Own work. -/
import Derived.Test.YtkfaiccnekeklaaGreatChecked
import Derived.Test.YtkfaiccnekeklaaGreatEvOaCePf
import Derived.KernelRfl
set_option linter.all false
def Qha:=@List.getD_eq_getElem?_getD
def Qhb:=@List.getElem?_eq_getElem
def Qhc:=@List.drop_eq_getElem_cons
def Qhd:=@Eq.trans
def Qhe:=@Nat.le_refl
def Qhf:=@List.length_mergeSort
def Qhg:=@Bool.false_eq_true
namespace Go.Ev.Ce
open Go Go.Ev Go.Proofs
set_option maxRecDepth 1000000
theorem mx:(Tryz.prog).follows .mixedOrders=true:=Checked.mixed Tryz.checked
abbrev Bdq(n:Nat)(pf:PFn):Prop:=Rd9 Tryz.prog n λE=>fc4 E pf
theorem bdq{f:FuncId}{fn:Func}(hf:(Tryz.prog).funcs[f]?=some fn)(hn:decide (fn.name ≠ "runtime.NumGoroutine")=true:=by kernel_rfl)(hc:Option.isSome (i6 Tryz.prog fn)=true:=by kernel_rfl):Bdq f (got (i6 Tryz.prog fn)):=lf8 mx hf hn (qd8 hc)
theorem b3:Bdq 3 pf3:=bdq Tryz.func3
theorem b4:Bdq 4 pf4:=bdq Tryz.func4
theorem b5:Bdq 5 pf5:=bdq Tryz.func5
theorem b6:Bdq 6 pf6:=bdq Tryz.func6
theorem b8:Bdq 8 pf8:=bdq Tryz.func8
theorem b9:Bdq 9 pf9:=bdq Tryz.func9
theorem b10:Bdq 10 lf9:=bdq Tryz.func10
theorem b11:Rd9 Tryz.prog 11 λE=>Ab3 E Ve8:=ue0 (h:=h11) mx Tryz.func11 (by kernel_rfl) Tryz.func30 (by kernel_rfl) (qd8 (by kernel_rfl))
theorem b12:Bdq 12 ef7:=bdq Tryz.func12
theorem b13:Bdq 13 mf0:=bdq Tryz.func13
theorem b14:Bdq 14 mf1:=bdq Tryz.func14
theorem b15:Bdq 15 mf2:=bdq Tryz.func15
theorem b16:Bdq 16 mf3:=bdq Tryz.func16
theorem b17:Bdq 17 mf4:=bdq Tryz.func17
theorem b20:Bdq 20 mf5:=bdq Tryz.func20
theorem b21:Bdq 21 mf6:=bdq Tryz.func21
theorem b22:Rd9 Tryz.prog 22 λE=>Ab3 E Ie5:=ue0 (h:=h22) mx Tryz.func22 (by kernel_rfl) Tryz.func76 (by kernel_rfl) (qd8 (by kernel_rfl))
theorem b24:Bdq 24 mf7:=bdq Tryz.func24
theorem b25:Bdq 25 ef8:=bdq Tryz.func25
theorem b26:Bdq 26 mf8:=bdq Tryz.func26
theorem b27:Bdq 27 mf9:=bdq Tryz.func27
theorem b28:Bdq 28 nf3:=bdq Tryz.func28
theorem b30:Bdq 30 nf4:=bdq Tryz.func30
theorem b31:Bdq 31 ef9:=bdq Tryz.func31
theorem b32:Bdq 32 nf5:=bdq Tryz.func32
theorem b33:Bdq 33 ff0:=bdq Tryz.func33
theorem b34:Bdq 34 ff1:=bdq Tryz.func34
theorem b35:Bdq 35 nf6:=bdq Tryz.func35
theorem b36:Bdq 36 nf7:=bdq Tryz.func36
theorem b37:Bdq 37 ff2:=bdq Tryz.func37
theorem b38:Bdq 38 ff3:=bdq Tryz.func38
theorem b39:Bdq 39 Ie6:=bdq Tryz.func39
theorem b40:Bdq 40 ff4:=bdq Tryz.func40
theorem b41:Bdq 41 Ve9:=bdq Tryz.func41
theorem b42:Bdq 42 ff5:=bdq Tryz.func42
theorem b43:Bdq 43 ff6:=bdq Tryz.func43
theorem b44:Bdq 44 nf8:=bdq Tryz.func44
theorem b45:Bdq 45 nf9:=bdq Tryz.func45
theorem b46:Bdq 46 ff7:=bdq Tryz.func46
theorem b47:Bdq 47 of0:=bdq Tryz.func47
theorem b49:Bdq 49 of1:=bdq Tryz.func49
theorem b50:Bdq 50 of2:=bdq Tryz.func50
theorem b52:Bdq 52 of3:=bdq Tryz.func52
theorem b53:Bdq 53 of4:=bdq Tryz.func53
theorem b54:Bdq 54 of5:=bdq Tryz.func54
theorem b55:Bdq 55 ff8:=bdq Tryz.func55
theorem b56:Bdq 56 We0:=bdq Tryz.func56
theorem b57:Bdq 57 ff9:=bdq Tryz.func57
theorem b58:Bdq 58 of6:=bdq Tryz.func58
theorem b59:Bdq 59 ue1:=bdq Tryz.func59
theorem b60:Bdq 60 gf0:=bdq Tryz.func60
theorem b61:Bdq 61 of7:=bdq Tryz.func61
theorem b62:Bdq 62 gf1:=bdq Tryz.func62
theorem b63:Bdq 63 gf2:=bdq Tryz.func63
theorem b64:Bdq 64 of8:=bdq Tryz.func64
theorem b65:Bdq 65 ue2:=bdq Tryz.func65
theorem b66:Bdq 66 gf3:=bdq Tryz.func66
theorem b67:Bdq 67 gf4:=bdq Tryz.func67
theorem b68:Bdq 68 of9:=bdq Tryz.func68
theorem b69:Bdq 69 pf0:=bdq Tryz.func69
theorem b70:Bdq 70 pf1:=bdq Tryz.func70
theorem b71:Rd9 Tryz.prog 71 λE=>Ab3 E Ie7:=ue0 (h:=h71) mx Tryz.func71 (by kernel_rfl) Tryz.func76 (by kernel_rfl) (qd8 (by kernel_rfl))
theorem b72:Bdq 72 pf2:=bdq Tryz.func72
theorem b74:Bdq 74 pf7:=bdq Tryz.func74
theorem b75:Bdq 75 We1:=bdq Tryz.func75
theorem b77:Bdq 77 qf0:=bdq Tryz.func77
theorem b78:Bdq 78 qf1:=bdq Tryz.func78
theorem b79:Bdq 79 qf2:=bdq Tryz.func79
theorem b82:Bdq 82 gf5:=bdq Tryz.func82
theorem b83:Bdq 83 We2:=bdq Tryz.func83
theorem b84:Bdq 84 qf3:=bdq Tryz.func84
theorem b85:Bdq 85 qf4:=bdq Tryz.func85
theorem b86:Bdq 86 qf5:=bdq Tryz.func86
theorem b87:Bdq 87 qf6:=bdq Tryz.func87
theorem b88:Bdq 88 ue3:=bdq Tryz.func88
theorem b89:Bdq 89 gf6:=bdq Tryz.func89
theorem b90:Bdq 90 qf7:=bdq Tryz.func90
theorem b91:Bdq 91 qf8:=bdq Tryz.func91
theorem b92:Bdq 92 gf7:=bdq Tryz.func92
theorem b93:Bdq 93 qf9:=bdq Tryz.func93
theorem b94:Bdq 94 rf0:=bdq Tryz.func94
theorem b96:Bdq 96 gf8:=bdq Tryz.func96
theorem b97:Bdq 97 rf1:=bdq Tryz.func97
theorem b98:Bdq 98 rf2:=bdq Tryz.func98
theorem rf3:Bdq 109 gf9:=bdq Tryz.func109
theorem rf4:Bdq 110 Qe6:=bdq Tryz.func110
theorem rf5:Bdq 111 hf0:=bdq Tryz.func111
theorem rf6:Bdq 120 hf3:=bdq Tryz.func120
end Go.Ev.Ce
namespace Go.Ev.L
open Go Go.Ev
noncomputable def Lb4:RT->PC->PS2
 |.s a b,.seq x y=>.seq (Lb4 a x) (Lb4 b y)
 |.c a b,.cond g x y=>.cond g (Lb4 a x) (Lb4 b y)
 |.b a,.block id x=>.block id (Lb4 a x)
 |.i a,.inner f x n c=>.inner f x n (Lb4 a c)
 |.u S,_=>.sum S
 |_,c=>.pc c
theorem qd9{E:Env}{k:Nat}(rt:RT)(c:PC):La9 (λx=>∀s,Y6 (x.1 s) (N0 E k x.2 s)) (Ub5 rt c)->ja7 E k (Lb4 rt c) c:=by
 induction rt generalizing c with
 |p=>intro h;cases c<;>exact .pc _
 |s a b iha ihb =>
  intro h;cases c with
  |seq x y=>exact .seq (iha x (La9.app h).1) (ihb y (La9.app h).2)
  |_=>exact .pc _
 |c a b iha ihb =>
  intro h;cases c with
  |cond g x y=>exact .cond g (iha x (La9.app h).1) (ihb y (La9.app h).2)
  |_=>exact .pc _
 |b a iha =>
  intro h;cases c with
  |block id x=>exact .block id (iha x h)
  |_=>exact .pc _
 |l a iha=>intro h;cases c<;>exact .pc _
 |i a iha =>
  intro h;cases c with
  |inner f x n c=>exact .inner f x n (iha c h)
  |_=>exact .pc _
 |u S =>
  intro h
  have:Ub5 (.u S) c=[(S,c)]:=by cases c<;>rfl
  rw[this] at h;cases h with
  |cons h t =>
   have e:Lb4 (.u S) c=.sum S:=by cases c<;>rfl
   rw[e];exact .sum h
section
variable{π σ:Type}{E:Env}{k:Nat}{keep:List Nat}{alts:List (Al2 π σ)}{enc:π->σ->St}{step:π->σ->Stp σ}{xs:Xs π σ}{body:PS2}{c:PC}
theorem Kb5.belowM(hb:ja7 E k body c)(hN:E.N=rounds+1)(w:Kb5 Ed0 k keep (rc9 E k body) alts step xs enc)(s:St):Y6 (id1 Ed0 k keep alts step xs s) (N0 E k (.loopM keep c) s):=λr hr=>by
 obtain⟨t,h1,h2⟩:=w.go hr;rw[Rd8,hN];exact zb6 hb.le _ _ _ (Rb7 h1 h2)
theorem Kb5.belowML(hb:ja7 E k body c)(hN:E.N=rounds+1)(w:Kb5 Jb9 k keep (rc9 E k body) alts step xs enc)(s:St):Y6 (id1 Jb9 k keep alts step xs s) (N0 E k (.loop keep c) s):=λr hr=>by
 obtain⟨t,h1,h2⟩:=w.go hr;rw[hd9,hN];exact zb6 hb.le _ _ _ (Rb7 h1 h2)
end
end Go.Ev.L
namespace Go.Ev.Ab
open Go Go.Ev
@[reducible] def o(d:Nat)(x:PO):PI:=⟨some d,none,[],x⟩
@[reducible] def s(x:PO):PI:=⟨none,none,[],x⟩
@[reducible] def ci(n:Int):Arg:=.c (.v (.int .i64 n))
@[reducible] def cb(b:Bool):Arg:=.c (.v (.bool b))
@[reducible] def vi(n:Int):b7:=.v (.int .i64 n)
@[reducible] def rep{α:Type}(n:Nat)(x:α):List α:=List.replicate n x
@[reducible] def ki(n:Nat):List CK:=List.replicate n (.int .i64)
@[reducible] def mv(d n:Nat):PI:=o d (.mv (.t n))
@[reducible] def mc(d:Nat)(n:Int):PI:=o d (.mv (ci n))
@[reducible] def mb(d:Nat)(x:Bool):PI:=o d (.mv (cb x))
@[reducible] def fd(d k n:Nat):PI:=o d (.fld k (.t n))
@[reducible] def lf(d k n:Nat):PI:=o d (.load (ki k) k false (.t n))
@[reducible] def ex(d x k:Nat):PI:=o d (.ext (.t x) k)
@[reducible] def ca(d f:Nat)(l:List Arg):PI:=o d (.call f l)
@[reducible] def gf(n:Nat)(x:PI):PI:=⟨x.dst,some (n,false),x.hide,x.op⟩
@[reducible] def so(l:List PI)(x:PC):PC:=.seq (.ops l) x
@[reducible] def sq(x y:PC):PC:=.seq x y
@[reducible] def ts(l:List Nat):List Arg:=l.map .t
@[reducible] def cl(f:Nat)(l:List Nat):PO:=.call f (ts l)
@[reducible] def sT(k a b:Nat):PI:=s (.store k (.t a) (.t b))
@[reducible] def pa(d c x:Nat):PI:=o d (.pick (.t c) (.t x) (cb false))
@[reducible] def po(d c x:Nat):PI:=o d (.pick (.t c) (cb true) (.t x))
@[reducible] def al(d k:Nat)(n:Int):PI:=o d (.alloc (rep k (vi n)))
@[reducible] def ap(d et es n x y:Nat):PI:=o d (.append et es n (.t x) (.t y))
end Go.Ev.Ab
namespace Go.Ev.L
open Go Go.Ev
def Cps{π σ:Type}(u:∀{α:Type},(σ->α)->(Nat->α)->α->π->σ->α):Prop :=
 ∀{α β:Type} (F:α->β) (k:σ->α) (e:Nat->α) (z:α) (p:π) (s:σ),F (u k e z p s)=u (λx=>F (k x)) (λt=>F (e t)) (F z) p s
@[reducible] noncomputable def foL{π σ:Type}(en:π->σ->St)(xs:Xs π σ)(p:π)(s:σ):Stp σ->Option (g7×St):=Kb0 (λs'=>some (.normal,en p s')) (λt=>xOf xs p s t 1) none
structure Lo(π σ:Type) where
 E:Env
 k:Nat
 F:PFn
 at':List Nat
 kp:List Nat
 rt:RT
 al:List (Al2 π σ)
 st:π->σ->Stp σ
 xs:Xs π σ
 en:π->σ->St
namespace Lo
variable{π σ:Type}(L:Lo π σ)
noncomputable def lc:PC:=lf6 L.at' L.F.body
noncomputable def ls:St->DT (g7×St):=id1 Jb9 L.k L.kp L.al L.st L.xs
noncomputable def lsM:St->DT (g7×St):=id1 Ed0 L.k L.kp L.al L.st L.xs
noncomputable def pr:(St->DT (g7×St))×PC:=(L.ls,.loop L.kp L.lc)
noncomputable def prM:(St->DT (g7×St))×PC:=(L.lsM,.loopM L.kp L.lc)
def Ok:Prop:=∀s,fa2 L.k L.F.res (L.pr.1 s) (N0 L.E L.k L.pr.2 s)
def OkE:Prop:=∀s,Y6 (L.pr.1 s) (N0 L.E L.k L.pr.2 s)
def OkM:Prop:=∀s,Y6 (L.prM.1 s) (N0 L.E L.k L.prM.2 s)
def Rd(hd:St->DT St)(bd:St->DT (g7×St))(p:π)(s:σ)(a:St)(b:Stp σ):Prop:=(zb7 hd bd a).run=foL L.en L.xs p s b
def H0:Prop:=∀p s,L.Rd (Jb9 L.k L.kp) (Yd0 L.E L.k L.F.res (ad5 L.rt L.lc)) p s (L.en p s) (L.st p s)
def H1:Prop:=∀p s,L.Rd (Jb9 L.k L.kp) (rc9 L.E L.k (Lb4 L.rt L.lc)) p s (L.en p s) (L.st p s)
def H2:Prop:=∀p s,L.Rd (Ed0 L.k L.kp) (rc9 L.E L.k (Lb4 L.rt L.lc)) p s (L.en p s) (L.st p s)
def HA:Prop:=La9 (λx=>∀a H,(⟨he6 x.sh a,he7 x.bl H⟩:St)=L.en (x.rd a H).1 (x.rd a H).2) L.al
variable{L}
theorem Rd.of {hd : St → DT St} {bd : St → DT (g7 × St)} {p : π} {s : σ} {a : St} (u : ∀ {α : Type}, (σ → α) → (Nat → α) → α → π → σ → α)
  (q:Cps @u) (H:(zb7 hd bd a).run=u (λx=>foL L.en L.xs p s (.next x)) (λt=>foL L.en L.xs p s (.exit t)) (foL L.en L.xs p s .fail) p s):L.Rd hd bd p s a (u .next .exit .fail p s) :=
 H.trans (q (foL L.en L.xs p s) Stp.next Stp.exit Stp.fail p s).symm
theorem Rd.sel{hd:St->DT St}{bd:St->DT (g7×St)}{p:π}{s:σ}{a1 a0:St}{b1 b0:Stp σ}(c:Bool)(h1:L.Rd hd bd p s a1 b1)(h0:L.Rd hd bd p s a0 b0):L.Rd hd bd p s (sel c a1 a0) (sel c b1 b0):=by
 cases c with
 |true=>exact h1
 |false=>exact h0
theorem ok(l:List ((St->DT (g7×St))×PC))(hs:Ub5 L.rt L.lc=l)(hl:La9 (λx=>∀s,fa2 L.k L.F.res (x.1 s) (N0 L.E L.k x.2 s)) l)(hN:L.E.N=rounds+1)(ha:L.HA)(h:L.H0):L.Ok :=
 Kb5.belowC (Zd0 _ _ (by rw[hs];exact hl)) hN ⟨ha,h⟩
theorem okE(l:List ((St->DT (g7×St))×PC))(hs:Ub5 L.rt L.lc=l)(hl:La9 (λx=>∀s,Y6 (x.1 s) (N0 L.E L.k x.2 s)) l)(hN:L.E.N=rounds+1)(ha:L.HA)(h:L.H1):L.OkE :=
 Kb5.belowML (qd9 _ _ (by rw[hs];exact hl)) hN ⟨ha,h⟩
theorem okM(l:List ((St->DT (g7×St))×PC))(hs:Ub5 L.rt L.lc=l)(hl:La9 (λx=>∀s,Y6 (x.1 s) (N0 L.E L.k x.2 s)) l)(hN:L.E.N=rounds+1)(ha:L.HA)(h:L.H2):L.OkM :=
 Kb5.belowM (qd9 _ _ (by rw[hs];exact hl)) hN ⟨ha,h⟩
end Lo
theorem Ea4 {E : Env} {F : PFn} {args : List b7} {blks : List c8} {o : Option (b7 × List c8)} (rt : RT) (l : List ((St → DT (g7 × St)) × PC)) (hs : Ub5 rt F.body = l)
  (hl:La9 (λx=>∀s,fa2 (len blks) F.res (x.1 s) (N0 E (len blks) x.2 s)) l) (h:(df7 E F (ad5 rt F.body) args blks).run=o) (r:b7×List c8) (hr:o=some r):(fc4 E F args blks).run=some r :=
 Pd8 (Zd0 rt _ (by rw[hs];exact hl)) r (h.trans hr)
theorem jd3 {E : Env} {F : PFn} {args : List b7} {blks : List c8} {o : Option (b7 × List c8)} (rt : RT) (l : List ((St → DT (g7 × St)) × PC)) (hs : Ub5 rt F.body = l)
  (hl:La9 (λx=>∀s,Y6 (x.1 s) (N0 E (len blks) x.2 s)) l) (h:(Qe5 E F (Lb4 rt F.body) args blks).run=o) (r:b7×List c8) (hr:o=some r):(Ab3 E F args blks).run=some r :=
 Dd9 (qd9 rt _ (by rw[hs];exact hl)) r (h.trans hr)
theorem D1{A o:Option (b7×List c8)}(h:A=o)(r:b7×List c8)(hr:o=some r):A=some r:=h.trans hr
noncomputable abbrev upq(x:St)(l:List (Nat×b7)):St:=⟨l.foldl (λa q=>a.set q.1 q.2) x.a,x.H⟩
noncomputable abbrev sIq:S2:=.s (.o (.int .i64))
noncomputable abbrev sUq:S2:=.s (.o .unk)
noncomputable abbrev sBq:S2:=.s (.o .bool)
noncomputable abbrev sPq(n:Nat):S2:=.s (.o (.ptr n 0 0 0))
noncomputable abbrev sTq(n:Nat):S2:=.s (.o (.tree n))
noncomputable abbrev sLq{α:Type}(t:Ty α):S2:=.s (.c t.es (nL t))
noncomputable abbrev kLq(n:Nat):List K:=List.replicate n (.o (.int .i64))
noncomputable abbrev aIq(a:List b7)(n:Nat):Int:=toI (slT a n)
noncomputable abbrev aBq(a:List b7)(n:Nat):Bool:=toB (slT a n)
noncomputable abbrev aNq(a:List b7)(n:Nat):Nat:=toN (slT a n)
noncomputable abbrev aGq(a:List b7)(n:Nat):Nat->List b7:=toG (slT a n)
noncomputable abbrev aLq{α:Type}(t:Ty α)(a:List b7)(n:Nat):List α:=rL t (slT a n)
noncomputable abbrev hIq(H:List c8)(m r n:Nat):Int:=toI (slT (rwT (elT H m) r) n)
noncomputable abbrev cIq(a:List b7)(m n:Nat):Int:=toI (slT (cellsOf (slT a m)) n)
noncomputable abbrev cNq(a:List b7)(m n:Nat):Nat:=toN (slT (cellsOf (slT a m)) n)
noncomputable abbrev cGq(a:List b7)(m n:Nat):Nat->List b7:=toG (slT (cellsOf (slT a m)) n)
noncomputable abbrev hNq(H:List c8)(m r n:Nat):Nat:=toN (slT (rwT (elT H m) r) n)
noncomputable abbrev hGq(H:List c8)(m r n:Nat):Nat->List b7:=toG (slT (rwT (elT H m) r) n)
noncomputable abbrev hLq{α:Type}(t:Ty α)(H:List c8)(m r n:Nat):List α:=rL t (slT (rwT (elT H m) r) n)
end Go.Ev.L
namespace Go.Ev.Ce
structure V3 where
 x:Int
 y:Int
 z:Int
structure Pln where
 n:V3
 b:Int
structure Pt where
 px:Int
 py:Int
 pz:Int
 pw:Int
def c7(a b:V3):V3:=⟨a.y*b.z-a.z*b.y,a.z*b.x-a.x*b.z,a.x*b.y-a.y*b.x⟩
def dot(a b:V3):Int:=a.x*b.x+a.y*b.y+a.z*b.z
def mw(p q r:Pln):Int:=dot p.n (c7 q.n r.n)
end Go.Ev.Ce
namespace Go.Ev.Ce
open Go Go.Ev Go.Ev.L Go.Proofs
@[reducible] noncomputable def prog:Program:=Tryz.prog
noncomputable def G:Nat->List Value:=λ_=>[]
noncomputable def En(l:List (Nat×Sum)):Env:={ P:=prog,G,fns:=λ_=>none,call:=Te4 l,own:=λf j=>Bool.and (Va3 f [48,57,82,88,73,75]) (Nat.beq j 0),N:=18446744073709551616 }
@[reducible] def u:b7:=.v (.tuple #[])
theorem hf4{l:List (Nat×Sum)}(h:k8 prog G l):∀f,i7 (En l).P (En l).G f ((En l).call f):=Xd7 h
theorem bd{l:List (Nat×Sum)}{f:FuncId}{R:Env->Sum}(b:Rd9 prog f R)(h:k8 prog G l):i7 prog G f (R (En l)):=b rfl (hf4 h)
noncomputable def tV:Ty V3 where
 es:=3
 row x:=[i x.x,i x.y,i x.z]
 rd r:=⟨toI (hdA r),toI (hdA (tlA r)),toI (hdA (tlA (tlA r)))⟩
 ok r:=Ma1 3 r
 cks:=List.replicate 3 (.int .i64)
 d:=⟨0,0,0⟩
 h0 _:=rfl
 h1 _:=rfl
 h2 _:=rfl
 h3 _ h:=.of (eb2 h)
 h4 _:=rfl
 h5 _:=rfl
noncomputable def r1V:R1 V3:=r1A tV 3 λ_ h=>h
noncomputable def tP:Ty Pln where
 es:=4
 row x:=[i x.n.x,i x.n.y,i x.n.z,i x.b]
 rd r:=⟨⟨toI (hdA r),toI (hdA (tlA r)),toI (hdA (tlA (tlA r)))⟩,toI (hdA (tlA (tlA (tlA r))))⟩
 ok r:=Ma1 4 r
 cks:=List.replicate 4 (.int .i64)
 d:=⟨⟨0,0,0⟩,0⟩
 h0 _:=rfl
 h1 _:=rfl
 h2 _:=rfl
 h3 _ h:=.of (eb2 h)
 h4 _:=rfl
 h5 _:=rfl
noncomputable def r1P:R1 Pln:=r1A tP 4 λ_ h=>h
structure Tp where
 p:Pln
 q:Pln
 r:Pln
structure Q2 where
 a:V3
 b:V3
set_option maxRecDepth 100000
noncomputable def Sd0:List (Nat×Sum):=[]
theorem Ed1:k8 prog G Sd0:=trivial
noncomputable def aa9(x:V3)(y:V3):Int:=(W ((W ((W (x.x*y.x))+(W (x.y*y.y))))+(W (x.z*y.z))))
noncomputable def eb4:Sum:=Da9 (L2 tV) (L2 tV) (λx y=>.ret ((one r1I).enc (aa9 x y),[]))
theorem gb6:i7 prog G 86 eb4:=zb8 (bd b86 Ed1) λx y=>D1 (by kernel_rfl)
noncomputable def rd0:List (Nat×Sum):=[]
theorem ad8:k8 prog G rd0:=trivial
noncomputable def Z6(x:V3)(y:V3):V3:=(⟨W ((W (x.y*y.z))-(W (x.z*y.y))),W ((W (x.z*y.x))-(W (x.x*y.z))),W ((W (x.x*y.y))-(W (x.y*y.x)))⟩:V3)
noncomputable def Va5:Sum:=Da9 (L2 tV) (L2 tV) (λx y=>.ret ((one r1V).enc (Z6 x y),[]))
theorem bb0:i7 prog G 90 Va5:=zb8 (bd b90 ad8) λx y=>D1 (by kernel_rfl)
noncomputable def nb1:List (Nat×Sum):=[]
theorem dc0:k8 prog G nb1:=trivial
@[reducible] noncomputable def Ba8:Sum:=fc4 (En nb1) Qe6
theorem Ma3:i7 prog G 110 Ba8:=bd rf4 dc0
noncomputable def Bc8:List (Nat×Sum):=[]
theorem sc0:k8 prog G Bc8:=trivial
noncomputable def xa6(x:Int):Option (b7×List c8):=(sl (decide (x<0)) (some (i (W (0-x)),[])) (some (i x,[])))
noncomputable def pa6(x:Int):Int:=N7 (one r1I) (xa6 x)
noncomputable def pa7(x:Int):Bool:=okO (one r1I) (xa6 x)
noncomputable def Lb5:Sum:=N1 cI (λx=>.guard (pa7 x) (.ret ((one r1I).enc (pa6 x),[])))
theorem Bc9:i7 prog G 111 Lb5:=Ea3 (bd rf5 sc0) (one r1I) (o:=xa6) λx=>D1 (by kernel_rfl)
noncomputable def zc1:List (Nat×Sum):=[(111,Lb5),(110,Ba8)]
theorem rd1:k8 prog G zc1:=⟨Bc9,Ma3,trivial⟩
structure la3 where
 (is6 d9 d7 f0 I8 I9 J0:Int)
structure R2 where
 (is5 is7:Int)
noncomputable def Wb6(p:la3)(s:R2):St:=⟨.unk::.ptr 0 0 0 0::.ptr 1 0 0 0::.unk::.ptr 2 0 0 0::i s.is5::i p.is6::i s.is7::ra 38 [],[⟨0,3,[[i p.d9,i p.d7,i p.f0]],true,false,0⟩,⟨0,3,[[i 0,i 0,i 0]],true,false,0⟩,⟨0,3,[[i p.I8,i p.I9,i p.J0]],true,false,0⟩]⟩
noncomputable def xa7{α:Type}(k:R2->α)(e:Nat->α)(z:α)(p:la3)(s:R2):α:=(sl (decide (s.is7>0)) (sl (s.is7==0) z (k ⟨s.is7,Int.tmod s.is5 s.is7⟩)) (e 1))
noncomputable def ga5(p:la3)(s:R2):Stp R2:=xa7 .next .exit .fail p s
noncomputable def Ab6:Lo la3 R2:=⟨En zc1,0,gf6,[1,1,1,0,1,4,4,1,0,4,1,1,4,4],[1,2,4,5,6,7],.p,[⟨sUq::sPq 0::sPq 1::sUq::sPq 2::sIq::sIq::sIq::ru2 38 [],[⟨0,3,true,some [kLq 3]⟩,⟨0,3,true,some [[.o (.lit .i64 0),.o (.lit .i64 0),.o (.lit .i64 0)]]⟩,⟨0,3,true,some [kLq 3]⟩],λa H=>(⟨aIq a 6,hIq H 0 0 0,hIq H 0 0 1,hIq H 0 0 2,hIq H 2 0 0,hIq H 2 0 1,hIq H 2 0 2⟩,⟨aIq a 5,aIq a 7⟩)⟩],ga5,[(some 2,λp s=>upq (Wb6 p s) [(23,i s.is7),(24,b (decide (s.is7>0)))])],Wb6⟩
theorem ad9:Ab6.Ok:=Lo.ok [] (by kernel_rfl) .nil rfl (.cons (λa H=>by kernel_rfl) .nil) λp s=>(.of @xa7 (λF _ _ _ _ _=>by unfold xa7;(repeat' apply r9 (f:=F))<;>rfl) (by kernel_rfl))
noncomputable def gb7(x:V3):Option (b7×List c8):=let t1:=(pa6 x.x);let t2:=(lp (ga5 (⟨0,x.x,x.y,x.z,x.x,x.y,x.z⟩:la3)) (⟨0,t1⟩:R2));let t3:=(pa6 x.y);let t4:=(lp (ga5 (⟨1,x.x,x.y,x.z,x.x,x.y,x.z⟩:la3)) (⟨t2.2.is5,t3⟩:R2));let t5:=(pa6 x.z);let t6:=(lp (ga5 (⟨2,x.x,x.y,x.z,x.x,x.y,x.z⟩:la3)) (⟨t4.2.is5,t5⟩:R2));(sl (x.x==(-9223372036854775808)) (some (.tup [.agg [i 0,i 0,i 0],i 0],[])) (sl (pa7 x.x) (sl (Nat.beq t2.1 1) (sl (x.y==(-9223372036854775808)) (some (.tup [.agg [i 0,i 0,i 0],i 0],[])) (sl (pa7 x.y) (sl (Nat.beq t4.1 1) (sl (x.z==(-9223372036854775808)) (some (.tup [.agg [i 0,i 0,i 0],i 0],[])) (sl (pa7 x.z) (sl (Nat.beq t6.1 1) (sl (t6.2.is5==0) (some (.tup [.agg [i 0,i 0,i 0],i 0],[])) (sl (t6.2.is5==0) none (sl (t6.2.is5==0) none (sl (t6.2.is5==0) none (some (.tup [.agg [i (W (Int.tdiv x.x t6.2.is5)),i (W (Int.tdiv x.y t6.2.is5)),i (W (Int.tdiv x.z t6.2.is5))],i t6.2.is5],[])))))) none) none)) none) none)) none) none))
noncomputable def Ia7(x:V3):V3×Int:=N7 (two r1V r1I) (gb7 x)
noncomputable def gb8(x:V3):Bool:=okO (two r1V r1I) (gb7 x)
noncomputable def dc1:Sum:=N1 (L2 tV) (λx=>.guard (gb8 x) (.ret ((two r1V r1I).enc (Ia7 x),[])))
theorem zc2:i7 prog G 89 dc1:=Ea3 (bd b89 rd1) (two r1V r1I) (o:=gb7) λx=>Ea4 (.s .p (.s .p (.s .p (.s (.s .p (.b (.l (.s .p (.s (.b (.s .p (.s .p (.b (.u Ab6.ls))))) .p))))) .p)))) [Ab6.pr] (by kernel_rfl) (.cons ad9 .nil) (by kernel_rfl)
noncomputable def rd2:List (Nat×Sum):=[(89,dc1),(110,Ba8)]
theorem bd0:k8 prog G rd2:=⟨zc2,Ma3,trivial⟩
noncomputable def Va6(x:Pln):Option (b7×List c8):=let t1:=(Ia7 x.n);(sl (decide (x.n.x<(-4608))) (some (b false,[])) (sl (decide (x.n.x>4608)) (some (b false,[])) (sl (decide (x.n.y<(-4608))) (some (b false,[])) (sl (decide (x.n.y>4608)) (some (b false,[])) (sl (decide (x.n.z<(-4608))) (some (b false,[])) (sl (decide (x.n.z>4608)) (some (b false,[])) (sl (gb8 x.n) (sl (t1.2==1) (sl (decide (x.b>=(-2097152))) (some (b (decide (x.b<=2097152)),[])) (some (b false,[]))) (some (b false,[]))) none)))))))
noncomputable def nb2(x:Pln):Bool:=N7 (one r1B) (Va6 x)
noncomputable def nb3(x:Pln):Bool:=okO (one r1B) (Va6 x)
noncomputable def zc3:Sum:=N1 (L2 tP) (λx=>.guard (nb3 x) (.ret ((one r1B).enc (nb2 x),[])))
theorem rd3:i7 prog G 84 zc3:=Ea3 (bd b84 bd0) (one r1B) (o:=Va6) λx=>D1 (by kernel_rfl)
noncomputable def Sd1:List (Nat×Sum):=[]
theorem Ed2:k8 prog G Sd1:=trivial
noncomputable def ub1(x:Int)(y:Int):Option (b7×List c8):=(sl (decide (y<1)) (some (i 0,[])) (sl (y==0) none (sl (y==0) none (some (i (Int.tmod (W ((Int.tmod x y)+y)) y),[])))))
noncomputable def Sb2(x:Int)(y:Int):Int:=N7 (one r1I) (ub1 x y)
noncomputable def Sb3(x:Int)(y:Int):Bool:=okO (one r1I) (ub1 x y)
noncomputable def jd4:Sum:=Da9 cI cI (λx y=>.guard (Sb3 x y) (.ret ((one r1I).enc (Sb2 x y),[])))
theorem Sd2:i7 prog G 28 jd4:=tb8 (bd b28 Ed2) (one r1I) (o:=ub1) λx y=>D1 (by kernel_rfl)
noncomputable def rd4:List (Nat×Sum):=[]
theorem bd1:k8 prog G rd4:=trivial
noncomputable def C0(x:V3)(y:V3):Int:=(W ((W ((W (x.x*y.x))+(W (x.y*y.y))))+(W (x.z*y.z))))
noncomputable def xa8:Sum:=Da9 (L2 tV) (L2 tV) (λx y=>.ret ((one r1I).enc (C0 x y),[]))
theorem Ba9:i7 prog G 35 xa8:=zb8 (bd b35 bd1) λx y=>D1 (by kernel_rfl)
noncomputable def Pc4:List (Nat×Sum):=[]
theorem Cc0:k8 prog G Pc4:=trivial
noncomputable def C4(x:V3)(y:V3):V3:=(⟨W ((W (x.y*y.z))-(W (x.z*y.y))),W ((W (x.z*y.x))-(W (x.x*y.z))),W ((W (x.x*y.y))-(W (x.y*y.x)))⟩:V3)
noncomputable def va1:Sum:=Da9 (L2 tV) (L2 tV) (λx y=>.ret ((one r1V).enc (C4 x y),[]))
theorem xa9:i7 prog G 36 va1:=zb8 (bd b36 Cc0) λx y=>D1 (by kernel_rfl)
noncomputable def Eb9:List (Nat×Sum):=[]
theorem sc1:k8 prog G Eb9:=trivial
structure pa8 where
 is0:Int
 ee2:List Int
 is8:Int
structure L6 where
 is9:Int
noncomputable def nb4(p:pa8)(s:L6):St:=⟨i p.is0::ra 6 (eL tI p.ee2::i p.is8::i s.is9::ra 13 []),[]⟩
noncomputable def ia4{α:Type}(k:L6->α)(e:Nat->α)(z:α)(p:pa8)(s:L6):α:=(sl (decide (s.is9<p.is8)) (sl (inB s.is9 (List.length p.ee2)) (sl (decide ((gL tI p.ee2 s.is9.toNat)<(W (0-p.is0)))) (e 1) (sl (decide ((gL tI p.ee2 s.is9.toNat)>p.is0)) (e 1) (k ⟨W (s.is9+1)⟩))) z) (e 2))
noncomputable def la4(p:pa8)(s:L6):Stp L6:=ia4 .next .exit .fail p s
noncomputable def Ra5:Lo pa8 L6:=⟨En Eb9,0,ff6,[1,0,1,4,4],[0,7,8,9],.p,[⟨sIq::ru2 6 (sLq tI::sIq::sIq::ru2 13 []),[],λa H=>(⟨aIq a 0,aLq tI a 7,aIq a 8⟩,⟨aIq a 9⟩)⟩],la4,[(none,λp s=>⟨[b false],[]⟩),(some 0,λp s=>upq (nb4 p s) [(10,b (decide (s.is9<p.is8)))])],nb4⟩
theorem jc6:Ra5.Ok:=Lo.ok [] (by kernel_rfl) .nil rfl (.cons (λa H=>by kernel_rfl) .nil) λp s=>(.of @ia4 (λF _ _ _ _ _=>by unfold ia4;(repeat' apply r9 (f:=F))<;>rfl) (by kernel_rfl))
noncomputable def ya0(x:Int)(y:List Int):Option (b7×List c8):=let t1:=(lp (la4 (⟨x,rt tI y,(↑(List.length y):Int)⟩:pa8)) (⟨0⟩:L6));(sl ((cnE tI y)&&true) (sl (Nat.beq t1.1 1) (some (b false,[])) (sl (Nat.beq t1.1 2) (some (b true,[])) none)) none)
noncomputable def pa9(x:Int)(y:List Int):Bool:=N7 (one r1B) (ya0 x y)
noncomputable def qa0(x:Int)(y:List Int):Bool:=okO (one r1B) (ya0 x y)
noncomputable def gb9:Sum:=Da9 cI (na0 tI) (λx y=>.guard (qa0 x y) (.ret ((one r1B).enc (pa9 x y),[])))
theorem Fb0:i7 prog G 43 gb9:=tb8 (bd b43 sc1) (one r1B) (o:=ya0) λx y=>Ea4 (.s .p (.s (.s .p (.b (.u Ra5.ls))) .p)) [Ra5.pr] (by kernel_rfl) (.cons jc6 .nil) (by kernel_rfl)
noncomputable def jc7:List (Nat×Sum):=[]
theorem dc2:k8 prog G jc7:=trivial
noncomputable def Ca0(x:Int):Int:=(if (W (0-x))>x then (W (0-x)) else x)
noncomputable def ub2:Sum:=N1 cI (λx=>.ret ((one r1I).enc (Ca0 x),[]))
theorem jc8:i7 prog G 109 ub2:=mb8 (bd rf3 dc2) λx=>D1 (by kernel_rfl)
noncomputable def Ra6:List (Nat×Sum):=[(109,ub2)]
theorem jc9:k8 prog G Ra6:=⟨jc8,trivial⟩
structure ba0 where
 pb0:List Int
 (is7 is8:Int)
structure N5 where
 (is3 is5:Int)
noncomputable def hb5(p:ba0)(s:N5):St:=⟨ra 3 (i s.is3::.unk::i s.is5::eL tI p.pb0::i p.is7::i p.is8::ra 15 []),[]⟩
noncomputable def ea6{α:Type}(k:N5->α)(e:Nat->α)(z:α)(p:ba0)(s:N5):α:=(sl (decide (s.is5>0)) (sl (s.is5==0) z (k ⟨s.is5,Int.tmod s.is3 s.is5⟩)) (e 1))
noncomputable def W0(p:ba0)(s:N5):Stp N5:=ea6 .next .exit .fail p s
noncomputable def Ma4:Lo ba0 N5:=⟨En Ra6,0,We2,[1,1,0,1,4,4,1,1,0,4,1,1,1,4,4],[3,5,6,7,8],.p,[⟨ru2 3 (sIq::sUq::sIq::sLq tI::sIq::sIq::ru2 15 []),[],λa H=>(⟨aLq tI a 6,aIq a 7,aIq a 8⟩,⟨aIq a 3,aIq a 5⟩)⟩],W0,[(some 2,λp s=>upq (hb5 p s) [(16,i s.is5),(17,b (decide (s.is5>0)))])],hb5⟩
theorem dc3:Ma4.Ok:=Lo.ok [] (by kernel_rfl) .nil rfl (.cons (λa H=>by kernel_rfl) .nil) λp s=>(.of @ea6 (λF _ _ _ _ _=>by unfold ea6;(repeat' apply r9 (f:=F))<;>rfl) (by kernel_rfl))
structure la5 where
 is7:Int
structure H8 where
 is3:Int
 pb0:List Int
 is8:Int
noncomputable def hb6(p:la5)(s:H8):St:=⟨ra 3 (i s.is3::.unk::.unk::eL tI s.pb0::i p.is7::i s.is8::ra 15 []),[]⟩
noncomputable def ea7{α:Type}(k:H8->α)(e:Nat->α)(z:α)(p:la5)(s:H8):α:=let t1:=(Ca0 (gL tI s.pb0 s.is8.toNat));let t2:=(lp (W0 (⟨rt tI s.pb0,p.is7,s.is8⟩:ba0)) (⟨s.is3,t1⟩:N5));(sl (decide (s.is8<p.is7)) (sl (inB s.is8 (List.length s.pb0)) (sl ((gL tI s.pb0 s.is8.toNat)==(-9223372036854775808)) (e 1) (sl ((cnE tI s.pb0)&&true) (sl (Nat.beq t2.1 1) (k ⟨t2.2.is3,rt tI s.pb0,W (s.is8+1)⟩) z) z)) z) (e 2))
noncomputable def ia5(p:la5)(s:H8):Stp H8:=ea7 .next .exit .fail p s
noncomputable def Ma5:Lo la5 H8:=⟨En Ra6,0,We2,[1,1,0,1,4,4],[3,6,7,8],.s .p (.s .p (.s (.b (.s .p (.s .p (.s .p (.b (.u Ma4.ls)))))) .p)),[⟨ru2 3 (sIq::sUq::sUq::sLq tI::sIq::sIq::ru2 15 []),[],λa H=>(⟨aIq a 7⟩,⟨aIq a 3,aLq tI a 6,aIq a 8⟩)⟩],ia5,[(none,λp s=>⟨[i 0],[]⟩),(some 0,λp s=>upq (hb6 p s) [(9,b (decide (s.is8<p.is7)))])],hb6⟩
theorem dc4:Ma5.Ok:=Lo.ok [Ma4.pr] (by kernel_rfl) (.cons dc3 .nil) rfl (.cons (λa H=>by kernel_rfl) .nil) λp s=>(.of @ea7 (λF _ _ _ _ _=>by unfold ea7;(repeat' apply r9 (f:=F))<;>rfl) (by kernel_rfl))
noncomputable def sa8(x:List Int):Option (b7×List c8):=let t1:=(lp (ia5 (⟨(↑(List.length x):Int)⟩:la5)) (⟨0,rt tI x,0⟩:H8));(sl ((cnE tI x)&&true) (sl (Nat.beq t1.1 1) (some (i 0,[])) (sl (Nat.beq t1.1 2) (some (i t1.2.is3,[])) none)) none)
noncomputable def da2(x:List Int):Int:=N7 (one r1I) (sa8 x)
noncomputable def da3(x:List Int):Bool:=okO (one r1I) (sa8 x)
noncomputable def Xa9:Sum:=N1 (na0 tI) (λx=>.guard (da3 x) (.ret ((one r1I).enc (da2 x),[])))
theorem ub3:i7 prog G 83 Xa9:=Ea3 (bd b83 jc9) (one r1I) (o:=sa8) λx=>Ea4 (.s .p (.s .p (.s (.s .p (.b (.u Ma5.ls))) .p))) [Ma5.pr] (by kernel_rfl) (.cons dc4 .nil) (by kernel_rfl)
noncomputable def Pc5:List (Nat×Sum):=[(43,gb9),(83,Xa9)]
theorem Cc1:k8 prog G Pc5:=⟨Fb0,ub3,trivial⟩
noncomputable def Ea5(x:Pln):Option (b7×List c8):=let t1:=(pa9 4608 [x.n.x,x.n.y,x.n.z]);let t2:=(da2 [x.n.x,x.n.y,x.n.z]);let t3:=(pa9 2097152 [x.b]);(sl (qa0 4608 [x.n.x,x.n.y,x.n.z]) (sl t1 (sl (da3 [x.n.x,x.n.y,x.n.z]) (sl (t2==1) (sl (qa0 2097152 [x.b]) (some (b t3,[])) none) (some (b false,[]))) none) (some (b false,[]))) none)
noncomputable def Ta7(x:Pln):Bool:=N7 (one r1B) (Ea5 x)
noncomputable def Ta8(x:Pln):Bool:=okO (one r1B) (Ea5 x)
noncomputable def Wb7:Sum:=N1 (L2 tP) (λx=>.guard (Ta8 x) (.ret ((one r1B).enc (Ta7 x),[])))
theorem Pc6:i7 prog G 52 Wb7:=Ea3 (bd b52 Cc1) (one r1B) (o:=Ea5) λx=>D1 (by kernel_rfl)
noncomputable def Pc7:List (Nat×Sum):=[]
theorem Cc2:k8 prog G Pc7:=trivial
noncomputable def Ea6(x:Int)(y:Int):Option (b7×List c8):=(sl (decide (x<y)) (some (i (-1),[])) (sl (decide (x>y)) (some (i 1,[])) (some (i 0,[]))))
noncomputable def ga6(x:Int)(y:Int):Int:=N7 (one r1I) (Ea6 x y)
noncomputable def ga7(x:Int)(y:Int):Bool:=okO (one r1I) (Ea6 x y)
noncomputable def pb9:Sum:=Da9 cI cI (λx y=>.guard (ga7 x y) (.ret ((one r1I).enc (ga6 x y),[])))
theorem Lb6:i7 prog G 53 pb9:=tb8 (bd b53 Cc2) (one r1I) (o:=Ea6) λx y=>D1 (by kernel_rfl)
noncomputable def sc2:List (Nat×Sum):=[(53,pb9)]
theorem kc0:k8 prog G sc2:=⟨Lb6,trivial⟩
noncomputable def sa9(x:Pln)(y:Pln):Option (b7×List c8):=let t1:=(ga6 x.n.x y.n.x);let t2:=(ga6 x.n.y y.n.y);let t3:=(ga6 x.n.z y.n.z);let t4:=(ga6 x.b y.b);(sl (ga7 x.n.x y.n.x) (sl (t1==0) (sl (ga7 x.n.y y.n.y) (sl (t2==0) (sl (ga7 x.n.z y.n.z) (sl (t3==0) (sl (ga7 x.b y.b) (sl (t4==0) (some (i t4,[])) (some (i t4,[]))) none) (some (i t3,[]))) none) (some (i t2,[]))) none) (some (i t1,[]))) none)
noncomputable def Ha0(x:Pln)(y:Pln):Int:=N7 (one r1I) (sa9 x y)
noncomputable def Ha1(x:Pln)(y:Pln):Bool:=okO (one r1I) (sa9 x y)
noncomputable def Ya0:Sum:=Da9 (L2 tP) (L2 tP) (λx y=>.guard (Ha1 x y) (.ret ((one r1I).enc (Ha0 x y),[])))
theorem sc3:i7 prog G 49 Ya0:=tb8 (bd b49 kc0) (one r1I) (o:=sa9) λx y=>D1 (by kernel_rfl)
noncomputable def Ed3:List (Nat×Sum):=[(43,gb9)]
theorem rd5:k8 prog G Ed3:=⟨Fb0,trivial⟩
noncomputable def hb7(x:V3):Option (b7×List c8):=let t1:=(pa9 24 [x.x,x.y,x.z]);(sl (qa0 24 [x.x,x.y,x.z]) (some (b t1,[])) none)
noncomputable def ya1(x:V3):Bool:=N7 (one r1B) (hb7 x)
noncomputable def ya2(x:V3):Bool:=okO (one r1B) (hb7 x)
noncomputable def Ab7:Sum:=N1 (L2 tV) (λx=>.guard (ya2 x) (.ret ((one r1B).enc (ya1 x),[])))
theorem Lb7:i7 prog G 20 Ab7:=Ea3 (bd b20 rd5) (one r1B) (o:=hb7) λx=>D1 (by kernel_rfl)
end Go.Ev.Ce
namespace Go.Proofs
open Go.Shelf
set_option maxRecDepth 100000 in
def Ce.sortLay_ren:Go.Shelf.Ren:=⟨fun | 6=>48 | 15=>81 | 14=>80 | 28=>107 | 29=>108 | 20=>99 | 21=>100 | 22=>101 | 23=>102 | 24=>103 | 25=>104 | 26=>105 | 27=>106 | 46=>121 | 47=>122 | 48=>123 | 49=>124 | 50=>125 | 57=>129 | n=>n,fun | 22=>47 | 24=>60 | 25=>81 | 3=>3 | 39=>104 | 0=>0 | 53=>123 | 55=>125 | 4=>4 | 46=>116 | 45=>115 | 50=>120 | 5=>5 | 9=>9 | 66=>134 | 70=>138 | 76=>142 | 77=>143 | n=>n,fun | n=>n⟩
set_option maxRecDepth 100000 in
theorem Ce.sortLay:Go.Proofs.SlLaysF0.n6 Tryz.prog Ce.sortLay_ren:={
 mixed:=by kernel_rfl
 f6:=⟨Tryz.f48.name,by decide,Tryz.func48.trans (congrArg some (by kernel_rfl))⟩
 f14:=⟨Tryz.f80.name,by decide,Tryz.func80.trans (congrArg some (by kernel_rfl))⟩
 f15:=Tryz.func81.trans (congrArg some (by kernel_rfl))
 f20:=⟨Tryz.f99.name,by decide,Tryz.func99.trans (congrArg some (by kernel_rfl))⟩
 f21:=⟨Tryz.f100.name,by decide,Tryz.func100.trans (congrArg some (by kernel_rfl))⟩
 f22:=⟨Tryz.f101.name,by decide,Tryz.func101.trans (congrArg some (by kernel_rfl))⟩
 f23:=⟨Tryz.f102.name,by decide,Tryz.func102.trans (congrArg some (by kernel_rfl))⟩
 f24:=⟨Tryz.f103.name,by decide,Tryz.func103.trans (congrArg some (by kernel_rfl))⟩
 f25:=⟨Tryz.f104.name,by decide,Tryz.func104.trans (congrArg some (by kernel_rfl))⟩
 f26:=⟨Tryz.f105.name,by decide,Tryz.func105.trans (congrArg some (by kernel_rfl))⟩
 f27:=⟨Tryz.f106.name,by decide,Tryz.func106.trans (congrArg some (by kernel_rfl))⟩
 f28:=Tryz.func107.trans (congrArg some (by kernel_rfl))
 f29:=Tryz.func108.trans (congrArg some (by kernel_rfl))
 f46:=⟨Tryz.f121.name,by decide,Tryz.func121.trans (congrArg some (by kernel_rfl))⟩
 f47:=Tryz.func122.trans (congrArg some (by kernel_rfl))
 f48:=Tryz.func123.trans (congrArg some (by kernel_rfl))
 f49:=⟨Tryz.f124.name,by decide,Tryz.func124.trans (congrArg some (by kernel_rfl))⟩
 f50:=⟨Tryz.f125.name,by decide,Tryz.func125.trans (congrArg some (by kernel_rfl))⟩
 f57:=⟨Tryz.f129.name,by decide,Tryz.func129.trans (congrArg some (by kernel_rfl))⟩
 t0:=Tryz.underlying0
 a0:=Tryz.isAgg0
 z0:=Tryz.sizeOf0
 v0:=Tryz.zeroValue0
 t3:=Tryz.underlying3
 a3:=Tryz.isAgg3
 z3:=Tryz.sizeOf3
 v3:=Tryz.zeroValue3
 t4:=Tryz.underlying4
 a4:=Tryz.isAgg4
 z4:=Tryz.sizeOf4
 v4:=Tryz.zeroValue4
 t5:=Tryz.underlying5
 a5:=Tryz.isAgg5
 z5:=Tryz.sizeOf5
 v5:=Tryz.zeroValue5
 t9:=Tryz.underlying9
 a9:=Tryz.isAgg9
 z9:=Tryz.sizeOf9
 v9:=Tryz.zeroValue9
 t22:=Tryz.underlying47
 a22:=Tryz.isAgg47
 z22:=Tryz.sizeOf47
 v22:=Tryz.zeroValue47
 t25:=Tryz.underlying81
 a25:=Tryz.isAgg81
 z25:=Tryz.sizeOf81
 v25:=Tryz.zeroValue81
 t39:=Tryz.underlying104
 a39:=Tryz.isAgg104
 z39:=Tryz.sizeOf104
 v39:=Tryz.zeroValue104
 t45:=Tryz.underlying115
 a45:=Tryz.isAgg115
 z45:=Tryz.sizeOf115
 v45:=Tryz.zeroValue115
 t46:=Tryz.underlying116
 a46:=Tryz.isAgg116
 z46:=Tryz.sizeOf116
 v46:=Tryz.zeroValue116
 t50:=Tryz.underlying120
 a50:=Tryz.isAgg120
 z50:=Tryz.sizeOf120
 v50:=Tryz.zeroValue120
 t53:=Tryz.underlying123
 a53:=Tryz.isAgg123
 z53:=Tryz.sizeOf123
 v53:=Tryz.zeroValue123
 t55:=Tryz.underlying125
 a55:=Tryz.isAgg125
 z55:=Tryz.sizeOf125
 v55:=Tryz.zeroValue125
 t66:=Tryz.underlying134
 a66:=Tryz.isAgg134
 z66:=Tryz.sizeOf134
 v66:=Tryz.zeroValue134
 t70:=Tryz.underlying138
 a70:=Tryz.isAgg138
 z70:=Tryz.sizeOf138
 v70:=Tryz.zeroValue138
 t76:=Tryz.underlying142
 a76:=Tryz.isAgg142
 z76:=Tryz.sizeOf142
 v76:=Tryz.zeroValue142
 t77:=Tryz.underlying143
 a77:=Tryz.isAgg143
 z77:=Tryz.sizeOf143
 v77:=Tryz.zeroValue143 }
end Go.Proofs
namespace Go.Ev.Ce
open Go Go.Ev Go.Ev.L Go.Proofs Go.Sort
def Ka9(x y:Int):Int:=if x<y then -1 else if x>y then 1 else 0
def la6(x y:Pln):Int :=
 if Ka9 x.n.x y.n.x=0 then if Ka9 x.n.y y.n.y=0 then if Ka9 x.n.z y.n.z=0 then Ka9 x.b y.b else Ka9 x.n.z y.n.z else Ka9 x.n.y y.n.y else Ka9 x.n.x y.n.x
theorem Ab8(x y:Int):Ka9 x y<0↔x<y:=by unfold Ka9;split<;>(try split)<;>omega
theorem kc1(x y:Int):Ka9 x y=0↔x=y:=by unfold Ka9;split<;>(try split)<;>omega
def LtP(x y:Pln):Prop:=x.n.x<y.n.x\/x.n.x=y.n.x/\(x.n.y<y.n.y\/x.n.y=y.n.y/\(x.n.z<y.n.z\/x.n.z=y.n.z/\x.b<y.b))
instance(x y:Pln):Decidable (LtP x y):=by unfold LtP;exact inferInstance
theorem rd6(x y:Pln):la6 x y<0↔LtP x y:=by
 have h1:=Ab8 x.n.x y.n.x;have h2:=kc1 x.n.x y.n.x;have h3:=Ab8 x.n.y y.n.y;have h4:=kc1 x.n.y y.n.y;have h5:=Ab8 x.n.z y.n.z;have h6:=kc1 x.n.z y.n.z;have h7:=Ab8 x.b y.b;unfold la6 LtP;split
 ·split
  ·split<;>omega
  ·omega
 ·omega
theorem Ra7(x y:Pln):ltOf la6 x y=decide (LtP x y):=by
 unfold ltOf;rw[decide_eq_decide];exact rd6 x y
theorem hf5:SWO (ltOf la6) where
 irrefl x:=by rw[Ra7];simp[LtP]
 trans x y z h1 h2:=by rw[Ra7,decide_eq_true_eq] at *;unfold LtP at *;omega
 ntrans x y z h1 h2:=by rw[Ra7,decide_eq_false_iff_not] at *;unfold LtP at *;omega
theorem rf7(x y:Pln)(h1:ltOf la6 x y=false)(h2:ltOf la6 y x=false):x=y:=by
 rw[Ra7,decide_eq_false_iff_not] at *
 unfold LtP at *
 obtain⟨⟨a,b,c⟩,d⟩:=x;obtain⟨⟨a',b',c'⟩,d'⟩:=y
 simp only at *
 have:a=a'/\b=b'/\c=c'/\d=d':=by omega
 obtain⟨rfl,rfl,rfl,rfl⟩:=this;rfl
theorem Ed4(x y:Int):Ea6 x y=some (i (Ka9 x y),[]):=by
 unfold Ea6 Ka9;simp only[cc6,decide_eq_true_eq]
 split<;>(try split)<;>rfl
theorem ae0(x y:Int):ga6 x y=Ka9 x y:=by unfold ga6;rw[Ed4];rfl
theorem ae1(x y:Int):ga7 x y=true:=by unfold ga7;rw[Ed4];rfl
theorem Pc8(x y:Pln):sa9 x y=some (i (la6 x y),[]):=by
 unfold sa9 la6;simp only[ae0,ae1,cc6,beq_iff_eq,if_true]
 repeat' (first | rfl | split)
theorem hf6(x y:Pln):Ha0 x y=la6 x y:=by unfold Ha0;rw[Pc8];rfl
theorem hf7(x y:Pln):Ha1 x y=true:=by unfold Ha1;rw[Pc8];rfl
theorem hf8(x y:Pln):(Ya0 [.agg (tP.row x),.agg (tP.row y)] []).run=some (i (la6 x y),[]):=by
 have:(Ya0 [.agg (tP.row x),.agg (tP.row y)] []).run=sel (Ha1 x y) (some (i (Ha0 x y),[])) none:=by kernel_rfl
 rw[this,hf7,hf6]
def rc8(p:Pln):List Value:=[.int .i64 p.n.x,.int .i64 p.n.y,.int .i64 p.n.z,.int .i64 p.b]
instance:Inhabited Pln:=⟨⟨⟨0,0,0⟩,0⟩⟩
def Wb8(l:List Pln):List Pln:=l.mergeSort λx y=>!ltOf la6 y x
theorem Sb4(l:List Pln):(Wb8 l).length=l.length:=Qhf l
noncomputable def Ja8:Sum:=Zd2 tP 49 60 Wb8
theorem ue4:Ce.sortLay_ren.f 6=48:=by kernel_rfl
theorem jd5:Ce.sortLay_ren.t 24=60:=by kernel_rfl
set_option maxRecDepth 100000 in
theorem qb0:i7 prog G 48 Ja8:=by
 refine Zd3 (enc:=rc8) (cf:=la6) ⟨_,Tryz.func48,by kernel_rfl,of_decide_eq_true (by kernel_rfl)⟩ (by decide) (λ_=>rfl) (λr h=>eb2 (n:=4) h) (λx v hv=>?_) Sb4
  (λblk off size w=>Zd1 sc3 hf8 (λ_=>rfl) (λ_=>rfl) _ _ _ _ _) (λblk cap d w hcl hH hb hs=>?_)
 ·simp[rc8] at hv
  rcases hv with rfl|rfl|rfl|rfl<;>rfl
 ·have eg:∀args w,(callFunc 49 args).run Tryz.prog w=.ok (.enter 49 args) w:=enters_of Tryz.func49 (by kernel_rfl) rfl
  have:=AnyQ.slices_SortFunc Ce.sortLay 4 (by rw[jd5];exact Tryz.isAgg60) (by rw[jd5];exact Tryz.sizeOf60) rc8 (λ_=>rfl) (λx v hv=>by simp[rc8] at hv;rcases hv with rfl | rfl | rfl | rfl<;>rfl) la6 hf5 49 #[] blk 0 cap d w eg (hcl 0 d.size) hH hb hs
  rw[ue4] at this;refine this.mono λe w' ⟨h1,d',n,os,h2,h3,h4⟩=>⟨h1,n,os,?_⟩
  have h5:=sorted_unique_holds hf5 rf7 d d' h2 h3;rw[h4];show _=sortWorldK rc8 4 w blk 0 n (d.toList.mergeSort λx y=>!ltOf la6 y x).toArray os
  rw[<- h5]
end Go.Ev.Ce
namespace Go.Ev.Ce
open Go Go.Ev Go.Ev.L Go.Proofs
set_option maxRecDepth 100000
structure Ha2 where
 is1:Int
 E5:List Int
 d7:Int
noncomputable def sc4:List (Nat×Sum):=[(28,jd4)]
theorem kc2:k8 prog G sc4:=⟨Sd2,trivial⟩
structure Ha3 where
 alt:Nat
 (is0 d7:Int)
noncomputable def ka6{α:Type}(kk:Ha3->α)(x:Ha2):α:=let t1:=(Sb2 (gL tI x.E5 (W ((W (x.d7+1))-1)).toNat) x.is1);(sl (decide (x.d7>=(↑(List.length x.E5):Int))) (kk ⟨1,0,x.d7⟩) (sl (inB (W ((W (x.d7+1))-1)) (List.length x.E5)) (sl (Sb3 (gL tI x.E5 (W ((W (x.d7+1))-1)).toNat) x.is1) (kk ⟨1,t1,W (x.d7+1)⟩) (kk ⟨0,0,0⟩)) (kk ⟨0,0,0⟩)))
noncomputable def D2(x:Ha2):Ha3:=ka6 (λr=>r) x
noncomputable def Ra8(x:Ha2)(r:Ha3):DT (b7×List c8):=(.ite (Nat.beq r.alt 1) (.ret (i r.is0,[⟨0,2,[[eL tI x.E5,i r.d7]],true,false,0⟩])) .fail)
theorem Cc3{α β:Type}(F:α->β)(kk:Ha3->α)(x:Ha2):F (ka6 kk x)=ka6 (λr=>F (kk r)) x:=by unfold ka6;(repeat' apply r9 (f:=F))<;>rfl
noncomputable def Fb1:Sum:=zb9 ⟨[sPq 0,sIq],[⟨0,2,true,some [[.c 1 (nL tI),.o (.int .i64)]]⟩],λa H=>(⟨aIq a 1,hLq tI H 0 0 0,hIq H 0 0 1⟩,())⟩ (λx=>Ra8 x (D2 x))
theorem sc5:i7 prog G 58 Fb1:=ja6 (enc:=λx=>⟨[.ptr 0 0 0 0,i x.is1],[⟨0,2,[[eL tI x.E5,i x.d7]],true,false,0⟩]⟩) (λa H=>by kernel_rfl) (bd b58 kc2) λx=>D1 (Qhd (b:=ka6 (λr=>(Ra8 x r).run) x) (by kernel_rfl) (Cc3 (λr=>(Ra8 x r).run) (λr=>r) x).symm)
noncomputable def Sd3:List (Nat×Sum):=[]
theorem Ed5:k8 prog G Sd3:=trivial
noncomputable def L7(x:V3)(y:V3):V3:=(⟨W (x.x-y.x),W (x.y-y.y),W (x.z-y.z)⟩:V3)
noncomputable def ub4:Sum:=Da9 (L2 tV) (L2 tV) (λx y=>.ret ((one r1V).enc (L7 x y),[]))
theorem Ab9:i7 prog G 91 ub4:=zb8 (bd b91 Ed5) λx y=>D1 (by kernel_rfl)
noncomputable def ke0:List (Nat×Sum):=[(110,Ba8)]
theorem Sd4:k8 prog G ke0:=⟨Ma3,trivial⟩
noncomputable def Lb8(x:V3):Option (b7×List c8):=(sl (decide (x.x<(-24))) (some (b false,[])) (sl (decide (x.x>24)) (some (b false,[])) (sl (decide (x.y<(-24))) (some (b false,[])) (sl (decide (x.y>24)) (some (b false,[])) (sl (decide (x.z<(-24))) (some (b false,[])) (sl (decide (x.z>24)) (some (b false,[])) (some (b true,[]))))))))
noncomputable def Va7(x:V3):Bool:=N7 (one r1B) (Lb8 x)
noncomputable def Va8(x:V3):Bool:=okO (one r1B) (Lb8 x)
noncomputable def kc3:Sum:=N1 (L2 tV) (λx=>.guard (Va8 x) (.ret ((one r1B).enc (Va7 x),[])))
theorem sc6:i7 prog G 85 kc3:=Ea3 (bd b85 Sd4) (one r1B) (o:=Lb8) λx=>D1 (by kernel_rfl)
noncomputable def Pc9:List (Nat×Sum):=[(85,kc3),(91,ub4),(90,Va5),(89,dc1),(86,eb4)]
theorem Cc4:k8 prog G Pc9:=⟨sc6,Ab9,bb0,zc2,gb6,trivial⟩
noncomputable def Ea7(x:V3)(y:V3)(z:V3):Option (b7×List c8):=let t1:=(Va7 x);let t2:=(Va7 y);let t3:=(Va7 z);let t4:=(L7 y x);let t5:=(L7 z x);let t6:=(Z6 t4 t5);let t7:=(Ia7 t6);let t8:=(aa9 t7.1 x);(sl (Va8 x) (sl (!t1) (some (.tup [.agg [i 0,i 0,i 0,i 0],b false],[])) (sl (Va8 y) (sl (!t2) (some (.tup [.agg [i 0,i 0,i 0,i 0],b false],[])) (sl (Va8 z) (sl (!t3) (some (.tup [.agg [i 0,i 0,i 0,i 0],b false],[])) (sl (gb8 t6) (sl (t7.2==0) (some (.tup [.agg [i 0,i 0,i 0,i 0],b false],[])) (some (.tup [.agg [i t7.1.x,i t7.1.y,i t7.1.z,i t8],b true],[]))) none)) none)) none)) none)
noncomputable def va2(x:V3)(y:V3)(z:V3):Pln×Bool:=N7 (two r1P r1B) (Ea7 x y z)
noncomputable def va3(x:V3)(y:V3)(z:V3):Bool:=okO (two r1P r1B) (Ea7 x y z)
noncomputable def qb1:Sum:=qc9 (L2 tV) (L2 tV) (L2 tV) (λx y z=>.guard (va3 x y z) (.ret ((two r1P r1B).enc (va2 x y z),[])))
theorem Lb9:i7 prog G 61 qb1:=qe5 (bd b61 Cc4) (two r1P r1B) (o:=Ea7) λx y z=>D1 (by kernel_rfl)
noncomputable def Ed6:List (Nat×Sum):=[(91,ub4)]
theorem rd7:k8 prog G Ed6:=⟨Ab9,trivial⟩
noncomputable def Ra9(x:Pln):Pln:=let t1:=(L7 (⟨0,0,0⟩:V3) x.n);(⟨t1,W (0-x.b)⟩:Pln)
noncomputable def Qc0:Sum:=N1 (L2 tP) (λx=>.ret ((one r1P).enc (Ra9 x),[]))
theorem Ed7:i7 prog G 64 Qc0:=mb8 (bd b64 rd7) λx=>D1 (by kernel_rfl)
noncomputable def Ed8:List (Nat×Sum):=[(84,zc3),(85,kc3),(86,eb4)]
theorem rd8:k8 prog G Ed8:=⟨rd3,sc6,gb6,trivial⟩
noncomputable def Ia8(x:Pln)(y:V3):Option (b7×List c8):=let t1:=(nb2 x);let t2:=(Va7 y);let t3:=(aa9 x.n y);(sl (nb3 x) (sl (!t1) (some (i 0,[])) (sl (Va8 y) (sl (!t2) (some (i 0,[])) (sl (decide ((W (t3-x.b))<0)) (some (i (-1),[])) (sl (decide ((W (t3-x.b))>0)) (some (i 1,[])) (some (i 0,[]))))) none)) none)
noncomputable def da4(x:Pln)(y:V3):Int:=N7 (one r1I) (Ia8 x y)
noncomputable def ya3(x:Pln)(y:V3):Bool:=okO (one r1I) (Ia8 x y)
noncomputable def hb8:Sum:=Da9 (L2 tP) (L2 tV) (λx y=>.guard (ya3 x y) (.ret ((one r1I).enc (da4 x y),[])))
theorem nb5:i7 prog G 54 hb8:=tb8 (bd b54 rd8) (one r1I) (o:=Ia8) λx y=>D1 (by kernel_rfl)
noncomputable def Mb0:List (Nat×Sum):=[]
theorem Cc5:k8 prog G Mb0:=trivial
structure ta0 where
 (d9 d7 f0 j5 s9 u7 u8 xa2:Int)
structure P0 where
 is7:Int
noncomputable def ub5(p:ta0)(s:P0):St:=⟨ra 5 (.ptr 0 0 0 0::.ptr 1 0 0 0::i s.is7::ra 42 []),[⟨0,4,[[i p.d9,i p.d7,i p.f0,i p.j5]],true,false,0⟩,⟨0,4,[[i p.s9,i p.u7,i p.u8,i p.xa2]],true,false,0⟩]⟩
noncomputable def R3{α:Type}(k:P0->α)(e:Nat->α)(z:α)(p:ta0)(s:P0):α:=(sl (decide (s.is7<4)) (sl (inB s.is7 4) (sl ((Nat.ble ((0+(s.is7.toNat*1))+1) 4)&&(ea5 [CK.int .i64] (g8 [i p.d9,i p.d7,i p.f0,i p.j5] (0+(s.is7.toNat*1))))) (sl (inB s.is7 4) (sl ((Nat.ble ((0+(s.is7.toNat*1))+1) 4)&&(ea5 [CK.int .i64] (g8 [i p.s9,i p.u7,i p.u8,i p.xa2] (0+(s.is7.toNat*1))))) (sl (decide ((toI (hdA (g8 [i p.d9,i p.d7,i p.f0,i p.j5] (0+(s.is7.toNat*1)))))<(toI (hdA (g8 [i p.s9,i p.u7,i p.u8,i p.xa2] (0+(s.is7.toNat*1))))))) (e 1) (sl (inB s.is7 4) (sl ((Nat.ble ((0+(s.is7.toNat*1))+1) 4)&&(ea5 [CK.int .i64] (g8 [i p.d9,i p.d7,i p.f0,i p.j5] (0+(s.is7.toNat*1))))) (sl (inB s.is7 4) (sl ((Nat.ble ((0+(s.is7.toNat*1))+1) 4)&&(ea5 [CK.int .i64] (g8 [i p.s9,i p.u7,i p.u8,i p.xa2] (0+(s.is7.toNat*1))))) (sl (decide ((toI (hdA (g8 [i p.d9,i p.d7,i p.f0,i p.j5] (0+(s.is7.toNat*1)))))>(toI (hdA (g8 [i p.s9,i p.u7,i p.u8,i p.xa2] (0+(s.is7.toNat*1))))))) (e 2) (k ⟨W (s.is7+1)⟩)) z) z) z) z)) z) z) z) z) (e 3))
noncomputable def H6(p:ta0)(s:P0):Stp P0:=R3 .next .exit .fail p s
noncomputable def Ya1:Lo ta0 P0:=⟨En Mb0,0,gf7,[1,1,1,0,1,4,4],[5,6,7],.p,[⟨ru2 5 (sPq 0::sPq 1::sIq::ru2 42 []),[⟨0,4,true,some [kLq 4]⟩,⟨0,4,true,some [kLq 4]⟩],λa H=>(⟨hIq H 0 0 0,hIq H 0 0 1,hIq H 0 0 2,hIq H 0 0 3,hIq H 1 0 0,hIq H 1 0 1,hIq H 1 0 2,hIq H 1 0 3⟩,⟨aIq a 7⟩)⟩],H6,[(none,λp s=>⟨[i (-1)],[]⟩),(none,λp s=>⟨[i 1],[]⟩),(some 0,λp s=>upq (ub5 p s) [(32,i s.is7),(33,b (decide (s.is7<4)))])],ub5⟩
theorem sc7:Ya1.Ok:=Lo.ok [] (by kernel_rfl) .nil rfl (.cons (λa H=>by kernel_rfl) .nil) λp s=>(.of @R3 (λF _ _ _ _ _=>by unfold R3;(repeat' apply r9 (f:=F))<;>rfl) (by kernel_rfl))
noncomputable def na2(x:Pln)(y:Pln):Option (b7×List c8):=let t1:=(lp (H6 (⟨x.n.x,x.n.y,x.n.z,x.b,y.n.x,y.n.y,y.n.z,y.b⟩:ta0)) (⟨0⟩:P0));(sl (Nat.beq t1.1 1) (some (i (-1),[])) (sl (Nat.beq t1.1 2) (some (i 1,[])) (sl (Nat.beq t1.1 3) (some (i 0,[])) none)))
noncomputable def na3(x:Pln)(y:Pln):Int:=N7 (one r1I) (na2 x y)
noncomputable def qb2(x:Pln)(y:Pln):Bool:=okO (one r1I) (na2 x y)
noncomputable def Wb9:Sum:=Da9 (L2 tP) (L2 tP) (λx y=>.guard (qb2 x y) (.ret ((one r1I).enc (na3 x y),[])))
theorem Qc1:i7 prog G 92 Wb9:=tb8 (bd b92 Cc5) (one r1I) (o:=na2) λx y=>Ea4 (.s .p (.s .p (.s .p (.s (.s .p (.b (.u Ya1.ls))) .p)))) [Ya1.pr] (by kernel_rfl) (.cons sc7 .nil) (by kernel_rfl)
noncomputable def Va9:List (Nat×Sum):=[(61,qb1),(54,hb8)]
theorem rd9:k8 prog G Va9:=⟨Lb9,nb5,trivial⟩
structure ra7 where
 e7:List V3
 (is3 is4 is5:Int)
 bs7:Bool
 (d9 d7 f0 j5:Int)
structure fa3 where
 is8:Int
noncomputable def qb3(p:ra7)(s:fa3):St:=⟨eL tV p.e7::.unk::.unk::i p.is3::i p.is4::i p.is5::.ptr 0 0 0 0::b p.bs7::i s.is8::ra 48 [],[⟨0,4,[[i p.d9,i p.d7,i p.f0,i p.j5]],true,false,0⟩]⟩
noncomputable def Z7{α:Type}(k:fa3->α)(e:Nat->α)(z:α)(p:ra7)(s:fa3):α:=let t1:=(da4 (⟨(⟨p.d9,p.d7,p.f0⟩:V3),p.j5⟩:Pln) (gL tV p.e7 s.is8.toNat));(sl (decide (s.is8<(↑(List.length p.e7):Int))) (sl p.bs7 (sl (inB s.is8 (List.length p.e7)) (sl (ya3 (⟨(⟨p.d9,p.d7,p.f0⟩:V3),p.j5⟩:Pln) (gL tV p.e7 s.is8.toNat)) (sl (t1 != 0) (e 1) (k ⟨W (s.is8+1)⟩)) z) z) (e 2)) (e 3))
noncomputable def C5(p:ra7)(s:fa3):Stp fa3:=Z7 .next .exit .fail p s
noncomputable def Bb0:Lo ra7 fa3:=⟨En Va9,0,ue1,[1,0,1,4,4,1,0,4,1,4,4,1,0,4,1,4,4,1,0,4,1,1,4,4],[0,3,4,5,6,7,8],.p,[⟨sLq tV::sUq::sUq::sIq::sIq::sIq::sPq 0::sBq::sIq::ru2 48 [],[⟨0,4,true,some [kLq 4]⟩],λa H=>(⟨aLq tV a 0,aIq a 3,aIq a 4,aIq a 5,aBq a 7,hIq H 0 0 0,hIq H 0 0 1,hIq H 0 0 2,hIq H 0 0 3⟩,⟨aIq a 8⟩)⟩],C5,[(none,λp s=>⟨[b false],[]⟩),(some 6,λp s=>upq (qb3 p s) [(41,i s.is8),(42,eL tV p.e7),(43,i (↑(List.length p.e7):Int)),(44,b (decide (s.is8<(↑(List.length p.e7):Int)))),(45,b true),(46,b p.bs7),(47,b p.bs7)]),(some 6,λp s=>upq (qb3 p s) [(41,i s.is8),(42,eL tV p.e7),(43,i (↑(List.length p.e7):Int)),(44,b (decide (s.is8<(↑(List.length p.e7):Int)))),(45,b false),(46,u),(47,b false)])],qb3⟩
theorem bd2:Bb0.Ok:=Lo.ok [] (by kernel_rfl) .nil rfl (.cons (λa H=>by kernel_rfl) .nil) λp s=>(.of @Z7 (λF _ _ _ _ _=>by unfold Z7;(repeat' apply r9 (f:=F))<;>rfl) (by kernel_rfl))
structure Ma6 where
 (is3 is4:Int)
structure fa4 where
 e7:List V3
 is5:Int
noncomputable def Xb0(p:Ma6)(s:fa4):St:=⟨eL tV s.e7::.unk::.unk::i p.is3::i p.is4::i s.is5::ra 51 [],[]⟩
noncomputable def ia6{α:Type}(k:fa4->α)(e:Nat->α)(z:α)(p:Ma6)(s:fa4):α:=let t1:=(va2 (gL tV s.e7 p.is3.toNat) (gL tV s.e7 p.is4.toNat) (gL tV s.e7 s.is5.toNat));let t2:=(lp (C5 (⟨rt tV s.e7,p.is3,p.is4,s.is5,t1.2,t1.1.n.x,t1.1.n.y,t1.1.n.z,t1.1.b⟩:ra7)) (⟨0⟩:fa3));(sl (decide (s.is5<p.is4)) (sl (inB p.is3 (List.length s.e7)) (sl (inB p.is4 (List.length s.e7)) (sl (inB s.is5 (List.length s.e7)) (sl (va3 (gL tV s.e7 p.is3.toNat) (gL tV s.e7 p.is4.toNat) (gL tV s.e7 s.is5.toNat)) (sl ((cnE tV s.e7)&&true) (sl (Nat.beq t2.1 1) (e 1) (sl (Nat.beq t2.1 2) (k ⟨rt tV s.e7,W (s.is5+1)⟩) (sl (Nat.beq t2.1 3) (k ⟨rt tV s.e7,W (s.is5+1)⟩) z))) z) z) z) z) z) (e 2))
noncomputable def Q7(p:Ma6)(s:fa4):Stp fa4:=ia6 .next .exit .fail p s
noncomputable def Bb1:Lo Ma6 fa4:=⟨En Va9,0,ue1,[1,0,1,4,4,1,0,4,1,4,4,1,0,4,1,4,4],[0,3,4,5],.s .p (.s (.b (.s .p (.s .p (.b (.u Bb0.ls))))) .p),[⟨sLq tV::sUq::sUq::sIq::sIq::sIq::ru2 51 [],[],λa H=>(⟨aIq a 3,aIq a 4⟩,⟨aLq tV a 0,aIq a 5⟩)⟩],Q7,[(none,λp s=>⟨[b false],[]⟩),(some 4,λp s=>upq (Xb0 p s) [(20,i s.is5),(21,i p.is4),(22,b (decide (s.is5<p.is4)))])],Xb0⟩
theorem bd3:Bb1.Ok:=Lo.ok [Bb0.pr] (by kernel_rfl) (.cons bd2 .nil) rfl (.cons (λa H=>by kernel_rfl) .nil) λp s=>(.of @ia6 (λF _ _ _ _ _=>by unfold ia6;(repeat' apply r9 (f:=F))<;>rfl) (by kernel_rfl))
structure Ma7 where
 is3:Int
structure fa5 where
 e7:List V3
 is4:Int
noncomputable def Xb1(p:Ma7)(s:fa5):St:=⟨eL tV s.e7::.unk::.unk::i p.is3::i s.is4::ra 52 [],[]⟩
noncomputable def ia7{α:Type}(k:fa5->α)(e:Nat->α)(z:α)(p:Ma7)(s:fa5):α:=let t1:=(lp (Q7 (⟨p.is3,s.is4⟩:Ma6)) (⟨rt tV s.e7,0⟩:fa4));(sl (decide (s.is4<p.is3)) (sl ((cnE tV s.e7)&&true) (sl (Nat.beq t1.1 1) (e 1) (sl (Nat.beq t1.1 2) (k ⟨t1.2.e7,W (s.is4+1)⟩) z)) z) (e 2))
noncomputable def Q8(p:Ma7)(s:fa5):Stp fa5:=ia7 .next .exit .fail p s
noncomputable def Bb2:Lo Ma7 fa5:=⟨En Va9,0,ue1,[1,0,1,4,4,1,0,4,1,4,4],[0,3,4],.s .p (.s (.b (.s .p (.b (.u Bb1.ls)))) .p),[⟨sLq tV::sUq::sUq::sIq::sIq::ru2 52 [],[],λa H=>(⟨aIq a 3⟩,⟨aLq tV a 0,aIq a 4⟩)⟩],Q8,[(none,λp s=>⟨[b false],[]⟩),(some 2,λp s=>upq (Xb1 p s) [(15,i s.is4),(16,i p.is3),(17,b (decide (s.is4<p.is3)))])],Xb1⟩
theorem bd4:Bb2.Ok:=Lo.ok [Bb1.pr] (by kernel_rfl) (.cons bd3 .nil) rfl (.cons (λa H=>by kernel_rfl) .nil) λp s=>(.of @ia7 (λF _ _ _ _ _=>by unfold ia7;(repeat' apply r9 (f:=F))<;>rfl) (by kernel_rfl))
structure Ma8 where
structure fa6 where
 e7:List V3
 is3:Int
noncomputable def Xb2(p:Ma8)(s:fa6):St:=⟨eL tV s.e7::.unk::.unk::i s.is3::ra 53 [],[]⟩
noncomputable def ia8{α:Type}(k:fa6->α)(e:Nat->α)(z:α)(p:Ma8)(s:fa6):α:=let t1:=(lp (Q8 (⟨s.is3⟩:Ma7)) (⟨rt tV s.e7,0⟩:fa5));(sl (decide (s.is3<(↑(List.length s.e7):Int))) (sl ((cnE tV s.e7)&&true) (sl (Nat.beq t1.1 1) (e 1) (sl (Nat.beq t1.1 2) (k ⟨t1.2.e7,W (s.is3+1)⟩) z)) z) (e 2))
noncomputable def Q9(p:Ma8)(s:fa6):Stp fa6:=ia8 .next .exit .fail p s
noncomputable def Bb3:Lo Ma8 fa6:=⟨En Va9,0,ue1,[1,0,1,4,4],[0,3],.s .p (.s (.b (.s .p (.b (.u Bb2.ls)))) .p),[⟨sLq tV::sUq::sUq::sIq::ru2 53 [],[],λa H=>(⟨⟩,⟨aLq tV a 0,aIq a 3⟩)⟩],Q9,[(none,λp s=>⟨[b false],[]⟩),(some 0,λp s=>upq (Xb2 p s) [(9,i s.is3),(10,eL tV s.e7),(11,i (↑(List.length s.e7):Int)),(12,b (decide (s.is3<(↑(List.length s.e7):Int))))])],Xb2⟩
theorem bd5:Bb3.Ok:=Lo.ok [Bb2.pr] (by kernel_rfl) (.cons bd4 .nil) rfl (.cons (λa H=>by kernel_rfl) .nil) λp s=>(.of @ia8 (λF _ _ _ _ _=>by unfold ia8;(repeat' apply r9 (f:=F))<;>rfl) (by kernel_rfl))
noncomputable def Ia9(x:List V3):Option (b7×List c8):=let t1:=(lp (Q9 (⟨⟩:Ma8)) (⟨rt tV x,0⟩:fa6));(sl ((cnE tV x)&&true) (sl (Nat.beq t1.1 1) (some (b false,[])) (sl (Nat.beq t1.1 2) (some (b true,[])) none)) none)
noncomputable def Ja0(x:List V3):Bool:=N7 (one r1B) (Ia9 x)
noncomputable def Sa0(x:List V3):Bool:=okO (one r1B) (Ia9 x)
noncomputable def dc5:Sum:=N1 (na0 tV) (λx=>.guard (Sa0 x) (.ret ((one r1B).enc (Ja0 x),[])))
theorem zc4:i7 prog G 59 dc5:=Ea3 (bd b59 rd9) (one r1B) (o:=Ia9) λx=>Ea4 (.s .p (.s (.s .p (.b (.u Bb3.ls))) .p)) [Bb3.pr] (by kernel_rfl) (.cons bd5 .nil) (by kernel_rfl)
noncomputable def kc4:List (Nat×Sum):=[(85,kc3),(59,dc5)]
theorem bd6:k8 prog G kc4:=⟨sc6,zc4,trivial⟩
structure Ea8 where
 e7:List V3
structure O2 where
 is3:Int
noncomputable def Mb1(p:Ea8)(s:O2):St:=⟨eL tV p.e7::.unk::.unk::i s.is3::ra 17 [],[]⟩
noncomputable def da5{α:Type}(k:O2->α)(e:Nat->α)(z:α)(p:Ea8)(s:O2):α:=let t1:=(Va7 (gL tV p.e7 s.is3.toNat));(sl (decide (s.is3<(↑(List.length p.e7):Int))) (sl (inB s.is3 (List.length p.e7)) (sl (Va8 (gL tV p.e7 s.is3.toNat)) (sl (!t1) (e 1) (k ⟨W (s.is3+1)⟩)) z) z) (e 2))
noncomputable def Z8(p:Ea8)(s:O2):Stp O2:=da5 .next .exit .fail p s
noncomputable def qb4:Lo Ea8 O2:=⟨En kc4,0,gf0,[1,1,0,1,4,4],[0,3],.p,[⟨sLq tV::sUq::sUq::sIq::ru2 17 [],[],λa H=>(⟨aLq tV a 0⟩,⟨aIq a 3⟩)⟩],Z8,[(none,λp s=>⟨[i 3],[]⟩),(some 0,λp s=>upq (Mb1 p s) [(7,i s.is3),(8,eL tV p.e7),(9,i (↑(List.length p.e7):Int)),(10,b (decide (s.is3<(↑(List.length p.e7):Int))))])],Mb1⟩
theorem Qc2:qb4.Ok:=Lo.ok [] (by kernel_rfl) .nil rfl (.cons (λa H=>by kernel_rfl) .nil) λp s=>(.of @da5 (λF _ _ _ _ _=>by unfold da5;(repeat' apply r9 (f:=F))<;>rfl) (by kernel_rfl))
noncomputable def ya4(x:List V3):Option (b7×List c8):=let t1:=(lp (Z8 (⟨rt tV x⟩:Ea8)) (⟨0⟩:O2));let t2:=(Ja0 (rt tV (rt tV x)));(sl (decide ((↑(List.length x):Int)>48)) (some (i 2,[])) (sl ((cnE tV x)&&true) (sl (Nat.beq t1.1 1) (some (i 3,[])) (sl (Nat.beq t1.1 2) (sl (okE tV (rt tV x)) (sl (Sa0 (rt tV (rt tV x))) (sl t2 (some (i 11,[])) (some (i 0,[]))) none) none) none)) none))
noncomputable def nb6(x:List V3):Int:=N7 (one r1I) (ya4 x)
noncomputable def Mb2(x:List V3):Bool:=okO (one r1I) (ya4 x)
noncomputable def zc5:Sum:=N1 (na0 tV) (λx=>.guard (Mb2 x) (.ret ((one r1I).enc (nb6 x),[])))
theorem sd0:i7 prog G 60 zc5:=Ea3 (bd b60 bd6) (one r1I) (o:=ya4) λx=>Ea4 (.s .p (.s .p (.s (.s .p (.b (.u qb4.ls))) .p))) [qb4.pr] (by kernel_rfl) (.cons Qc2 .nil) (by kernel_rfl)
noncomputable def kc5:List (Nat×Sum):=[(54,hb8)]
theorem bd7:k8 prog G kc5:=⟨nb5,trivial⟩
structure Ea9 where
 s7:List V3
 (d9 d7 f0 j5:Int)
structure O3 where
 is5:Int
noncomputable def Mb3(p:Ea9)(s:O3):St:=⟨.unk::eL tV p.s7::.ptr 0 0 0 0::.unk::.unk::i s.is5::ra 13 [],[⟨0,4,[[i p.d9,i p.d7,i p.f0,i p.j5]],true,false,0⟩]⟩
noncomputable def da6{α:Type}(k:O3->α)(e:Nat->α)(z:α)(p:Ea9)(s:O3):α:=let t1:=(da4 (⟨(⟨p.d9,p.d7,p.f0⟩:V3),p.j5⟩:Pln) (gL tV p.s7 s.is5.toNat));(sl (decide (s.is5<(↑(List.length p.s7):Int))) (sl (inB s.is5 (List.length p.s7)) (sl (ya3 (⟨(⟨p.d9,p.d7,p.f0⟩:V3),p.j5⟩:Pln) (gL tV p.s7 s.is5.toNat)) (sl (decide (t1>0)) (e 1) (k ⟨W (s.is5+1)⟩)) z) z) (e 2))
noncomputable def Z9(p:Ea9)(s:O3):Stp O3:=da6 .next .exit .fail p s
noncomputable def qb5:Lo Ea9 O3:=⟨En kc5,0,gf1,[1,0,1,4,4],[1,2,5],.p,[⟨sUq::sLq tV::sPq 0::sUq::sUq::sIq::ru2 13 [],[⟨0,4,true,some [kLq 4]⟩],λa H=>(⟨aLq tV a 1,hIq H 0 0 0,hIq H 0 0 1,hIq H 0 0 2,hIq H 0 0 3⟩,⟨aIq a 5⟩)⟩],Z9,[(none,λp s=>⟨[b false],[]⟩),(some 0,λp s=>upq (Mb3 p s) [(6,i s.is5),(7,eL tV p.s7),(8,i (↑(List.length p.s7):Int)),(9,b (decide (s.is5<(↑(List.length p.s7):Int))))])],Mb3⟩
theorem Qc3:qb5.Ok:=Lo.ok [] (by kernel_rfl) .nil rfl (.cons (λa H=>by kernel_rfl) .nil) λp s=>(.of @da6 (λF _ _ _ _ _=>by unfold da6;(repeat' apply r9 (f:=F))<;>rfl) (by kernel_rfl))
noncomputable def ya5(x:Pln)(y:List V3):Option (b7×List c8):=let t1:=(lp (Z9 (⟨rt tV y,x.n.x,x.n.y,x.n.z,x.b⟩:Ea9)) (⟨0⟩:O3));(sl ((cnE tV y)&&true) (sl (Nat.beq t1.1 1) (some (b false,[])) (sl (Nat.beq t1.1 2) (some (b true,[])) none)) none)
noncomputable def qa8(x:Pln)(y:List V3):Bool:=N7 (one r1B) (ya5 x y)
noncomputable def la7(x:Pln)(y:List V3):Bool:=okO (one r1B) (ya5 x y)
noncomputable def zc6:Sum:=Da9 (L2 tP) (na0 tV) (λx y=>.guard (la7 x y) (.ret ((one r1B).enc (qa8 x y),[])))
theorem sd1:i7 prog G 62 zc6:=tb8 (bd b62 bd7) (one r1B) (o:=ya5) λx y=>Ea4 (.s .p (.s (.s .p (.b (.u qb5.ls))) .p)) [qb5.pr] (by kernel_rfl) (.cons Qc3 .nil) (by kernel_rfl)
noncomputable def Qc4:List (Nat×Sum):=[(92,Wb9)]
theorem Ed9:k8 prog G Qc4:=⟨Qc1,trivial⟩
structure Wa0 where
 w6:List Pln
 (d9 d7 f0 j5:Int)
structure aa0 where
 is5:Int
noncomputable def kc6(p:Wa0)(s:aa0):St:=⟨eL tP p.w6::.unk::.unk::.ptr 0 0 0 0::.unk::i s.is5::ra 42 [],[⟨0,4,[[i p.d9,i p.d7,i p.f0,i p.j5]],true,false,0⟩]⟩
noncomputable def na4{α:Type}(k:aa0->α)(e:Nat->α)(z:α)(p:Wa0)(s:aa0):α:=let t1:=(na3 (gL tP p.w6 s.is5.toNat) (⟨(⟨p.d9,p.d7,p.f0⟩:V3),p.j5⟩:Pln));(sl (decide (s.is5<(↑(List.length p.w6):Int))) (sl (inB s.is5 (List.length p.w6)) (sl (qb2 (gL tP p.w6 s.is5.toNat) (⟨(⟨p.d9,p.d7,p.f0⟩:V3),p.j5⟩:Pln)) (sl (decide (t1<0)) (k ⟨W (s.is5+1)⟩) (e 1)) z) z) (e 2))
noncomputable def Y7(p:Wa0)(s:aa0):Stp aa0:=na4 .next .exit .fail p s
noncomputable def Mb4:Lo Wa0 aa0:=⟨En Qc4,0,gf2,[1,1,0,4,4],[0,3,5],.p,[⟨sLq tP::sUq::sUq::sPq 0::sUq::sIq::ru2 42 [],[⟨0,4,true,some [kLq 4]⟩],λa H=>(⟨aLq tP a 0,hIq H 0 0 0,hIq H 0 0 1,hIq H 0 0 2,hIq H 0 0 3⟩,⟨aIq a 5⟩)⟩],Y7,[(some 0,λp s=>let t1:=(na3 (gL tP p.w6 s.is5.toNat) (⟨(⟨p.d9,p.d7,p.f0⟩:V3),p.j5⟩:Pln));⟨eL tP p.w6::.unk::.unk::.ptr 0 0 0 0::.unk::i s.is5::.unk::i s.is5::eL tP p.w6::i (↑(List.length p.w6):Int)::b (decide (s.is5<(↑(List.length p.w6):Int)))::b true::eL tP p.w6::i s.is5::.tptr [i (gL tP p.w6 s.is5.toNat).n.x,i (gL tP p.w6 s.is5.toNat).n.y,i (gL tP p.w6 s.is5.toNat).n.z,i (gL tP p.w6 s.is5.toNat).b]::.agg [i (gL tP p.w6 s.is5.toNat).n.x,i (gL tP p.w6 s.is5.toNat).n.y,i (gL tP p.w6 s.is5.toNat).n.z,i (gL tP p.w6 s.is5.toNat).b]::.agg [i p.d9,i p.d7,i p.f0,i p.j5]::i t1::b (decide (t1<0))::b (decide (t1<0))::ra 28 [],[⟨0,4,[[i p.d9,i p.d7,i p.f0,i p.j5]],true,false,0⟩]⟩),(some 0,λp s=>upq (kc6 p s) [(7,i s.is5),(8,eL tP p.w6),(9,i (↑(List.length p.w6):Int)),(10,b (decide (s.is5<(↑(List.length p.w6):Int)))),(11,b false),(12,u),(13,u),(14,u),(15,u),(16,u),(17,u),(18,u),(19,b false)])],kc6⟩
theorem sd2:Mb4.Ok:=Lo.ok [] (by kernel_rfl) .nil rfl (.cons (λa H=>by kernel_rfl) .nil) λp s=>(.of @na4 (λF _ _ _ _ _=>by unfold na4;(repeat' apply r9 (f:=F))<;>rfl) (by kernel_rfl))
noncomputable def Sa1(x:List Pln)(y:Pln):Option (b7×List c8):=let t1:=(lp (Y7 (⟨rt tP x,y.n.x,y.n.y,y.n.z,y.b⟩:Wa0)) (⟨0⟩:aa0));let a0:=(u9 (λk=>(λk=>(tP).row (gL tP (rt tP x) k)) (0+k)) (List.range (t1.2.is5.toNat-0)));let a1:=(u9 (λk=>(λk=>(tP).row (gL tP (rt tP x) k)) (t1.2.is5.toNat+k)) (List.range ((List.length (rt tP x))-t1.2.is5.toNat)));let a2:=(inB t1.2.is5 ((List.length (rt tP x))+1));let a3:=(Nat.beq (0+(len a0)) (len (app [] a0))&&Nat.ble (((0+(len a0))+1)*32) room);let a4:=(((0+(len a0))+1)+(len a1));let a5:=(gL tP (rt tP x) t1.2.is5.toNat);let a6:=(Nat.beq 0 0&&Nat.ble ((0+(len a0))*32) room);let w0:Option (b7×List c8):=(sl a2 (sl a6 (sl a3 (sl a2 (sl (Nat.beq ((0+(len a0))+1) (len (app (app [] a0) [[i y.n.x,i y.n.y,i y.n.z,i y.b]]))&&Nat.ble (a4*32) room) (some (.sl 0 0 a4 0,[⟨60,4,app (app (app [] a0) [[i y.n.x,i y.n.y,i y.n.z,i y.b]]) a1,true,false,0⟩])) none) none) none) none) none);let w1:Option (b7×List c8):=(sl (decide (t1.2.is5<(↑(List.length (rt tP x)):Int))) (sl (inB t1.2.is5 (List.length (rt tP x))) (sl ((a5.n.x==y.n.x)&&((a5.n.y==y.n.y)&&((a5.n.z==y.n.z)&&((a5.b==y.b)&&true)))) (some (eL tP (rt tP x),[])) w0) none) w0);(sl ((cnE tP x)&&true) (sl (Nat.beq t1.1 1) w1 (sl (Nat.beq t1.1 2) w1 none)) none)
noncomputable def va4(x:List Pln)(y:Pln):List Pln:=N7 (one (r1L tP)) (Sa1 x y)
noncomputable def va5(x:List Pln)(y:Pln):Bool:=okO (one (r1L tP)) (Sa1 x y)
noncomputable def jd6:Sum:=Da9 (na0 tP) (L2 tP) (λx y=>.guard (va5 x y) (.ret ((one (r1L tP)).enc (va4 x y),[])))
theorem Sd5:i7 prog G 63 jd6:=tb8 (bd b63 Ed9) (one (r1L tP)) (o:=Sa1) λx y=>Ea4 (.s .p (.s .p (.s (.b (.u Mb4.ls)) .p))) [Mb4.pr] (by kernel_rfl) (.cons sd2 .nil) (by kernel_rfl)
noncomputable def bb1:List (Nat×Sum):=[(60,zc5),(61,qb1),(62,zc6),(63,jd6),(64,Qc0)]
theorem bd8:k8 prog G bb1:=⟨sd0,Lb9,sd1,Sd5,Ed7,trivial⟩
structure Y8 where
 e7:List V3
 (is6 is7:Int)
structure B1 where
 ph:Nat
 is8:Int
 Da7:List Pln
noncomputable def Fb2(p:Y8)(s:B1):St:=⟨eL tV p.e7::ra 4 (.v (.slice none 0 0)::i p.is6::i p.is7::i s.is8::ra 56 []),[]⟩
noncomputable def Fb3(p:Y8)(s:B1):St:=⟨eL tV p.e7::ra 4 (eL tP s.Da7::i p.is6::i p.is7::i s.is8::ra 56 []),[]⟩
noncomputable def Qc5(p:Y8)(s:B1):St:=(sel (Nat.beq s.ph 1) (Fb3 p s) (Fb2 p s))
noncomputable def da7{α:Type}(k:B1->α)(e:Nat->α)(z:α)(p:Y8)(s:B1):α:=let t1:=(va2 (gL tV p.e7 p.is6.toNat) (gL tV p.e7 p.is7.toNat) (gL tV p.e7 s.is8.toNat));let t2:=(qa8 t1.1 (rt tV p.e7));let t3:=(va4 [] t1.1);let t4:=(Ra9 t1.1);let t5:=(qa8 t4 (rt tV p.e7));let t6:=(va4 (rt tP t3) t4);let t7:=(va4 [] t4);(sl (decide (s.is8<p.is7)) (sl (inB p.is6 (List.length p.e7)) (sl (inB p.is7 (List.length p.e7)) (sl (inB s.is8 (List.length p.e7)) (sl (va3 (gL tV p.e7 p.is6.toNat) (gL tV p.e7 p.is7.toNat) (gL tV p.e7 s.is8.toNat)) (sl (!t1.2) (k ⟨0,W (s.is8+1),[]⟩) (sl (okE tV p.e7) (sl (la7 t1.1 (rt tV p.e7)) (sl t2 (sl (va5 [] t1.1) (sl (okE tV p.e7) (sl (la7 t4 (rt tV p.e7)) (sl t5 (sl (okE tP t3) (sl (va5 (rt tP t3) t4) (k ⟨1,W (s.is8+1),t6⟩) z) z) (k ⟨1,W (s.is8+1),t3⟩)) z) z) z) (sl (okE tV p.e7) (sl (la7 t4 (rt tV p.e7)) (sl t5 (sl (va5 [] t4) (k ⟨1,W (s.is8+1),t7⟩) z) (k ⟨0,W (s.is8+1),[]⟩)) z) z)) z) z)) z) z) z) z) (e 1))
noncomputable def da8{α:Type}(k:B1->α)(e:Nat->α)(z:α)(p:Y8)(s:B1):α:=let t1:=(va2 (gL tV p.e7 p.is6.toNat) (gL tV p.e7 p.is7.toNat) (gL tV p.e7 s.is8.toNat));let t2:=(qa8 t1.1 (rt tV p.e7));let t3:=(va4 (rt tP s.Da7) t1.1);let t4:=(Ra9 t1.1);let t5:=(qa8 t4 (rt tV p.e7));let t6:=(va4 (rt tP t3) t4);let t7:=(va4 (rt tP s.Da7) t4);(sl (decide (s.is8<p.is7)) (sl (inB p.is6 (List.length p.e7)) (sl (inB p.is7 (List.length p.e7)) (sl (inB s.is8 (List.length p.e7)) (sl (va3 (gL tV p.e7 p.is6.toNat) (gL tV p.e7 p.is7.toNat) (gL tV p.e7 s.is8.toNat)) (sl (!t1.2) (k ⟨1,W (s.is8+1),s.Da7⟩) (sl (okE tV p.e7) (sl (la7 t1.1 (rt tV p.e7)) (sl t2 (sl (okE tP s.Da7) (sl (va5 (rt tP s.Da7) t1.1) (sl (okE tV p.e7) (sl (la7 t4 (rt tV p.e7)) (sl t5 (sl (okE tP t3) (sl (va5 (rt tP t3) t4) (k ⟨1,W (s.is8+1),t6⟩) z) z) (k ⟨1,W (s.is8+1),t3⟩)) z) z) z) z) (sl (okE tV p.e7) (sl (la7 t4 (rt tV p.e7)) (sl t5 (sl (okE tP s.Da7) (sl (va5 (rt tP s.Da7) t4) (k ⟨1,W (s.is8+1),t7⟩) z) z) (k ⟨1,W (s.is8+1),s.Da7⟩)) z) z)) z) z)) z) z) z) z) (e 2))
noncomputable def ia9(p:Y8)(s:B1):Stp B1:=(sel (Nat.beq s.ph 1) (da8 .next .exit .fail p s) (da7 .next .exit .fail p s))
noncomputable def qb6:Lo Y8 B1:=⟨En bb1,0,Ie6,[1,1,1,1,0,1,4,4,1,0,4,1,4,4,1,0,4,1,4,4],[0,5,6,7,8],.p,[⟨sLq tV::ru2 4 (.s (.o .nil)::sIq::sIq::sIq::ru2 56 []),[],λa H=>(⟨aLq tV a 0,aIq a 6,aIq a 7⟩,⟨0,aIq a 8,[]⟩)⟩,⟨sLq tV::ru2 4 (sLq tP::sIq::sIq::sIq::ru2 56 []),[],λa H=>(⟨aLq tV a 0,aIq a 6,aIq a 7⟩,⟨1,aIq a 8,aLq tP a 5⟩)⟩],ia9,[(some 4,λp s=>upq (Fb2 p s) [(27,i s.is8),(28,i p.is7),(29,b (decide (s.is8<p.is7)))]),(some 4,λp s=>upq (Fb3 p s) [(27,i s.is8),(28,i p.is7),(29,b (decide (s.is8<p.is7)))])],Qc5⟩
theorem Qc6:qb6.Ok:=Lo.ok [] (by kernel_rfl) .nil rfl (.cons (λa H=>by kernel_rfl) (.cons (λa H=>by kernel_rfl) .nil)) λp s=>(.sel (Nat.beq s.ph 1) (.of @da8 (λF _ _ _ _ _=>by unfold da8;(repeat' apply r9 (f:=F))<;>rfl) (by kernel_rfl)) (.of @da7 (λF _ _ _ _ _=>by unfold da7;(repeat' apply r9 (f:=F))<;>rfl) (by kernel_rfl)))
structure Y9 where
 is6:Int
structure B4 where
 ph:Nat
 e7:List V3
 is7:Int
 Da7:List Pln
noncomputable def Fb4(p:Y9)(s:B4):St:=⟨eL tV s.e7::ra 4 (.v (.slice none 0 0)::i p.is6::i s.is7::ra 57 []),[]⟩
noncomputable def Fb5(p:Y9)(s:B4):St:=⟨eL tV s.e7::ra 4 (eL tP s.Da7::i p.is6::i s.is7::ra 57 []),[]⟩
noncomputable def Qc7(p:Y9)(s:B4):St:=(sel (Nat.beq s.ph 1) (Fb5 p s) (Fb4 p s))
noncomputable def da9{α:Type}(k:B4->α)(e:Nat->α)(z:α)(p:Y9)(s:B4):α:=let t1:=(lp (ia9 (⟨rt tV s.e7,p.is6,s.is7⟩:Y8)) (⟨0,0,[]⟩:B1));(sl (decide (s.is7<p.is6)) (sl ((cnE tV s.e7)&&true) (sl (Nat.beq t1.1 1) (k ⟨0,rt tV s.e7,W (s.is7+1),[]⟩) (sl (Nat.beq t1.1 2) (k ⟨1,rt tV s.e7,W (s.is7+1),t1.2.Da7⟩) z)) z) (e 1))
noncomputable def ea0{α:Type}(k:B4->α)(e:Nat->α)(z:α)(p:Y9)(s:B4):α:=let t1:=(lp (ia9 (⟨rt tV s.e7,p.is6,s.is7⟩:Y8)) (⟨1,0,rt tP s.Da7⟩:B1));(sl (decide (s.is7<p.is6)) (sl ((cnE tV s.e7)&&((cnE tP s.Da7)&&true)) (sl (Nat.beq t1.1 1) (k ⟨0,rt tV s.e7,W (s.is7+1),[]⟩) (sl (Nat.beq t1.1 2) (k ⟨1,rt tV s.e7,W (s.is7+1),t1.2.Da7⟩) z)) z) (e 2))
noncomputable def ja0(p:Y9)(s:B4):Stp B4:=(sel (Nat.beq s.ph 1) (ea0 .next .exit .fail p s) (da9 .next .exit .fail p s))
noncomputable def qb7:Lo Y9 B4:=⟨En bb1,0,Ie6,[1,1,1,1,0,1,4,4,1,0,4,1,4,4],[0,5,6,7],.s .p (.s (.b (.s .p (.b (.u qb6.ls)))) .p),[⟨sLq tV::ru2 4 (.s (.o .nil)::sIq::sIq::ru2 57 []),[],λa H=>(⟨aIq a 6⟩,⟨0,aLq tV a 0,aIq a 7,[]⟩)⟩,⟨sLq tV::ru2 4 (sLq tP::sIq::sIq::ru2 57 []),[],λa H=>(⟨aIq a 6⟩,⟨1,aLq tV a 0,aIq a 7,aLq tP a 5⟩)⟩],ja0,[(some 2,λp s=>upq (Fb4 p s) [(22,i s.is7),(23,i p.is6),(24,b (decide (s.is7<p.is6)))]),(some 2,λp s=>upq (Fb5 p s) [(22,i s.is7),(23,i p.is6),(24,b (decide (s.is7<p.is6)))])],Qc7⟩
theorem Qc8:qb7.Ok:=Lo.ok [qb6.pr] (by kernel_rfl) (.cons Qc6 .nil) rfl (.cons (λa H=>by kernel_rfl) (.cons (λa H=>by kernel_rfl) .nil)) λp s=>(.sel (Nat.beq s.ph 1) (.of @ea0 (λF _ _ _ _ _=>by unfold ea0;(repeat' apply r9 (f:=F))<;>rfl) (by kernel_rfl)) (.of @da9 (λF _ _ _ _ _=>by unfold da9;(repeat' apply r9 (f:=F))<;>rfl) (by kernel_rfl)))
structure ga8 where
structure C6 where
 ph:Nat
 e7:List V3
 is6:Int
 Da7:List Pln
noncomputable def Fb6(p:ga8)(s:C6):St:=⟨eL tV s.e7::ra 4 (.v (.slice none 0 0)::i s.is6::ra 58 []),[]⟩
noncomputable def Fb7(p:ga8)(s:C6):St:=⟨eL tV s.e7::ra 4 (eL tP s.Da7::i s.is6::ra 58 []),[]⟩
noncomputable def Qc9(p:ga8)(s:C6):St:=(sel (Nat.beq s.ph 1) (Fb7 p s) (Fb6 p s))
noncomputable def ea1{α:Type}(k:C6->α)(e:Nat->α)(z:α)(p:ga8)(s:C6):α:=let t1:=(lp (ja0 (⟨s.is6⟩:Y9)) (⟨0,rt tV s.e7,0,[]⟩:B4));(sl (decide (s.is6<(↑(List.length s.e7):Int))) (sl ((cnE tV s.e7)&&true) (sl (Nat.beq t1.1 1) (k ⟨0,t1.2.e7,W (s.is6+1),[]⟩) (sl (Nat.beq t1.1 2) (k ⟨1,t1.2.e7,W (s.is6+1),t1.2.Da7⟩) z)) z) (e 1))
noncomputable def ea2{α:Type}(k:C6->α)(e:Nat->α)(z:α)(p:ga8)(s:C6):α:=let t1:=(lp (ja0 (⟨s.is6⟩:Y9)) (⟨1,rt tV s.e7,0,rt tP s.Da7⟩:B4));(sl (decide (s.is6<(↑(List.length s.e7):Int))) (sl ((cnE tV s.e7)&&((cnE tP s.Da7)&&true)) (sl (Nat.beq t1.1 1) (k ⟨0,t1.2.e7,W (s.is6+1),[]⟩) (sl (Nat.beq t1.1 2) (k ⟨1,t1.2.e7,W (s.is6+1),t1.2.Da7⟩) z)) z) (e 2))
noncomputable def Ma9(p:ga8)(s:C6):Stp C6:=(sel (Nat.beq s.ph 1) (ea2 .next .exit .fail p s) (ea1 .next .exit .fail p s))
noncomputable def qb8:Lo ga8 C6:=⟨En bb1,0,Ie6,[1,1,1,1,0,1,4,4],[0,5,6],.s .p (.s (.b (.s .p (.b (.u qb7.ls)))) .p),[⟨sLq tV::ru2 4 (.s (.o .nil)::sIq::ru2 58 []),[],λa H=>(⟨⟩,⟨0,aLq tV a 0,aIq a 6,[]⟩)⟩,⟨sLq tV::ru2 4 (sLq tP::sIq::ru2 58 []),[],λa H=>(⟨⟩,⟨1,aLq tV a 0,aIq a 6,aLq tP a 5⟩)⟩],Ma9,[(some 0,λp s=>upq (Fb6 p s) [(16,i s.is6),(17,eL tV s.e7),(18,i (↑(List.length s.e7):Int)),(19,b (decide (s.is6<(↑(List.length s.e7):Int))))]),(some 0,λp s=>upq (Fb7 p s) [(16,i s.is6),(17,eL tV s.e7),(18,i (↑(List.length s.e7):Int)),(19,b (decide (s.is6<(↑(List.length s.e7):Int))))])],Qc9⟩
theorem Rc0:qb8.Ok:=Lo.ok [qb7.pr] (by kernel_rfl) (.cons Qc8 .nil) rfl (.cons (λa H=>by kernel_rfl) (.cons (λa H=>by kernel_rfl) .nil)) λp s=>(.sel (Nat.beq s.ph 1) (.of @ea2 (λF _ _ _ _ _=>by unfold ea2;(repeat' apply r9 (f:=F))<;>rfl) (by kernel_rfl)) (.of @ea1 (λF _ _ _ _ _=>by unfold ea1;(repeat' apply r9 (f:=F))<;>rfl) (by kernel_rfl)))
noncomputable def ya6(x:List V3):Option (b7×List c8):=let t1:=(nb6 (rt tV x));let t2:=(lp (Ma9 (⟨⟩:ga8)) (⟨0,rt tV x,0,[]⟩:C6));(sl (okE tV x) (sl (Mb2 (rt tV x)) (sl (t1 != 0) (some (.tup [.v (.slice none 0 0),i t1],[])) (sl ((cnE tV x)&&true) (sl (Nat.beq t2.1 1) (some (.tup [.v (.slice none 0 0),i 0],[])) (sl (Nat.beq t2.1 2) (some (.tup [eL tP t2.2.Da7,i 0],[])) none)) none)) none) none)
noncomputable def Ja9(x:List V3):List Pln×Int:=N7 (two (r1L tP) r1I) (ya6 x)
noncomputable def nb7(x:List V3):Bool:=okO (two (r1L tP) r1I) (ya6 x)
noncomputable def Mb5:Sum:=N1 (na0 tV) (λx=>.guard (nb7 x) (.ret ((two (r1L tP) r1I).enc (Ja9 x),[])))
theorem kc7:i7 prog G 39 Mb5:=Ea3 (bd b39 bd8) (two (r1L tP) r1I) (o:=ya6) λx=>Ea4 (.s .p (.s .p (.s .p (.s .p (.s (.s .p (.b (.u qb8.ls))) .p))))) [qb8.pr] (by kernel_rfl) (.cons Rc0 .nil) (by kernel_rfl)
noncomputable def Xb3:List (Nat×Sum):=[(58,Fb1),(59,dc5)]
theorem Rc1:k8 prog G Xb3:=⟨sc5,zc4,trivial⟩
structure aa1 where
 is4:Int
structure C1 where
 ph:Nat
 is6:Int
 E5:List Int
 d7:Int
 ns5:Nat
 eh1:List (List b7)
noncomputable def ub6(p:aa1)(s:C1):St:=⟨ra 3 (.ptr 0 0 0 0::i p.is4::.v (.slice none 0 0)::i s.is6::ra 127 []),[⟨0,2,[[eL tI s.E5,i s.d7]],true,false,0⟩]⟩
noncomputable def ub7(p:aa1)(s:C1):St:=⟨ra 3 (.ptr 0 0 0 0::i p.is4::.sl 1 0 s.ns5 0::i s.is6::ra 127 []),[⟨0,2,[[eL tI s.E5,i s.d7]],true,false,0⟩,⟨25,3,s.eh1,true,false,0⟩]⟩
noncomputable def Cc6(p:aa1)(s:C1):St:=(sel (Nat.beq s.ph 1) (ub7 p s) (ub6 p s))
noncomputable def qa1{α:Type}(k:C1->α)(e:Nat->α)(z:α)(p:aa1)(s:C1):α:=let t1:=(D2 ⟨17,rt tI s.E5,s.d7⟩);let t2:=(D2 ⟨17,rt tI (rt tI s.E5),t1.d7⟩);let t3:=(D2 ⟨17,rt tI (rt tI (rt tI s.E5)),t2.d7⟩);let t4:=(D2 ⟨6,rt tI (rt tI (rt tI (rt tI s.E5))),t3.d7⟩);let w0:α:=(sl (t4.is0==3) (sl (decide (s.is6>2)) z (k ⟨1,W (s.is6+1),rt tI (rt tI (rt tI (rt tI s.E5))),t4.d7,1,[[i (W (t1.is0-8)),i (W (t2.is0-8)),i (W (t3.is0-8))]]⟩)) (k ⟨1,W (s.is6+1),rt tI (rt tI (rt tI (rt tI s.E5))),t4.d7,1,[[i (W (t1.is0-8)),i (W (t2.is0-8)),i (W (t3.is0-8))]]⟩));(sl (decide (s.is6<p.is4)) (sl ((cnE tI s.E5)&&true) (sl (Nat.beq t1.alt 1) (sl ((cnE tI (rt tI s.E5))&&true) (sl (Nat.beq t2.alt 1) (sl ((cnE tI (rt tI (rt tI s.E5)))&&true) (sl (Nat.beq t3.alt 1) (sl ((cnE tI (rt tI (rt tI (rt tI s.E5))))&&true) (sl (Nat.beq t4.alt 1) (sl (t4.is0==1) (sl (decide (s.is6>1)) z (sl (t4.is0==2) (sl (decide (s.is6>0)) z w0) w0)) (sl (t4.is0==2) (sl (decide (s.is6>0)) z w0) w0)) z) z) z) z) z) z) z) z) (e 1))
noncomputable def L8{α:Type}(k:C1->α)(e:Nat->α)(z:α)(p:aa1)(s:C1):α:=let t1:=(D2 ⟨17,rt tI s.E5,s.d7⟩);let a0:=(f7 s.eh1 (0+(W (s.is6-1)).toNat));let a1:=(Nat.beq s.ns5 (len s.eh1)&&Nat.ble ((s.ns5+1)*24) room);let a3:=(g8 (f7 s.eh1 (0+(W (s.is6-2)).toNat)) 0);let a4:=((Nat.blt (0+(W (s.is6-1)).toNat) (len s.eh1))&&(Nat.ble (2+1) (len a0)));let a5:=(i (W (Int.tdiv (W ((toI (hdA (tlA (g8 a0 0))))+(toI (hdA (tlA a3))))) 2)));let a6:=(i (W (Int.tdiv (W ((toI (hdA (g8 a0 0)))+(toI (hdA a3)))) 2)));let a7:=(app s.eh1 [[a6,a5,i (W (Int.tdiv (W ((toI (hdA (tlA (tlA (g8 a0 0)))))+(toI (hdA (tlA (tlA a3)))))) 2))]]);let a8:=(inB (W (s.is6-1)) s.ns5);let a9:=(i (toI (hdA (tlA (g8 a0 0)))));let a10:=((Nat.blt (0+(W (s.is6-1)).toNat) (len s.eh1))&&(Nat.ble (0+3) (len a0)));let a11:=(i (toI (hdA (g8 a0 0))));let a12:=(app s.eh1 [[a11,a9,i (toI (hdA (tlA (tlA (g8 a0 0)))))]]);let a13:=(i (toI (hdA (g8 a0 2))));let a14:=(rt tI (rt tI s.E5));let t2:=(D2 ⟨17,a14,t1.d7⟩);let t3:=(D2 ⟨17,rt tI a14,t2.d7⟩);let a2:=(rt tI (rt tI a14));let t4:=(D2 ⟨6,a2,t3.d7⟩);let w0:α:=(sl (t4.is0==3) (sl (decide (s.is6>2)) (sl a8 (sl (a4&&(ea5 [CK.int .i64] (g8 a0 2))) (sl a1 (k ⟨1,W (s.is6+1),a2,t4.d7,s.ns5+1,app s.eh1 [[i (W (t1.is0-8)),i (W (t2.is0-8)),a13]]⟩) z) z) z) (sl a1 (k ⟨1,W (s.is6+1),a2,t4.d7,s.ns5+1,app s.eh1 [[i (W (t1.is0-8)),i (W (t2.is0-8)),i (W (t3.is0-8))]]⟩) z)) (sl a1 (k ⟨1,W (s.is6+1),a2,t4.d7,s.ns5+1,app s.eh1 [[i (W (t1.is0-8)),i (W (t2.is0-8)),i (W (t3.is0-8))]]⟩) z));let w1:α:=(sl a8 (sl (a10&&(ea5 [CK.int .i64,CK.int .i64,CK.int .i64] (g8 a0 0))) (sl (t4.is0==3) (sl (decide (s.is6>2)) (sl a8 (sl (a4&&(ea5 [CK.int .i64] (g8 a0 2))) (sl a1 (k ⟨1,W (s.is6+1),a2,t4.d7,s.ns5+1,app s.eh1 [[a11,a9,a13]]⟩) z) z) z) (sl a1 (k ⟨1,W (s.is6+1),a2,t4.d7,s.ns5+1,a12⟩) z)) (sl a1 (k ⟨1,W (s.is6+1),a2,t4.d7,s.ns5+1,a12⟩) z)) z) z);let w2:α:=(sl (t4.is0==3) (sl (decide (s.is6>2)) (sl a8 (sl (a4&&(ea5 [CK.int .i64] (g8 a0 2))) (sl a1 (k ⟨1,W (s.is6+1),a2,t4.d7,s.ns5+1,app s.eh1 [[a6,a5,a13]]⟩) z) z) z) (sl a1 (k ⟨1,W (s.is6+1),a2,t4.d7,s.ns5+1,a7⟩) z)) (sl a1 (k ⟨1,W (s.is6+1),a2,t4.d7,s.ns5+1,a7⟩) z));(sl (decide (s.is6<p.is4)) (sl ((cnE tI s.E5)&&true) (sl (Nat.beq t1.alt 1) (sl ((cnE tI (rt tI s.E5))&&true) (sl (Nat.beq t2.alt 1) (sl ((cnE tI a14)&&true) (sl (Nat.beq t3.alt 1) (sl ((cnE tI (rt tI a14))&&true) (sl (Nat.beq t4.alt 1) (sl (t4.is0==1) (sl (decide (s.is6>1)) (sl a8 (sl (a10&&(ea5 [CK.int .i64,CK.int .i64,CK.int .i64] (g8 a0 0))) (sl (inB (W (s.is6-2)) s.ns5) (sl (((Nat.blt (0+(W (s.is6-2)).toNat) (len s.eh1))&&(Nat.ble (0+3) (len (f7 s.eh1 (0+(W (s.is6-2)).toNat)))))&&(ea5 [CK.int .i64,CK.int .i64,CK.int .i64] a3)) (sl (t4.is0==2) (sl (decide (s.is6>0)) w1 w2) w2) z) z) z) z) (sl (t4.is0==2) (sl (decide (s.is6>0)) w1 w0) w0)) (sl (t4.is0==2) (sl (decide (s.is6>0)) w1 w0) w0)) z) z) z) z) z) z) z) z) (e 2))
noncomputable def Ha4(p:aa1)(s:C1):Stp C1:=(sel (Nat.beq s.ph 1) (L8 .next .exit .fail p s) (qa1 .next .exit .fail p s))
noncomputable def hb9:Lo aa1 C1:=⟨En Xb3,0,ff0,[1,1,1,1,0,1,4,4],[3,4,5,6],.p,[⟨ru2 3 (sPq 0::sIq::.s (.o .nil)::sIq::ru2 127 []),[⟨0,2,true,some [[.c 1 (nL tI),.o (.int .i64)]]⟩],λa H=>(⟨aIq a 4⟩,⟨0,aIq a 6,hLq tI H 0 0 0,hIq H 0 0 1,0,[]⟩)⟩,⟨ru2 3 (sPq 0::sIq::.s (.o (.sl 1 0 (some 0) none))::sIq::ru2 127 []),[⟨0,2,true,some [[.c 1 (nL tI),.o (.int .i64)]]⟩,⟨25,3,true,none⟩],λa H=>(⟨aIq a 4⟩,⟨1,aIq a 6,hLq tI H 0 0 0,hIq H 0 0 1,slN (slT a 5),elT H 1⟩)⟩],Ha4,[(some 0,λp s=>upq (ub6 p s) [(18,i s.is6),(19,i p.is4),(20,b (decide (s.is6<p.is4)))]),(some 0,λp s=>upq (ub7 p s) [(18,i s.is6),(19,i p.is4),(20,b (decide (s.is6<p.is4)))])],Cc6⟩
theorem Cc7:hb9.Ok:=Lo.ok [] (by kernel_rfl) .nil rfl (.cons (λa H=>by kernel_rfl) (.cons (λa H=>by kernel_rfl) .nil)) λp s=>(.sel (Nat.beq s.ph 1) (.of @L8 (λF _ _ _ _ _=>by unfold L8;(repeat' apply r9 (f:=F))<;>rfl) (by kernel_rfl)) (.of @qa1 (λF _ _ _ _ _=>by unfold qa1;(repeat' apply r9 (f:=F))<;>rfl) (by kernel_rfl)))
noncomputable def Na0(x:List Int):Option (b7×List c8):=let t1:=(D2 ⟨5,rt tI x,0⟩);let t2:=(lp (Ha4 (⟨W (4+t1.is0)⟩:aa1)) (⟨0,0,rt tI (rt tI x),t1.d7,0,[]⟩:C1));let t3:=(Ja0 []);let t4:=(Ja0 (lsL tV t2.2.ns5 (λk=>f7 t2.2.eh1 (0+k))));let a0:=(g8 (f7 t2.2.eh1 0) 0);let a1:=(i (toI (hdA (tlA (tlA a0)))));let a2:=(i (W ((toI (hdA a0))-3)));let a3:=(setAt t2.2.eh1 1 (V5 (f7 t2.2.eh1 1) 0 [a2,i (toI (hdA (tlA a0))),a1]));let a4:=(i (W ((toI (hdA (tlA a0)))-2)));(sl ((cnE tI x)&&true) (sl (Nat.beq t1.alt 1) (sl ((cnE tI (rt tI x))&&true) (sl (Nat.beq t2.1 1) (sl (Sa0 []) (sl t3 none (some (.v (.slice none 0 0),[]))) none) (sl (Nat.beq t2.1 2) (sl (okL tV t2.2.ns5 (λk=>f7 t2.2.eh1 (0+k))) (sl (Sa0 (lsL tV t2.2.ns5 (λk=>f7 t2.2.eh1 (0+k)))) (sl t4 (sl (inB 0 t2.2.ns5) (sl (((Nat.blt 0 (len t2.2.eh1))&&(Nat.ble (0+3) (len (f7 t2.2.eh1 0))))&&(ea5 [CK.int .i64,CK.int .i64,CK.int .i64] a0)) (sl (inB 1 t2.2.ns5) (sl ((Nat.blt 1 (len t2.2.eh1))&&(Nat.ble (0+3) (len (f7 t2.2.eh1 1)))) (sl (inB 2 t2.2.ns5) (sl ((Nat.blt 2 (len a3))&&(Nat.ble (0+3) (len (f7 a3 2)))) (sl (inB 3 t2.2.ns5) (sl ((Nat.blt 3 (len (setAt a3 2 (V5 (f7 a3 2) 0 [i (toI (hdA a0)),a4,a1]))))&&(Nat.ble (0+3) (len (f7 (setAt a3 2 (V5 (f7 a3 2) 0 [i (toI (hdA a0)),a4,a1])) 3)))) (some (.sl 0 0 t2.2.ns5 0,[⟨25,3,setAt (setAt a3 2 (V5 (f7 a3 2) 0 [i (toI (hdA a0)),a4,a1])) 3 (V5 (f7 (setAt a3 2 (V5 (f7 a3 2) 0 [i (toI (hdA a0)),a4,a1])) 3) 0 [i (toI (hdA a0)),i (toI (hdA (tlA a0))),i (W ((toI (hdA (tlA (tlA a0))))-1))]),true,false,0⟩])) none) none) none) none) none) none) none) none) (some (.sl 0 0 t2.2.ns5 0,[⟨25,3,t2.2.eh1,true,false,0⟩]))) none) none) none)) none) none) none)
noncomputable def A4(x:List Int):List V3:=N7 (one (r1L tV)) (Na0 x)
noncomputable def bb2(x:List Int):Bool:=okO (one (r1L tV)) (Na0 x)
noncomputable def sd3:Sum:=N1 (na0 tI) (λx=>.guard (bb2 x) (.ret ((one (r1L tV)).enc (A4 x),[])))
theorem bd9:i7 prog G 33 sd3:=Ea3 (bd b33 Rc1) (one (r1L tV)) (o:=Na0) λx=>Ea4 (.s .p (.s .p (.s .p (.s .p (.s (.s .p (.b (.u hb9.ls))) .p))))) [hb9.pr] (by kernel_rfl) (.cons Cc7 .nil) (by kernel_rfl)
noncomputable def sd4:List (Nat×Sum):=[]
theorem cd0:k8 prog G sd4:=trivial
noncomputable def H7(x:V3)(y:V3):V3:=(⟨W (x.x-y.x),W (x.y-y.y),W (x.z-y.z)⟩:V3)
noncomputable def nb8:Sum:=Da9 (L2 tV) (L2 tV) (λx y=>.ret ((one r1V).enc (H7 x y),[]))
theorem Bb4:i7 prog G 27 nb8:=zb8 (bd b27 cd0) λx y=>D1 (by kernel_rfl)
noncomputable def cd1:List (Nat×Sum):=[(27,nb8)]
theorem Rc2:k8 prog G cd1:=⟨Bb4,trivial⟩
noncomputable def Ca1(x:Pln):Pln:=let t1:=(H7 (⟨0,0,0⟩:V3) x.n);(⟨t1,W (0-x.b)⟩:Pln)
noncomputable def kc8:Sum:=N1 (L2 tP) (λx=>.ret ((one r1P).enc (Ca1 x),[]))
theorem cd2:i7 prog G 78 kc8:=mb8 (bd b78 Rc2) λx=>D1 (by kernel_rfl)
noncomputable def cd3:List (Nat×Sum):=[(83,Xa9)]
theorem Rc3:k8 prog G cd3:=⟨ub3,trivial⟩
noncomputable def Na1(x:V3):Option (b7×List c8):=let t1:=(da2 [x.x,x.y,x.z]);(sl (da3 [x.x,x.y,x.z]) (sl (t1==0) (some (.tup [.agg [i 0,i 0,i 0],i 0],[])) (sl (t1==0) none (sl (t1==0) none (sl (t1==0) none (some (.tup [.agg [i (W (Int.tdiv x.x t1)),i (W (Int.tdiv x.y t1)),i (W (Int.tdiv x.z t1))],i t1],[])))))) none)
noncomputable def Ca2(x:V3):V3×Int:=N7 (two r1V r1I) (Na1 x)
noncomputable def bb3(x:V3):Bool:=okO (two r1V r1I) (Na1 x)
noncomputable def kc9:Sum:=N1 (L2 tV) (λx=>.guard (bb3 x) (.ret ((two r1V r1I).enc (Ca2 x),[])))
theorem cd4:i7 prog G 98 kc9:=Ea3 (bd b98 Rc3) (two r1V r1I) (o:=Na1) λx=>D1 (by kernel_rfl)
noncomputable def sc8:List (Nat×Sum):=[(20,Ab7),(27,nb8),(36,va1),(98,kc9),(35,xa8)]
theorem lc0:k8 prog G sc8:=⟨Lb7,Bb4,xa9,cd4,Ba9,trivial⟩
noncomputable def ta1(x:V3)(y:V3)(z:V3):Option (b7×List c8):=let t1:=(ya1 x);let t2:=(ya1 y);let t3:=(ya1 z);let t4:=(H7 y x);let t5:=(H7 z x);let t6:=(C4 t4 t5);let t7:=(Ca2 t6);let t8:=(C0 t7.1 x);(sl (ya2 x) (sl (!t1) (some (.tup [.agg [i 0,i 0,i 0,i 0],b false],[])) (sl (ya2 y) (sl (!t2) (some (.tup [.agg [i 0,i 0,i 0,i 0],b false],[])) (sl (ya2 z) (sl (!t3) (some (.tup [.agg [i 0,i 0,i 0,i 0],b false],[])) (sl (bb3 t6) (some (.tup [.agg [i t7.1.x,i t7.1.y,i t7.1.z,i t8],b (decide (t7.2>0))],[])) none)) none)) none)) none)
noncomputable def K8(x:V3)(y:V3)(z:V3):Pln×Bool:=N7 (two r1P r1B) (ta1 x y z)
noncomputable def ka7(x:V3)(y:V3)(z:V3):Bool:=okO (two r1P r1B) (ta1 x y z)
noncomputable def Ya2:Sum:=qc9 (L2 tV) (L2 tV) (L2 tV) (λx y z=>.guard (ka7 x y z) (.ret ((two r1P r1B).enc (K8 x y z),[])))
theorem ub8:i7 prog G 77 Ya2:=qe5 (bd b77 lc0) (two r1P r1B) (o:=ta1) λx y z=>D1 (by kernel_rfl)
noncomputable def cd5:List (Nat×Sum):=[(52,Wb7),(20,Ab7),(35,xa8),(53,pb9)]
theorem Rc4:k8 prog G cd5:=⟨Pc6,Lb7,Ba9,Lb6,trivial⟩
noncomputable def Na2(x:Pln)(y:V3):Option (b7×List c8):=let t1:=(Ta7 x);let t2:=(ya1 y);let t3:=(C0 x.n y);let t4:=(ga6 t3 x.b);(sl (Ta8 x) (sl (!t1) (some (i 0,[])) (sl (ya2 y) (sl (!t2) (some (i 0,[])) (sl (ga7 t3 x.b) (some (i t4,[])) none)) none)) none)
noncomputable def R4(x:Pln)(y:V3):Int:=N7 (one r1I) (Na2 x y)
noncomputable def fa7(x:Pln)(y:V3):Bool:=okO (one r1I) (Na2 x y)
noncomputable def Na3:Sum:=Da9 (L2 tP) (L2 tV) (λx y=>.guard (fa7 x y) (.ret ((one r1I).enc (R4 x y),[])))
theorem Ta9:i7 prog G 30 Na3:=tb8 (bd b30 Rc4) (one r1I) (o:=Na2) λx y=>D1 (by kernel_rfl)
structure Ua0 where
 (ra0 ra1 ra2 d9 d7 f0 j5:Int)
noncomputable def Rc5:List (Nat×Sum):=[(30,Na3)]
theorem Cc8:k8 prog G Rc5:=⟨Ta9,trivial⟩
structure Ua1 where
 alt:Nat
 bs0:Bool
noncomputable def va6{α:Type}(kk:Ua1->α)(x:Ua0):α:=let t1:=(R4 (⟨(⟨x.d9,x.d7,x.f0⟩:V3),x.j5⟩:Pln) (⟨x.ra0,x.ra1,x.ra2⟩:V3));(sl (fa7 (⟨(⟨x.d9,x.d7,x.f0⟩:V3),x.j5⟩:Pln) (⟨x.ra0,x.ra1,x.ra2⟩:V3)) (kk ⟨1,t1 != 0⟩) (kk ⟨0,false⟩))
noncomputable def Ua2(x:Ua0):Ua1:=va6 (λr=>r) x
noncomputable def ib0(x:Ua0)(r:Ua1):DT (b7×List c8):=(.ite (Nat.beq r.alt 1) (.ret (b r.bs0,[⟨0,4,[[i x.d9,i x.d7,i x.f0,i x.j5]],true,false,0⟩])) .fail)
theorem cd6{α β:Type}(F:α->β)(kk:Ua1->α)(x:Ua0):F (va6 kk x)=va6 (λr=>F (kk r)) x:=by unfold va6;(repeat' apply r9 (f:=F))<;>rfl
noncomputable def Xb4:Sum:=zb9 ⟨[.agg (kLq 3),sPq 0],[⟨0,4,true,some [kLq 4]⟩],λa H=>(⟨cIq a 0 0,cIq a 0 1,cIq a 0 2,hIq H 0 0 0,hIq H 0 0 1,hIq H 0 0 2,hIq H 0 0 3⟩,())⟩ (λx=>ib0 x (Ua2 x))
theorem Rc6:i7 prog G 94 Xb4:=ja6 (enc:=λx=>⟨[.agg [i x.ra0,i x.ra1,i x.ra2],.ptr 0 0 0 0],[⟨0,4,[[i x.d9,i x.d7,i x.f0,i x.j5]],true,false,0⟩]⟩) (λa H=>by kernel_rfl) (bd b94 Cc8) λx=>D1 (Qhd (b:=va6 (λr=>(ib0 x r).run) x) (by kernel_rfl) (cd6 (λr=>(ib0 x r).run) (λr=>r) x).symm)
structure ba3 where
 e7:List V3
 (d9 d7 f0 j5:Int)
noncomputable def Fa0:List (Nat×Sum):=[(94,Xb4)]
theorem lb1:k8 prog G Fa0:=⟨Rc6,trivial⟩
structure M4 where
 e7:List V3
 (is7 d9 d7 f0 j5:Int)
structure w7 where
 is8:Int
noncomputable def ya7(p:M4)(s:w7):St:=⟨eL tV p.e7::.fn 94 [.ptr 0 0 0 0]::ra 5 (i p.is7::i s.is8::ra 10 []),[⟨0,4,[[i p.d9,i p.d7,i p.f0,i p.j5]],true,false,0⟩]⟩
noncomputable def H9{α:Type}(k:w7->α)(e:Nat->α)(z:α)(p:M4)(s:w7):α:=let t1:=(Ua2 ⟨(gL tV p.e7 s.is8.toNat).x,(gL tV p.e7 s.is8.toNat).y,(gL tV p.e7 s.is8.toNat).z,p.d9,p.d7,p.f0,p.j5⟩);(sl (decide (s.is8<p.is7)) (sl (inB s.is8 (List.length p.e7)) (sl (Nat.beq t1.alt 1) (sl t1.bs0 (e 1) (k ⟨W (s.is8+1)⟩)) z) z) (e 2))
noncomputable def J9(p:M4)(s:w7):Stp w7:=H9 .next .exit .fail p s
noncomputable def ja9:Lo M4 w7:=⟨En Fa0,1,ue3,[1,0,1,4,4],[0,1,7,8],.p,[⟨sLq tV::.fn 94 [.o (.ptr 0 0 0 0)]::ru2 5 (sIq::sIq::ru2 10 []),[⟨0,4,true,some [kLq 4]⟩],λa H=>(⟨aLq tV a 0,aIq a 7,hIq H 0 0 0,hIq H 0 0 1,hIq H 0 0 2,hIq H 0 0 3⟩,⟨aIq a 8⟩)⟩],J9,[(none,λp s=>⟨[i s.is8],[⟨0,4,[[i p.d9,i p.d7,i p.f0,i p.j5]],true,false,0⟩]⟩),(some 0,λp s=>upq (ya7 p s) [(9,b (decide (s.is8<p.is7)))])],ya7⟩
theorem ib1:ja9.Ok:=Lo.ok [] (by kernel_rfl) .nil rfl (.cons (λa H=>by kernel_rfl) .nil) λp s=>(.of @H9 (λF _ _ _ _ _=>by unfold H9;(repeat' apply r9 (f:=F))<;>rfl) (by kernel_rfl))
structure ba4 where
 alt:Nat
 is0:Int
noncomputable def J2{α:Type}(kk:ba4->α)(x:ba3):α:=let t1:=(lp (J9 (⟨rt tV x.e7,(↑(List.length x.e7):Int),x.d9,x.d7,x.f0,x.j5⟩:M4)) (⟨0⟩:w7));(sl ((cnE tV x.e7)&&true) (sl (Nat.beq t1.1 1) (kk ⟨1,t1.2.is8⟩) (sl (Nat.beq t1.1 2) (kk ⟨1,-1⟩) (kk ⟨0,0⟩))) (kk ⟨0,0⟩))
noncomputable def ba5(x:ba3):ba4:=J2 (λr=>r) x
noncomputable def na5(x:ba3)(r:ba4):DT (b7×List c8):=(.ite (Nat.beq r.alt 1) (.ret (i r.is0,[⟨0,4,[[i x.d9,i x.d7,i x.f0,i x.j5]],true,false,0⟩])) .fail)
theorem ub9{α β:Type}(F:α->β)(kk:ba4->α)(x:ba3):F (J2 kk x)=J2 (λr=>F (kk r)) x:=by unfold J2;(repeat' apply r9 (f:=F))<;>rfl
noncomputable def Ka0:Sum:=zb9 ⟨[sLq tV,.fn 94 [.o (.ptr 0 0 0 0)]],[⟨0,4,true,some [kLq 4]⟩],λa H=>(⟨aLq tV a 0,hIq H 0 0 0,hIq H 0 0 1,hIq H 0 0 2,hIq H 0 0 3⟩,())⟩ (λx=>na5 x (ba5 x))
theorem qb9:i7 prog G 88 Ka0:=ja6 (enc:=λx=>⟨[eL tV x.e7,.fn 94 [.ptr 0 0 0 0]],[⟨0,4,[[i x.d9,i x.d7,i x.f0,i x.j5]],true,false,0⟩]⟩) (λa H=>by kernel_rfl) (bd b88 lb1) λx=>Ea4 (.s .p (.s (.s .p (.b (.u ja9.ls))) .p)) [ja9.pr] (by kernel_rfl) (.cons ib1 .nil) (Qhd (b:=J2 (λr=>(na5 x r).run) x) (by kernel_rfl) (ub9 (λr=>(na5 x r).run) (λr=>r) x).symm)
structure R5 where
 e7:List V3
 (d9 d7 f0 j5:Int)
noncomputable def bb4:List (Nat×Sum):=[(88,Ka0)]
theorem Ya3:k8 prog G bb4:=⟨qb9,trivial⟩
structure R6 where
 alt:Nat
 bs0:Bool
noncomputable def D5{α:Type}(kk:R6->α)(x:R5):α:=let t1:=(ba5 ⟨rt tV x.e7,x.d9,x.d7,x.f0,x.j5⟩);(sl ((cnE tV x.e7)&&true) (sl (Nat.beq t1.alt 1) (kk ⟨1,decide (t1.is0>=0)⟩) (kk ⟨0,false⟩)) (kk ⟨0,false⟩))
noncomputable def z6(x:R5):R6:=D5 (λr=>r) x
noncomputable def fa8(x:R5)(r:R6):DT (b7×List c8):=(.ite (Nat.beq r.alt 1) (.ret (b r.bs0,[⟨0,4,[[i x.d9,i x.d7,i x.f0,i x.j5]],true,false,0⟩])) .fail)
theorem ib2{α β:Type}(F:α->β)(kk:R6->α)(x:R5):F (D5 kk x)=D5 (λr=>F (kk r)) x:=by unfold D5;(repeat' apply r9 (f:=F))<;>rfl
noncomputable def ya8:Sum:=zb9 ⟨[sLq tV,.fn 94 [.o (.ptr 0 0 0 0)]],[⟨0,4,true,some [kLq 4]⟩],λa H=>(⟨aLq tV a 0,hIq H 0 0 0,hIq H 0 0 1,hIq H 0 0 2,hIq H 0 0 3⟩,())⟩ (λx=>fa8 x (z6 x))
theorem bb5:i7 prog G 70 ya8:=ja6 (enc:=λx=>⟨[eL tV x.e7,.fn 94 [.ptr 0 0 0 0]],[⟨0,4,[[i x.d9,i x.d7,i x.f0,i x.j5]],true,false,0⟩]⟩) (λa H=>by kernel_rfl) (bd b70 Ya3) λx=>D1 (Qhd (b:=D5 (λr=>(fa8 x r).run) x) (by kernel_rfl) (ib2 (λr=>(fa8 x r).run) (λr=>r) x).symm)
noncomputable def Fb8:List (Nat×Sum):=[]
theorem sc9:k8 prog G Fb8:=trivial
@[reducible] noncomputable def qa2:Sum:=fc4 (En Fb8) ff7
theorem ta2:i7 prog G 46 qa2:=bd b46 sc9
noncomputable def bb6:List (Nat×Sum):=[(77,Ya2),(70,ya8),(46,qa2)]
theorem cd7:k8 prog G bb6:=⟨ub8,bb5,ta2,trivial⟩
structure ga9 where
 (is3 is4 is9 C9 lb8 M9 Ic0:Int)
 (c9 g9:List V3)
structure K9 where
 F5:Int
noncomputable def Mb6(p:ga9)(s:K9):St:=⟨.unk::.ptr 0 0 0 0::.unk::i p.is3::i p.is4::ra 4 (i p.is9::i p.C9::ra 5 (i p.lb8::i p.M9::ra 5 (i p.Ic0::i s.F5::ra 35 (i 0::.unk::.ptr 1 0 0 0::.ptr 2 0 0 0::ra 8 [])))),[⟨0,1,[[eL tV p.c9]],true,false,0⟩,⟨0,1,[[eL tV p.g9]],true,false,0⟩,⟨0,1,[[b false]],true,false,0⟩]⟩
noncomputable def ta3{α:Type}(k:K9->α)(e:Nat->α)(z:α)(p:ga9)(s:K9):α:=let t1:=(K8 (gL tV p.c9 s.F5.toNat) (gL tV p.c9 p.is4.toNat) (gL tV p.c9 p.is3.toNat));let t2:=(z6 ⟨rt tV p.g9,t1.1.n.x,t1.1.n.y,t1.1.n.z,t1.1.b⟩);(sl (decide (s.F5<p.Ic0)) (sl (inB s.F5 (List.length p.c9)) (sl (inB p.is4 (List.length p.c9)) (sl (inB p.is3 (List.length p.c9)) (sl (ka7 (gL tV p.c9 s.F5.toNat) (gL tV p.c9 p.is4.toNat) (gL tV p.c9 p.is3.toNat)) (sl t1.2 (sl t1.2 (sl ((cnE tV p.g9)&&true) (sl (Nat.beq t2.alt 1) (e 1) z) z) (k ⟨W (s.F5+1)⟩)) (sl t1.2 z (k ⟨W (s.F5+1)⟩))) z) z) z) z) (e 2))
noncomputable def R7(p:ga9)(s:K9):Stp K9:=ta3 .next .exit .fail p s
noncomputable def rb0:Lo ga9 K9:=⟨En bb6,0,Ie7,[1,0,1,4,4,1,4,4,1,1,0,4,1,1,4,4,1,1,0,4,1,1,4,4],[1,3,4,9,10,16,17,23,24,60,62,63],.p,[⟨sUq::sPq 0::sUq::sIq::sIq::ru2 4 (sIq::sIq::ru2 5 (sIq::sIq::ru2 5 (sIq::sIq::ru2 35 (.s (.o (.lit .i64 0))::sUq::sPq 1::sPq 2::ru2 8 [])))),[⟨0,1,true,some [[.c 3 (nL tV)]]⟩,⟨0,1,true,some [[.c 3 (nL tV)]]⟩,⟨0,1,true,some [[.o (.blit false)]]⟩],λa H=>(⟨aIq a 3,aIq a 4,aIq a 9,aIq a 10,aIq a 16,aIq a 17,aIq a 23,hLq tV H 0 0 0,hLq tV H 1 0 0⟩,⟨aIq a 24⟩)⟩],R7,[(none,λp s=>let t1:=(K8 (gL tV p.c9 s.F5.toNat) (gL tV p.c9 p.is4.toNat) (gL tV p.c9 p.is3.toNat));let t2:=(z6 ⟨rt tV p.g9,t1.1.n.x,t1.1.n.y,t1.1.n.z,t1.1.b⟩);⟨.unk::.ptr 0 0 0 0::.unk::i p.is3::i p.is4::i s.F5::.ptr 3 0 0 0::b t1.2::.unk::i p.is9::i p.C9::ra 5 (i p.lb8::i p.M9::ra 5 (i p.Ic0::i s.F5::b (decide (s.F5<p.Ic0))::i s.F5::.tup [.agg [i t1.1.n.x,i t1.1.n.y,i t1.1.n.z,i t1.1.b],b t1.2]::eL tV p.c9::i s.F5::.tptr [i (gL tV p.c9 s.F5.toNat).x,i (gL tV p.c9 s.F5.toNat).y,i (gL tV p.c9 s.F5.toNat).z]::.agg [i (gL tV p.c9 s.F5.toNat).x,i (gL tV p.c9 s.F5.toNat).y,i (gL tV p.c9 s.F5.toNat).z]::eL tV p.c9::i p.is4::.tptr [i (gL tV p.c9 p.is4.toNat).x,i (gL tV p.c9 p.is4.toNat).y,i (gL tV p.c9 p.is4.toNat).z]::.agg [i (gL tV p.c9 p.is4.toNat).x,i (gL tV p.c9 p.is4.toNat).y,i (gL tV p.c9 p.is4.toNat).z]::eL tV p.c9::i p.is3::.tptr [i (gL tV p.c9 p.is3.toNat).x,i (gL tV p.c9 p.is3.toNat).y,i (gL tV p.c9 p.is3.toNat).z]::.agg [i (gL tV p.c9 p.is3.toNat).x,i (gL tV p.c9 p.is3.toNat).y,i (gL tV p.c9 p.is3.toNat).z]::.tup [.agg [i t1.1.n.x,i t1.1.n.y,i t1.1.n.z,i t1.1.b],b t1.2]::.agg [i t1.1.n.x,i t1.1.n.y,i t1.1.n.z,i t1.1.b]::b t1.2::b t1.2::b true::.unk::.agg [i t1.1.n.x,i t1.1.n.y,i t1.1.n.z,i t1.1.b]::b false::b true::b true::.unk::u::u::u::u::b true::b true::ra 3 (i 1::.unk::.ptr 1 0 0 0::.ptr 2 0 0 0::ra 8 []))),[⟨0,1,[[eL tV p.c9]],true,false,0⟩,⟨0,1,[[eL tV p.g9]],true,false,0⟩,⟨0,1,[[b (!t2.bs0)]],true,false,0⟩,⟨0,4,[[i t1.1.n.x,i t1.1.n.y,i t1.1.n.z,i t1.1.b]],true,false,0⟩,⟨0,4,[[i t1.1.n.x,i t1.1.n.y,i t1.1.n.z,i t1.1.b]],true,false,0⟩]⟩),(some 4,λp s=>upq (Mb6 p s) [(25,b (decide (s.F5<p.Ic0)))])],Mb6⟩
theorem Rc7:rb0.OkM:=Lo.okM [] (by kernel_rfl) .nil rfl (.cons (λa H=>by kernel_rfl) .nil) λp s=>(.of @ta3 (λF _ _ _ _ _=>by unfold ta3;(repeat' apply r9 (f:=F))<;>rfl) (by kernel_rfl))
structure na6 where
 (is3 is9 C9 lb8:Int)
structure O4 where
 M9:Int
 (c9 g9:List V3)
noncomputable def Mb7(p:na6)(s:O4):St:=⟨.unk::.ptr 0 0 0 0::.unk::i p.is3::ra 5 (i p.is9::i p.C9::ra 5 (i p.lb8::i s.M9::ra 42 (i 0::.unk::.ptr 1 0 0 0::.ptr 2 0 0 0::ra 8 []))),[⟨0,1,[[eL tV s.c9]],true,false,0⟩,⟨0,1,[[eL tV s.g9]],true,false,0⟩,⟨0,1,[[b false]],true,false,0⟩]⟩
noncomputable def ta4{α:Type}(k:O4->α)(e:Nat->α)(z:α)(p:na6)(s:O4):α:=let t1:=(lp (R7 (⟨p.is3,s.M9,p.is9,p.C9,p.lb8,s.M9,(↑(s.M9.toNat-0):Int),rt tV s.c9,rt tV s.g9⟩:ga9)) (⟨0⟩:K9));(sl (decide (s.M9<p.lb8)) (sl (inB s.M9 ((List.length s.c9)+1)) (sl ((cnE tV s.c9)&&((cnE tV s.g9)&&true)) (sl (Nat.beq t1.1 1) (e 1) (sl (Nat.beq t1.1 2) (k ⟨W (s.M9+1),rt tV s.c9,rt tV s.g9⟩) z)) z) z) (e 2))
noncomputable def aa2(p:na6)(s:O4):Stp O4:=ta4 .next .exit .fail p s
noncomputable def rb1:Lo na6 O4:=⟨En bb6,0,Ie7,[1,0,1,4,4,1,4,4,1,1,0,4,1,1,4,4],[1,3,9,10,16,17,60,62,63],.s .p (.s .p (.s (.b (.s .p (.s .p (.b (.u rb0.lsM))))) .p)),[⟨sUq::sPq 0::sUq::sIq::ru2 5 (sIq::sIq::ru2 5 (sIq::sIq::ru2 42 (.s (.o (.lit .i64 0))::sUq::sPq 1::sPq 2::ru2 8 []))),[⟨0,1,true,some [[.c 3 (nL tV)]]⟩,⟨0,1,true,some [[.c 3 (nL tV)]]⟩,⟨0,1,true,some [[.o (.blit false)]]⟩],λa H=>(⟨aIq a 3,aIq a 9,aIq a 10,aIq a 16⟩,⟨aIq a 17,hLq tV H 0 0 0,hLq tV H 1 0 0⟩)⟩],aa2,[(none,λp s=>let t1:=(lp (R7 (⟨p.is3,s.M9,p.is9,p.C9,p.lb8,s.M9,(↑(s.M9.toNat-0):Int),rt tV s.c9,rt tV s.g9⟩:ga9)) (⟨0⟩:K9));let t2:=(K8 (gL tV (rt tV s.c9) t1.2.F5.toNat) (gL tV (rt tV s.c9) s.M9.toNat) (gL tV (rt tV s.c9) p.is3.toNat));let t3:=(z6 ⟨rt tV (rt tV s.g9),t2.1.n.x,t2.1.n.y,t2.1.n.z,t2.1.b⟩);⟨.unk::.ptr 0 0 0 0::.unk::i p.is3::i s.M9::i t1.2.F5::.ptr 3 0 0 0::b t2.2::.unk::i p.is9::i p.C9::ra 5 (i p.lb8::i s.M9::ra 5 (i (↑(s.M9.toNat-0):Int)::i t1.2.F5::b (decide (t1.2.F5<(↑(s.M9.toNat-0):Int)))::i t1.2.F5::.tup [.agg [i t2.1.n.x,i t2.1.n.y,i t2.1.n.z,i t2.1.b],b t2.2]::eL tV (rt tV s.c9)::i t1.2.F5::.tptr [i (gL tV (rt tV s.c9) t1.2.F5.toNat).x,i (gL tV (rt tV s.c9) t1.2.F5.toNat).y,i (gL tV (rt tV s.c9) t1.2.F5.toNat).z]::.agg [i (gL tV (rt tV s.c9) t1.2.F5.toNat).x,i (gL tV (rt tV s.c9) t1.2.F5.toNat).y,i (gL tV (rt tV s.c9) t1.2.F5.toNat).z]::eL tV (rt tV s.c9)::i s.M9::.tptr [i (gL tV (rt tV s.c9) s.M9.toNat).x,i (gL tV (rt tV s.c9) s.M9.toNat).y,i (gL tV (rt tV s.c9) s.M9.toNat).z]::.agg [i (gL tV (rt tV s.c9) s.M9.toNat).x,i (gL tV (rt tV s.c9) s.M9.toNat).y,i (gL tV (rt tV s.c9) s.M9.toNat).z]::eL tV (rt tV s.c9)::i p.is3::.tptr [i (gL tV (rt tV s.c9) p.is3.toNat).x,i (gL tV (rt tV s.c9) p.is3.toNat).y,i (gL tV (rt tV s.c9) p.is3.toNat).z]::.agg [i (gL tV (rt tV s.c9) p.is3.toNat).x,i (gL tV (rt tV s.c9) p.is3.toNat).y,i (gL tV (rt tV s.c9) p.is3.toNat).z]::.tup [.agg [i t2.1.n.x,i t2.1.n.y,i t2.1.n.z,i t2.1.b],b t2.2]::.agg [i t2.1.n.x,i t2.1.n.y,i t2.1.n.z,i t2.1.b]::b t2.2::b t2.2::b true::.unk::.agg [i t2.1.n.x,i t2.1.n.y,i t2.1.n.z,i t2.1.b]::b false::b true::b true::.unk::u::u::u::u::b true::b true::ra 3 (i 1::.unk::.ptr 1 0 0 0::.ptr 2 0 0 0::ra 8 []))),[⟨0,1,[[eL tV (rt tV s.c9)]],true,false,0⟩,⟨0,1,[[eL tV (rt tV s.g9)]],true,false,0⟩,⟨0,1,[[b (!t3.bs0)]],true,false,0⟩,⟨0,4,[[i t2.1.n.x,i t2.1.n.y,i t2.1.n.z,i t2.1.b]],true,false,0⟩,⟨0,4,[[i t2.1.n.x,i t2.1.n.y,i t2.1.n.z,i t2.1.b]],true,false,0⟩]⟩),(some 2,λp s=>upq (Mb7 p s) [(18,b (decide (s.M9<p.lb8)))])],Mb7⟩
theorem Rc8:rb1.OkM:=Lo.okM [rb0.prM] (by kernel_rfl) (.cons Rc7 .nil) rfl (.cons (λa H=>by kernel_rfl) .nil) λp s=>(.of @ta4 (λF _ _ _ _ _=>by unfold ta4;(repeat' apply r9 (f:=F))<;>rfl) (by kernel_rfl))
structure Fa1 where
 is9:Int
structure Z0 where
 C9:Int
 (c9 g9:List V3)
noncomputable def Mb8(p:Fa1)(s:Z0):St:=⟨.unk::.ptr 0 0 0 0::ra 7 (i p.is9::i s.C9::ra 49 (i 0::.unk::.ptr 1 0 0 0::.ptr 2 0 0 0::ra 8 [])),[⟨0,1,[[eL tV s.c9]],true,false,0⟩,⟨0,1,[[eL tV s.g9]],true,false,0⟩,⟨0,1,[[b false]],true,false,0⟩]⟩
noncomputable def ta5{α:Type}(k:Z0->α)(e:Nat->α)(z:α)(p:Fa1)(s:Z0):α:=let t1:=(lp (aa2 (⟨s.C9,p.is9,s.C9,(↑(s.C9.toNat-0):Int)⟩:na6)) (⟨0,rt tV s.c9,rt tV s.g9⟩:O4));(sl (decide (s.C9<p.is9)) (sl (inB s.C9 ((List.length s.c9)+1)) (sl ((cnE tV s.c9)&&((cnE tV s.g9)&&true)) (sl (Nat.beq t1.1 1) (e 1) (sl (Nat.beq t1.1 2) (k ⟨W (s.C9+1),t1.2.c9,t1.2.g9⟩) z)) z) z) (e 2))
noncomputable def qa3(p:Fa1)(s:Z0):Stp Z0:=ta5 .next .exit .fail p s
noncomputable def rb2:Lo Fa1 Z0:=⟨En bb6,0,Ie7,[1,0,1,4,4,1,4,4],[1,9,10,60,62,63],.s .p (.s .p (.s (.b (.s .p (.s .p (.b (.u rb1.lsM))))) .p)),[⟨sUq::sPq 0::ru2 7 (sIq::sIq::ru2 49 (.s (.o (.lit .i64 0))::sUq::sPq 1::sPq 2::ru2 8 [])),[⟨0,1,true,some [[.c 3 (nL tV)]]⟩,⟨0,1,true,some [[.c 3 (nL tV)]]⟩,⟨0,1,true,some [[.o (.blit false)]]⟩],λa H=>(⟨aIq a 9⟩,⟨aIq a 10,hLq tV H 0 0 0,hLq tV H 1 0 0⟩)⟩],qa3,[(none,λp s=>let t1:=(lp (aa2 (⟨s.C9,p.is9,s.C9,(↑(s.C9.toNat-0):Int)⟩:na6)) (⟨0,rt tV s.c9,rt tV s.g9⟩:O4));let t2:=(lp (R7 (⟨s.C9,t1.2.M9,p.is9,s.C9,(↑(s.C9.toNat-0):Int),t1.2.M9,(↑(t1.2.M9.toNat-0):Int),rt tV t1.2.c9,rt tV t1.2.g9⟩:ga9)) (⟨0⟩:K9));let t3:=(K8 (gL tV (rt tV t1.2.c9) t2.2.F5.toNat) (gL tV (rt tV t1.2.c9) t1.2.M9.toNat) (gL tV (rt tV t1.2.c9) s.C9.toNat));let t4:=(z6 ⟨rt tV (rt tV t1.2.g9),t3.1.n.x,t3.1.n.y,t3.1.n.z,t3.1.b⟩);⟨.unk::.ptr 0 0 0 0::.unk::i s.C9::i t1.2.M9::i t2.2.F5::.ptr 3 0 0 0::b t3.2::.unk::i p.is9::i s.C9::ra 5 (i (↑(s.C9.toNat-0):Int)::i t1.2.M9::ra 5 (i (↑(t1.2.M9.toNat-0):Int)::i t2.2.F5::b (decide (t2.2.F5<(↑(t1.2.M9.toNat-0):Int)))::i t2.2.F5::.tup [.agg [i t3.1.n.x,i t3.1.n.y,i t3.1.n.z,i t3.1.b],b t3.2]::eL tV (rt tV t1.2.c9)::i t2.2.F5::.tptr [i (gL tV (rt tV t1.2.c9) t2.2.F5.toNat).x,i (gL tV (rt tV t1.2.c9) t2.2.F5.toNat).y,i (gL tV (rt tV t1.2.c9) t2.2.F5.toNat).z]::.agg [i (gL tV (rt tV t1.2.c9) t2.2.F5.toNat).x,i (gL tV (rt tV t1.2.c9) t2.2.F5.toNat).y,i (gL tV (rt tV t1.2.c9) t2.2.F5.toNat).z]::eL tV (rt tV t1.2.c9)::i t1.2.M9::.tptr [i (gL tV (rt tV t1.2.c9) t1.2.M9.toNat).x,i (gL tV (rt tV t1.2.c9) t1.2.M9.toNat).y,i (gL tV (rt tV t1.2.c9) t1.2.M9.toNat).z]::.agg [i (gL tV (rt tV t1.2.c9) t1.2.M9.toNat).x,i (gL tV (rt tV t1.2.c9) t1.2.M9.toNat).y,i (gL tV (rt tV t1.2.c9) t1.2.M9.toNat).z]::eL tV (rt tV t1.2.c9)::i s.C9::.tptr [i (gL tV (rt tV t1.2.c9) s.C9.toNat).x,i (gL tV (rt tV t1.2.c9) s.C9.toNat).y,i (gL tV (rt tV t1.2.c9) s.C9.toNat).z]::.agg [i (gL tV (rt tV t1.2.c9) s.C9.toNat).x,i (gL tV (rt tV t1.2.c9) s.C9.toNat).y,i (gL tV (rt tV t1.2.c9) s.C9.toNat).z]::.tup [.agg [i t3.1.n.x,i t3.1.n.y,i t3.1.n.z,i t3.1.b],b t3.2]::.agg [i t3.1.n.x,i t3.1.n.y,i t3.1.n.z,i t3.1.b]::b t3.2::b t3.2::b true::.unk::.agg [i t3.1.n.x,i t3.1.n.y,i t3.1.n.z,i t3.1.b]::b false::b true::b true::.unk::u::u::u::u::b true::b true::ra 3 (i 1::.unk::.ptr 1 0 0 0::.ptr 2 0 0 0::ra 8 []))),[⟨0,1,[[eL tV (rt tV t1.2.c9)]],true,false,0⟩,⟨0,1,[[eL tV (rt tV t1.2.g9)]],true,false,0⟩,⟨0,1,[[b (!t4.bs0)]],true,false,0⟩,⟨0,4,[[i t3.1.n.x,i t3.1.n.y,i t3.1.n.z,i t3.1.b]],true,false,0⟩,⟨0,4,[[i t3.1.n.x,i t3.1.n.y,i t3.1.n.z,i t3.1.b]],true,false,0⟩]⟩),(some 0,λp s=>upq (Mb8 p s) [(11,b (decide (s.C9<p.is9)))])],Mb8⟩
theorem Rc9:rb2.OkM:=Lo.okM [rb1.prM] (by kernel_rfl) (.cons Rc8 .nil) rfl (.cons (λa H=>by kernel_rfl) .nil) λp s=>(.of @ta5 (λF _ _ _ _ _=>by unfold ta5;(repeat' apply r9 (f:=F))<;>rfl) (by kernel_rfl))
noncomputable def Wa1(x:List V3):Option (b7×List c8):=let t1:=(lp (qa3 (⟨(↑(List.length x):Int)⟩:Fa1)) (⟨0,rt tV x,rt tV x⟩:Z0));let t2:=(lp (aa2 (⟨t1.2.C9,(↑(List.length x):Int),t1.2.C9,(↑(t1.2.C9.toNat-0):Int)⟩:na6)) (⟨0,rt tV t1.2.c9,rt tV t1.2.g9⟩:O4));let t3:=(lp (R7 (⟨t1.2.C9,t2.2.M9,(↑(List.length x):Int),t1.2.C9,(↑(t1.2.C9.toNat-0):Int),t2.2.M9,(↑(t2.2.M9.toNat-0):Int),rt tV t2.2.c9,rt tV t2.2.g9⟩:ga9)) (⟨0⟩:K9));let t4:=(K8 (gL tV (rt tV t2.2.c9) t3.2.F5.toNat) (gL tV (rt tV t2.2.c9) t2.2.M9.toNat) (gL tV (rt tV t2.2.c9) t1.2.C9.toNat));let t5:=(z6 ⟨rt tV (rt tV t2.2.g9),t4.1.n.x,t4.1.n.y,t4.1.n.z,t4.1.b⟩);(sl ((cnE tV x)&&((cnE tV x)&&true)) (sl (Nat.beq t1.1 1) (some (b (!t5.bs0),[])) (sl (Nat.beq t1.1 2) (some (b true,[])) none)) none)
noncomputable def nb9(x:List V3):Bool:=N7 (one r1B) (Wa1 x)
noncomputable def ob0(x:List V3):Bool:=okO (one r1B) (Wa1 x)
noncomputable def zc7:Sum:=N1 (na0 tV) (λx=>.guard (ob0 x) (.ret ((one r1B).enc (nb9 x),[])))
theorem sd5:i7 prog G 71 zc7:=Ea3 (bd b71 cd7) (one r1B) (o:=Wa1) λx=>jd3 (.s .p (.s (.s .p (.b (.i (.s .p (.b (.u rb2.lsM)))))) .p)) [rb2.prM] (by kernel_rfl) (.cons Rc9 .nil) (by kernel_rfl)
structure Ha5 where
 (ra0 ra1 ra2 d9 d7 f0 j5:Int)
noncomputable def tc0:List (Nat×Sum):=[(30,Na3)]
theorem lc1:k8 prog G tc0:=⟨Ta9,trivial⟩
structure Ha6 where
 alt:Nat
 bs0:Bool
noncomputable def ka8{α:Type}(kk:Ha6->α)(x:Ha5):α:=let t1:=(R4 (⟨(⟨x.d9,x.d7,x.f0⟩:V3),x.j5⟩:Pln) (⟨x.ra0,x.ra1,x.ra2⟩:V3));(sl (fa7 (⟨(⟨x.d9,x.d7,x.f0⟩:V3),x.j5⟩:Pln) (⟨x.ra0,x.ra1,x.ra2⟩:V3)) (kk ⟨1,decide (t1>0)⟩) (kk ⟨0,false⟩))
noncomputable def Ha7(x:Ha5):Ha6:=ka8 (λr=>r) x
noncomputable def Sa2(x:Ha5)(r:Ha6):DT (b7×List c8):=(.ite (Nat.beq r.alt 1) (.ret (b r.bs0,[⟨0,4,[[i x.d9,i x.d7,i x.f0,i x.j5]],true,false,0⟩])) .fail)
theorem Cc9{α β:Type}(F:α->β)(kk:Ha6->α)(x:Ha5):F (ka8 kk x)=ka8 (λr=>F (kk r)) x:=by unfold ka8;(repeat' apply r9 (f:=F))<;>rfl
noncomputable def Fb9:Sum:=zb9 ⟨[.agg (kLq 3),sPq 0],[⟨0,4,true,some [kLq 4]⟩],λa H=>(⟨cIq a 0 0,cIq a 0 1,cIq a 0 2,hIq H 0 0 0,hIq H 0 0 1,hIq H 0 0 2,hIq H 0 0 3⟩,())⟩ (λx=>Sa2 x (Ha7 x))
theorem tc1:i7 prog G 79 Fb9:=ja6 (enc:=λx=>⟨[.agg [i x.ra0,i x.ra1,i x.ra2],.ptr 0 0 0 0],[⟨0,4,[[i x.d9,i x.d7,i x.f0,i x.j5]],true,false,0⟩]⟩) (λa H=>by kernel_rfl) (bd b79 lc1) λx=>D1 (Qhd (b:=ka8 (λr=>(Sa2 x r).run) x) (by kernel_rfl) (Cc9 (λr=>(Sa2 x r).run) (λr=>r) x).symm)
structure ba6 where
 e7:List V3
 (d9 d7 f0 j5:Int)
noncomputable def Fa2:List (Nat×Sum):=[(79,Fb9)]
theorem lb2:k8 prog G Fa2:=⟨tc1,trivial⟩
structure M5 where
 e7:List V3
 (is7 d9 d7 f0 j5:Int)
structure w8 where
 is8:Int
noncomputable def ya9(p:M5)(s:w8):St:=⟨eL tV p.e7::.fn 79 [.ptr 0 0 0 0]::ra 5 (i p.is7::i s.is8::ra 10 []),[⟨0,4,[[i p.d9,i p.d7,i p.f0,i p.j5]],true,false,0⟩]⟩
noncomputable def I0{α:Type}(k:w8->α)(e:Nat->α)(z:α)(p:M5)(s:w8):α:=let t1:=(Ha7 ⟨(gL tV p.e7 s.is8.toNat).x,(gL tV p.e7 s.is8.toNat).y,(gL tV p.e7 s.is8.toNat).z,p.d9,p.d7,p.f0,p.j5⟩);(sl (decide (s.is8<p.is7)) (sl (inB s.is8 (List.length p.e7)) (sl (Nat.beq t1.alt 1) (sl t1.bs0 (e 1) (k ⟨W (s.is8+1)⟩)) z) z) (e 2))
noncomputable def K0(p:M5)(s:w8):Stp w8:=I0 .next .exit .fail p s
noncomputable def ka0:Lo M5 w8:=⟨En Fa2,1,ue3,[1,0,1,4,4],[0,1,7,8],.p,[⟨sLq tV::.fn 79 [.o (.ptr 0 0 0 0)]::ru2 5 (sIq::sIq::ru2 10 []),[⟨0,4,true,some [kLq 4]⟩],λa H=>(⟨aLq tV a 0,aIq a 7,hIq H 0 0 0,hIq H 0 0 1,hIq H 0 0 2,hIq H 0 0 3⟩,⟨aIq a 8⟩)⟩],K0,[(none,λp s=>⟨[i s.is8],[⟨0,4,[[i p.d9,i p.d7,i p.f0,i p.j5]],true,false,0⟩]⟩),(some 0,λp s=>upq (ya9 p s) [(9,b (decide (s.is8<p.is7)))])],ya9⟩
theorem ib3:ka0.Ok:=Lo.ok [] (by kernel_rfl) .nil rfl (.cons (λa H=>by kernel_rfl) .nil) λp s=>(.of @I0 (λF _ _ _ _ _=>by unfold I0;(repeat' apply r9 (f:=F))<;>rfl) (by kernel_rfl))
structure ba7 where
 alt:Nat
 is0:Int
noncomputable def J3{α:Type}(kk:ba7->α)(x:ba6):α:=let t1:=(lp (K0 (⟨rt tV x.e7,(↑(List.length x.e7):Int),x.d9,x.d7,x.f0,x.j5⟩:M5)) (⟨0⟩:w8));(sl ((cnE tV x.e7)&&true) (sl (Nat.beq t1.1 1) (kk ⟨1,t1.2.is8⟩) (sl (Nat.beq t1.1 2) (kk ⟨1,-1⟩) (kk ⟨0,0⟩))) (kk ⟨0,0⟩))
noncomputable def ba8(x:ba6):ba7:=J3 (λr=>r) x
noncomputable def na7(x:ba6)(r:ba7):DT (b7×List c8):=(.ite (Nat.beq r.alt 1) (.ret (i r.is0,[⟨0,4,[[i x.d9,i x.d7,i x.f0,i x.j5]],true,false,0⟩])) .fail)
theorem vb0{α β:Type}(F:α->β)(kk:ba7->α)(x:ba6):F (J3 kk x)=J3 (λr=>F (kk r)) x:=by unfold J3;(repeat' apply r9 (f:=F))<;>rfl
noncomputable def Ka1:Sum:=zb9 ⟨[sLq tV,.fn 79 [.o (.ptr 0 0 0 0)]],[⟨0,4,true,some [kLq 4]⟩],λa H=>(⟨aLq tV a 0,hIq H 0 0 0,hIq H 0 0 1,hIq H 0 0 2,hIq H 0 0 3⟩,())⟩ (λx=>na7 x (ba8 x))
theorem rb3:i7 prog G 88 Ka1:=ja6 (enc:=λx=>⟨[eL tV x.e7,.fn 79 [.ptr 0 0 0 0]],[⟨0,4,[[i x.d9,i x.d7,i x.f0,i x.j5]],true,false,0⟩]⟩) (λa H=>by kernel_rfl) (bd b88 lb2) λx=>Ea4 (.s .p (.s (.s .p (.b (.u ka0.ls))) .p)) [ka0.pr] (by kernel_rfl) (.cons ib3 .nil) (Qhd (b:=J3 (λr=>(na7 x r).run) x) (by kernel_rfl) (vb0 (λr=>(na7 x r).run) (λr=>r) x).symm)
structure R8 where
 e7:List V3
 (d9 d7 f0 j5:Int)
noncomputable def bb7:List (Nat×Sum):=[(88,Ka1)]
theorem Ya4:k8 prog G bb7:=⟨rb3,trivial⟩
structure R9 where
 alt:Nat
 bs0:Bool
noncomputable def D6{α:Type}(kk:R9->α)(x:R8):α:=let t1:=(ba8 ⟨rt tV x.e7,x.d9,x.d7,x.f0,x.j5⟩);(sl ((cnE tV x.e7)&&true) (sl (Nat.beq t1.alt 1) (kk ⟨1,decide (t1.is0>=0)⟩) (kk ⟨0,false⟩)) (kk ⟨0,false⟩))
noncomputable def S1(x:R8):R9:=D6 (λr=>r) x
noncomputable def fa9(x:R8)(r:R9):DT (b7×List c8):=(.ite (Nat.beq r.alt 1) (.ret (b r.bs0,[⟨0,4,[[i x.d9,i x.d7,i x.f0,i x.j5]],true,false,0⟩])) .fail)
theorem ib4{α β:Type}(F:α->β)(kk:R9->α)(x:R8):F (D6 kk x)=D6 (λr=>F (kk r)) x:=by unfold D6;(repeat' apply r9 (f:=F))<;>rfl
noncomputable def za0:Sum:=zb9 ⟨[sLq tV,.fn 79 [.o (.ptr 0 0 0 0)]],[⟨0,4,true,some [kLq 4]⟩],λa H=>(⟨aLq tV a 0,hIq H 0 0 0,hIq H 0 0 1,hIq H 0 0 2,hIq H 0 0 3⟩,())⟩ (λx=>fa9 x (S1 x))
theorem bb8:i7 prog G 70 za0:=ja6 (enc:=λx=>⟨[eL tV x.e7,.fn 79 [.ptr 0 0 0 0]],[⟨0,4,[[i x.d9,i x.d7,i x.f0,i x.j5]],true,false,0⟩]⟩) (λa H=>by kernel_rfl) (bd b70 Ya4) λx=>D1 (Qhd (b:=D6 (λr=>(fa9 x r).run) x) (by kernel_rfl) (ib4 (λr=>(fa9 x r).run) (λr=>r) x).symm)
noncomputable def Sc0:List (Nat×Sum):=[(70,za0)]
theorem Dc0:k8 prog G Sc0:=⟨bb8,trivial⟩
noncomputable def Fa3(x:List V3)(y:Pln):Option (b7×List c8):=let t1:=(S1 ⟨rt tV x,y.n.x,y.n.y,y.n.z,y.b⟩);(sl ((cnE tV x)&&true) (sl (Nat.beq t1.alt 1) (some (b t1.bs0,[])) none) none)
noncomputable def ha0(x:List V3)(y:Pln):Bool:=N7 (one r1B) (Fa3 x y)
noncomputable def L0(x:List V3)(y:Pln):Bool:=okO (one r1B) (Fa3 x y)
noncomputable def Xb5:Sum:=Da9 (na0 tV) (L2 tP) (λx y=>.guard (L0 x y) (.ret ((one r1B).enc (ha0 x y),[])))
theorem Sc1:i7 prog G 47 Xb5:=tb8 (bd b47 Dc0) (one r1B) (o:=Fa3) λx y=>D1 (by kernel_rfl)
noncomputable def Dc1:List (Nat×Sum):=[(20,Ab7)]
theorem tc2:k8 prog G Dc1:=⟨Lb7,trivial⟩
noncomputable def za1(x:V3):Option (b7×List c8):=let t1:=(ya1 x);(sl (ya2 x) (some (b (!t1),[])) none)
noncomputable def Na4(x:V3):Bool:=N7 (one r1B) (za1 x)
noncomputable def Na5(x:V3):Bool:=okO (one r1B) (za1 x)
noncomputable def Mb9:Sum:=N1 (L2 tV) (λx=>.guard (Na5 x) (.ret ((one r1B).enc (Na4 x),[])))
theorem Dc2:i7 prog G 69 Mb9:=Ea3 (bd b69 tc2) (one r1B) (o:=za1) λx=>D1 (by kernel_rfl)
structure ba9 where
 e7:List V3
noncomputable def Fa4:List (Nat×Sum):=[(69,Mb9)]
theorem lb3:k8 prog G Fa4:=⟨Dc2,trivial⟩
structure M6 where
 e7:List V3
 is7:Int
structure w9 where
 is8:Int
noncomputable def za2(p:M6)(s:w9):St:=⟨eL tV p.e7::.fn 69 []::ra 5 (i p.is7::i s.is8::ra 10 []),[]⟩
noncomputable def I1{α:Type}(k:w9->α)(e:Nat->α)(z:α)(p:M6)(s:w9):α:=let t1:=(Na4 (gL tV p.e7 s.is8.toNat));(sl (decide (s.is8<p.is7)) (sl (inB s.is8 (List.length p.e7)) (sl (Na5 (gL tV p.e7 s.is8.toNat)) (sl t1 (e 1) (k ⟨W (s.is8+1)⟩)) z) z) (e 2))
noncomputable def K1(p:M6)(s:w9):Stp w9:=I1 .next .exit .fail p s
noncomputable def ka1:Lo M6 w9:=⟨En Fa4,0,ue3,[1,0,1,4,4],[0,1,7,8],.p,[⟨sLq tV::.s (.o (.fn 69))::ru2 5 (sIq::sIq::ru2 10 []),[],λa H=>(⟨aLq tV a 0,aIq a 7⟩,⟨aIq a 8⟩)⟩],K1,[(none,λp s=>⟨[i s.is8],[]⟩),(some 0,λp s=>upq (za2 p s) [(9,b (decide (s.is8<p.is7)))])],za2⟩
theorem ib5:ka1.Ok:=Lo.ok [] (by kernel_rfl) .nil rfl (.cons (λa H=>by kernel_rfl) .nil) λp s=>(.of @I1 (λF _ _ _ _ _=>by unfold I1;(repeat' apply r9 (f:=F))<;>rfl) (by kernel_rfl))
structure ca0 where
 alt:Nat
 is0:Int
noncomputable def J4{α:Type}(kk:ca0->α)(x:ba9):α:=let t1:=(lp (K1 (⟨rt tV x.e7,(↑(List.length x.e7):Int)⟩:M6)) (⟨0⟩:w9));(sl ((cnE tV x.e7)&&true) (sl (Nat.beq t1.1 1) (kk ⟨1,t1.2.is8⟩) (sl (Nat.beq t1.1 2) (kk ⟨1,-1⟩) (kk ⟨0,0⟩))) (kk ⟨0,0⟩))
noncomputable def ca1(x:ba9):ca0:=J4 (λr=>r) x
noncomputable def na8(x:ba9)(r:ca0):DT (b7×List c8):=(.ite (Nat.beq r.alt 1) (.ret (i r.is0,[])) .fail)
theorem vb1{α β:Type}(F:α->β)(kk:ca0->α)(x:ba9):F (J4 kk x)=J4 (λr=>F (kk r)) x:=by unfold J4;(repeat' apply r9 (f:=F))<;>rfl
noncomputable def Ka2:Sum:=zb9 ⟨[sLq tV,.s (.o (.fn 69))],[],λa H=>(⟨aLq tV a 0⟩,())⟩ (λx=>na8 x (ca1 x))
theorem rb4:i7 prog G 88 Ka2:=ja6 (enc:=λx=>⟨[eL tV x.e7,.fn 69 []],[]⟩) (λa H=>by kernel_rfl) (bd b88 lb3) λx=>Ea4 (.s .p (.s (.s .p (.b (.u ka1.ls))) .p)) [ka1.pr] (by kernel_rfl) (.cons ib5 .nil) (Qhd (b:=J4 (λr=>(na8 x r).run) x) (by kernel_rfl) (vb1 (λr=>(na8 x r).run) (λr=>r) x).symm)
structure S3 where
 e7:List V3
noncomputable def bb9:List (Nat×Sum):=[(88,Ka2)]
theorem Ya5:k8 prog G bb9:=⟨rb4,trivial⟩
structure S4 where
 alt:Nat
 bs0:Bool
noncomputable def D7{α:Type}(kk:S4->α)(x:S3):α:=let t1:=(ca1 ⟨rt tV x.e7⟩);(sl ((cnE tV x.e7)&&true) (sl (Nat.beq t1.alt 1) (kk ⟨1,decide (t1.is0>=0)⟩) (kk ⟨0,false⟩)) (kk ⟨0,false⟩))
noncomputable def S5(x:S3):S4:=D7 (λr=>r) x
noncomputable def ga0(x:S3)(r:S4):DT (b7×List c8):=(.ite (Nat.beq r.alt 1) (.ret (b r.bs0,[])) .fail)
theorem ib6{α β:Type}(F:α->β)(kk:S4->α)(x:S3):F (D7 kk x)=D7 (λr=>F (kk r)) x:=by unfold D7;(repeat' apply r9 (f:=F))<;>rfl
noncomputable def za3:Sum:=zb9 ⟨[sLq tV,.s (.o (.fn 69))],[],λa H=>(⟨aLq tV a 0⟩,())⟩ (λx=>ga0 x (S5 x))
theorem cb0:i7 prog G 70 za3:=ja6 (enc:=λx=>⟨[eL tV x.e7,.fn 69 []],[]⟩) (λa H=>by kernel_rfl) (bd b70 Ya5) λx=>D1 (Qhd (b:=D7 (λr=>(ga0 x r).run) x) (by kernel_rfl) (ib6 (λr=>(ga0 x r).run) (λr=>r) x).symm)
noncomputable def cd8:List (Nat×Sum):=[(70,za3),(71,zc7)]
theorem Sc2:k8 prog G cd8:=⟨cb0,sd5,trivial⟩
noncomputable def Na6(x:List V3):Option (b7×List c8):=let t1:=(S5 ⟨rt tV x⟩);let t2:=(nb9 (rt tV x));(sl (decide ((↑(List.length x):Int)>48)) (some (i 2,[])) (sl ((cnE tV x)&&true) (sl (Nat.beq t1.alt 1) (sl t1.bs0 (some (i 3,[])) (sl (okE tV x) (sl (ob0 (rt tV x)) (sl t2 (some (i 11,[])) (some (i 0,[]))) none) none)) none) none))
noncomputable def Ca3(x:List V3):Int:=N7 (one r1I) (Na6 x)
noncomputable def Ca4(x:List V3):Bool:=okO (one r1I) (Na6 x)
noncomputable def cb1:Sum:=N1 (na0 tV) (λx=>.guard (Ca4 x) (.ret ((one r1I).enc (Ca3 x),[])))
theorem rb5:i7 prog G 44 cb1:=Ea3 (bd b44 Sc2) (one r1I) (o:=Na6) λx=>D1 (by kernel_rfl)
noncomputable def tc3:List (Nat×Sum):=[]
theorem lc2:k8 prog G tc3:=trivial
noncomputable def Ha8(x:Int):Bool:=(x != x)
noncomputable def Gb0:Sum:=N1 cI (λx=>.ret ((one r1B).enc (Ha8 x),[]))
theorem tc4:i7 prog G 120 Gb0:=mb8 (bd rf6 lc2) λx=>D1 (by kernel_rfl)
noncomputable def dc6:List (Nat×Sum):=[(120,Gb0)]
theorem Ub7:k8 prog G dc6:=⟨tc4,trivial⟩
noncomputable def la8(x:Int)(y:Int):Option (b7×List c8):=let t1:=(Ha8 x);let t2:=(Ha8 y);(sl t1 (sl t2 (some (i 0,[])) (some (i (-1),[]))) (sl t2 (some (i 1,[])) (sl (decide (x<y)) (some (i (-1),[])) (sl (decide (x>y)) (some (i 1,[])) (some (i 0,[]))))))
noncomputable def ca2(x:Int)(y:Int):Int:=N7 (one r1I) (la8 x y)
noncomputable def ca3(x:Int)(y:Int):Bool:=okO (one r1I) (la8 x y)
noncomputable def ob1:Sum:=Da9 cI cI (λx y=>.guard (ca3 x y) (.ret ((one r1I).enc (ca2 x y),[])))
theorem dc7:i7 prog G 97 ob1:=tb8 (bd b97 Ub7) (one r1I) (o:=la8) λx y=>D1 (by kernel_rfl)
noncomputable def Xb6:List (Nat×Sum):=[]
theorem Sc3:k8 prog G Xb6:=trivial
structure za4 where
 pb0:List Int
 is7:Int
structure O5 where
 is8:Int
noncomputable def Gb1(p:za4)(s:O5):St:=⟨ra 3 (i 0::.unk::.unk::eL tI p.pb0::i p.is7::i s.is8::ra 9 []),[]⟩
noncomputable def Sa3{α:Type}(k:O5->α)(e:Nat->α)(z:α)(p:za4)(s:O5):α:=(sl (decide (s.is8<p.is7)) (sl (inB s.is8 (List.length p.pb0)) (sl ((gL tI p.pb0 s.is8.toNat) != 0) (e 1) (k ⟨W (s.is8+1)⟩)) z) (e 2))
noncomputable def ea3(p:za4)(s:O5):Stp O5:=Sa3 .next .exit .fail p s
noncomputable def ib7:Lo za4 O5:=⟨En Xb6,0,gf8,[1,1,0,1,4,4],[3,6,7,8],.p,[⟨ru2 3 (.s (.o (.lit .i64 0))::sUq::sUq::sLq tI::sIq::sIq::ru2 9 []),[],λa H=>(⟨aLq tI a 6,aIq a 7⟩,⟨aIq a 8⟩)⟩],ea3,[(none,λp s=>⟨[i (gL tI p.pb0 s.is8.toNat)],[]⟩),(some 0,λp s=>upq (Gb1 p s) [(9,b (decide (s.is8<p.is7)))])],Gb1⟩
theorem Dc3:ib7.Ok:=Lo.ok [] (by kernel_rfl) .nil rfl (.cons (λa H=>by kernel_rfl) .nil) λp s=>(.of @Sa3 (λF _ _ _ _ _=>by unfold Sa3;(repeat' apply r9 (f:=F))<;>rfl) (by kernel_rfl))
noncomputable def Na7(x:List Int):Option (b7×List c8):=let t1:=(lp (ea3 (⟨rt tI x,(↑(List.length x):Int)⟩:za4)) (⟨0⟩:O5));(sl ((cnE tI x)&&true) (sl (Nat.beq t1.1 1) (some (i (gL tI (rt tI x) t1.2.is8.toNat),[])) (sl (Nat.beq t1.1 2) (some (i 0,[])) none)) none)
noncomputable def cb2(x:List Int):Int:=N7 (one r1I) (Na7 x)
noncomputable def cb3(x:List Int):Bool:=okO (one r1I) (Na7 x)
noncomputable def lc3:Sum:=N1 (na0 tI) (λx=>.guard (cb3 x) (.ret ((one r1I).enc (cb2 x),[])))
theorem cd9:i7 prog G 96 lc3:=Ea3 (bd b96 Sc3) (one r1I) (o:=Na7) λx=>Ea4 (.s .p (.s .p (.s (.s .p (.b (.u ib7.ls))) .p))) [ib7.pr] (by kernel_rfl) (.cons Dc3 .nil) (by kernel_rfl)
noncomputable def Dc4:List (Nat×Sum):=[(97,ob1),(96,lc3)]
theorem tc5:k8 prog G Dc4:=⟨dc7,cd9,trivial⟩
noncomputable def za5(x:V3)(y:V3):Option (b7×List c8):=let t1:=(ca2 x.x y.x);let t2:=(ca2 x.y y.y);let t3:=(ca2 x.z y.z);let t4:=(cb2 [t1,t2,t3]);(sl (ca3 x.x y.x) (sl (ca3 x.y y.y) (sl (ca3 x.z y.z) (sl (cb3 [t1,t2,t3]) (some (i t4,[])) none) none) none) none)
noncomputable def Na8(x:V3)(y:V3):Int:=N7 (one r1I) (za5 x y)
noncomputable def Na9(x:V3)(y:V3):Bool:=okO (one r1I) (za5 x y)
noncomputable def ib8:Sum:=Da9 (L2 tV) (L2 tV) (λx y=>.guard (Na9 x y) (.ret ((one r1I).enc (Na8 x y),[])))
theorem Dc5:i7 prog G 74 ib8:=tb8 (bd b74 tc5) (one r1I) (o:=za5) λx y=>D1 (by kernel_rfl)
end Go.Ev.Ce
namespace Go.Ev.L
open Go Go.Ev
theorem Ie8(n:Int):W n=(n+9223372036854775808) % 18446744073709551616-9223372036854775808:=IntKind.wrap_i64 n
theorem qa7{n:Int}(h1:-9223372036854775808<=n)(h2:n<=9223372036854775807):W n=n:=by rw[Ie8];omega
theorem ue5(n:Int):∃k,W n=n+18446744073709551616*k:=⟨-((n+9223372036854775808) / 18446744073709551616),by rw[Ie8];omega⟩
theorem tc6(n k:Int):W (n+18446744073709551616*k)=W n:=by rw[Ie8,Ie8];omega
theorem Nb0(a b:Int):W (W a+b)=W (a+b):=by
 obtain⟨k,hk⟩:=ue5 a;rw[hk,show a+18446744073709551616*k+b=a+b+18446744073709551616*k by omega,tc6]
theorem dc8(a b:Int):W (a+W b)=W (a+b):=by rw[Int.add_comm,Nb0,Int.add_comm]
theorem sd6(a b:Int):W (W a-b)=W (a-b):=by
 obtain⟨k,hk⟩:=ue5 a;rw[hk,show a+18446744073709551616*k-b=a-b+18446744073709551616*k by omega,tc6]
theorem Sd6(a b:Int):W (a-W b)=W (a-b):=by
 obtain⟨k,hk⟩:=ue5 b;rw[hk,show a-(b+18446744073709551616*k)=a-b+18446744073709551616*(-k) by omega,tc6]
theorem v8{j n:Nat}(h:j<n)(hn:n<=4611686018427387904):W ((j:Int)+1)=((j+1:Nat):Int):=by
 rw[qa7 (by omega) (by omega)];omega
theorem Sc4{j n:Nat}(h:j<n):decide ((j:Int)<(n:Int))=true:=decide_eq_true (by omega)
theorem lc4{j n:Nat}(h:¬ j<n):decide ((j:Int)<(n:Int))=false:=decide_eq_false (by omega)
theorem i5{j n:Nat}(h:j<n):inB (j:Int) n=true:=by
 show Nat.blt j n=true;rw[Nat.blt_eq];exact h
theorem Ie9(m:Int)(n:Nat):inB m n=decide (0<=m/\m<n):=by
 unfold inB;cases m with
 |ofNat k =>
  rw[Bool.eq_iff_iff,decide_eq_true_eq];show Nat.blt k n=true↔_;rw[Nat.blt_eq];constructor
  ·intro h;exact⟨Int.natCast_nonneg k,Int.ofNat_lt.2 h⟩
  ·intro h;exact Int.ofNat_lt.1 h.2
 |negSucc k=>exact (decide_eq_false (λh=>by omega)).symm
theorem bt{c:Bool}(h:c=true){α:Type}(t e:α):sl c t e=t:=by rw[h];rfl
theorem bf{c:Bool}(h:c=false){α:Type}(t e:α):sl c t e=e:=by rw[h];rfl
theorem cb4{n:Nat}(h:n<=1000000000000):Nat.ble (n*32) room=true:=by
 rw[Nat.ble_eq];unfold room;omega
theorem ue6 {σ : Type} {step : σ → Stp σ} {I : Nat → σ → Prop} {Q : Nat → σ → Prop} (h : ∀ m s, I m s → (∃ t, step s = .exit t ∧ Q t s) ∨ ∃ s' m', m = m' + 1 ∧ step s = .next s' ∧ I m' s') :
  ∀(m n:Nat) (s:σ),m<=n->I m s->Q (lp0 step n s).1 (lp0 step n s).2
 |m,n,s,hn,hi=>by
  rcases h m s hi with⟨t,h1,h2⟩|⟨s',m',rfl,h1,h2⟩
  ·rw[Nc4 h1];exact h2
  ·cases n with
   |zero=>omega
   |succ n =>
    rw[Bd1 h1];exact ue6 h m' n s' (by omega) h2
theorem tc7 {σ : Type} {step : σ → Stp σ} {I : Nat → σ → Prop} {Q : Nat → σ → Prop} (h : ∀ m s, I m s → (∃ t, step s = .exit t ∧ Q t s) ∨ ∃ s' m', m = m' + 1 ∧ step s = .next s' ∧ I m' s')
  (m:Nat) (s:σ) (hm:m<=18446744073709551615) (hi:I m s):Q (lp step s).1 (lp step s).2:=by
 rw[qe0];exact ue6 h m rounds s (by unfold rounds;omega) hi
section
variable{σ τ α:Type}{step:σ->Stp σ}
theorem Je0 {mk : Nat → τ → σ} {f : τ → α → τ} {fin : Nat} (t : Ty α) (l : List α) (I : Nat → τ → Prop) (hl : l.length ≤ 1000000000)
  (h:∀j a,j<l.length->I j a->step (mk j a)=.next (mk (j+1) (f a (gL t l j)))/\I (j+1) (f a (gL t l j)))
  (hf:∀a,I l.length a->step (mk l.length a)=.exit fin) (j0:Nat) (hj:j0<=l.length) (a:τ) (hi:I j0 a) :
  lp step (mk j0 a)=(fin,mk l.length ((l.drop j0).foldl f a))/\I l.length ((l.drop j0).foldl f a):=by
 have key:=tc7 (step:=step) (I:=λm s=>∃j b,m=l.length-j/\j<=l.length/\s=mk j b/\I j b/\(l.drop j).foldl f b=(l.drop j0).foldl f a)
  (Q:=λu s=>u=fin/\s=mk l.length ((l.drop j0).foldl f a)/\I l.length ((l.drop j0).foldl f a)) (λm s ⟨j,b,hm,hj,hs,hb,he⟩=>by
   subst hs;by_cases hlt:j<l.length
   ·obtain⟨h1,h2⟩:=h j b hlt hb;refine .inr ⟨_,l.length-(j+1),by omega,h1,j+1,_,rfl,by omega,rfl,h2,?_⟩
    rw[<- he,Qhc hlt,List.foldl_cons];simp[gL,Qha,Qhb hlt]
   ·have:j=l.length:=by omega
    subst this;have he:b=(l.drop j0).foldl f a:=by rw[<- he];simp
    subst he;exact .inl ⟨fin,hf _ hb,rfl,rfl,hb⟩) (l.length-j0) (mk j0 a) (by omega) ⟨j0,a,rfl,hj,rfl,hi,rfl⟩
 exact⟨by rw[<- key.2.1,<- key.1],key.2.2⟩
theorem Bb5 {mk : Nat → σ} {c : α → Bool} {u fin : Nat} (t : Ty α) (l : List α) (hl : l.length ≤ 1000000000)
  (h:∀j,j<l.length->step (mk j)=sl (c (gL t l j)) (.exit u) (.next (mk (j+1)))) (hf:step (mk l.length)=.exit fin) (j0:Nat) (hj:j0<=l.length) :
  (lp step (mk j0)).1=if (l.drop j0).any c then u else fin :=
 tc7 (step:=step) (I:=λm s=>∃j,m=l.length-j/\j<=l.length/\s=mk j/\(l.drop j).any c=(l.drop j0).any c)
  (Q:=λv _=>v=if (l.drop j0).any c then u else fin) (λm s ⟨j,hm,hj,hs,he⟩=>by
   subst hs;by_cases hlt:j<l.length
   ·have h1:=h j hlt;have e:gL t l j=l[j]:=by simp[gL,Qha,Qhb hlt]
    have e2:(l.drop j).any c=(c l[j]||(l.drop (j+1)).any c):=by rw[Qhc hlt,List.any_cons]
    rw[e] at h1;cases hc:c l[j] with
    |true =>
     rw[hc] at h1;refine .inl ⟨u,h1,?_⟩;rw[<- he,e2,hc];rfl
    |false =>
     rw[hc] at h1;refine .inr ⟨_,l.length-(j+1),by omega,h1,j+1,rfl,by omega,rfl,?_⟩
     rw[<- he,e2,hc];rfl
   ·have:j=l.length:=by omega
    subst this;refine .inl ⟨fin,hf,?_⟩;rw[<- he];simp) (l.length-j0) (mk j0) (by omega) ⟨j0,rfl,hj,rfl,rfl⟩
theorem Oa0 {mk : Nat → σ} {c : α → Bool} {u fin : Nat} (t : Ty α) (l : List α) (hl : l.length ≤ 1000000000)
  (h:∀j,j<l.length->step (mk j)=sl (c (gL t l j)) (.exit u) (.next (mk (j+1)))) (hf:step (mk l.length)=.exit fin) (j0:Nat) (hj:j0<=l.length) :
  lp step (mk j0)=if (l.drop j0).any c then (u,mk (j0+(l.drop j0).findIdx c)) else (fin,mk l.length):=by
 have key:=tc7 (step:=step) (I:=λm s=>∃j,m=l.length-j/\j<=l.length/\j0<=j/\s=mk j/\(l.drop j).any c=(l.drop j0).any c/\j+(l.drop j).findIdx c=j0+(l.drop j0).findIdx c)
  (Q:=λv s=>(v,s)=if (l.drop j0).any c then (u,mk (j0+(l.drop j0).findIdx c)) else (fin,mk l.length)) (λm s ⟨j,hm,hj,hj0,hs,he,hi⟩=>by
   subst hs;by_cases hlt:j<l.length
   ·have h1:=h j hlt;have e:gL t l j=l[j]:=by simp[gL,Qha,Qhb hlt]
    have e2:(l.drop j).any c=(c l[j]||(l.drop (j+1)).any c):=by rw[Qhc hlt,List.any_cons]
    have e3:(l.drop j).findIdx c=if c l[j] then 0 else (l.drop (j+1)).findIdx c+1:=by rw[Qhc hlt,List.findIdx_cons];cases c l[j]<;>rfl
    rw[e] at h1;cases hc:c l[j] with
    |true =>
     rw[hc] at h1;refine .inl ⟨u,h1,?_⟩;rw[<- he,e2,hc,<- hi,e3,hc];rfl
    |false =>
     rw[hc] at h1;refine .inr ⟨_,l.length-(j+1),by omega,h1,j+1,rfl,by omega,by omega,rfl,?_,?_⟩
     ·rw[<- he,e2,hc];rfl
     ·rw[<- hi,e3,hc];simp only[Qhg,if_false];omega
   ·have:j=l.length:=by omega
    subst this;refine .inl ⟨fin,hf,?_⟩;rw[<- he];simp) (l.length-j0) (mk j0) (by omega) ⟨j0,rfl,hj,Qhe _,rfl,rfl,rfl⟩
 exact key
end
theorem ja1{α:Type}(t:Ty α){l:List α}{j:Nat}(h:j<l.length):gL t l j∈l:=by
 simp[gL,Qha,Qhb h]
theorem ib9{α:Type}(t:Ty α){l:List α}{j:Nat}(h:j<l.length):gL t l j=l[j]:=by
 simp[gL,Qha,Qhb h]
def euF:Nat->Int->Int->Int
 |0,g,_=>g
 |k+1,g,n=>if n=0 then g else euF k n (Int.tmod g n)
def eu(g n:Int):Int:=euF (n.natAbs+1) g n
theorem eb1{g n:Int}(h:n≠0):(Int.tmod g n).natAbs<n.natAbs:=by
 rw[Int.natAbs_tmod];exact Nat.mod_lt _ (by omega)
theorem Fd0:∀(k m:Nat) {g n:Int},n.natAbs<k->n.natAbs<m->euF k g n=euF m g n
 |0,_,_,_,h,_=>by omega
 |_+1,0,_,_,_,h=>by omega
 |k+1,m+1,g,n,h1,h2=>by
  unfold euF;by_cases h:n=0
  ·rw[if_pos h,if_pos h]
  ·rw[if_neg h,if_neg h]
   have:=eb1 (g:=g) h
   exact Fd0 k m (by omega) (by omega)
theorem lc5(g:Int):eu g 0=g:=by simp[eu,euF]
theorem sd7{g n:Int}(h:n≠0):eu g n=eu n (Int.tmod g n):=by
 have:=eb1 (g:=g) h
 unfold eu
 conv=>lhs;unfold euF
 rw[if_neg h];exact Fd0 _ _ (by omega) (by omega)
theorem We3:∀(k:Nat) (g n:Int),n.natAbs<=k->(eu g n).natAbs=Int.gcd g n:=by
 intro k
 induction k with
 |zero =>
  intro g n h
  have:n=0:=by omega
  subst this;rw[lc5];simp
 |succ k ih =>
  intro g n h;by_cases h0:n=0
  ·subst h0;rw[lc5];simp
  ·have:=eb1 (g:=g) h0
   rw[sd7 h0,ih n (Int.tmod g n) (by omega)]
   unfold Int.gcd;rw[Int.natAbs_tmod,Nat.gcd_comm g.natAbs,Nat.gcd_comm n.natAbs,<- Nat.gcd_rec]
theorem We4(g n:Int):(eu g n).natAbs=Int.gcd g n:=We3 _ g n (Qhe _)
theorem ke1:∀(k:Nat) (g n:Int),n.natAbs<=k->0<=g->0<=n->0<=eu g n:=by
 intro k
 induction k with
 |zero =>
  intro g n h hg _
  have:n=0:=by omega
  subst this;rw[lc5];exact hg
 |succ k ih =>
  intro g n h hg hn;by_cases h0:n=0
  ·subst h0;rw[lc5];exact hg
  ·have:=eb1 (g:=g) h0
   rw[sd7 h0];exact ih n _ (by omega) hn (Int.tmod_nonneg _ hg)
theorem We5{g n:Int}(hg:0<=g)(hn:0<=n):eu g n=(Int.gcd g n:Int):=by
 have h1:=ke1 _ g n (Qhe _) hg hn;have h2:=We4 g n;omega
section
variable{σ:Type}{step:σ->Stp σ}{mk:Int->Int->σ}
theorem zc8(h:∀g n,0<n->step (mk g n)=.next (mk n (Int.tmod g n)))(h0:∀g,step (mk g 0)=.exit 1)(g n:Int)(hg:0<=g)(h1:0<=n)(hn:n<=9223372036854775808):lp step (mk g n)=(1,mk (eu g n) 0):=by
 have:=tc7 (step:=step) (I:=λm s=>∃a c,s=mk a c/\c.natAbs<=m/\0<=a/\0<=c/\eu a c=eu g n) (Q:=λu s=>(u,s)=(1,mk (eu g n) 0)) (λm s ⟨a,c,hs,hm,ha,hc0,he⟩=>by
  subst hs;by_cases hc:c=0
  ·subst hc;rw[lc5] at he;subst he;exact .inl ⟨1,h0 _,rfl⟩
  ·have ht:=eb1 (g:=a) hc;exact .inr ⟨_,m-1,by omega,h a c (by omega),c,_,rfl,by omega,hc0,Int.tmod_nonneg _ ha,by rw[<- he,sd7 hc]⟩) n.natAbs (mk g n) (by omega) ⟨g,n,rfl,Qhe _,hg,h1,rfl⟩
 exact this
end
theorem mb{a c A C:Int}(h1:-A<=a)(h2:a<=A)(h3:-C<=c)(h4:c<=C):-(A*C)<=a*c/\a*c<=A*C:=by
 have hA:a.natAbs<=A.natAbs:=by omega
 have hC:c.natAbs<=C.natAbs:=by omega
 have h5:=Nat.mul_le_mul hA hC;rw[<- Int.natAbs_mul,<- Int.natAbs_mul] at h5;have h6:0<=A*C:=Int.mul_nonneg (by omega) (by omega)
 omega
end Go.Ev.L
namespace Go.Proofs
open Go.Shelf
set_option maxRecDepth 100000 in
def Ce.sortLayV_ren:Go.Shelf.Ren:=⟨fun | 6=>73 | 15=>81 | 14=>95 | 28=>107 | 29=>108 | 20=>112 | 21=>113 | 22=>114 | 23=>115 | 24=>116 | 25=>117 | 26=>118 | 27=>119 | 46=>126 | 47=>122 | 48=>123 | 49=>127 | 50=>128 | 57=>130 | n=>n,fun | 22=>23 | 24=>25 | 25=>36 | 3=>3 | 39=>104 | 0=>0 | 53=>123 | 55=>125 | 4=>4 | 46=>116 | 45=>115 | 50=>120 | 5=>5 | 9=>9 | 66=>134 | 70=>138 | 76=>142 | 77=>143 | n=>n,fun | n=>n⟩
set_option maxRecDepth 100000 in
theorem Ce.sortLayV:Go.Proofs.SlLaysF0.n6 Tryz.prog Ce.sortLayV_ren:={
 mixed:=by kernel_rfl
 f6:=⟨Tryz.f73.name,by decide,Tryz.func73.trans (congrArg some (by kernel_rfl))⟩
 f14:=⟨Tryz.f95.name,by decide,Tryz.func95.trans (congrArg some (by kernel_rfl))⟩
 f15:=Tryz.func81.trans (congrArg some (by kernel_rfl))
 f20:=⟨Tryz.f112.name,by decide,Tryz.func112.trans (congrArg some (by kernel_rfl))⟩
 f21:=⟨Tryz.f113.name,by decide,Tryz.func113.trans (congrArg some (by kernel_rfl))⟩
 f22:=⟨Tryz.f114.name,by decide,Tryz.func114.trans (congrArg some (by kernel_rfl))⟩
 f23:=⟨Tryz.f115.name,by decide,Tryz.func115.trans (congrArg some (by kernel_rfl))⟩
 f24:=⟨Tryz.f116.name,by decide,Tryz.func116.trans (congrArg some (by kernel_rfl))⟩
 f25:=⟨Tryz.f117.name,by decide,Tryz.func117.trans (congrArg some (by kernel_rfl))⟩
 f26:=⟨Tryz.f118.name,by decide,Tryz.func118.trans (congrArg some (by kernel_rfl))⟩
 f27:=⟨Tryz.f119.name,by decide,Tryz.func119.trans (congrArg some (by kernel_rfl))⟩
 f28:=Tryz.func107.trans (congrArg some (by kernel_rfl))
 f29:=Tryz.func108.trans (congrArg some (by kernel_rfl))
 f46:=⟨Tryz.f126.name,by decide,Tryz.func126.trans (congrArg some (by kernel_rfl))⟩
 f47:=Tryz.func122.trans (congrArg some (by kernel_rfl))
 f48:=Tryz.func123.trans (congrArg some (by kernel_rfl))
 f49:=⟨Tryz.f127.name,by decide,Tryz.func127.trans (congrArg some (by kernel_rfl))⟩
 f50:=⟨Tryz.f128.name,by decide,Tryz.func128.trans (congrArg some (by kernel_rfl))⟩
 f57:=⟨Tryz.f130.name,by decide,Tryz.func130.trans (congrArg some (by kernel_rfl))⟩
 t0:=Tryz.underlying0
 a0:=Tryz.isAgg0
 z0:=Tryz.sizeOf0
 v0:=Tryz.zeroValue0
 t3:=Tryz.underlying3
 a3:=Tryz.isAgg3
 z3:=Tryz.sizeOf3
 v3:=Tryz.zeroValue3
 t4:=Tryz.underlying4
 a4:=Tryz.isAgg4
 z4:=Tryz.sizeOf4
 v4:=Tryz.zeroValue4
 t5:=Tryz.underlying5
 a5:=Tryz.isAgg5
 z5:=Tryz.sizeOf5
 v5:=Tryz.zeroValue5
 t9:=Tryz.underlying9
 a9:=Tryz.isAgg9
 z9:=Tryz.sizeOf9
 v9:=Tryz.zeroValue9
 t22:=Tryz.underlying23
 a22:=Tryz.isAgg23
 z22:=Tryz.sizeOf23
 v22:=Tryz.zeroValue23
 t25:=Tryz.underlying36
 a25:=Tryz.isAgg36
 z25:=Tryz.sizeOf36
 v25:=Tryz.zeroValue36
 t39:=Tryz.underlying104
 a39:=Tryz.isAgg104
 z39:=Tryz.sizeOf104
 v39:=Tryz.zeroValue104
 t45:=Tryz.underlying115
 a45:=Tryz.isAgg115
 z45:=Tryz.sizeOf115
 v45:=Tryz.zeroValue115
 t46:=Tryz.underlying116
 a46:=Tryz.isAgg116
 z46:=Tryz.sizeOf116
 v46:=Tryz.zeroValue116
 t50:=Tryz.underlying120
 a50:=Tryz.isAgg120
 z50:=Tryz.sizeOf120
 v50:=Tryz.zeroValue120
 t53:=Tryz.underlying123
 a53:=Tryz.isAgg123
 z53:=Tryz.sizeOf123
 v53:=Tryz.zeroValue123
 t55:=Tryz.underlying125
 a55:=Tryz.isAgg125
 z55:=Tryz.sizeOf125
 v55:=Tryz.zeroValue125
 t66:=Tryz.underlying134
 a66:=Tryz.isAgg134
 z66:=Tryz.sizeOf134
 v66:=Tryz.zeroValue134
 t70:=Tryz.underlying138
 a70:=Tryz.isAgg138
 z70:=Tryz.sizeOf138
 v70:=Tryz.zeroValue138
 t76:=Tryz.underlying142
 a76:=Tryz.isAgg142
 z76:=Tryz.sizeOf142
 v76:=Tryz.zeroValue142
 t77:=Tryz.underlying143
 a77:=Tryz.isAgg143
 z77:=Tryz.sizeOf143
 v77:=Tryz.zeroValue143 }
end Go.Proofs
namespace Go.Ev.Ce
open Go Go.Ev Go.Ev.L Go.Proofs Go.Sort
theorem ae2(x y:Int):la8 x y=some (i (Ka9 x y),[]):=by
 unfold la8 Ha8 Ka9;simp only[bne_self_eq_false,cc6,decide_eq_true_eq,Qhg,if_false]
 split<;>(try split)<;>rfl
theorem We6(x y:Int):ca2 x y=Ka9 x y:=by unfold ca2;rw[ae2];rfl
theorem We7(x y:Int):ca3 x y=true:=by unfold ca3;rw[ae2];rfl
def orI(a c d:Int):Int:=if a=0 then if c=0 then d else c else a
theorem Je1(a c d:Int):((lp (ea3 ⟨[a,c,d],3⟩) ⟨0⟩).1=1/\gL tI [a,c,d] (lp (ea3 ⟨[a,c,d],3⟩) ⟨0⟩).2.is8.toNat=orI a c d)\/((lp (ea3 ⟨[a,c,d],3⟩) ⟨0⟩).1=2/\orI a c d=0):=by
 have g0:gL tI [a,c,d] 0=a:=rfl;have g1:gL tI [a,c,d] 1=c:=rfl;have g2:gL tI [a,c,d] 2=d:=rfl;refine tc7 (step:=ea3 ⟨[a,c,d],3⟩) (I:=λm s=>(m=3/\s=⟨0⟩)\/(m=2/\s=⟨1⟩/\a=0)\/(m=1/\s=⟨2⟩/\a=0/\c=0)\/(m=0/\s=⟨3⟩/\a=0/\c=0/\d=0))
  (Q:=λt s=>(t=1/\gL tI [a,c,d] s.is8.toNat=orI a c d)\/(t=2/\orI a c d=0)) (λm s hi=>?_) 3 ⟨0⟩ (by omega) (.inl ⟨rfl,rfl⟩)
 rcases hi with⟨rfl,rfl⟩|⟨rfl,rfl,ha⟩|⟨rfl,rfl,ha,hc⟩|⟨rfl,rfl,ha,hc,hd⟩
 ·by_cases h:a=0
  ·exact .inr ⟨⟨1⟩,2,rfl,by subst h;rfl,.inr (.inl ⟨rfl,rfl,h⟩)⟩
  ·refine .inl ⟨1,?_,.inl ⟨rfl,by unfold orI;rw[if_neg h];rfl⟩⟩
   show sl (a != 0) (Stp.exit 1) (Stp.next (⟨W (0+1)⟩:O5))=_;rw[bt (by simpa using h)]
 ·by_cases h:c=0
  ·exact .inr ⟨⟨2⟩,1,rfl,by subst h;rfl,.inr (.inr (.inl ⟨rfl,rfl,ha,h⟩))⟩
  ·refine .inl ⟨1,?_,.inl ⟨rfl,by unfold orI;rw[if_pos ha,if_neg h];rfl⟩⟩
   show sl (c != 0) (Stp.exit 1) (Stp.next (⟨W (1+1)⟩:O5))=_;rw[bt (by simpa using h)]
 ·by_cases h:d=0
  ·exact .inr ⟨⟨3⟩,0,rfl,by subst h;rfl,.inr (.inr (.inr ⟨rfl,rfl,ha,hc,h⟩))⟩
  ·refine .inl ⟨1,?_,.inl ⟨rfl,by unfold orI;rw[if_pos ha,if_pos hc];rfl⟩⟩
   show sl (d != 0) (Stp.exit 1) (Stp.next (⟨W (2+1)⟩:O5))=_;rw[bt (by simpa using h)]
 ·exact .inl ⟨2,rfl,.inr ⟨rfl,by unfold orI;rw[if_pos ha,if_pos hc];exact hd⟩⟩
theorem Qe7(a c d:Int):Na7 [a,c,d]=some (i (orI a c d),[]):=by
 have h:=Je1 a c d;unfold Na7;simp only[l5,j9];rw[show ((([a,c,d]:List Int).length:Nat):Int)=3 from rfl]
 generalize lp (ea3 ⟨[a,c,d],3⟩) ⟨0⟩=r at *
 rcases h with⟨h1,h2⟩|⟨h1,h2⟩
 ·rw[h1,h2];rfl
 ·rw[h1,h2];rfl
theorem rf8(a c d:Int):cb2 [a,c,d]=orI a c d:=by unfold cb2;rw[Qe7];rfl
theorem rf9(a c d:Int):cb3 [a,c,d]=true:=by unfold cb3;rw[Qe7];rfl
def Ja1(x y:V3):Int:=orI (Ka9 x.x y.x) (Ka9 x.y y.y) (Ka9 x.z y.z)
def LtV(x y:V3):Prop:=x.x<y.x\/x.x=y.x/\(x.y<y.y\/x.y=y.y/\x.z<y.z)
instance(x y:V3):Decidable (LtV x y):=by unfold LtV;exact inferInstance
theorem Jc4(x y:V3):Ja1 x y<0↔LtV x y:=by
 have h1:=Ab8 x.x y.x;have h2:=kc1 x.x y.x;have h3:=Ab8 x.y y.y;have h4:=kc1 x.y y.y;have h5:=Ab8 x.z y.z;unfold Ja1 orI LtV;split
 ·split<;>omega
 ·omega
theorem Ka3(x y:V3):ltOf Ja1 x y=decide (LtV x y):=by
 unfold ltOf;rw[decide_eq_decide];exact Jc4 x y
theorem hf9:SWO (ltOf Ja1) where
 irrefl x:=by rw[Ka3];simp[LtV]
 trans x y z h1 h2:=by rw[Ka3,decide_eq_true_eq] at *;unfold LtV at *;omega
 ntrans x y z h1 h2:=by rw[Ka3,decide_eq_false_iff_not] at *;unfold LtV at *;omega
theorem sf0(x y:V3)(h1:ltOf Ja1 x y=false)(h2:ltOf Ja1 y x=false):x=y:=by
 rw[Ka3,decide_eq_false_iff_not] at *
 unfold LtV at *
 obtain⟨a,b,c⟩:=x;obtain⟨a',b',c'⟩:=y
 simp only at *
 have:a=a'/\b=b'/\c=c':=by omega
 obtain⟨rfl,rfl,rfl⟩:=this;rfl
theorem zc9(x y:V3):za5 x y=some (i (Ja1 x y),[]):=by
 unfold za5 Ja1;simp only[We6,We7,rf8,rf9,y7]
theorem We8(x y:V3):Na8 x y=Ja1 x y:=by unfold Na8;rw[zc9];rfl
theorem We9(x y:V3):Na9 x y=true:=by unfold Na9;rw[zc9];rfl
theorem Xe0(x y:V3):(ib8 [.agg (tV.row x),.agg (tV.row y)] []).run=some (i (Ja1 x y),[]):=by
 have:(ib8 [.agg (tV.row x),.agg (tV.row y)] []).run=sel (Na9 x y) (some (i (Na8 x y),[])) none:=by kernel_rfl
 rw[this,We9,We8]
def ue7(p:V3):List Value:=[.int .i64 p.x,.int .i64 p.y,.int .i64 p.z]
instance:Inhabited V3:=⟨⟨0,0,0⟩⟩
def Gb2(l:List V3):List V3:=l.mergeSort λx y=>!ltOf Ja1 y x
theorem jd7(l:List V3):(Gb2 l).length=l.length:=Qhf l
noncomputable def wa3:Sum:=Zd2 tV 74 25 Gb2
theorem ke2:Ce.sortLayV_ren.f 6=73:=by kernel_rfl
theorem Sc5:Ce.sortLayV_ren.t 24=25:=by kernel_rfl
set_option maxRecDepth 100000 in
theorem Oa1:i7 prog G 73 wa3:=by
 refine Zd3 (enc:=ue7) (cf:=Ja1) ⟨_,Tryz.func73,by kernel_rfl,of_decide_eq_true (by kernel_rfl)⟩ (by decide) (λ_=>rfl) (λr h=>eb2 (n:=3) h) (λx v hv=>?_) jd7
  (λblk off size w=>Zd1 Dc5 Xe0 (λ_=>rfl) (λ_=>rfl) _ _ _ _ _) (λblk cap d w hcl hH hb hs=>?_)
 ·simp[ue7] at hv
  rcases hv with rfl|rfl|rfl<;>rfl
 ·have eg:∀args w,(callFunc 74 args).run Tryz.prog w=.ok (.enter 74 args) w:=enters_of Tryz.func74 (by kernel_rfl) rfl
  have:=AnyQ.slices_SortFunc Ce.sortLayV 3 (by rw[Sc5];exact Tryz.isAgg25) (by rw[Sc5];exact Tryz.sizeOf25) ue7 (λ_=>rfl) (λx v hv=>by simp[ue7] at hv;rcases hv with rfl | rfl | rfl<;>rfl) Ja1 hf9 74 #[] blk 0 cap d w eg (hcl 0 d.size) hH hb hs
  rw[ke2] at this;refine this.mono λe w' ⟨h1,d',n,os,h2,h3,h4⟩=>⟨h1,n,os,?_⟩
  have h5:=sorted_unique_holds hf9 sf0 d d' h2 h3;rw[h4];show _=sortWorldK ue7 3 w blk 0 n (d.toList.mergeSort λx y=>!ltOf Ja1 y x).toArray os
  rw[<- h5]
end Go.Ev.Ce
namespace Go.Ev.Ce
open Go Go.Ev Go.Ev.L Go.Proofs
set_option maxRecDepth 100000
noncomputable def Ub8:List (Nat×Sum):=[]
theorem Nb1:k8 prog G Ub8:=trivial
structure ra8 where
 (alt ns0:Nat)
 eh0:List (List b7)
noncomputable def W4{α:Type}(kk:ra8->α)(x:V3×List V3):α:=(sl (Nat.beq 0 0&&Nat.ble ((0+(len (u9 (λk=>(tV).row (gL tV (x.1::x.2) k)) (List.range (List.length x.2+1)))))*24) room) (kk ⟨1,(0+(len (u9 (λk=>(tV).row (gL tV (x.1::x.2) k)) (List.range (List.length x.2+1))))),(app [] (u9 (λk=>(tV).row (gL tV (x.1::x.2) k)) (List.range (List.length x.2+1))))⟩) (kk ⟨0,0,[]⟩))
noncomputable def ja2(x:V3×List V3):ra8:=W4 (λr=>r) x
noncomputable def Ea0(r:ra8):DT (b7×List c8):=(.ite (Nat.beq r.alt 1) (.ret (.sl 0 0 r.ns0 0,[⟨25,3,r.eh0,true,false,0⟩])) .fail)
theorem dc9{α β:Type}(F:α->β)(kk:ra8->α)(x:V3×List V3):F (W4 kk x)=W4 (λr=>F (kk r)) x:=by unfold W4;(repeat' apply r9 (f:=F))<;>rfl
noncomputable def Ja2:Sum:=N1 (Bd4 tV) (λx=>Ea0 (ja2 x))
theorem ab1:i7 prog G 72 Ja2:=mb8 (bd b72 Nb1) λx=>D1 (Qhd (b:=W4 (λr=>(Ea0 r).run) x) (by kernel_rfl) (dc9 (λr=>(Ea0 r).run) (λr=>r) x).symm)
structure la9 where
 ns0:Nat
 eh0:List (List b7)
noncomputable def wa4:List (Nat×Sum):=[]
theorem Bb6:k8 prog G wa4:=trivial
structure F7 where
 (ns0 os4 ns4:Nat)
structure y9 where
 (is3 is5:Int)
 eh0:List (List b7)
noncomputable def Ka4(p:F7)(s:y9):St:=⟨.sl 0 0 p.ns0 0::.unk::.unk::i s.is3::.sl 0 p.os4 p.ns4 0::i s.is5::ra 55 [],[⟨25,3,s.eh0,true,false,0⟩]⟩
noncomputable def O6{α:Type}(k:y9->α)(e:Nat->α)(z:α)(p:F7)(s:y9):α:=(sl (decide (s.is5<(↑p.ns4:Int))) (sl (inB s.is5 p.ns4) (sl (ldR tV s.eh0 (p.os4+s.is5.toNat)) (sl (inB (W (s.is5-1)) p.ns4) (sl (ldR tV s.eh0 (p.os4+(W (s.is5-1)).toNat)) (sl (!(((rdR tV s.eh0 (p.os4+s.is5.toNat)).x==(rdR tV s.eh0 (p.os4+(W (s.is5-1)).toNat)).x)&&(((rdR tV s.eh0 (p.os4+s.is5.toNat)).y==(rdR tV s.eh0 (p.os4+(W (s.is5-1)).toNat)).y)&&(((rdR tV s.eh0 (p.os4+s.is5.toNat)).z==(rdR tV s.eh0 (p.os4+(W (s.is5-1)).toNat)).z)&&true)))) (sl (inB s.is5 p.ns4) (sl (ldR tV s.eh0 (p.os4+s.is5.toNat)) (sl (inB s.is3 p.ns0) (sl ((Nat.blt (0+s.is3.toNat) (len s.eh0))&&(Nat.ble (0+3) (len (f7 s.eh0 (0+s.is3.toNat))))) (k ⟨W (s.is3+1),W (s.is5+1),setAt s.eh0 (0+s.is3.toNat) (V5 (f7 s.eh0 (0+s.is3.toNat)) 0 [i (rdR tV s.eh0 (p.os4+s.is5.toNat)).x,i (rdR tV s.eh0 (p.os4+s.is5.toNat)).y,i (rdR tV s.eh0 (p.os4+s.is5.toNat)).z])⟩) z) z) z) z) (k ⟨s.is3,W (s.is5+1),s.eh0⟩)) z) z) z) z) (e 1))
noncomputable def z8(p:F7)(s:y9):Stp y9:=O6 .next .exit .fail p s
noncomputable def ra9:Lo F7 y9:=⟨En wa4,1,We1,[1,1,0,1,4,4,1,0,4,1,2,1,0,1,4,4],[0,3,4,5],.p,[⟨.s (.o (.sl 0 0 (some 0) none))::sUq::sUq::sIq::.s (.o (.sl 0 0 none none))::sIq::ru2 55 [],[⟨25,3,true,none⟩],λa H=>(⟨slN (slT a 0),slO (slT a 4),slN (slT a 4)⟩,⟨aIq a 3,aIq a 5,elT H 0⟩)⟩],z8,[(some 2,λp s=>upq (Ka4 p s) [(29,i s.is5),(30,.sl 0 p.os4 p.ns4 0),(31,i (↑p.ns4:Int)),(32,b (decide (s.is5<(↑p.ns4:Int))))])],Ka4⟩
theorem vb2:ra9.Ok:=Lo.ok [] (by kernel_rfl) .nil rfl (.cons (λa H=>by kernel_rfl) .nil) λp s=>(.of @O6 (λF _ _ _ _ _=>by unfold O6;(repeat' apply r9 (f:=F))<;>rfl) (by kernel_rfl))
structure S6 where
 ns0:Nat
 eh0:List (List b7)
structure A5 where
 is3:Int
noncomputable def Ka5(p:S6)(s:A5):St:=⟨.sl 0 0 p.ns0 0::.unk::.unk::i s.is3::ra 57 [],[⟨25,3,p.eh0,true,false,0⟩]⟩
noncomputable def O7{α:Type}(k:A5->α)(e:Nat->α)(z:α)(p:S6)(s:A5):α:=let t1:=(lp (z8 (⟨p.ns0,0+s.is3.toNat,p.ns0-s.is3.toNat⟩:F7)) (⟨s.is3,1,p.eh0⟩:y9));(sl (decide (s.is3<(↑p.ns0:Int))) (sl (inB s.is3 p.ns0) (sl (ldR tV p.eh0 (0+s.is3.toNat)) (sl (inB (W (s.is3-1)) p.ns0) (sl (ldR tV p.eh0 (0+(W (s.is3-1)).toNat)) (sl (((rdR tV p.eh0 (0+s.is3.toNat)).x==(rdR tV p.eh0 (0+(W (s.is3-1)).toNat)).x)&&(((rdR tV p.eh0 (0+s.is3.toNat)).y==(rdR tV p.eh0 (0+(W (s.is3-1)).toNat)).y)&&(((rdR tV p.eh0 (0+s.is3.toNat)).z==(rdR tV p.eh0 (0+(W (s.is3-1)).toNat)).z)&&true))) (sl (inB s.is3 (p.ns0+1)) (sl (Nat.beq t1.1 1) (sl (inB t1.2.is3 (p.ns0+1)) (sl (inB t1.2.is3 (p.ns0+1)) (e 1) z) z) z) z) (k ⟨W (s.is3+1)⟩)) z) z) z) z) (e 2))
noncomputable def P9(p:S6)(s:A5):Stp A5:=O7 .next .exit .fail p s
noncomputable def sa0:Lo S6 A5:=⟨En wa4,1,We1,[1,1,0,1,4,4],[0,3],.s .p (.s (.b (.s .p (.c (.s .p (.s (.s .p (.b (.u ra9.ls))) .p)) .p))) .p),[⟨.s (.o (.sl 0 0 (some 0) none))::sUq::sUq::sIq::ru2 57 [],[⟨25,3,true,none⟩],λa H=>(⟨slN (slT a 0),elT H 0⟩,⟨aIq a 3⟩)⟩],P9,[(none,λp s=>let t1:=(lp (z8 (⟨p.ns0,0+s.is3.toNat,p.ns0-s.is3.toNat⟩:F7)) (⟨s.is3,1,p.eh0⟩:y9));⟨[.sl 0 0 (t1.2.is3.toNat-0) 0],[⟨25,3,app (L3 t1.2.eh0 (0+t1.2.is3.toNat)) (app (List.replicate (p.ns0-t1.2.is3.toNat) [i 0,i 0,i 0]) (g8 t1.2.eh0 ((0+t1.2.is3.toNat)+(p.ns0-t1.2.is3.toNat)))),true,false,0⟩]⟩),(some 0,λp s=>upq (Ka5 p s) [(10,i s.is3),(11,.sl 0 0 p.ns0 0),(12,i (↑p.ns0:Int)),(13,b (decide (s.is3<(↑p.ns0:Int))))])],Ka5⟩
theorem vb3:sa0.Ok:=Lo.ok [ra9.pr] (by kernel_rfl) (.cons vb2 .nil) rfl (.cons (λa H=>by kernel_rfl) .nil) λp s=>(.of @O7 (λF _ _ _ _ _=>by unfold O7;(repeat' apply r9 (f:=F))<;>rfl) (by kernel_rfl))
structure ma0 where
 (alt ns0:Nat)
 eh0:List (List b7)
noncomputable def Q0{α:Type}(kk:ma0->α)(x:la9):α:=let t1:=(lp (P9 (⟨x.ns0,x.eh0⟩:S6)) (⟨1⟩:A5));let t2:=(lp (z8 (⟨x.ns0,0+t1.2.is3.toNat,x.ns0-t1.2.is3.toNat⟩:F7)) (⟨t1.2.is3,1,x.eh0⟩:y9));(sl (decide ((↑x.ns0:Int)<2)) (kk ⟨1,x.ns0,x.eh0⟩) (sl (Nat.beq t1.1 1) (kk ⟨1,t2.2.is3.toNat-0,app (L3 t2.2.eh0 (0+t2.2.is3.toNat)) (app (List.replicate (x.ns0-t2.2.is3.toNat) [i 0,i 0,i 0]) (g8 t2.2.eh0 ((0+t2.2.is3.toNat)+(x.ns0-t2.2.is3.toNat))))⟩) (sl (Nat.beq t1.1 2) (kk ⟨1,x.ns0,x.eh0⟩) (kk ⟨0,0,[]⟩))))
noncomputable def Q1(x:la9):ma0:=Q0 (λr=>r) x
noncomputable def wa5(x:la9)(r:ma0):DT (b7×List c8):=(.ite (Nat.beq r.alt 1) (.ret (.sl 0 0 r.ns0 0,[⟨25,3,r.eh0,true,false,0⟩])) .fail)
theorem Nb2{α β:Type}(F:α->β)(kk:ma0->α)(x:la9):F (Q0 kk x)=Q0 (λr=>F (kk r)) x:=by unfold Q0;(repeat' apply r9 (f:=F))<;>rfl
noncomputable def za6:Sum:=zb9 ⟨[.s (.o (.sl 0 0 (some 0) none))],[⟨25,3,true,none⟩],λa H=>(⟨slN (slT a 0),elT H 0⟩,())⟩ (λx=>wa5 x (Q1 x))
theorem Qa9:i7 prog G 75 za6:=ja6 (enc:=λx=>⟨[.sl 0 0 x.ns0 0],[⟨25,3,x.eh0,true,false,0⟩]⟩) (λa H=>by kernel_rfl) (bd b75 Bb6) λx=>Ea4 (.s .p (.s .p (.s (.s .p (.b (.u sa0.ls))) .p))) [sa0.pr] (by kernel_rfl) (.cons vb3 .nil) (Qhd (b:=Q0 (λr=>(wa5 x r).run) x) (by kernel_rfl) (Nb2 (λr=>(wa5 x r).run) (λr=>r) x).symm)
noncomputable def tc8:List (Nat×Sum):=[(72,Ja2),(73,wa3),(75,za6)]
theorem lc6:k8 prog G tc8:=⟨ab1,Oa1,Qa9,trivial⟩
noncomputable def ta6(x:V3×List V3):Option (b7×List c8):=let t1:=(ja2 (hC tV (λk=>(tV).row (gL tV (x.1::x.2) k)),tC tV (List.length x.2) (λk=>(tV).row (gL tV (x.1::x.2) k))));let t2:=(Q1 ⟨t1.ns0,app (bL tV (Gb2 (slR tV t1.eh0 0 t1.ns0))) (g8 t1.eh0 t1.ns0)⟩);(sl (okL tV (List.length x.2+1) (λk=>(tV).row (gL tV (x.1::x.2) k))) (sl (Nat.beq t1.alt 1) (sl (Bool.and (Nat.ble t1.ns0 room) (Bool.and (Nat.ble t1.ns0 (len t1.eh0)) (okS tV t1.eh0 0 t1.ns0))) (sl (Nat.beq t2.alt 1) (some (.sl 0 0 t2.ns0 0,[⟨25,3,t2.eh0,true,false,0⟩])) none) none) none) none)
noncomputable def Ya6(x:V3×List V3):List V3:=N7 (one (r1L tV)) (ta6 x)
noncomputable def Ya7(x:V3×List V3):Bool:=okO (one (r1L tV)) (ta6 x)
noncomputable def Gb3:Sum:=N1 (Bd4 tV) (λx=>.guard (Ya7 x) (.ret ((one (r1L tV)).enc (Ya6 x),[])))
theorem tc9:i7 prog G 45 Gb3:=Ea3 (bd b45 lc6) (one (r1L tV)) (o:=ta6) λx=>D1 (by kernel_rfl)
end Go.Ev.Ce
