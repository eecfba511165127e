/- Own work. -/
import Derived.Test.YtkfaiccnekeklaaGreatChecked
import Derived.Test.YtkfaiccnekeklaaGreatEvOaCePf
import Derived.KernelRfl
set_option linter.all false
def Qha:=@List.getD_eq_getElem?_getD
def Qhb:=@List.getElem?_eq_getElem
def Qhc:=@List.drop_eq_getElem_cons
def Qhd:=@Eq.trans
def Qhe:=@Nat.le_refl
def Qhf:=@List.length_mergeSort
def Qhg:=@Bool.false_eq_true
namespace Go.Ev.Ce
open Go Go.Ev Go.Proofs
set_option maxRecDepth 1000000
theorem mx:(Tryz.prog).follows .mixedOrders=true:=Checked.mixed Tryz.checked
abbrev Bdq(n:Nat)(pf:PFn):Prop:=jd4 Tryz.prog n λE=>Hb5 E pf
theorem bdq{f:FuncId}{fn:Func}(hf:(Tryz.prog).funcs[f]?=some fn)(hn:decide (fn.name ≠ "runtime.NumGoroutine")=true:=by kernel_rfl)(hc:Option.isSome (g9 Tryz.prog fn)=true:=by kernel_rfl):Bdq f (got (g9 Tryz.prog fn)):=Be9 mx hf hn (Lc8 hc)
theorem b3:Bdq 3 pf3:=bdq Tryz.func3
theorem b4:Bdq 4 pf4:=bdq Tryz.func4
theorem b5:Bdq 5 pf5:=bdq Tryz.func5
theorem b6:Bdq 6 pf6:=bdq Tryz.func6
theorem b7:Bdq 7 pf7:=bdq Tryz.func7
theorem b8:Bdq 8 pf8:=bdq Tryz.func8
theorem b9:Bdq 9 pf9:=bdq Tryz.func9
theorem b10:Bdq 10 Ce0:=bdq Tryz.func10
theorem b11:jd4 Tryz.prog 11 λE=>ib5 E oe1:=Jd4 (h:=h11) mx Tryz.func11 (by kernel_rfl) Tryz.func30 (by kernel_rfl) (Lc8 (by kernel_rfl))
theorem b13:Bdq 13 Ce1:=bdq Tryz.func13
theorem b15:Bdq 15 Ce2:=bdq Tryz.func15
theorem b17:Bdq 17 Ce3:=bdq Tryz.func17
theorem b20:Bdq 20 Ce4:=bdq Tryz.func20
theorem b21:Bdq 21 Ce5:=bdq Tryz.func21
theorem b22:jd4 Tryz.prog 22 λE=>ib5 E Zd7:=Jd4 (h:=h22) mx Tryz.func22 (by kernel_rfl) Tryz.func76 (by kernel_rfl) (Lc8 (by kernel_rfl))
theorem b24:Bdq 24 Ce6:=bdq Tryz.func24
theorem b25:Bdq 25 we3:=bdq Tryz.func25
theorem b26:Bdq 26 Ce7:=bdq Tryz.func26
theorem b27:Bdq 27 Ce8:=bdq Tryz.func27
theorem b28:Bdq 28 Ce9:=bdq Tryz.func28
theorem b29:Bdq 29 De0:=bdq Tryz.func29
theorem b30:Bdq 30 De1:=bdq Tryz.func30
theorem b32:Bdq 32 De2:=bdq Tryz.func32
theorem b33:Bdq 33 we4:=bdq Tryz.func33
theorem b34:Bdq 34 we5:=bdq Tryz.func34
theorem b35:Bdq 35 De3:=bdq Tryz.func35
theorem b36:Bdq 36 De4:=bdq Tryz.func36
theorem b37:Bdq 37 we6:=bdq Tryz.func37
theorem b38:Bdq 38 we7:=bdq Tryz.func38
theorem b43:Bdq 43 we8:=bdq Tryz.func43
theorem b44:Bdq 44 De5:=bdq Tryz.func44
theorem b45:Bdq 45 De6:=bdq Tryz.func45
theorem b46:Bdq 46 we9:=bdq Tryz.func46
theorem b47:Bdq 47 De7:=bdq Tryz.func47
theorem b49:Bdq 49 De8:=bdq Tryz.func49
theorem b50:Bdq 50 De9:=bdq Tryz.func50
theorem b51:Bdq 51 Ee0:=bdq Tryz.func51
theorem b52:Bdq 52 Ee1:=bdq Tryz.func52
theorem b53:Bdq 53 Ee2:=bdq Tryz.func53
theorem b54:Bdq 54 Ee3:=bdq Tryz.func54
theorem b55:Bdq 55 xe0:=bdq Tryz.func55
theorem b56:Bdq 56 oe2:=bdq Tryz.func56
theorem b57:Bdq 57 xe1:=bdq Tryz.func57
theorem b58:Bdq 58 Ee4:=bdq Tryz.func58
theorem b59:Bdq 59 Jd5:=bdq Tryz.func59
theorem b61:Bdq 61 Ee5:=bdq Tryz.func61
theorem b69:Bdq 69 Ee6:=bdq Tryz.func69
theorem b70:Bdq 70 Ee7:=bdq Tryz.func70
theorem b71:jd4 Tryz.prog 71 λE=>ib5 E Zd8:=Jd4 (h:=h71) mx Tryz.func71 (by kernel_rfl) Tryz.func76 (by kernel_rfl) (Lc8 (by kernel_rfl))
theorem b72:Bdq 72 Ee8:=bdq Tryz.func72
theorem b74:Bdq 74 Ee9:=bdq Tryz.func74
theorem b75:Bdq 75 oe3:=bdq Tryz.func75
theorem b77:Bdq 77 Fe0:=bdq Tryz.func77
theorem b78:Bdq 78 Fe1:=bdq Tryz.func78
theorem b79:Bdq 79 Fe2:=bdq Tryz.func79
theorem b82:Bdq 82 oe4:=bdq Tryz.func82
theorem b83:Bdq 83 oe5:=bdq Tryz.func83
theorem b84:Bdq 84 Fe3:=bdq Tryz.func84
theorem b85:Bdq 85 Fe4:=bdq Tryz.func85
theorem b86:Bdq 86 Fe5:=bdq Tryz.func86
theorem b87:Bdq 87 Fe6:=bdq Tryz.func87
theorem b88:Bdq 88 Jd6:=bdq Tryz.func88
theorem b89:Bdq 89 xe2:=bdq Tryz.func89
theorem b90:Bdq 90 Fe7:=bdq Tryz.func90
theorem b91:Bdq 91 Fe8:=bdq Tryz.func91
theorem b94:Bdq 94 Fe9:=bdq Tryz.func94
theorem b96:Bdq 96 xe3:=bdq Tryz.func96
theorem b97:Bdq 97 Ge0:=bdq Tryz.func97
theorem b98:Bdq 98 Ge1:=bdq Tryz.func98
theorem Ge2:Bdq 109 xe4:=bdq Tryz.func109
theorem Ge3:Bdq 110 ie3:=bdq Tryz.func110
theorem Ge4:Bdq 111 xe5:=bdq Tryz.func111
theorem Ge5:Bdq 120 xe6:=bdq Tryz.func120
end Go.Ev.Ce
namespace Go.Ev.L
open Go Go.Ev
noncomputable def rb3:RT->PC->PS2
 |.s a b,.seq x y=>.seq (rb3 a x) (rb3 b y)
 |.c a b,.cond g x y=>.cond g (rb3 a x) (rb3 b y)
 |.b a,.block id x=>.block id (rb3 a x)
 |.i a,.inner f x n c=>.inner f x n (rb3 a c)
 |.u S,_=>.sum S
 |_,c=>.pc c
theorem Lc9{E:Env}{k:Nat}(rt:RT)(c:PC):za3 (λx=>∀s,Q9 (x.1 s) (H7 E k x.2 s)) (xb8 rt c)->aa4 E k (rb3 rt c) c:=by
 induction rt generalizing c with
 |p=>intro h;cases c<;>exact .pc _
 |s a b iha ihb =>
  intro h;cases c with
  |seq x y=>exact .seq (iha x (za3.app h).1) (ihb y (za3.app h).2)
  |_=>exact .pc _
 |c a b iha ihb =>
  intro h;cases c with
  |cond g x y=>exact .cond g (iha x (za3.app h).1) (ihb y (za3.app h).2)
  |_=>exact .pc _
 |b a iha =>
  intro h;cases c with
  |block id x=>exact .block id (iha x h)
  |_=>exact .pc _
 |l a iha=>intro h;cases c<;>exact .pc _
 |i a iha =>
  intro h;cases c with
  |inner f x n c=>exact .inner f x n (iha c h)
  |_=>exact .pc _
 |u S =>
  intro h
  have:xb8 (.u S) c=[(S,c)]:=by cases c<;>rfl
  rw[this] at h;cases h with
  |cons h t =>
   have e:rb3 (.u S) c=.sum S:=by cases c<;>rfl
   rw[e];exact .sum h
section
variable{π σ:Type}{E:Env}{k:Nat}{keep:List Nat}{alts:List (Al2 π σ)}{enc:π->σ->St}{step:π->σ->Stp σ}{xs:Xs π σ}{body:PS2}{c:PC}
theorem qb4.belowM(hb:aa4 E k body c)(hN:E.N=rounds+1)(w:qb4 Xc4 k keep (Tb0 E k body) alts step xs enc)(s:St):Q9 (Dc5 Xc4 k keep alts step xs s) (H7 E k (.loopM keep c) s):=λr hr=>by
 obtain⟨t,h1,h2⟩:=w.go hr;rw[jd3,hN];exact hb8 hb.le _ _ _ (vb9 h1 h2)
theorem qb4.belowML(hb:aa4 E k body c)(hN:E.N=rounds+1)(w:qb4 qb1 k keep (Tb0 E k body) alts step xs enc)(s:St):Q9 (Dc5 qb1 k keep alts step xs s) (H7 E k (.loop keep c) s):=λr hr=>by
 obtain⟨t,h1,h2⟩:=w.go hr;rw[Dc4,hN];exact hb8 hb.le _ _ _ (vb9 h1 h2)
end
end Go.Ev.L
namespace Go.Ev.Ab
open Go Go.Ev
@[reducible] def o(d:Nat)(x:PO):PI:=⟨some d,none,[],x⟩
@[reducible] def s(x:PO):PI:=⟨none,none,[],x⟩
@[reducible] def ci(n:Int):Arg:=.c (.v (.int .i64 n))
@[reducible] def cb(b:Bool):Arg:=.c (.v (.bool b))
@[reducible] def vi(n:Int):c7:=.v (.int .i64 n)
@[reducible] def rep{α:Type}(n:Nat)(x:α):List α:=List.replicate n x
@[reducible] def ki(n:Nat):List CK:=List.replicate n (.int .i64)
@[reducible] def mv(d n:Nat):PI:=o d (.mv (.t n))
@[reducible] def mc(d:Nat)(n:Int):PI:=o d (.mv (ci n))
@[reducible] def mb(d:Nat)(x:Bool):PI:=o d (.mv (cb x))
@[reducible] def fd(d k n:Nat):PI:=o d (.fld k (.t n))
@[reducible] def lf(d k n:Nat):PI:=o d (.load (ki k) k false (.t n))
@[reducible] def ex(d x k:Nat):PI:=o d (.ext (.t x) k)
@[reducible] def ca(d f:Nat)(l:List Arg):PI:=o d (.call f l)
@[reducible] def gf(n:Nat)(x:PI):PI:=⟨x.dst,some (n,false),x.hide,x.op⟩
@[reducible] def so(l:List PI)(x:PC):PC:=.seq (.ops l) x
@[reducible] def sq(x y:PC):PC:=.seq x y
@[reducible] def ts(l:List Nat):List Arg:=l.map .t
@[reducible] def cl(f:Nat)(l:List Nat):PO:=.call f (ts l)
@[reducible] def sT(k a b:Nat):PI:=s (.store k (.t a) (.t b))
@[reducible] def pa(d c x:Nat):PI:=o d (.pick (.t c) (.t x) (cb false))
@[reducible] def po(d c x:Nat):PI:=o d (.pick (.t c) (cb true) (.t x))
@[reducible] def al(d k:Nat)(n:Int):PI:=o d (.alloc (rep k (vi n)))
@[reducible] def ap(d et es n x y:Nat):PI:=o d (.append et es n (.t x) (.t y))
end Go.Ev.Ab
namespace Go.Ev.L
open Go Go.Ev
def Cps{π σ:Type}(u:∀{α:Type},(σ->α)->(Nat->α)->α->π->σ->α):Prop :=
 ∀{α β:Type} (F:α->β) (k:σ->α) (e:Nat->α) (z:α) (p:π) (s:σ),F (u k e z p s)=u (λx=>F (k x)) (λt=>F (e t)) (F z) p s
@[reducible] noncomputable def foL{π σ:Type}(en:π->σ->St)(xs:Xs π σ)(p:π)(s:σ):Stp σ->Option (f0×St):=qb2 (λs'=>some (.normal,en p s')) (λt=>xOf xs p s t 1) none
structure Lo(π σ:Type) where
 E:Env
 k:Nat
 F:PFn
 at':List Nat
 kp:List Nat
 rt:RT
 al:List (Al2 π σ)
 st:π->σ->Stp σ
 xs:Xs π σ
 en:π->σ->St
namespace Lo
variable{π σ:Type}(L:Lo π σ)
noncomputable def lc:PC:=Be7 L.at' L.F.body
noncomputable def ls:St->DT (f0×St):=Dc5 qb1 L.k L.kp L.al L.st L.xs
noncomputable def lsM:St->DT (f0×St):=Dc5 Xc4 L.k L.kp L.al L.st L.xs
noncomputable def pr:(St->DT (f0×St))×PC:=(L.ls,.loop L.kp L.lc)
noncomputable def prM:(St->DT (f0×St))×PC:=(L.lsM,.loopM L.kp L.lc)
def Ok:Prop:=∀s,W5 L.k L.F.res (L.pr.1 s) (H7 L.E L.k L.pr.2 s)
def OkE:Prop:=∀s,Q9 (L.pr.1 s) (H7 L.E L.k L.pr.2 s)
def OkM:Prop:=∀s,Q9 (L.prM.1 s) (H7 L.E L.k L.prM.2 s)
def Rd(hd:St->DT St)(bd:St->DT (f0×St))(p:π)(s:σ)(a:St)(b:Stp σ):Prop:=(hb9 hd bd a).run=foL L.en L.xs p s b
def H0:Prop:=∀p s,L.Rd (qb1 L.k L.kp) (nd9 L.E L.k L.F.res (xc4 L.rt L.lc)) p s (L.en p s) (L.st p s)
def H1:Prop:=∀p s,L.Rd (qb1 L.k L.kp) (Tb0 L.E L.k (rb3 L.rt L.lc)) p s (L.en p s) (L.st p s)
def H2:Prop:=∀p s,L.Rd (Xc4 L.k L.kp) (Tb0 L.E L.k (rb3 L.rt L.lc)) p s (L.en p s) (L.st p s)
def HA:Prop:=za3 (λx=>∀a H,(⟨wd9 x.sh a,xd0 x.bl H⟩:St)=L.en (x.rd a H).1 (x.rd a H).2) L.al
variable{L}
theorem Rd.of {hd : St → DT St} {bd : St → DT (f0 × St)} {p : π} {s : σ} {a : St} (u : ∀ {α : Type}, (σ → α) → (Nat → α) → α → π → σ → α)
  (q:Cps @u) (H:(hb9 hd bd a).run=u (λx=>foL L.en L.xs p s (.next x)) (λt=>foL L.en L.xs p s (.exit t)) (foL L.en L.xs p s .fail) p s):L.Rd hd bd p s a (u .next .exit .fail p s) :=
 H.trans (q (foL L.en L.xs p s) Stp.next Stp.exit Stp.fail p s).symm
theorem Rd.sel{hd:St->DT St}{bd:St->DT (f0×St)}{p:π}{s:σ}{a1 a0:St}{b1 b0:Stp σ}(c:Bool)(h1:L.Rd hd bd p s a1 b1)(h0:L.Rd hd bd p s a0 b0):L.Rd hd bd p s (sel c a1 a0) (sel c b1 b0):=by
 cases c with
 |true=>exact h1
 |false=>exact h0
theorem ok(l:List ((St->DT (f0×St))×PC))(hs:xb8 L.rt L.lc=l)(hl:za3 (λx=>∀s,W5 L.k L.F.res (x.1 s) (H7 L.E L.k x.2 s)) l)(hN:L.E.N=rounds+1)(ha:L.HA)(h:L.H0):L.Ok :=
 qb4.belowC (od9 _ _ (by rw[hs];exact hl)) hN ⟨ha,h⟩
theorem okE(l:List ((St->DT (f0×St))×PC))(hs:xb8 L.rt L.lc=l)(hl:za3 (λx=>∀s,Q9 (x.1 s) (H7 L.E L.k x.2 s)) l)(hN:L.E.N=rounds+1)(ha:L.HA)(h:L.H1):L.OkE :=
 qb4.belowML (Lc9 _ _ (by rw[hs];exact hl)) hN ⟨ha,h⟩
theorem okM(l:List ((St->DT (f0×St))×PC))(hs:xb8 L.rt L.lc=l)(hl:za3 (λx=>∀s,Q9 (x.1 s) (H7 L.E L.k x.2 s)) l)(hN:L.E.N=rounds+1)(ha:L.HA)(h:L.H2):L.OkM :=
 qb4.belowM (Lc9 _ _ (by rw[hs];exact hl)) hN ⟨ha,h⟩
end Lo
theorem ib8 {E : Env} {F : PFn} {args : List c7} {blks : List c9} {o : Option (c7 × List c9)} (rt : RT) (l : List ((St → DT (f0 × St)) × PC)) (hs : xb8 rt F.body = l)
  (hl:za3 (λx=>∀s,W5 (len blks) F.res (x.1 s) (H7 E (len blks) x.2 s)) l) (h:(ve3 E F (xc4 rt F.body) args blks).run=o) (r:c7×List c9) (hr:o=some r):(Hb5 E F args blks).run=some r :=
 gd7 (od9 rt _ (by rw[hs];exact hl)) r (h.trans hr)
theorem Ec6 {E : Env} {F : PFn} {args : List c7} {blks : List c9} {o : Option (c7 × List c9)} (rt : RT) (l : List ((St → DT (f0 × St)) × PC)) (hs : xb8 rt F.body = l)
  (hl:za3 (λx=>∀s,Q9 (x.1 s) (H7 E (len blks) x.2 s)) l) (h:(ie2 E F (rb3 rt F.body) args blks).run=o) (r:c7×List c9) (hr:o=some r):(ib5 E F args blks).run=some r :=
 Xc3 (Lc9 rt _ (by rw[hs];exact hl)) r (h.trans hr)
theorem y5{A o:Option (c7×List c9)}(h:A=o)(r:c7×List c9)(hr:o=some r):A=some r:=h.trans hr
noncomputable abbrev upq(x:St)(l:List (Nat×c7)):St:=⟨l.foldl (λa q=>a.set q.1 q.2) x.a,x.H⟩
noncomputable abbrev sIq:S2:=.s (.o (.int .i64))
noncomputable abbrev sUq:S2:=.s (.o .unk)
noncomputable abbrev sBq:S2:=.s (.o .bool)
noncomputable abbrev sPq(n:Nat):S2:=.s (.o (.ptr n 0 0 0))
noncomputable abbrev sTq(n:Nat):S2:=.s (.o (.tree n))
noncomputable abbrev sLq{α:Type}(t:Ty α):S2:=.s (.c t.es (nL t))
noncomputable abbrev kLq(n:Nat):List K:=List.replicate n (.o (.int .i64))
noncomputable abbrev aIq(a:List c7)(n:Nat):Int:=toI (slT a n)
noncomputable abbrev aBq(a:List c7)(n:Nat):Bool:=toB (slT a n)
noncomputable abbrev aNq(a:List c7)(n:Nat):Nat:=toN (slT a n)
noncomputable abbrev aGq(a:List c7)(n:Nat):Nat->List c7:=toG (slT a n)
noncomputable abbrev aLq{α:Type}(t:Ty α)(a:List c7)(n:Nat):List α:=rL t (slT a n)
noncomputable abbrev hIq(H:List c9)(m r n:Nat):Int:=toI (slT (rwT (elT H m) r) n)
noncomputable abbrev cIq(a:List c7)(m n:Nat):Int:=toI (slT (cellsOf (slT a m)) n)
noncomputable abbrev cNq(a:List c7)(m n:Nat):Nat:=toN (slT (cellsOf (slT a m)) n)
noncomputable abbrev cGq(a:List c7)(m n:Nat):Nat->List c7:=toG (slT (cellsOf (slT a m)) n)
noncomputable abbrev hNq(H:List c9)(m r n:Nat):Nat:=toN (slT (rwT (elT H m) r) n)
noncomputable abbrev hGq(H:List c9)(m r n:Nat):Nat->List c7:=toG (slT (rwT (elT H m) r) n)
noncomputable abbrev hLq{α:Type}(t:Ty α)(H:List c9)(m r n:Nat):List α:=rL t (slT (rwT (elT H m) r) n)
end Go.Ev.L
namespace Go.Ev.Ce
structure V3 where
 x:Int
 y:Int
 z:Int
structure Pln where
 n:V3
 b:Int
structure Pt where
 px:Int
 py:Int
 pz:Int
 pw:Int
def c8(a b:V3):V3:=⟨a.y*b.z-a.z*b.y,a.z*b.x-a.x*b.z,a.x*b.y-a.y*b.x⟩
def dot(a b:V3):Int:=a.x*b.x+a.y*b.y+a.z*b.z
def mw(p q r:Pln):Int:=dot p.n (c8 q.n r.n)
end Go.Ev.Ce
namespace Go.Ev.Ce
open Go Go.Ev Go.Ev.L Go.Proofs
@[reducible] noncomputable def prog:Program:=Tryz.prog
noncomputable def G:Nat->List Value:=λ_=>[]
noncomputable def En(l:List (Nat×Sum)):Env:={ P:=prog,G,fns:=λ_=>none,call:=le6 l,own:=λf j=>Bool.and (Ha3 f [48,57,82,88,73,75]) (Nat.beq j 0),N:=18446744073709551616 }
@[reducible] def u:c7:=.v (.tuple #[])
theorem xe7{l:List (Nat×Sum)}(h:j9 prog G l):∀f,i6 (En l).P (En l).G f ((En l).call f):=nd7 h
theorem bd{l:List (Nat×Sum)}{f:FuncId}{R:Env->Sum}(b:jd4 prog f R)(h:j9 prog G l):i6 prog G f (R (En l)):=b rfl (xe7 h)
noncomputable def tV:Ty V3 where
 es:=3
 row x:=[i x.x,i x.y,i x.z]
 rd r:=⟨toI (hdA r),toI (hdA (tlA r)),toI (hdA (tlA (tlA r)))⟩
 ok r:=za4 3 r
 cks:=List.replicate 3 (.int .i64)
 d:=⟨0,0,0⟩
 h0 _:=rfl
 h1 _:=rfl
 h2 _:=rfl
 h3 _ h:=.of (Pa4 h)
 h4 _:=rfl
 h5 _:=rfl
noncomputable def r1V:R1 V3:=r1A tV 3 λ_ h=>h
noncomputable def tP:Ty Pln where
 es:=4
 row x:=[i x.n.x,i x.n.y,i x.n.z,i x.b]
 rd r:=⟨⟨toI (hdA r),toI (hdA (tlA r)),toI (hdA (tlA (tlA r)))⟩,toI (hdA (tlA (tlA (tlA r))))⟩
 ok r:=za4 4 r
 cks:=List.replicate 4 (.int .i64)
 d:=⟨⟨0,0,0⟩,0⟩
 h0 _:=rfl
 h1 _:=rfl
 h2 _:=rfl
 h3 _ h:=.of (Pa4 h)
 h4 _:=rfl
 h5 _:=rfl
noncomputable def r1P:R1 Pln:=r1A tP 4 λ_ h=>h
structure Tp where
 p:Pln
 q:Pln
 r:Pln
structure Q2 where
 a:V3
 b:V3
set_option maxRecDepth 100000
noncomputable def jd5:List (Nat×Sum):=[]
theorem Xc5:j9 prog G jd5:=trivial
noncomputable def Da5(x:V3)(y:V3):Int:=(W ((W ((W (x.x*y.x))+(W (x.y*y.y))))+(W (x.z*y.z))))
noncomputable def Tb1:Sum:=Ha4 (Z4 tV) (Z4 tV) (λx y=>.ret ((one r1I).enc (Da5 x y),[]))
theorem oc7:i6 prog G 86 Tb1:=ib1 (bd b86 Xc5) λx y=>y5 (by kernel_rfl)
noncomputable def Mc0:List (Nat×Sum):=[]
theorem xc7:j9 prog G Mc0:=trivial
noncomputable def Ha7(x:V3)(y:V3):V3:=(⟨W ((W (x.y*y.z))-(W (x.z*y.y))),W ((W (x.z*y.x))-(W (x.x*y.z))),W ((W (x.x*y.y))-(W (x.y*y.x)))⟩:V3)
noncomputable def Zb2:Sum:=Ha4 (Z4 tV) (Z4 tV) (λx y=>.ret ((one r1V).enc (Ha7 x y),[]))
theorem Mc1:i6 prog G 90 Zb2:=ib1 (bd b90 xc7) λx y=>y5 (by kernel_rfl)
noncomputable def Xa7:List (Nat×Sum):=[]
theorem Fb2:j9 prog G Xa7:=trivial
@[reducible] noncomputable def qa6:Sum:=Hb5 (En Xa7) ie3
theorem za6:i6 prog G 110 qa6:=bd Ge3 Fb2
noncomputable def bc8:List (Nat×Sum):=[]
theorem Tb2:j9 prog G bc8:=trivial
noncomputable def na5(x:Int):Option (c7×List c9):=(sl (decide (x<0)) (some (i (W (0-x)),[])) (some (i x,[])))
noncomputable def ga1(x:Int):Int:=V0 (one r1I) (na5 x)
noncomputable def ga2(x:Int):Bool:=okO (one r1I) (na5 x)
noncomputable def rb4:Sum:=L0 cI (λx=>.guard (ga2 x) (.ret ((one r1I).enc (ga1 x),[])))
theorem bc9:i6 prog G 111 rb4:=Da4 (bd Ge4 Tb2) (one r1I) (o:=na5) λx=>y5 (by kernel_rfl)
noncomputable def Zb3:List (Nat×Sum):=[(111,rb4),(110,qa6)]
theorem Mc2:j9 prog G Zb3:=⟨bc9,za6,trivial⟩
structure ca4 where
 (is6 e8 e7 g8 ia6 ia7 ia8:Int)
structure L6 where
 (is5 is7:Int)
noncomputable def zb6(p:ca4)(s:L6):St:=⟨.unk::.ptr 0 0 0 0::.ptr 1 0 0 0::.unk::.ptr 2 0 0 0::i s.is5::i p.is6::i s.is7::ra 38 [],[⟨0,3,[[i p.e8,i p.e7,i p.g8]],true,false,0⟩,⟨0,3,[[i 0,i 0,i 0]],true,false,0⟩,⟨0,3,[[i p.ia6,i p.ia7,i p.ia8]],true,false,0⟩]⟩
noncomputable def na6{α:Type}(k:L6->α)(e:Nat->α)(z:α)(p:ca4)(s:L6):α:=(sl (decide (s.is7>0)) (sl (s.is7==0) z (k ⟨s.is7,Int.tmod s.is5 s.is7⟩)) (e 1))
noncomputable def X9(p:ca4)(s:L6):Stp L6:=na6 .next .exit .fail p s
noncomputable def ib9:Lo ca4 L6:=⟨En Zb3,0,xe2,[1,1,1,0,1,4,4,1,0,4,1,1,4,4],[1,2,4,5,6,7],.p,[⟨sUq::sPq 0::sPq 1::sUq::sPq 2::sIq::sIq::sIq::ru2 38 [],[⟨0,3,true,some [kLq 3]⟩,⟨0,3,true,some [[.o (.lit .i64 0),.o (.lit .i64 0),.o (.lit .i64 0)]]⟩,⟨0,3,true,some [kLq 3]⟩],λa H=>(⟨aIq a 6,hIq H 0 0 0,hIq H 0 0 1,hIq H 0 0 2,hIq H 2 0 0,hIq H 2 0 1,hIq H 2 0 2⟩,⟨aIq a 5,aIq a 7⟩)⟩],X9,[(some 2,λp s=>upq (zb6 p s) [(23,i s.is7),(24,b (decide (s.is7>0)))])],zb6⟩
theorem xc8:ib9.Ok:=Lo.ok [] (by kernel_rfl) .nil rfl (.cons (λa H=>by kernel_rfl) .nil) λp s=>(.of @na6 (λF _ _ _ _ _=>by unfold na6;(repeat' apply q9 (f:=F))<;>rfl) (by kernel_rfl))
noncomputable def Ra7(x:V3):Option (c7×List c9):=let t1:=(ga1 x.x);let t2:=(lp (X9 (⟨0,x.x,x.y,x.z,x.x,x.y,x.z⟩:ca4)) (⟨0,t1⟩:L6));let t3:=(ga1 x.y);let t4:=(lp (X9 (⟨1,x.x,x.y,x.z,x.x,x.y,x.z⟩:ca4)) (⟨t2.2.is5,t3⟩:L6));let t5:=(ga1 x.z);let t6:=(lp (X9 (⟨2,x.x,x.y,x.z,x.x,x.y,x.z⟩:ca4)) (⟨t4.2.is5,t5⟩:L6));(sl (x.x==(-9223372036854775808)) (some (.tup [.agg [i 0,i 0,i 0],i 0],[])) (sl (ga2 x.x) (sl (Nat.beq t2.1 1) (sl (x.y==(-9223372036854775808)) (some (.tup [.agg [i 0,i 0,i 0],i 0],[])) (sl (ga2 x.y) (sl (Nat.beq t4.1 1) (sl (x.z==(-9223372036854775808)) (some (.tup [.agg [i 0,i 0,i 0],i 0],[])) (sl (ga2 x.z) (sl (Nat.beq t6.1 1) (sl (t6.2.is5==0) (some (.tup [.agg [i 0,i 0,i 0],i 0],[])) (sl (t6.2.is5==0) none (sl (t6.2.is5==0) none (sl (t6.2.is5==0) none (some (.tup [.agg [i (W (Int.tdiv x.x t6.2.is5)),i (W (Int.tdiv x.y t6.2.is5)),i (W (Int.tdiv x.z t6.2.is5))],i t6.2.is5],[])))))) none) none)) none) none)) none) none))
noncomputable def wa5(x:V3):V3×Int:=V0 (two r1V r1I) (Ra7 x)
noncomputable def Ra8(x:V3):Bool:=okO (two r1V r1I) (Ra7 x)
noncomputable def Fb3:Sum:=L0 (Z4 tV) (λx=>.guard (Ra8 x) (.ret ((two r1V r1I).enc (wa5 x),[])))
theorem Zb4:i6 prog G 89 Fb3:=Da4 (bd b89 Mc2) (two r1V r1I) (o:=Ra7) λx=>ib8 (.s .p (.s .p (.s .p (.s (.s .p (.b (.l (.s .p (.s (.b (.s .p (.s .p (.b (.u ib9.ls))))) .p))))) .p)))) [ib9.pr] (by kernel_rfl) (.cons xc8 .nil) (by kernel_rfl)
noncomputable def Mc3:List (Nat×Sum):=[(89,Fb3),(110,qa6)]
theorem xc9:j9 prog G Mc3:=⟨Zb4,za6,trivial⟩
noncomputable def Ha8(x:Pln):Option (c7×List c9):=let t1:=(wa5 x.n);(sl (decide (x.n.x<(-4608))) (some (b false,[])) (sl (decide (x.n.x>4608)) (some (b false,[])) (sl (decide (x.n.y<(-4608))) (some (b false,[])) (sl (decide (x.n.y>4608)) (some (b false,[])) (sl (decide (x.n.z<(-4608))) (some (b false,[])) (sl (decide (x.n.z>4608)) (some (b false,[])) (sl (Ra8 x.n) (sl (t1.2==1) (sl (decide (x.b>=(-2097152))) (some (b (decide (x.b<=2097152)),[])) (some (b false,[]))) (some (b false,[]))) none)))))))
noncomputable def Xa8(x:Pln):Bool:=V0 (one r1B) (Ha8 x)
noncomputable def Xa9(x:Pln):Bool:=okO (one r1B) (Ha8 x)
noncomputable def Zb5:Sum:=L0 (Z4 tP) (λx=>.guard (Xa9 x) (.ret ((one r1B).enc (Xa8 x),[])))
theorem Mc4:i6 prog G 84 Zb5:=Da4 (bd b84 xc9) (one r1B) (o:=Ha8) λx=>y5 (by kernel_rfl)
noncomputable def jd6:List (Nat×Sum):=[]
theorem Xc6:j9 prog G jd6:=trivial
noncomputable def db7(x:Int)(y:Int):Option (c7×List c9):=(sl (decide (y<1)) (some (i 0,[])) (sl (y==0) none (sl (y==0) none (some (i (Int.tmod (W ((Int.tmod x y)+y)) y),[])))))
noncomputable def wb4(x:Int)(y:Int):Int:=V0 (one r1I) (db7 x y)
noncomputable def wb5(x:Int)(y:Int):Bool:=okO (one r1I) (db7 x y)
noncomputable def Ec7:Sum:=Ha4 cI cI (λx y=>.guard (wb5 x y) (.ret ((one r1I).enc (wb4 x y),[])))
theorem jd7:i6 prog G 28 Ec7:=Sb1 (bd b28 Xc6) (one r1I) (o:=db7) λx y=>y5 (by kernel_rfl)
noncomputable def Mc5:List (Nat×Sum):=[]
theorem yc0:j9 prog G Mc5:=trivial
noncomputable def w7(x:V3)(y:V3):Int:=(W ((W ((W (x.x*y.x))+(W (x.y*y.y))))+(W (x.z*y.z))))
noncomputable def na7:Sum:=Ha4 (Z4 tV) (Z4 tV) (λx y=>.ret ((one r1I).enc (w7 x y),[]))
theorem qa7:i6 prog G 35 na7:=ib1 (bd b35 yc0) λx y=>y5 (by kernel_rfl)
noncomputable def oc8:List (Nat×Sum):=[]
theorem cc2:j9 prog G oc8:=trivial
noncomputable def A1(x:V3)(y:V3):V3:=(⟨W ((W (x.y*y.z))-(W (x.z*y.y))),W ((W (x.z*y.x))-(W (x.x*y.z))),W ((W (x.x*y.y))-(W (x.y*y.x)))⟩:V3)
noncomputable def la5:Sum:=Ha4 (Z4 tV) (Z4 tV) (λx y=>.ret ((one r1V).enc (A1 x y),[]))
theorem na8:i6 prog G 36 la5:=ib1 (bd b36 cc2) λx y=>y5 (by kernel_rfl)
noncomputable def lb6:List (Nat×Sum):=[]
theorem Tb3:j9 prog G lb6:=trivial
structure ga3 where
 is0:Int
 td6:List Int
 is8:Int
structure F7 where
 is9:Int
noncomputable def Ya0(p:ga3)(s:F7):St:=⟨i p.is0::ra 6 (eL tI p.td6::i p.is8::i s.is9::ra 13 []),[]⟩
noncomputable def Z5{α:Type}(k:F7->α)(e:Nat->α)(z:α)(p:ga3)(s:F7):α:=(sl (decide (s.is9<p.is8)) (sl (inB s.is9 (List.length p.td6)) (sl (decide ((gL tI p.td6 s.is9.toNat)<(W (0-p.is0)))) (e 1) (sl (decide ((gL tI p.td6 s.is9.toNat)>p.is0)) (e 1) (k ⟨W (s.is9+1)⟩))) z) (e 2))
noncomputable def ca5(p:ga3)(s:F7):Stp F7:=Z5 .next .exit .fail p s
noncomputable def Da6:Lo ga3 F7:=⟨En lb6,0,we8,[1,0,1,4,4],[0,7,8,9],.p,[⟨sIq::ru2 6 (sLq tI::sIq::sIq::ru2 13 []),[],λa H=>(⟨aIq a 0,aLq tI a 7,aIq a 8⟩,⟨aIq a 9⟩)⟩],ca5,[(none,λp s=>⟨[b false],[]⟩),(some 0,λp s=>upq (Ya0 p s) [(10,b (decide (s.is9<p.is8)))])],Ya0⟩
theorem Lb5:Da6.Ok:=Lo.ok [] (by kernel_rfl) .nil rfl (.cons (λa H=>by kernel_rfl) .nil) λp s=>(.of @Z5 (λF _ _ _ _ _=>by unfold Z5;(repeat' apply q9 (f:=F))<;>rfl) (by kernel_rfl))
noncomputable def na9(x:Int)(y:List Int):Option (c7×List c9):=let t1:=(lp (ca5 (⟨x,rt tI y,(↑(List.length y):Int)⟩:ga3)) (⟨0⟩:F7));(sl ((cnE tI y)&&true) (sl (Nat.beq t1.1 1) (some (b false,[])) (sl (Nat.beq t1.1 2) (some (b true,[])) none)) none)
noncomputable def ga4(x:Int)(y:List Int):Bool:=V0 (one r1B) (na9 x y)
noncomputable def ga5(x:Int)(y:List Int):Bool:=okO (one r1B) (na9 x y)
noncomputable def Ra9:Sum:=Ha4 cI (ya3 tI) (λx y=>.guard (ga5 x y) (.ret ((one r1B).enc (ga4 x y),[])))
theorem lb7:i6 prog G 43 Ra9:=Sb1 (bd b43 Tb3) (one r1B) (o:=na9) λx y=>ib8 (.s .p (.s (.s .p (.b (.u Da6.ls))) .p)) [Da6.pr] (by kernel_rfl) (.cons Lb5 .nil) (by kernel_rfl)
noncomputable def Lb6:List (Nat×Sum):=[]
theorem Fb4:j9 prog G Lb6:=trivial
noncomputable def qa8(x:Int):Int:=(if (W (0-x))>x then (W (0-x)) else x)
noncomputable def db8:Sum:=L0 cI (λx=>.ret ((one r1I).enc (qa8 x),[]))
theorem Lb7:i6 prog G 109 db8:=ib0 (bd Ge2 Fb4) λx=>y5 (by kernel_rfl)
noncomputable def Da7:List (Nat×Sum):=[(109,db8)]
theorem Lb8:j9 prog G Da7:=⟨Lb7,trivial⟩
structure T0 where
 Za2:List Int
 (is7 is8:Int)
structure I0 where
 (is3 is5:Int)
noncomputable def Sa0(p:T0)(s:I0):St:=⟨ra 3 (i s.is3::.unk::i s.is5::eL tI p.Za2::i p.is7::i p.is8::ra 15 []),[]⟩
noncomputable def V8{α:Type}(k:I0->α)(e:Nat->α)(z:α)(p:T0)(s:I0):α:=(sl (decide (s.is5>0)) (sl (s.is5==0) z (k ⟨s.is5,Int.tmod s.is3 s.is5⟩)) (e 1))
noncomputable def P1(p:T0)(s:I0):Stp I0:=V8 .next .exit .fail p s
noncomputable def za7:Lo T0 I0:=⟨En Da7,0,oe5,[1,1,0,1,4,4,1,1,0,4,1,1,1,4,4],[3,5,6,7,8],.p,[⟨ru2 3 (sIq::sUq::sIq::sLq tI::sIq::sIq::ru2 15 []),[],λa H=>(⟨aLq tI a 6,aIq a 7,aIq a 8⟩,⟨aIq a 3,aIq a 5⟩)⟩],P1,[(some 2,λp s=>upq (Sa0 p s) [(16,i s.is5),(17,b (decide (s.is5>0)))])],Sa0⟩
theorem Fb5:za7.Ok:=Lo.ok [] (by kernel_rfl) .nil rfl (.cons (λa H=>by kernel_rfl) .nil) λp s=>(.of @V8 (λF _ _ _ _ _=>by unfold V8;(repeat' apply q9 (f:=F))<;>rfl) (by kernel_rfl))
structure ca6 where
 is7:Int
structure C0 where
 is3:Int
 Za2:List Int
 is8:Int
noncomputable def Sa1(p:ca6)(s:C0):St:=⟨ra 3 (i s.is3::.unk::.unk::eL tI s.Za2::i p.is7::i s.is8::ra 15 []),[]⟩
noncomputable def V9{α:Type}(k:C0->α)(e:Nat->α)(z:α)(p:ca6)(s:C0):α:=let t1:=(qa8 (gL tI s.Za2 s.is8.toNat));let t2:=(lp (P1 (⟨rt tI s.Za2,p.is7,s.is8⟩:T0)) (⟨s.is3,t1⟩:I0));(sl (decide (s.is8<p.is7)) (sl (inB s.is8 (List.length s.Za2)) (sl ((gL tI s.Za2 s.is8.toNat)==(-9223372036854775808)) (e 1) (sl ((cnE tI s.Za2)&&true) (sl (Nat.beq t2.1 1) (k ⟨t2.2.is3,rt tI s.Za2,W (s.is8+1)⟩) z) z)) z) (e 2))
noncomputable def Z6(p:ca6)(s:C0):Stp C0:=V9 .next .exit .fail p s
noncomputable def za8:Lo ca6 C0:=⟨En Da7,0,oe5,[1,1,0,1,4,4],[3,6,7,8],.s .p (.s .p (.s (.b (.s .p (.s .p (.s .p (.b (.u za7.ls)))))) .p)),[⟨ru2 3 (sIq::sUq::sUq::sLq tI::sIq::sIq::ru2 15 []),[],λa H=>(⟨aIq a 7⟩,⟨aIq a 3,aLq tI a 6,aIq a 8⟩)⟩],Z6,[(none,λp s=>⟨[i 0],[]⟩),(some 0,λp s=>upq (Sa1 p s) [(9,b (decide (s.is8<p.is7)))])],Sa1⟩
theorem Fb6:za8.Ok:=Lo.ok [za7.pr] (by kernel_rfl) (.cons Fb5 .nil) rfl (.cons (λa H=>by kernel_rfl) .nil) λp s=>(.of @V9 (λF _ _ _ _ _=>by unfold V9;(repeat' apply q9 (f:=F))<;>rfl) (by kernel_rfl))
noncomputable def ja1(x:List Int):Option (c7×List c9):=let t1:=(lp (Z6 (⟨(↑(List.length x):Int)⟩:ca6)) (⟨0,rt tI x,0⟩:C0));(sl ((cnE tI x)&&true) (sl (Nat.beq t1.1 1) (some (i 0,[])) (sl (Nat.beq t1.1 2) (some (i t1.2.is3,[])) none)) none)
noncomputable def V1(x:List Int):Int:=V0 (one r1I) (ja1 x)
noncomputable def V2(x:List Int):Bool:=okO (one r1I) (ja1 x)
noncomputable def Ja6:Sum:=L0 (ya3 tI) (λx=>.guard (V2 x) (.ret ((one r1I).enc (V1 x),[])))
theorem db9:i6 prog G 83 Ja6:=Da4 (bd b83 Lb8) (one r1I) (o:=ja1) λx=>ib8 (.s .p (.s .p (.s (.s .p (.b (.u za8.ls))) .p))) [za8.pr] (by kernel_rfl) (.cons Fb6 .nil) (by kernel_rfl)
noncomputable def oc9:List (Nat×Sum):=[(43,Ra9),(83,Ja6)]
theorem cc3:j9 prog G oc9:=⟨lb7,db9,trivial⟩
noncomputable def ta0(x:Pln):Option (c7×List c9):=let t1:=(ga4 4608 [x.n.x,x.n.y,x.n.z]);let t2:=(V1 [x.n.x,x.n.y,x.n.z]);let t3:=(ga4 2097152 [x.b]);(sl (ga5 4608 [x.n.x,x.n.y,x.n.z]) (sl t1 (sl (V2 [x.n.x,x.n.y,x.n.z]) (sl (t2==1) (sl (ga5 2097152 [x.b]) (some (b t3,[])) none) (some (b false,[]))) none) (some (b false,[]))) none)
noncomputable def Fa7(x:Pln):Bool:=V0 (one r1B) (ta0 x)
noncomputable def Fa8(x:Pln):Bool:=okO (one r1B) (ta0 x)
noncomputable def zb7:Sum:=L0 (Z4 tP) (λx=>.guard (Fa8 x) (.ret ((one r1B).enc (Fa7 x),[])))
theorem pc0:i6 prog G 52 zb7:=Da4 (bd b52 cc3) (one r1B) (o:=ta0) λx=>y5 (by kernel_rfl)
noncomputable def pc1:List (Nat×Sum):=[]
theorem cc4:j9 prog G pc1:=trivial
noncomputable def ta1(x:Int)(y:Int):Option (c7×List c9):=(sl (decide (x<y)) (some (i (-1),[])) (sl (decide (x>y)) (some (i 1,[])) (some (i 0,[]))))
noncomputable def Y0(x:Int)(y:Int):Int:=V0 (one r1I) (ta1 x y)
noncomputable def Y1(x:Int)(y:Int):Bool:=okO (one r1I) (ta1 x y)
noncomputable def ab1:Sum:=Ha4 cI cI (λx y=>.guard (Y1 x y) (.ret ((one r1I).enc (Y0 x y),[])))
theorem rb5:i6 prog G 53 ab1:=Sb1 (bd b53 cc4) (one r1I) (o:=ta1) λx y=>y5 (by kernel_rfl)
noncomputable def Tb4:List (Nat×Sum):=[(53,ab1)]
theorem Lb9:j9 prog G Tb4:=⟨rb5,trivial⟩
noncomputable def ja2(x:Pln)(y:Pln):Option (c7×List c9):=let t1:=(Y0 x.n.x y.n.x);let t2:=(Y0 x.n.y y.n.y);let t3:=(Y0 x.n.z y.n.z);let t4:=(Y0 x.b y.b);(sl (Y1 x.n.x y.n.x) (sl (t1==0) (sl (Y1 x.n.y y.n.y) (sl (t2==0) (sl (Y1 x.n.z y.n.z) (sl (t3==0) (sl (Y1 x.b y.b) (sl (t4==0) (some (i t4,[])) (some (i t4,[]))) none) (some (i t3,[]))) none) (some (i t2,[]))) none) (some (i t1,[]))) none)
noncomputable def ua7(x:Pln)(y:Pln):Int:=V0 (one r1I) (ja2 x y)
noncomputable def ua8(x:Pln)(y:Pln):Bool:=okO (one r1I) (ja2 x y)
noncomputable def Ja7:Sum:=Ha4 (Z4 tP) (Z4 tP) (λx y=>.guard (ua8 x y) (.ret ((one r1I).enc (ua7 x y),[])))
theorem Tb5:i6 prog G 49 Ja7:=Sb1 (bd b49 Lb9) (one r1I) (o:=ja2) λx y=>y5 (by kernel_rfl)
noncomputable def Xc7:List (Nat×Sum):=[(43,Ra9)]
theorem Mc6:j9 prog G Xc7:=⟨lb7,trivial⟩
noncomputable def Sa2(x:V3):Option (c7×List c9):=let t1:=(ga4 24 [x.x,x.y,x.z]);(sl (ga5 24 [x.x,x.y,x.z]) (some (b t1,[])) none)
noncomputable def ha7(x:V3):Bool:=V0 (one r1B) (Sa2 x)
noncomputable def ha8(x:V3):Bool:=okO (one r1B) (Sa2 x)
noncomputable def Sa3:Sum:=L0 (Z4 tV) (λx=>.guard (ha8 x) (.ret ((one r1B).enc (ha7 x),[])))
theorem Ya1:i6 prog G 20 Sa3:=Da4 (bd b20 Mc6) (one r1B) (o:=Sa2) λx=>y5 (by kernel_rfl)
end Go.Ev.Ce
namespace Go.Proofs
open Go.Shelf
set_option maxRecDepth 100000 in
def Ce.sortLay_ren:Go.Shelf.Ren:=⟨fun | 6=>48 | 15=>81 | 14=>80 | 28=>107 | 29=>108 | 20=>99 | 21=>100 | 22=>101 | 23=>102 | 24=>103 | 25=>104 | 26=>105 | 27=>106 | 46=>121 | 47=>122 | 48=>123 | 49=>124 | 50=>125 | 57=>129 | n=>n,fun | 22=>47 | 24=>60 | 25=>81 | 3=>3 | 39=>104 | 0=>0 | 53=>123 | 55=>125 | 4=>4 | 46=>116 | 45=>115 | 50=>120 | 5=>5 | 9=>9 | 66=>134 | 70=>138 | 76=>142 | 77=>143 | n=>n,fun | n=>n⟩
set_option maxRecDepth 100000 in
theorem Ce.sortLay:Go.Proofs.SlLaysF0.n6 Tryz.prog Ce.sortLay_ren:={
 mixed:=by kernel_rfl
 f6:=⟨Tryz.f48.name,by decide,Tryz.func48.trans (congrArg some (by kernel_rfl))⟩
 f14:=⟨Tryz.f80.name,by decide,Tryz.func80.trans (congrArg some (by kernel_rfl))⟩
 f15:=Tryz.func81.trans (congrArg some (by kernel_rfl))
 f20:=⟨Tryz.f99.name,by decide,Tryz.func99.trans (congrArg some (by kernel_rfl))⟩
 f21:=⟨Tryz.f100.name,by decide,Tryz.func100.trans (congrArg some (by kernel_rfl))⟩
 f22:=⟨Tryz.f101.name,by decide,Tryz.func101.trans (congrArg some (by kernel_rfl))⟩
 f23:=⟨Tryz.f102.name,by decide,Tryz.func102.trans (congrArg some (by kernel_rfl))⟩
 f24:=⟨Tryz.f103.name,by decide,Tryz.func103.trans (congrArg some (by kernel_rfl))⟩
 f25:=⟨Tryz.f104.name,by decide,Tryz.func104.trans (congrArg some (by kernel_rfl))⟩
 f26:=⟨Tryz.f105.name,by decide,Tryz.func105.trans (congrArg some (by kernel_rfl))⟩
 f27:=⟨Tryz.f106.name,by decide,Tryz.func106.trans (congrArg some (by kernel_rfl))⟩
 f28:=Tryz.func107.trans (congrArg some (by kernel_rfl))
 f29:=Tryz.func108.trans (congrArg some (by kernel_rfl))
 f46:=⟨Tryz.f121.name,by decide,Tryz.func121.trans (congrArg some (by kernel_rfl))⟩
 f47:=Tryz.func122.trans (congrArg some (by kernel_rfl))
 f48:=Tryz.func123.trans (congrArg some (by kernel_rfl))
 f49:=⟨Tryz.f124.name,by decide,Tryz.func124.trans (congrArg some (by kernel_rfl))⟩
 f50:=⟨Tryz.f125.name,by decide,Tryz.func125.trans (congrArg some (by kernel_rfl))⟩
 f57:=⟨Tryz.f129.name,by decide,Tryz.func129.trans (congrArg some (by kernel_rfl))⟩
 t0:=Tryz.underlying0
 a0:=Tryz.isAgg0
 z0:=Tryz.sizeOf0
 v0:=Tryz.zeroValue0
 t3:=Tryz.underlying3
 a3:=Tryz.isAgg3
 z3:=Tryz.sizeOf3
 v3:=Tryz.zeroValue3
 t4:=Tryz.underlying4
 a4:=Tryz.isAgg4
 z4:=Tryz.sizeOf4
 v4:=Tryz.zeroValue4
 t5:=Tryz.underlying5
 a5:=Tryz.isAgg5
 z5:=Tryz.sizeOf5
 v5:=Tryz.zeroValue5
 t9:=Tryz.underlying9
 a9:=Tryz.isAgg9
 z9:=Tryz.sizeOf9
 v9:=Tryz.zeroValue9
 t22:=Tryz.underlying47
 a22:=Tryz.isAgg47
 z22:=Tryz.sizeOf47
 v22:=Tryz.zeroValue47
 t25:=Tryz.underlying81
 a25:=Tryz.isAgg81
 z25:=Tryz.sizeOf81
 v25:=Tryz.zeroValue81
 t39:=Tryz.underlying104
 a39:=Tryz.isAgg104
 z39:=Tryz.sizeOf104
 v39:=Tryz.zeroValue104
 t45:=Tryz.underlying115
 a45:=Tryz.isAgg115
 z45:=Tryz.sizeOf115
 v45:=Tryz.zeroValue115
 t46:=Tryz.underlying116
 a46:=Tryz.isAgg116
 z46:=Tryz.sizeOf116
 v46:=Tryz.zeroValue116
 t50:=Tryz.underlying120
 a50:=Tryz.isAgg120
 z50:=Tryz.sizeOf120
 v50:=Tryz.zeroValue120
 t53:=Tryz.underlying123
 a53:=Tryz.isAgg123
 z53:=Tryz.sizeOf123
 v53:=Tryz.zeroValue123
 t55:=Tryz.underlying125
 a55:=Tryz.isAgg125
 z55:=Tryz.sizeOf125
 v55:=Tryz.zeroValue125
 t66:=Tryz.underlying134
 a66:=Tryz.isAgg134
 z66:=Tryz.sizeOf134
 v66:=Tryz.zeroValue134
 t70:=Tryz.underlying138
 a70:=Tryz.isAgg138
 z70:=Tryz.sizeOf138
 v70:=Tryz.zeroValue138
 t76:=Tryz.underlying142
 a76:=Tryz.isAgg142
 z76:=Tryz.sizeOf142
 v76:=Tryz.zeroValue142
 t77:=Tryz.underlying143
 a77:=Tryz.isAgg143
 z77:=Tryz.sizeOf143
 v77:=Tryz.zeroValue143 }
end Go.Proofs
namespace Go.Ev.Ce
open Go Go.Ev Go.Ev.L Go.Proofs Go.Sort
def ab2(x y:Int):Int:=if x<y then -1 else if x>y then 1 else 0
def ab3(x y:Pln):Int :=
 if ab2 x.n.x y.n.x=0 then if ab2 x.n.y y.n.y=0 then if ab2 x.n.z y.n.z=0 then ab2 x.b y.b else ab2 x.n.z y.n.z else ab2 x.n.y y.n.y else ab2 x.n.x y.n.x
theorem jb0(x y:Int):ab2 x y<0↔x<y:=by unfold ab2;split<;>(try split)<;>omega
theorem Mb0(x y:Int):ab2 x y=0↔x=y:=by unfold ab2;split<;>(try split)<;>omega
def LtP(x y:Pln):Prop:=x.n.x<y.n.x\/x.n.x=y.n.x/\(x.n.y<y.n.y\/x.n.y=y.n.y/\(x.n.z<y.n.z\/x.n.z=y.n.z/\x.b<y.b))
instance(x y:Pln):Decidable (LtP x y):=by unfold LtP;exact inferInstance
theorem Mc7(x y:Pln):ab3 x y<0↔LtP x y:=by
 have h1:=jb0 x.n.x y.n.x;have h2:=Mb0 x.n.x y.n.x;have h3:=jb0 x.n.y y.n.y;have h4:=Mb0 x.n.y y.n.y;have h5:=jb0 x.n.z y.n.z;have h6:=Mb0 x.n.z y.n.z;have h7:=jb0 x.b y.b;unfold ab3 LtP;split
 ·split
  ·split<;>omega
  ·omega
 ·omega
theorem Da8(x y:Pln):ltOf ab3 x y=decide (LtP x y):=by
 unfold ltOf;rw[decide_eq_decide];exact Mc7 x y
theorem xe8:SWO (ltOf ab3) where
 irrefl x:=by rw[Da8];simp[LtP]
 trans x y z h1 h2:=by rw[Da8,decide_eq_true_eq] at *;unfold LtP at *;omega
 ntrans x y z h1 h2:=by rw[Da8,decide_eq_false_iff_not] at *;unfold LtP at *;omega
theorem Ge6(x y:Pln)(h1:ltOf ab3 x y=false)(h2:ltOf ab3 y x=false):x=y:=by
 rw[Da8,decide_eq_false_iff_not] at *
 unfold LtP at *
 obtain⟨⟨a,b,c⟩,d⟩:=x;obtain⟨⟨a',b',c'⟩,d'⟩:=y
 simp only at *
 have:a=a'/\b=b'/\c=c'/\d=d':=by omega
 obtain⟨rfl,rfl,rfl,rfl⟩:=this;rfl
theorem Xc8(x y:Int):ta1 x y=some (i (ab2 x y),[]):=by
 unfold ta1 ab2;simp only[Eb8,decide_eq_true_eq]
 split<;>(try split)<;>rfl
theorem pd9(x y:Int):Y0 x y=ab2 x y:=by unfold Y0;rw[Xc8];rfl
theorem qd0(x y:Int):Y1 x y=true:=by unfold Y1;rw[Xc8];rfl
theorem pc2(x y:Pln):ja2 x y=some (i (ab3 x y),[]):=by
 unfold ja2 ab3;simp only[pd9,qd0,Eb8,beq_iff_eq,if_true]
 repeat' (first | rfl | split)
theorem xe9(x y:Pln):ua7 x y=ab3 x y:=by unfold ua7;rw[pc2];rfl
theorem ye0(x y:Pln):ua8 x y=true:=by unfold ua8;rw[pc2];rfl
theorem ye1(x y:Pln):(Ja7 [.agg (tP.row x),.agg (tP.row y)] []).run=some (i (ab3 x y),[]):=by
 have:(Ja7 [.agg (tP.row x),.agg (tP.row y)] []).run=sel (ua8 x y) (some (i (ua7 x y),[])) none:=by kernel_rfl
 rw[this,ye0,xe9]
def Sb9(p:Pln):List Value:=[.int .i64 p.n.x,.int .i64 p.n.y,.int .i64 p.n.z,.int .i64 p.b]
instance:Inhabited Pln:=⟨⟨⟨0,0,0⟩,0⟩⟩
def zb8(l:List Pln):List Pln:=l.mergeSort λx y=>!ltOf ab3 y x
theorem wb6(l:List Pln):(zb8 l).length=l.length:=Qhf l
noncomputable def xa4:Sum:=pd1 tP 49 60 zb8
theorem Jd7:Ce.sortLay_ren.f 6=48:=by kernel_rfl
theorem Ec8:Ce.sortLay_ren.t 24=60:=by kernel_rfl
set_option maxRecDepth 100000 in
theorem ab4:i6 prog G 48 xa4:=by
 refine pd2 (enc:=Sb9) (cf:=ab3) ⟨_,Tryz.func48,by kernel_rfl,of_decide_eq_true (by kernel_rfl)⟩ (by decide) (λ_=>rfl) (λr h=>Pa4 (n:=4) h) (λx v hv=>?_) wb6
  (λblk off size w=>pd0 Tb5 ye1 (λ_=>rfl) (λ_=>rfl) _ _ _ _ _) (λblk cap d w hcl hH hb hs=>?_)
 ·simp[Sb9] at hv
  rcases hv with rfl|rfl|rfl|rfl<;>rfl
 ·have eg:∀args w,(callFunc 49 args).run Tryz.prog w=.ok (.enter 49 args) w:=enters_of Tryz.func49 (by kernel_rfl) rfl
  have:=AnyQ.slices_SortFunc Ce.sortLay 4 (by rw[Ec8];exact Tryz.isAgg60) (by rw[Ec8];exact Tryz.sizeOf60) Sb9 (λ_=>rfl) (λx v hv=>by simp[Sb9] at hv;rcases hv with rfl | rfl | rfl | rfl<;>rfl) ab3 xe8 49 #[] blk 0 cap d w eg (hcl 0 d.size) hH hb hs
  rw[Jd7] at this;refine this.mono λe w' ⟨h1,d',n,os,h2,h3,h4⟩=>⟨h1,n,os,?_⟩
  have h5:=sorted_unique_holds xe8 Ge6 d d' h2 h3;rw[h4];show _=sortWorldK Sb9 4 w blk 0 n (d.toList.mergeSort λx y=>!ltOf ab3 y x).toArray os
  rw[<- h5]
end Go.Ev.Ce
namespace Go.Ev.Ce
open Go Go.Ev Go.Ev.L Go.Proofs
set_option maxRecDepth 100000
structure ua9 where
 is1:Int
 A0:List Int
 e7:Int
noncomputable def Tb6:List (Nat×Sum):=[(28,Ec7)]
theorem Mb1:j9 prog G Tb6:=⟨jd7,trivial⟩
structure va0 where
 alt:Nat
 (is0 e7:Int)
noncomputable def ba7{α:Type}(kk:va0->α)(x:ua9):α:=let t1:=(wb4 (gL tI x.A0 (W ((W (x.e7+1))-1)).toNat) x.is1);(sl (decide (x.e7>=(↑(List.length x.A0):Int))) (kk ⟨1,0,x.e7⟩) (sl (inB (W ((W (x.e7+1))-1)) (List.length x.A0)) (sl (wb5 (gL tI x.A0 (W ((W (x.e7+1))-1)).toNat) x.is1) (kk ⟨1,t1,W (x.e7+1)⟩) (kk ⟨0,0,0⟩)) (kk ⟨0,0,0⟩)))
noncomputable def w8(x:ua9):va0:=ba7 (λr=>r) x
noncomputable def Da9(x:ua9)(r:va0):DT (c7×List c9):=(.ite (Nat.beq r.alt 1) (.ret (i r.is0,[⟨0,2,[[eL tI x.A0,i r.e7]],true,false,0⟩])) .fail)
theorem cc5{α β:Type}(F:α->β)(kk:va0->α)(x:ua9):F (ba7 kk x)=ba7 (λr=>F (kk r)) x:=by unfold ba7;(repeat' apply q9 (f:=F))<;>rfl
noncomputable def lb8:Sum:=Va7 ⟨[.s (.o (.ptr 0 0 0 0)),.s (.o (.int .i64))],[⟨0,2,true,some [[.c 1 (nL tI),.o (.int .i64)]]⟩],λa H=>(⟨toI (slT a 1),rL tI (slT (rwT (elT H 0) 0) 0),toI (slT (rwT (elT H 0) 0) 1)⟩,())⟩ (λx=>Da9 x (w8 x))
theorem Tb7:i6 prog G 58 lb8:=R2 (enc:=λx=>⟨[.ptr 0 0 0 0,i x.is1],[⟨0,2,[[eL tI x.A0,i x.e7]],true,false,0⟩]⟩) (λa H=>by kernel_rfl) (bd b58 Mb1) λx=>y5 (Qhd (b:=ba7 (λr=>(Da9 x r).run) x) (by kernel_rfl) (cc5 (λr=>(Da9 x r).run) (λr=>r) x).symm)
noncomputable def jd8:List (Nat×Sum):=[]
theorem Xc9:j9 prog G jd8:=trivial
noncomputable def Ea0(x:V3)(y:V3):V3:=(⟨W (x.x-y.x),W (x.y-y.y),W (x.z-y.z)⟩:V3)
noncomputable def Ec9:Sum:=Ha4 (Z4 tV) (Z4 tV) (λx y=>.ret ((one r1V).enc (Ea0 x y),[]))
theorem jd9:i6 prog G 91 Ec9:=ib1 (bd b91 Xc9) λx y=>y5 (by kernel_rfl)
noncomputable def zd3:List (Nat×Sum):=[(110,qa6)]
theorem kd0:j9 prog G zd3:=⟨za6,trivial⟩
noncomputable def rb6(x:V3):Option (c7×List c9):=(sl (decide (x.x<(-24))) (some (b false,[])) (sl (decide (x.x>24)) (some (b false,[])) (sl (decide (x.y<(-24))) (some (b false,[])) (sl (decide (x.y>24)) (some (b false,[])) (sl (decide (x.z<(-24))) (some (b false,[])) (sl (decide (x.z>24)) (some (b false,[])) (some (b true,[]))))))))
noncomputable def Sa4(x:V3):Bool:=V0 (one r1B) (rb6 x)
noncomputable def Sa5(x:V3):Bool:=okO (one r1B) (rb6 x)
noncomputable def pc3:Sum:=L0 (Z4 tV) (λx=>.guard (Sa5 x) (.ret ((one r1B).enc (Sa4 x),[])))
theorem Fc0:i6 prog G 85 pc3:=Da4 (bd b85 kd0) (one r1B) (o:=rb6) λx=>y5 (by kernel_rfl)
noncomputable def pc4:List (Nat×Sum):=[(85,pc3),(91,Ec9),(90,Zb2),(89,Fb3),(86,Tb1)]
theorem cc6:j9 prog G pc4:=⟨Fc0,jd9,Mc1,Zb4,oc7,trivial⟩
noncomputable def ta2(x:V3)(y:V3)(z:V3):Option (c7×List c9):=let t1:=(Sa4 x);let t2:=(Sa4 y);let t3:=(Sa4 z);let t4:=(Ea0 y x);let t5:=(Ea0 z x);let t6:=(Ha7 t4 t5);let t7:=(wa5 t6);let t8:=(Da5 t7.1 x);(sl (Sa5 x) (sl (!t1) (some (.tup [.agg [i 0,i 0,i 0,i 0],b false],[])) (sl (Sa5 y) (sl (!t2) (some (.tup [.agg [i 0,i 0,i 0,i 0],b false],[])) (sl (Sa5 z) (sl (!t3) (some (.tup [.agg [i 0,i 0,i 0,i 0],b false],[])) (sl (Ra8 t6) (sl (t7.2==0) (some (.tup [.agg [i 0,i 0,i 0,i 0],b false],[])) (some (.tup [.agg [i t7.1.x,i t7.1.y,i t7.1.z,i t8],b true],[]))) none)) none)) none)) none)
noncomputable def Fa9(x:V3)(y:V3)(z:V3):Pln×Bool:=V0 (two r1P r1B) (ta2 x y z)
noncomputable def Ga0(x:V3)(y:V3)(z:V3):Bool:=okO (two r1P r1B) (ta2 x y z)
noncomputable def zb9:Sum:=Kb1 (Z4 tV) (Z4 tV) (Z4 tV) (λx y z=>.guard (Ga0 x y z) (.ret ((two r1P r1B).enc (Fa9 x y z),[])))
theorem pc5:i6 prog G 61 zb9:=Xd6 (bd b61 cc6) (two r1P r1B) (o:=ta2) λx y z=>y5 (by kernel_rfl)
noncomputable def Yc0:List (Nat×Sum):=[(84,Zb5),(85,pc3),(86,Tb1)]
theorem Mc8:j9 prog G Yc0:=⟨Mc4,Fc0,oc7,trivial⟩
noncomputable def wa6(x:Pln)(y:V3):Option (c7×List c9):=let t1:=(Xa8 x);let t2:=(Sa4 y);let t3:=(Da5 x.n y);(sl (Xa9 x) (sl (!t1) (some (i 0,[])) (sl (Sa5 y) (sl (!t2) (some (i 0,[])) (sl (decide ((W (t3-x.b))<0)) (some (i (-1),[])) (sl (decide ((W (t3-x.b))>0)) (some (i 1,[])) (some (i 0,[]))))) none)) none)
noncomputable def jb1(x:Pln)(y:V3):Int:=V0 (one r1I) (wa6 x y)
noncomputable def Fb7(x:Pln)(y:V3):Bool:=okO (one r1I) (wa6 x y)
noncomputable def pc6:Sum:=Ha4 (Z4 tP) (Z4 tV) (λx y=>.guard (Fb7 x y) (.ret ((one r1I).enc (jb1 x y),[])))
theorem Yc1:i6 prog G 54 pc6:=Sb1 (bd b54 Mc8) (one r1I) (o:=wa6) λx y=>y5 (by kernel_rfl)
structure Dd0 where
 (e8 e7 g8 m0 D7 D8 D9 Oa7:Int)
structure Dd1 where
 is7:Int
noncomputable def Ha9:List (Nat×Sum):=[(61,zb9),(54,pc6)]
theorem Mc9:j9 prog G Ha9:=⟨pc5,Yc1,trivial⟩
structure ha9 where
 j6:List V3
 (is3 is4 is5:Int)
 bs7:Bool
 (e8 e7 g8 m0:Int)
structure W6 where
 is8:Int
noncomputable def ab5(p:ha9)(s:W6):St:=⟨eL tV p.j6::.unk::.unk::i p.is3::i p.is4::i p.is5::.ptr 0 0 0 0::b p.bs7::i s.is8::ra 48 [],[⟨0,4,[[i p.e8,i p.e7,i p.g8,i p.m0]],true,false,0⟩]⟩
noncomputable def R8{α:Type}(k:W6->α)(e:Nat->α)(z:α)(p:ha9)(s:W6):α:=let t1:=(jb1 (⟨(⟨p.e8,p.e7,p.g8⟩:V3),p.m0⟩:Pln) (gL tV p.j6 s.is8.toNat));(sl (decide (s.is8<(↑(List.length p.j6):Int))) (sl p.bs7 (sl (inB s.is8 (List.length p.j6)) (sl (Fb7 (⟨(⟨p.e8,p.e7,p.g8⟩:V3),p.m0⟩:Pln) (gL tV p.j6 s.is8.toNat)) (sl (t1 != 0) (e 1) (k ⟨W (s.is8+1)⟩)) z) z) (e 2)) (e 3))
noncomputable def s9(p:ha9)(s:W6):Stp W6:=R8 .next .exit .fail p s
noncomputable def jb2:Lo ha9 W6:=⟨En Ha9,0,Jd5,[1,0,1,4,4,1,0,4,1,4,4,1,0,4,1,4,4,1,0,4,1,1,4,4],[0,3,4,5,6,7,8],.p,[⟨sLq tV::sUq::sUq::sIq::sIq::sIq::sPq 0::sBq::sIq::ru2 48 [],[⟨0,4,true,some [kLq 4]⟩],λa H=>(⟨aLq tV a 0,aIq a 3,aIq a 4,aIq a 5,aBq a 7,hIq H 0 0 0,hIq H 0 0 1,hIq H 0 0 2,hIq H 0 0 3⟩,⟨aIq a 8⟩)⟩],s9,[(none,λp s=>⟨[b false],[]⟩),(some 6,λp s=>upq (ab5 p s) [(41,i s.is8),(42,eL tV p.j6),(43,i (↑(List.length p.j6):Int)),(44,b (decide (s.is8<(↑(List.length p.j6):Int)))),(45,b true),(46,b p.bs7),(47,b p.bs7)]),(some 6,λp s=>upq (ab5 p s) [(41,i s.is8),(42,eL tV p.j6),(43,i (↑(List.length p.j6):Int)),(44,b (decide (s.is8<(↑(List.length p.j6):Int)))),(45,b false),(46,u),(47,b false)])],ab5⟩
theorem yc1:jb2.Ok:=Lo.ok [] (by kernel_rfl) .nil rfl (.cons (λa H=>by kernel_rfl) .nil) λp s=>(.of @R8 (λF _ _ _ _ _=>by unfold R8;(repeat' apply q9 (f:=F))<;>rfl) (by kernel_rfl))
structure za9 where
 (is3 is4:Int)
structure W7 where
 j6:List V3
 is5:Int
noncomputable def Ab0(p:za9)(s:W7):St:=⟨eL tV s.j6::.unk::.unk::i p.is3::i p.is4::i s.is5::ra 51 [],[]⟩
noncomputable def Z7{α:Type}(k:W7->α)(e:Nat->α)(z:α)(p:za9)(s:W7):α:=let t1:=(Fa9 (gL tV s.j6 p.is3.toNat) (gL tV s.j6 p.is4.toNat) (gL tV s.j6 s.is5.toNat));let t2:=(lp (s9 (⟨rt tV s.j6,p.is3,p.is4,s.is5,t1.2,t1.1.n.x,t1.1.n.y,t1.1.n.z,t1.1.b⟩:ha9)) (⟨0⟩:W6));(sl (decide (s.is5<p.is4)) (sl (inB p.is3 (List.length s.j6)) (sl (inB p.is4 (List.length s.j6)) (sl (inB s.is5 (List.length s.j6)) (sl (Ga0 (gL tV s.j6 p.is3.toNat) (gL tV s.j6 p.is4.toNat) (gL tV s.j6 s.is5.toNat)) (sl ((cnE tV s.j6)&&true) (sl (Nat.beq t2.1 1) (e 1) (sl (Nat.beq t2.1 2) (k ⟨rt tV s.j6,W (s.is5+1)⟩) (sl (Nat.beq t2.1 3) (k ⟨rt tV s.j6,W (s.is5+1)⟩) z))) z) z) z) z) z) (e 2))
noncomputable def L1(p:za9)(s:W7):Stp W7:=Z7 .next .exit .fail p s
noncomputable def jb3:Lo za9 W7:=⟨En Ha9,0,Jd5,[1,0,1,4,4,1,0,4,1,4,4,1,0,4,1,4,4],[0,3,4,5],.s .p (.s (.b (.s .p (.s .p (.b (.u jb2.ls))))) .p),[⟨sLq tV::sUq::sUq::sIq::sIq::sIq::ru2 51 [],[],λa H=>(⟨aIq a 3,aIq a 4⟩,⟨aLq tV a 0,aIq a 5⟩)⟩],L1,[(none,λp s=>⟨[b false],[]⟩),(some 4,λp s=>upq (Ab0 p s) [(20,i s.is5),(21,i p.is4),(22,b (decide (s.is5<p.is4)))])],Ab0⟩
theorem yc2:jb3.Ok:=Lo.ok [jb2.pr] (by kernel_rfl) (.cons yc1 .nil) rfl (.cons (λa H=>by kernel_rfl) .nil) λp s=>(.of @Z7 (λF _ _ _ _ _=>by unfold Z7;(repeat' apply q9 (f:=F))<;>rfl) (by kernel_rfl))
structure Aa0 where
 is3:Int
structure W8 where
 j6:List V3
 is4:Int
noncomputable def Ab1(p:Aa0)(s:W8):St:=⟨eL tV s.j6::.unk::.unk::i p.is3::i s.is4::ra 52 [],[]⟩
noncomputable def Z8{α:Type}(k:W8->α)(e:Nat->α)(z:α)(p:Aa0)(s:W8):α:=let t1:=(lp (L1 (⟨p.is3,s.is4⟩:za9)) (⟨rt tV s.j6,0⟩:W7));(sl (decide (s.is4<p.is3)) (sl ((cnE tV s.j6)&&true) (sl (Nat.beq t1.1 1) (e 1) (sl (Nat.beq t1.1 2) (k ⟨t1.2.j6,W (s.is4+1)⟩) z)) z) (e 2))
noncomputable def L2(p:Aa0)(s:W8):Stp W8:=Z8 .next .exit .fail p s
noncomputable def jb4:Lo Aa0 W8:=⟨En Ha9,0,Jd5,[1,0,1,4,4,1,0,4,1,4,4],[0,3,4],.s .p (.s (.b (.s .p (.b (.u jb3.ls)))) .p),[⟨sLq tV::sUq::sUq::sIq::sIq::ru2 52 [],[],λa H=>(⟨aIq a 3⟩,⟨aLq tV a 0,aIq a 4⟩)⟩],L2,[(none,λp s=>⟨[b false],[]⟩),(some 2,λp s=>upq (Ab1 p s) [(15,i s.is4),(16,i p.is3),(17,b (decide (s.is4<p.is3)))])],Ab1⟩
theorem yc3:jb4.Ok:=Lo.ok [jb3.pr] (by kernel_rfl) (.cons yc2 .nil) rfl (.cons (λa H=>by kernel_rfl) .nil) λp s=>(.of @Z8 (λF _ _ _ _ _=>by unfold Z8;(repeat' apply q9 (f:=F))<;>rfl) (by kernel_rfl))
structure Aa1 where
structure W9 where
 j6:List V3
 is3:Int
noncomputable def Ab2(p:Aa1)(s:W9):St:=⟨eL tV s.j6::.unk::.unk::i s.is3::ra 53 [],[]⟩
noncomputable def Z9{α:Type}(k:W9->α)(e:Nat->α)(z:α)(p:Aa1)(s:W9):α:=let t1:=(lp (L2 (⟨s.is3⟩:Aa0)) (⟨rt tV s.j6,0⟩:W8));(sl (decide (s.is3<(↑(List.length s.j6):Int))) (sl ((cnE tV s.j6)&&true) (sl (Nat.beq t1.1 1) (e 1) (sl (Nat.beq t1.1 2) (k ⟨t1.2.j6,W (s.is3+1)⟩) z)) z) (e 2))
noncomputable def L3(p:Aa1)(s:W9):Stp W9:=Z9 .next .exit .fail p s
noncomputable def jb5:Lo Aa1 W9:=⟨En Ha9,0,Jd5,[1,0,1,4,4],[0,3],.s .p (.s (.b (.s .p (.b (.u jb4.ls)))) .p),[⟨sLq tV::sUq::sUq::sIq::ru2 53 [],[],λa H=>(⟨⟩,⟨aLq tV a 0,aIq a 3⟩)⟩],L3,[(none,λp s=>⟨[b false],[]⟩),(some 0,λp s=>upq (Ab2 p s) [(9,i s.is3),(10,eL tV s.j6),(11,i (↑(List.length s.j6):Int)),(12,b (decide (s.is3<(↑(List.length s.j6):Int))))])],Ab2⟩
theorem yc4:jb5.Ok:=Lo.ok [jb4.pr] (by kernel_rfl) (.cons yc3 .nil) rfl (.cons (λa H=>by kernel_rfl) .nil) λp s=>(.of @Z9 (λF _ _ _ _ _=>by unfold Z9;(repeat' apply q9 (f:=F))<;>rfl) (by kernel_rfl))
noncomputable def wa7(x:List V3):Option (c7×List c9):=let t1:=(lp (L3 (⟨⟩:Aa1)) (⟨rt tV x,0⟩:W9));(sl ((cnE tV x)&&true) (sl (Nat.beq t1.1 1) (some (b false,[])) (sl (Nat.beq t1.1 2) (some (b true,[])) none)) none)
noncomputable def Sa6(x:List V3):Bool:=V0 (one r1B) (wa7 x)
noncomputable def Ea1(x:List V3):Bool:=okO (one r1B) (wa7 x)
noncomputable def pc7:Sum:=L0 (ya3 tV) (λx=>.guard (Ea1 x) (.ret ((one r1B).enc (Sa6 x),[])))
theorem Yc2:i6 prog G 59 pc7:=Da4 (bd b59 Mc9) (one r1B) (o:=wa7) λx=>ib8 (.s .p (.s (.s .p (.b (.u jb5.ls))) .p)) [jb5.pr] (by kernel_rfl) (.cons yc4 .nil) (by kernel_rfl)
structure Ud5 where
 j6:List V3
structure Ud6 where
 is3:Int
structure Ud7 where
 Hc3:List V3
 (e8 e7 g8 m0:Int)
structure Ud8 where
 is5:Int
structure ie4 where
 I1:List Pln
 (e8 e7 g8 m0:Int)
structure ie5 where
 is5:Int
structure Ud9 where
 j6:List V3
 (is6 is7:Int)
structure Vd0 where
 ph:Nat
 is8:Int
 ke1:List Pln
structure Vd1 where
 is6:Int
structure Vd2 where
 ph:Nat
 j6:List V3
 is7:Int
 ke1:List Pln
structure Vd3 where
structure Vd4 where
 ph:Nat
 j6:List V3
 is6:Int
 ke1:List Pln
noncomputable def Ab3:List (Nat×Sum):=[(58,lb8),(59,pc7)]
theorem pc8:j9 prog G Ab3:=⟨Tb7,Yc2,trivial⟩
structure R9 where
 is4:Int
structure o2 where
 ph:Nat
 is6:Int
 A0:List Int
 e7:Int
 ns5:Nat
 eh1:List (List c7)
noncomputable def eb0(p:R9)(s:o2):St:=⟨ra 3 (.ptr 0 0 0 0::i p.is4::.v (.slice none 0 0)::i s.is6::ra 127 []),[⟨0,2,[[eL tI s.A0,i s.e7]],true,false,0⟩]⟩
noncomputable def eb1(p:R9)(s:o2):St:=⟨ra 3 (.ptr 0 0 0 0::i p.is4::.sl 1 0 s.ns5 0::i s.is6::ra 127 []),[⟨0,2,[[eL tI s.A0,i s.e7]],true,false,0⟩,⟨25,3,s.eh1,true,false,0⟩]⟩
noncomputable def cc7(p:R9)(s:o2):St:=(sel (Nat.beq s.ph 1) (eb1 p s) (eb0 p s))
noncomputable def P2{α:Type}(k:o2->α)(e:Nat->α)(z:α)(p:R9)(s:o2):α:=let t1:=(w8 ⟨17,rt tI s.A0,s.e7⟩);let t2:=(w8 ⟨17,rt tI (rt tI s.A0),t1.e7⟩);let t3:=(w8 ⟨17,rt tI (rt tI (rt tI s.A0)),t2.e7⟩);let t4:=(w8 ⟨6,rt tI (rt tI (rt tI (rt tI s.A0))),t3.e7⟩);let w0:α:=(sl (t4.is0==3) (sl (decide (s.is6>2)) z (k ⟨1,W (s.is6+1),rt tI (rt tI (rt tI (rt tI s.A0))),t4.e7,1,[[i (W (t1.is0-8)),i (W (t2.is0-8)),i (W (t3.is0-8))]]⟩)) (k ⟨1,W (s.is6+1),rt tI (rt tI (rt tI (rt tI s.A0))),t4.e7,1,[[i (W (t1.is0-8)),i (W (t2.is0-8)),i (W (t3.is0-8))]]⟩));(sl (decide (s.is6<p.is4)) (sl ((cnE tI s.A0)&&true) (sl (Nat.beq t1.alt 1) (sl ((cnE tI (rt tI s.A0))&&true) (sl (Nat.beq t2.alt 1) (sl ((cnE tI (rt tI (rt tI s.A0)))&&true) (sl (Nat.beq t3.alt 1) (sl ((cnE tI (rt tI (rt tI (rt tI s.A0))))&&true) (sl (Nat.beq t4.alt 1) (sl (t4.is0==1) (sl (decide (s.is6>1)) z (sl (t4.is0==2) (sl (decide (s.is6>0)) z w0) w0)) (sl (t4.is0==2) (sl (decide (s.is6>0)) z w0) w0)) z) z) z) z) z) z) z) z) (e 1))
noncomputable def n9{α:Type}(k:o2->α)(e:Nat->α)(z:α)(p:R9)(s:o2):α:=let t1:=(w8 ⟨17,rt tI s.A0,s.e7⟩);let a0:=(i9 s.eh1 (0+(W (s.is6-1)).toNat));let a1:=(Nat.beq s.ns5 (len s.eh1)&&Nat.ble ((s.ns5+1)*24) room);let a3:=(i7 (i9 s.eh1 (0+(W (s.is6-2)).toNat)) 0);let a4:=((Nat.blt (0+(W (s.is6-1)).toNat) (len s.eh1))&&(Nat.ble (2+1) (len a0)));let a5:=(i (W (Int.tdiv (W ((toI (hdA (tlA (i7 a0 0))))+(toI (hdA (tlA a3))))) 2)));let a6:=(i (W (Int.tdiv (W ((toI (hdA (i7 a0 0)))+(toI (hdA a3)))) 2)));let a7:=(app s.eh1 [[a6,a5,i (W (Int.tdiv (W ((toI (hdA (tlA (tlA (i7 a0 0)))))+(toI (hdA (tlA (tlA a3)))))) 2))]]);let a8:=(inB (W (s.is6-1)) s.ns5);let a9:=(i (toI (hdA (tlA (i7 a0 0)))));let a10:=((Nat.blt (0+(W (s.is6-1)).toNat) (len s.eh1))&&(Nat.ble (0+3) (len a0)));let a11:=(i (toI (hdA (i7 a0 0))));let a12:=(app s.eh1 [[a11,a9,i (toI (hdA (tlA (tlA (i7 a0 0)))))]]);let a13:=(i (toI (hdA (i7 a0 2))));let a14:=(rt tI (rt tI s.A0));let t2:=(w8 ⟨17,a14,t1.e7⟩);let t3:=(w8 ⟨17,rt tI a14,t2.e7⟩);let a2:=(rt tI (rt tI a14));let t4:=(w8 ⟨6,a2,t3.e7⟩);let w0:α:=(sl (t4.is0==3) (sl (decide (s.is6>2)) (sl a8 (sl (a4&&(ma9 [CK.int .i64] (i7 a0 2))) (sl a1 (k ⟨1,W (s.is6+1),a2,t4.e7,s.ns5+1,app s.eh1 [[i (W (t1.is0-8)),i (W (t2.is0-8)),a13]]⟩) z) z) z) (sl a1 (k ⟨1,W (s.is6+1),a2,t4.e7,s.ns5+1,app s.eh1 [[i (W (t1.is0-8)),i (W (t2.is0-8)),i (W (t3.is0-8))]]⟩) z)) (sl a1 (k ⟨1,W (s.is6+1),a2,t4.e7,s.ns5+1,app s.eh1 [[i (W (t1.is0-8)),i (W (t2.is0-8)),i (W (t3.is0-8))]]⟩) z));let w1:α:=(sl a8 (sl (a10&&(ma9 [CK.int .i64,CK.int .i64,CK.int .i64] (i7 a0 0))) (sl (t4.is0==3) (sl (decide (s.is6>2)) (sl a8 (sl (a4&&(ma9 [CK.int .i64] (i7 a0 2))) (sl a1 (k ⟨1,W (s.is6+1),a2,t4.e7,s.ns5+1,app s.eh1 [[a11,a9,a13]]⟩) z) z) z) (sl a1 (k ⟨1,W (s.is6+1),a2,t4.e7,s.ns5+1,a12⟩) z)) (sl a1 (k ⟨1,W (s.is6+1),a2,t4.e7,s.ns5+1,a12⟩) z)) z) z);let w2:α:=(sl (t4.is0==3) (sl (decide (s.is6>2)) (sl a8 (sl (a4&&(ma9 [CK.int .i64] (i7 a0 2))) (sl a1 (k ⟨1,W (s.is6+1),a2,t4.e7,s.ns5+1,app s.eh1 [[a6,a5,a13]]⟩) z) z) z) (sl a1 (k ⟨1,W (s.is6+1),a2,t4.e7,s.ns5+1,a7⟩) z)) (sl a1 (k ⟨1,W (s.is6+1),a2,t4.e7,s.ns5+1,a7⟩) z));(sl (decide (s.is6<p.is4)) (sl ((cnE tI s.A0)&&true) (sl (Nat.beq t1.alt 1) (sl ((cnE tI (rt tI s.A0))&&true) (sl (Nat.beq t2.alt 1) (sl ((cnE tI a14)&&true) (sl (Nat.beq t3.alt 1) (sl ((cnE tI (rt tI a14))&&true) (sl (Nat.beq t4.alt 1) (sl (t4.is0==1) (sl (decide (s.is6>1)) (sl a8 (sl (a10&&(ma9 [CK.int .i64,CK.int .i64,CK.int .i64] (i7 a0 0))) (sl (inB (W (s.is6-2)) s.ns5) (sl (((Nat.blt (0+(W (s.is6-2)).toNat) (len s.eh1))&&(Nat.ble (0+3) (len (i9 s.eh1 (0+(W (s.is6-2)).toNat)))))&&(ma9 [CK.int .i64,CK.int .i64,CK.int .i64] a3)) (sl (t4.is0==2) (sl (decide (s.is6>0)) w1 w2) w2) z) z) z) z) (sl (t4.is0==2) (sl (decide (s.is6>0)) w1 w0) w0)) (sl (t4.is0==2) (sl (decide (s.is6>0)) w1 w0) w0)) z) z) z) z) z) z) z) z) (e 2))
noncomputable def ba8(p:R9)(s:o2):Stp o2:=(sel (Nat.beq s.ph 1) (n9 .next .exit .fail p s) (P2 .next .exit .fail p s))
noncomputable def Sa7:Lo R9 o2:=⟨En Ab3,0,we4,[1,1,1,1,0,1,4,4],[3,4,5,6],.p,[⟨ru2 3 (sPq 0::sIq::.s (.o .nil)::sIq::ru2 127 []),[⟨0,2,true,some [[.c 1 (nL tI),.o (.int .i64)]]⟩],λa H=>(⟨aIq a 4⟩,⟨0,aIq a 6,hLq tI H 0 0 0,hIq H 0 0 1,0,[]⟩)⟩,⟨ru2 3 (sPq 0::sIq::.s (.o (.sl 1 0 (some 0) none))::sIq::ru2 127 []),[⟨0,2,true,some [[.c 1 (nL tI),.o (.int .i64)]]⟩,⟨25,3,true,none⟩],λa H=>(⟨aIq a 4⟩,⟨1,aIq a 6,hLq tI H 0 0 0,hIq H 0 0 1,slN (slT a 5),elT H 1⟩)⟩],ba8,[(some 0,λp s=>upq (eb0 p s) [(18,i s.is6),(19,i p.is4),(20,b (decide (s.is6<p.is4)))]),(some 0,λp s=>upq (eb1 p s) [(18,i s.is6),(19,i p.is4),(20,b (decide (s.is6<p.is4)))])],cc7⟩
theorem cc8:Sa7.Ok:=Lo.ok [] (by kernel_rfl) .nil rfl (.cons (λa H=>by kernel_rfl) (.cons (λa H=>by kernel_rfl) .nil)) λp s=>(.sel (Nat.beq s.ph 1) (.of @n9 (λF _ _ _ _ _=>by unfold n9;(repeat' apply q9 (f:=F))<;>rfl) (by kernel_rfl)) (.of @P2 (λF _ _ _ _ _=>by unfold P2;(repeat' apply q9 (f:=F))<;>rfl) (by kernel_rfl)))
noncomputable def ia0(x:List Int):Option (c7×List c9):=let t1:=(w8 ⟨5,rt tI x,0⟩);let t2:=(lp (ba8 (⟨W (4+t1.is0)⟩:R9)) (⟨0,0,rt tI (rt tI x),t1.e7,0,[]⟩:o2));let t3:=(Sa6 []);let t4:=(Sa6 (lsL tV t2.2.ns5 (λk=>i9 t2.2.eh1 (0+k))));let a0:=(i7 (i9 t2.2.eh1 0) 0);let a1:=(i (toI (hdA (tlA (tlA a0)))));let a2:=(i (W ((toI (hdA a0))-3)));let a3:=(setAt t2.2.eh1 1 (O0 (i9 t2.2.eh1 1) 0 [a2,i (toI (hdA (tlA a0))),a1]));let a4:=(i (W ((toI (hdA (tlA a0)))-2)));(sl ((cnE tI x)&&true) (sl (Nat.beq t1.alt 1) (sl ((cnE tI (rt tI x))&&true) (sl (Nat.beq t2.1 1) (sl (Ea1 []) (sl t3 none (some (.v (.slice none 0 0),[]))) none) (sl (Nat.beq t2.1 2) (sl (okL tV t2.2.ns5 (λk=>i9 t2.2.eh1 (0+k))) (sl (Ea1 (lsL tV t2.2.ns5 (λk=>i9 t2.2.eh1 (0+k)))) (sl t4 (sl (inB 0 t2.2.ns5) (sl (((Nat.blt 0 (len t2.2.eh1))&&(Nat.ble (0+3) (len (i9 t2.2.eh1 0))))&&(ma9 [CK.int .i64,CK.int .i64,CK.int .i64] a0)) (sl (inB 1 t2.2.ns5) (sl ((Nat.blt 1 (len t2.2.eh1))&&(Nat.ble (0+3) (len (i9 t2.2.eh1 1)))) (sl (inB 2 t2.2.ns5) (sl ((Nat.blt 2 (len a3))&&(Nat.ble (0+3) (len (i9 a3 2)))) (sl (inB 3 t2.2.ns5) (sl ((Nat.blt 3 (len (setAt a3 2 (O0 (i9 a3 2) 0 [i (toI (hdA a0)),a4,a1]))))&&(Nat.ble (0+3) (len (i9 (setAt a3 2 (O0 (i9 a3 2) 0 [i (toI (hdA a0)),a4,a1])) 3)))) (some (.sl 0 0 t2.2.ns5 0,[⟨25,3,setAt (setAt a3 2 (O0 (i9 a3 2) 0 [i (toI (hdA a0)),a4,a1])) 3 (O0 (i9 (setAt a3 2 (O0 (i9 a3 2) 0 [i (toI (hdA a0)),a4,a1])) 3) 0 [i (toI (hdA a0)),i (toI (hdA (tlA a0))),i (W ((toI (hdA (tlA (tlA a0))))-1))]),true,false,0⟩])) none) none) none) none) none) none) none) none) (some (.sl 0 0 t2.2.ns5 0,[⟨25,3,t2.2.eh1,true,false,0⟩]))) none) none) none)) none) none) none)
noncomputable def o7(x:List Int):List V3:=V0 (one (r1L tV)) (ia0 x)
noncomputable def Ma3(x:List Int):Bool:=okO (one (r1L tV)) (ia0 x)
noncomputable def Nc0:Sum:=L0 (ya3 tI) (λx=>.guard (Ma3 x) (.ret ((one (r1L tV)).enc (o7 x),[])))
theorem yc5:i6 prog G 33 Nc0:=Da4 (bd b33 pc8) (one (r1L tV)) (o:=ia0) λx=>ib8 (.s .p (.s .p (.s .p (.s .p (.s (.s .p (.b (.u Sa7.ls))) .p))))) [Sa7.pr] (by kernel_rfl) (.cons cc8 .nil) (by kernel_rfl)
noncomputable def Nc1:List (Nat×Sum):=[]
theorem yc6:j9 prog G Nc1:=trivial
noncomputable def K3(x:V3)(y:V3):V3:=(⟨W (x.x-y.x),W (x.y-y.y),W (x.z-y.z)⟩:V3)
noncomputable def Ya2:Sum:=Ha4 (Z4 tV) (Z4 tV) (λx y=>.ret ((one r1V).enc (K3 x y),[]))
theorem jb6:i6 prog G 27 Ya2:=ib1 (bd b27 yc6) λx y=>y5 (by kernel_rfl)
noncomputable def yc7:List (Nat×Sum):=[(27,Ya2)]
theorem pc9:j9 prog G yc7:=⟨jb6,trivial⟩
noncomputable def qa9(x:Pln):Pln:=let t1:=(K3 (⟨0,0,0⟩:V3) x.n);(⟨t1,W (0-x.b)⟩:Pln)
noncomputable def Mb2:Sum:=L0 (Z4 tP) (λx=>.ret ((one r1P).enc (qa9 x),[]))
theorem yc8:i6 prog G 78 Mb2:=ib0 (bd b78 pc9) λx=>y5 (by kernel_rfl)
noncomputable def yc9:List (Nat×Sum):=[(83,Ja6)]
theorem qc0:j9 prog G yc9:=⟨db9,trivial⟩
noncomputable def Aa2(x:V3):Option (c7×List c9):=let t1:=(V1 [x.x,x.y,x.z]);(sl (V2 [x.x,x.y,x.z]) (sl (t1==0) (some (.tup [.agg [i 0,i 0,i 0],i 0],[])) (sl (t1==0) none (sl (t1==0) none (sl (t1==0) none (some (.tup [.agg [i (W (Int.tdiv x.x t1)),i (W (Int.tdiv x.y t1)),i (W (Int.tdiv x.z t1))],i t1],[])))))) none)
noncomputable def ra0(x:V3):V3×Int:=V0 (two r1V r1I) (Aa2 x)
noncomputable def Ma4(x:V3):Bool:=okO (two r1V r1I) (Aa2 x)
noncomputable def Mb3:Sum:=L0 (Z4 tV) (λx=>.guard (Ma4 x) (.ret ((two r1V r1I).enc (ra0 x),[])))
theorem zc0:i6 prog G 98 Mb3:=Da4 (bd b98 qc0) (two r1V r1I) (o:=Aa2) λx=>y5 (by kernel_rfl)
noncomputable def Tb8:List (Nat×Sum):=[(20,Sa3),(27,Ya2),(36,la5),(98,Mb3),(35,na7)]
theorem Mb4:j9 prog G Tb8:=⟨Ya1,jb6,na8,zc0,qa7,trivial⟩
noncomputable def ja3(x:V3)(y:V3)(z:V3):Option (c7×List c9):=let t1:=(ha7 x);let t2:=(ha7 y);let t3:=(ha7 z);let t4:=(K3 y x);let t5:=(K3 z x);let t6:=(A1 t4 t5);let t7:=(ra0 t6);let t8:=(w7 t7.1 x);(sl (ha8 x) (sl (!t1) (some (.tup [.agg [i 0,i 0,i 0,i 0],b false],[])) (sl (ha8 y) (sl (!t2) (some (.tup [.agg [i 0,i 0,i 0,i 0],b false],[])) (sl (ha8 z) (sl (!t3) (some (.tup [.agg [i 0,i 0,i 0,i 0],b false],[])) (sl (Ma4 t6) (some (.tup [.agg [i t7.1.x,i t7.1.y,i t7.1.z,i t8],b (decide (t7.2>0))],[])) none)) none)) none)) none)
noncomputable def E9(x:V3)(y:V3)(z:V3):Pln×Bool:=V0 (two r1P r1B) (ja3 x y z)
noncomputable def ba9(x:V3)(y:V3)(z:V3):Bool:=okO (two r1P r1B) (ja3 x y z)
noncomputable def Ja8:Sum:=Kb1 (Z4 tV) (Z4 tV) (Z4 tV) (λx y z=>.guard (ba9 x y z) (.ret ((two r1P r1B).enc (E9 x y z),[])))
theorem eb2:i6 prog G 77 Ja8:=Xd6 (bd b77 Mb4) (two r1P r1B) (o:=ja3) λx y z=>y5 (by kernel_rfl)
noncomputable def zc1:List (Nat×Sum):=[(52,zb7),(20,Sa3),(35,na7),(53,ab1)]
theorem qc1:j9 prog G zc1:=⟨pc0,Ya1,qa7,rb5,trivial⟩
noncomputable def Aa3(x:Pln)(y:V3):Option (c7×List c9):=let t1:=(Fa7 x);let t2:=(ha7 y);let t3:=(w7 x.n y);let t4:=(Y0 t3 x.b);(sl (Fa8 x) (sl (!t1) (some (i 0,[])) (sl (ha8 y) (sl (!t2) (some (i 0,[])) (sl (Y1 t3 x.b) (some (i t4,[])) none)) none)) none)
noncomputable def J2(x:Pln)(y:V3):Int:=V0 (one r1I) (Aa3 x y)
noncomputable def R3(x:Pln)(y:V3):Bool:=okO (one r1I) (Aa3 x y)
noncomputable def ra1:Sum:=Ha4 (Z4 tP) (Z4 tV) (λx y=>.guard (R3 x y) (.ret ((one r1I).enc (J2 x y),[])))
theorem ta3:i6 prog G 30 ra1:=Sb1 (bd b30 qc1) (one r1I) (o:=Aa3) λx y=>y5 (by kernel_rfl)
structure Ga1 where
 (da7 da8 da9 e8 e7 g8 m0:Int)
noncomputable def qc2:List (Nat×Sum):=[(30,ra1)]
theorem cc9:j9 prog G qc2:=⟨ta3,trivial⟩
structure Ga2 where
 alt:Nat
 bs0:Bool
noncomputable def la6{α:Type}(kk:Ga2->α)(x:Ga1):α:=let t1:=(J2 (⟨(⟨x.e8,x.e7,x.g8⟩:V3),x.m0⟩:Pln) (⟨x.da7,x.da8,x.da9⟩:V3));(sl (R3 (⟨(⟨x.e8,x.e7,x.g8⟩:V3),x.m0⟩:Pln) (⟨x.da7,x.da8,x.da9⟩:V3)) (kk ⟨1,t1 != 0⟩) (kk ⟨0,false⟩))
noncomputable def Ga3(x:Ga1):Ga2:=la6 (λr=>r) x
noncomputable def Sa8(x:Ga1)(r:Ga2):DT (c7×List c9):=(.ite (Nat.beq r.alt 1) (.ret (b r.bs0,[⟨0,4,[[i x.e8,i x.e7,i x.g8,i x.m0]],true,false,0⟩])) .fail)
theorem zc2{α β:Type}(F:α->β)(kk:Ga2->α)(x:Ga1):F (la6 kk x)=la6 (λr=>F (kk r)) x:=by unfold la6;(repeat' apply q9 (f:=F))<;>rfl
noncomputable def Ab4:Sum:=Va7 ⟨[.agg (kLq 3),sPq 0],[⟨0,4,true,some [kLq 4]⟩],λa H=>(⟨cIq a 0 0,cIq a 0 1,cIq a 0 2,hIq H 0 0 0,hIq H 0 0 1,hIq H 0 0 2,hIq H 0 0 3⟩,())⟩ (λx=>Sa8 x (Ga3 x))
theorem qc3:i6 prog G 94 Ab4:=R2 (enc:=λx=>⟨[.agg [i x.da7,i x.da8,i x.da9],.ptr 0 0 0 0],[⟨0,4,[[i x.e8,i x.e7,i x.g8,i x.m0]],true,false,0⟩]⟩) (λa H=>by kernel_rfl) (bd b94 cc9) λx=>y5 (Qhd (b:=la6 (λr=>(Sa8 x r).run) x) (by kernel_rfl) (zc2 (λr=>(Sa8 x r).run) (λr=>r) x).symm)
structure T1 where
 j6:List V3
 (e8 e7 g8 m0:Int)
noncomputable def ta4:List (Nat×Sum):=[(94,Ab4)]
theorem Va8:j9 prog G ta4:=⟨qc3,trivial⟩
structure G7 where
 j6:List V3
 (is7 e8 e7 g8 m0:Int)
structure m9 where
 is8:Int
noncomputable def oa0(p:G7)(s:m9):St:=⟨eL tV p.j6::.fn 94 [.ptr 0 0 0 0]::ra 5 (i p.is7::i s.is8::ra 10 []),[⟨0,4,[[i p.e8,i p.e7,i p.g8,i p.m0]],true,false,0⟩]⟩
noncomputable def C1{α:Type}(k:m9->α)(e:Nat->α)(z:α)(p:G7)(s:m9):α:=let t1:=(Ga3 ⟨(gL tV p.j6 s.is8.toNat).x,(gL tV p.j6 s.is8.toNat).y,(gL tV p.j6 s.is8.toNat).z,p.e8,p.e7,p.g8,p.m0⟩);(sl (decide (s.is8<p.is7)) (sl (inB s.is8 (List.length p.j6)) (sl (Nat.beq t1.alt 1) (sl t1.bs0 (e 1) (k ⟨W (s.is8+1)⟩)) z) z) (e 2))
noncomputable def E2(p:G7)(s:m9):Stp m9:=C1 .next .exit .fail p s
noncomputable def aa7:Lo G7 m9:=⟨En ta4,1,Jd6,[1,0,1,4,4],[0,1,7,8],.p,[⟨sLq tV::.fn 94 [.o (.ptr 0 0 0 0)]::ru2 5 (sIq::sIq::ru2 10 []),[⟨0,4,true,some [kLq 4]⟩],λa H=>(⟨aLq tV a 0,aIq a 7,hIq H 0 0 0,hIq H 0 0 1,hIq H 0 0 2,hIq H 0 0 3⟩,⟨aIq a 8⟩)⟩],E2,[(none,λp s=>⟨[i s.is8],[⟨0,4,[[i p.e8,i p.e7,i p.g8,i p.m0]],true,false,0⟩]⟩),(some 0,λp s=>upq (oa0 p s) [(9,b (decide (s.is8<p.is7)))])],oa0⟩
theorem Sa9:aa7.Ok:=Lo.ok [] (by kernel_rfl) .nil rfl (.cons (λa H=>by kernel_rfl) .nil) λp s=>(.of @C1 (λF _ _ _ _ _=>by unfold C1;(repeat' apply q9 (f:=F))<;>rfl) (by kernel_rfl))
structure T2 where
 alt:Nat
 is0:Int
noncomputable def D1{α:Type}(kk:T2->α)(x:T1):α:=let t1:=(lp (E2 (⟨rt tV x.j6,(↑(List.length x.j6):Int),x.e8,x.e7,x.g8,x.m0⟩:G7)) (⟨0⟩:m9));(sl ((cnE tV x.j6)&&true) (sl (Nat.beq t1.1 1) (kk ⟨1,t1.2.is8⟩) (sl (Nat.beq t1.1 2) (kk ⟨1,-1⟩) (kk ⟨0,0⟩))) (kk ⟨0,0⟩))
noncomputable def T3(x:T1):T2:=D1 (λr=>r) x
noncomputable def ea2(x:T1)(r:T2):DT (c7×List c9):=(.ite (Nat.beq r.alt 1) (.ret (i r.is0,[⟨0,4,[[i x.e8,i x.e7,i x.g8,i x.m0]],true,false,0⟩])) .fail)
theorem eb3{α β:Type}(F:α->β)(kk:T2->α)(x:T1):F (D1 kk x)=D1 (λr=>F (kk r)) x:=by unfold D1;(repeat' apply q9 (f:=F))<;>rfl
noncomputable def xa5:Sum:=Va7 ⟨[sLq tV,.fn 94 [.o (.ptr 0 0 0 0)]],[⟨0,4,true,some [kLq 4]⟩],λa H=>(⟨aLq tV a 0,hIq H 0 0 0,hIq H 0 0 1,hIq H 0 0 2,hIq H 0 0 3⟩,())⟩ (λx=>ea2 x (T3 x))
theorem ab6:i6 prog G 88 xa5:=R2 (enc:=λx=>⟨[eL tV x.j6,.fn 94 [.ptr 0 0 0 0]],[⟨0,4,[[i x.e8,i x.e7,i x.g8,i x.m0]],true,false,0⟩]⟩) (λa H=>by kernel_rfl) (bd b88 Va8) λx=>ib8 (.s .p (.s (.s .p (.b (.u aa7.ls))) .p)) [aa7.pr] (by kernel_rfl) (.cons Sa9 .nil) (Qhd (b:=D1 (λr=>(ea2 x r).run) x) (by kernel_rfl) (eb3 (λr=>(ea2 x r).run) (λr=>r) x).symm)
structure L7 where
 j6:List V3
 (e8 e7 g8 m0:Int)
noncomputable def Ma5:List (Nat×Sum):=[(88,xa5)]
theorem Ja9:j9 prog G Ma5:=⟨ab6,trivial⟩
structure L8 where
 alt:Nat
 bs0:Bool
noncomputable def y6{α:Type}(kk:L8->α)(x:L7):α:=let t1:=(T3 ⟨rt tV x.j6,x.e8,x.e7,x.g8,x.m0⟩);(sl ((cnE tV x.j6)&&true) (sl (Nat.beq t1.alt 1) (kk ⟨1,decide (t1.is0>=0)⟩) (kk ⟨0,false⟩)) (kk ⟨0,false⟩))
noncomputable def o3(x:L7):L8:=y6 (λr=>r) x
noncomputable def X0(x:L7)(r:L8):DT (c7×List c9):=(.ite (Nat.beq r.alt 1) (.ret (b r.bs0,[⟨0,4,[[i x.e8,i x.e7,i x.g8,i x.m0]],true,false,0⟩])) .fail)
theorem Ta0{α β:Type}(F:α->β)(kk:L8->α)(x:L7):F (y6 kk x)=y6 (λr=>F (kk r)) x:=by unfold y6;(repeat' apply q9 (f:=F))<;>rfl
noncomputable def oa1:Sum:=Va7 ⟨[sLq tV,.fn 94 [.o (.ptr 0 0 0 0)]],[⟨0,4,true,some [kLq 4]⟩],λa H=>(⟨aLq tV a 0,hIq H 0 0 0,hIq H 0 0 1,hIq H 0 0 2,hIq H 0 0 3⟩,())⟩ (λx=>X0 x (o3 x))
theorem Ma6:i6 prog G 70 oa1:=R2 (enc:=λx=>⟨[eL tV x.j6,.fn 94 [.ptr 0 0 0 0]],[⟨0,4,[[i x.e8,i x.e7,i x.g8,i x.m0]],true,false,0⟩]⟩) (λa H=>by kernel_rfl) (bd b70 Ja9) λx=>y5 (Qhd (b:=y6 (λr=>(X0 x r).run) x) (by kernel_rfl) (Ta0 (λr=>(X0 x r).run) (λr=>r) x).symm)
noncomputable def lb9:List (Nat×Sum):=[]
theorem Tb9:j9 prog G lb9:=trivial
@[reducible] noncomputable def ga6:Sum:=Hb5 (En lb9) we9
theorem ja4:i6 prog G 46 ga6:=bd b46 Tb9
noncomputable def Ma7:List (Nat×Sum):=[(77,Ja8),(70,oa1),(46,ga6)]
theorem zc3:j9 prog G Ma7:=⟨eb2,Ma6,ja4,trivial⟩
structure Y2 where
 (is3 is4 is9 w6 Wa5 H6 hc3:Int)
 (d7 g7:List V3)
structure F4 where
 B0:Int
noncomputable def rb7(p:Y2)(s:F4):St:=⟨.unk::.ptr 0 0 0 0::.unk::i p.is3::i p.is4::ra 4 (i p.is9::i p.w6::ra 5 (i p.Wa5::i p.H6::ra 5 (i p.hc3::i s.B0::ra 35 (i 0::.unk::.ptr 1 0 0 0::.ptr 2 0 0 0::ra 8 [])))),[⟨0,1,[[eL tV p.d7]],true,false,0⟩,⟨0,1,[[eL tV p.g7]],true,false,0⟩,⟨0,1,[[b false]],true,false,0⟩]⟩
noncomputable def ja5{α:Type}(k:F4->α)(e:Nat->α)(z:α)(p:Y2)(s:F4):α:=let t1:=(E9 (gL tV p.d7 s.B0.toNat) (gL tV p.d7 p.is4.toNat) (gL tV p.d7 p.is3.toNat));let t2:=(o3 ⟨rt tV p.g7,t1.1.n.x,t1.1.n.y,t1.1.n.z,t1.1.b⟩);(sl (decide (s.B0<p.hc3)) (sl (inB s.B0 (List.length p.d7)) (sl (inB p.is4 (List.length p.d7)) (sl (inB p.is3 (List.length p.d7)) (sl (ba9 (gL tV p.d7 s.B0.toNat) (gL tV p.d7 p.is4.toNat) (gL tV p.d7 p.is3.toNat)) (sl t1.2 (sl t1.2 (sl ((cnE tV p.g7)&&true) (sl (Nat.beq t2.alt 1) (e 1) z) z) (k ⟨W (s.B0+1)⟩)) (sl t1.2 z (k ⟨W (s.B0+1)⟩))) z) z) z) z) (e 2))
noncomputable def L9(p:Y2)(s:F4):Stp F4:=ja5 .next .exit .fail p s
noncomputable def ab7:Lo Y2 F4:=⟨En Ma7,0,Zd8,[1,0,1,4,4,1,4,4,1,1,0,4,1,1,4,4,1,1,0,4,1,1,4,4],[1,3,4,9,10,16,17,23,24,60,62,63],.p,[⟨sUq::sPq 0::sUq::sIq::sIq::ru2 4 (sIq::sIq::ru2 5 (sIq::sIq::ru2 5 (sIq::sIq::ru2 35 (.s (.o (.lit .i64 0))::sUq::sPq 1::sPq 2::ru2 8 [])))),[⟨0,1,true,some [[.c 3 (nL tV)]]⟩,⟨0,1,true,some [[.c 3 (nL tV)]]⟩,⟨0,1,true,some [[.o (.blit false)]]⟩],λa H=>(⟨aIq a 3,aIq a 4,aIq a 9,aIq a 10,aIq a 16,aIq a 17,aIq a 23,hLq tV H 0 0 0,hLq tV H 1 0 0⟩,⟨aIq a 24⟩)⟩],L9,[(none,λp s=>let t1:=(E9 (gL tV p.d7 s.B0.toNat) (gL tV p.d7 p.is4.toNat) (gL tV p.d7 p.is3.toNat));let t2:=(o3 ⟨rt tV p.g7,t1.1.n.x,t1.1.n.y,t1.1.n.z,t1.1.b⟩);⟨.unk::.ptr 0 0 0 0::.unk::i p.is3::i p.is4::i s.B0::.ptr 3 0 0 0::b t1.2::.unk::i p.is9::i p.w6::ra 5 (i p.Wa5::i p.H6::ra 5 (i p.hc3::i s.B0::b (decide (s.B0<p.hc3))::i s.B0::.tup [.agg [i t1.1.n.x,i t1.1.n.y,i t1.1.n.z,i t1.1.b],b t1.2]::eL tV p.d7::i s.B0::.tptr [i (gL tV p.d7 s.B0.toNat).x,i (gL tV p.d7 s.B0.toNat).y,i (gL tV p.d7 s.B0.toNat).z]::.agg [i (gL tV p.d7 s.B0.toNat).x,i (gL tV p.d7 s.B0.toNat).y,i (gL tV p.d7 s.B0.toNat).z]::eL tV p.d7::i p.is4::.tptr [i (gL tV p.d7 p.is4.toNat).x,i (gL tV p.d7 p.is4.toNat).y,i (gL tV p.d7 p.is4.toNat).z]::.agg [i (gL tV p.d7 p.is4.toNat).x,i (gL tV p.d7 p.is4.toNat).y,i (gL tV p.d7 p.is4.toNat).z]::eL tV p.d7::i p.is3::.tptr [i (gL tV p.d7 p.is3.toNat).x,i (gL tV p.d7 p.is3.toNat).y,i (gL tV p.d7 p.is3.toNat).z]::.agg [i (gL tV p.d7 p.is3.toNat).x,i (gL tV p.d7 p.is3.toNat).y,i (gL tV p.d7 p.is3.toNat).z]::.tup [.agg [i t1.1.n.x,i t1.1.n.y,i t1.1.n.z,i t1.1.b],b t1.2]::.agg [i t1.1.n.x,i t1.1.n.y,i t1.1.n.z,i t1.1.b]::b t1.2::b t1.2::b true::.unk::.agg [i t1.1.n.x,i t1.1.n.y,i t1.1.n.z,i t1.1.b]::b false::b true::b true::.unk::u::u::u::u::b true::b true::ra 3 (i 1::.unk::.ptr 1 0 0 0::.ptr 2 0 0 0::ra 8 []))),[⟨0,1,[[eL tV p.d7]],true,false,0⟩,⟨0,1,[[eL tV p.g7]],true,false,0⟩,⟨0,1,[[b (!t2.bs0)]],true,false,0⟩,⟨0,4,[[i t1.1.n.x,i t1.1.n.y,i t1.1.n.z,i t1.1.b]],true,false,0⟩,⟨0,4,[[i t1.1.n.x,i t1.1.n.y,i t1.1.n.z,i t1.1.b]],true,false,0⟩]⟩),(some 4,λp s=>upq (rb7 p s) [(25,b (decide (s.B0<p.hc3)))])],rb7⟩
theorem qc4:ab7.OkM:=Lo.okM [] (by kernel_rfl) .nil rfl (.cons (λa H=>by kernel_rfl) .nil) λp s=>(.of @ja5 (λF _ _ _ _ _=>by unfold ja5;(repeat' apply q9 (f:=F))<;>rfl) (by kernel_rfl))
structure ea3 where
 (is3 is9 w6 Wa5:Int)
structure I6 where
 H6:Int
 (d7 g7:List V3)
noncomputable def rb8(p:ea3)(s:I6):St:=⟨.unk::.ptr 0 0 0 0::.unk::i p.is3::ra 5 (i p.is9::i p.w6::ra 5 (i p.Wa5::i s.H6::ra 42 (i 0::.unk::.ptr 1 0 0 0::.ptr 2 0 0 0::ra 8 []))),[⟨0,1,[[eL tV s.d7]],true,false,0⟩,⟨0,1,[[eL tV s.g7]],true,false,0⟩,⟨0,1,[[b false]],true,false,0⟩]⟩
noncomputable def ja6{α:Type}(k:I6->α)(e:Nat->α)(z:α)(p:ea3)(s:I6):α:=let t1:=(lp (L9 (⟨p.is3,s.H6,p.is9,p.w6,p.Wa5,s.H6,(↑(s.H6.toNat-0):Int),rt tV s.d7,rt tV s.g7⟩:Y2)) (⟨0⟩:F4));(sl (decide (s.H6<p.Wa5)) (sl (inB s.H6 ((List.length s.d7)+1)) (sl ((cnE tV s.d7)&&((cnE tV s.g7)&&true)) (sl (Nat.beq t1.1 1) (e 1) (sl (Nat.beq t1.1 2) (k ⟨W (s.H6+1),rt tV s.d7,rt tV s.g7⟩) z)) z) z) (e 2))
noncomputable def S1(p:ea3)(s:I6):Stp I6:=ja6 .next .exit .fail p s
noncomputable def ab8:Lo ea3 I6:=⟨En Ma7,0,Zd8,[1,0,1,4,4,1,4,4,1,1,0,4,1,1,4,4],[1,3,9,10,16,17,60,62,63],.s .p (.s .p (.s (.b (.s .p (.s .p (.b (.u ab7.lsM))))) .p)),[⟨sUq::sPq 0::sUq::sIq::ru2 5 (sIq::sIq::ru2 5 (sIq::sIq::ru2 42 (.s (.o (.lit .i64 0))::sUq::sPq 1::sPq 2::ru2 8 []))),[⟨0,1,true,some [[.c 3 (nL tV)]]⟩,⟨0,1,true,some [[.c 3 (nL tV)]]⟩,⟨0,1,true,some [[.o (.blit false)]]⟩],λa H=>(⟨aIq a 3,aIq a 9,aIq a 10,aIq a 16⟩,⟨aIq a 17,hLq tV H 0 0 0,hLq tV H 1 0 0⟩)⟩],S1,[(none,λp s=>let t1:=(lp (L9 (⟨p.is3,s.H6,p.is9,p.w6,p.Wa5,s.H6,(↑(s.H6.toNat-0):Int),rt tV s.d7,rt tV s.g7⟩:Y2)) (⟨0⟩:F4));let t2:=(E9 (gL tV (rt tV s.d7) t1.2.B0.toNat) (gL tV (rt tV s.d7) s.H6.toNat) (gL tV (rt tV s.d7) p.is3.toNat));let t3:=(o3 ⟨rt tV (rt tV s.g7),t2.1.n.x,t2.1.n.y,t2.1.n.z,t2.1.b⟩);⟨.unk::.ptr 0 0 0 0::.unk::i p.is3::i s.H6::i t1.2.B0::.ptr 3 0 0 0::b t2.2::.unk::i p.is9::i p.w6::ra 5 (i p.Wa5::i s.H6::ra 5 (i (↑(s.H6.toNat-0):Int)::i t1.2.B0::b (decide (t1.2.B0<(↑(s.H6.toNat-0):Int)))::i t1.2.B0::.tup [.agg [i t2.1.n.x,i t2.1.n.y,i t2.1.n.z,i t2.1.b],b t2.2]::eL tV (rt tV s.d7)::i t1.2.B0::.tptr [i (gL tV (rt tV s.d7) t1.2.B0.toNat).x,i (gL tV (rt tV s.d7) t1.2.B0.toNat).y,i (gL tV (rt tV s.d7) t1.2.B0.toNat).z]::.agg [i (gL tV (rt tV s.d7) t1.2.B0.toNat).x,i (gL tV (rt tV s.d7) t1.2.B0.toNat).y,i (gL tV (rt tV s.d7) t1.2.B0.toNat).z]::eL tV (rt tV s.d7)::i s.H6::.tptr [i (gL tV (rt tV s.d7) s.H6.toNat).x,i (gL tV (rt tV s.d7) s.H6.toNat).y,i (gL tV (rt tV s.d7) s.H6.toNat).z]::.agg [i (gL tV (rt tV s.d7) s.H6.toNat).x,i (gL tV (rt tV s.d7) s.H6.toNat).y,i (gL tV (rt tV s.d7) s.H6.toNat).z]::eL tV (rt tV s.d7)::i p.is3::.tptr [i (gL tV (rt tV s.d7) p.is3.toNat).x,i (gL tV (rt tV s.d7) p.is3.toNat).y,i (gL tV (rt tV s.d7) p.is3.toNat).z]::.agg [i (gL tV (rt tV s.d7) p.is3.toNat).x,i (gL tV (rt tV s.d7) p.is3.toNat).y,i (gL tV (rt tV s.d7) p.is3.toNat).z]::.tup [.agg [i t2.1.n.x,i t2.1.n.y,i t2.1.n.z,i t2.1.b],b t2.2]::.agg [i t2.1.n.x,i t2.1.n.y,i t2.1.n.z,i t2.1.b]::b t2.2::b t2.2::b true::.unk::.agg [i t2.1.n.x,i t2.1.n.y,i t2.1.n.z,i t2.1.b]::b false::b true::b true::.unk::u::u::u::u::b true::b true::ra 3 (i 1::.unk::.ptr 1 0 0 0::.ptr 2 0 0 0::ra 8 []))),[⟨0,1,[[eL tV (rt tV s.d7)]],true,false,0⟩,⟨0,1,[[eL tV (rt tV s.g7)]],true,false,0⟩,⟨0,1,[[b (!t3.bs0)]],true,false,0⟩,⟨0,4,[[i t2.1.n.x,i t2.1.n.y,i t2.1.n.z,i t2.1.b]],true,false,0⟩,⟨0,4,[[i t2.1.n.x,i t2.1.n.y,i t2.1.n.z,i t2.1.b]],true,false,0⟩]⟩),(some 2,λp s=>upq (rb8 p s) [(18,b (decide (s.H6<p.Wa5)))])],rb8⟩
theorem qc5:ab8.OkM:=Lo.okM [ab7.prM] (by kernel_rfl) (.cons qc4 .nil) rfl (.cons (λa H=>by kernel_rfl) .nil) λp s=>(.of @ja6 (λF _ _ _ _ _=>by unfold ja6;(repeat' apply q9 (f:=F))<;>rfl) (by kernel_rfl))
structure ta5 where
 is9:Int
structure R4 where
 w6:Int
 (d7 g7:List V3)
noncomputable def rb9(p:ta5)(s:R4):St:=⟨.unk::.ptr 0 0 0 0::ra 7 (i p.is9::i s.w6::ra 49 (i 0::.unk::.ptr 1 0 0 0::.ptr 2 0 0 0::ra 8 [])),[⟨0,1,[[eL tV s.d7]],true,false,0⟩,⟨0,1,[[eL tV s.g7]],true,false,0⟩,⟨0,1,[[b false]],true,false,0⟩]⟩
noncomputable def ja7{α:Type}(k:R4->α)(e:Nat->α)(z:α)(p:ta5)(s:R4):α:=let t1:=(lp (S1 (⟨s.w6,p.is9,s.w6,(↑(s.w6.toNat-0):Int)⟩:ea3)) (⟨0,rt tV s.d7,rt tV s.g7⟩:I6));(sl (decide (s.w6<p.is9)) (sl (inB s.w6 ((List.length s.d7)+1)) (sl ((cnE tV s.d7)&&((cnE tV s.g7)&&true)) (sl (Nat.beq t1.1 1) (e 1) (sl (Nat.beq t1.1 2) (k ⟨W (s.w6+1),t1.2.d7,t1.2.g7⟩) z)) z) z) (e 2))
noncomputable def ga7(p:ta5)(s:R4):Stp R4:=ja7 .next .exit .fail p s
noncomputable def ab9:Lo ta5 R4:=⟨En Ma7,0,Zd8,[1,0,1,4,4,1,4,4],[1,9,10,60,62,63],.s .p (.s .p (.s (.b (.s .p (.s .p (.b (.u ab8.lsM))))) .p)),[⟨sUq::sPq 0::ru2 7 (sIq::sIq::ru2 49 (.s (.o (.lit .i64 0))::sUq::sPq 1::sPq 2::ru2 8 [])),[⟨0,1,true,some [[.c 3 (nL tV)]]⟩,⟨0,1,true,some [[.c 3 (nL tV)]]⟩,⟨0,1,true,some [[.o (.blit false)]]⟩],λa H=>(⟨aIq a 9⟩,⟨aIq a 10,hLq tV H 0 0 0,hLq tV H 1 0 0⟩)⟩],ga7,[(none,λp s=>let t1:=(lp (S1 (⟨s.w6,p.is9,s.w6,(↑(s.w6.toNat-0):Int)⟩:ea3)) (⟨0,rt tV s.d7,rt tV s.g7⟩:I6));let t2:=(lp (L9 (⟨s.w6,t1.2.H6,p.is9,s.w6,(↑(s.w6.toNat-0):Int),t1.2.H6,(↑(t1.2.H6.toNat-0):Int),rt tV t1.2.d7,rt tV t1.2.g7⟩:Y2)) (⟨0⟩:F4));let t3:=(E9 (gL tV (rt tV t1.2.d7) t2.2.B0.toNat) (gL tV (rt tV t1.2.d7) t1.2.H6.toNat) (gL tV (rt tV t1.2.d7) s.w6.toNat));let t4:=(o3 ⟨rt tV (rt tV t1.2.g7),t3.1.n.x,t3.1.n.y,t3.1.n.z,t3.1.b⟩);⟨.unk::.ptr 0 0 0 0::.unk::i s.w6::i t1.2.H6::i t2.2.B0::.ptr 3 0 0 0::b t3.2::.unk::i p.is9::i s.w6::ra 5 (i (↑(s.w6.toNat-0):Int)::i t1.2.H6::ra 5 (i (↑(t1.2.H6.toNat-0):Int)::i t2.2.B0::b (decide (t2.2.B0<(↑(t1.2.H6.toNat-0):Int)))::i t2.2.B0::.tup [.agg [i t3.1.n.x,i t3.1.n.y,i t3.1.n.z,i t3.1.b],b t3.2]::eL tV (rt tV t1.2.d7)::i t2.2.B0::.tptr [i (gL tV (rt tV t1.2.d7) t2.2.B0.toNat).x,i (gL tV (rt tV t1.2.d7) t2.2.B0.toNat).y,i (gL tV (rt tV t1.2.d7) t2.2.B0.toNat).z]::.agg [i (gL tV (rt tV t1.2.d7) t2.2.B0.toNat).x,i (gL tV (rt tV t1.2.d7) t2.2.B0.toNat).y,i (gL tV (rt tV t1.2.d7) t2.2.B0.toNat).z]::eL tV (rt tV t1.2.d7)::i t1.2.H6::.tptr [i (gL tV (rt tV t1.2.d7) t1.2.H6.toNat).x,i (gL tV (rt tV t1.2.d7) t1.2.H6.toNat).y,i (gL tV (rt tV t1.2.d7) t1.2.H6.toNat).z]::.agg [i (gL tV (rt tV t1.2.d7) t1.2.H6.toNat).x,i (gL tV (rt tV t1.2.d7) t1.2.H6.toNat).y,i (gL tV (rt tV t1.2.d7) t1.2.H6.toNat).z]::eL tV (rt tV t1.2.d7)::i s.w6::.tptr [i (gL tV (rt tV t1.2.d7) s.w6.toNat).x,i (gL tV (rt tV t1.2.d7) s.w6.toNat).y,i (gL tV (rt tV t1.2.d7) s.w6.toNat).z]::.agg [i (gL tV (rt tV t1.2.d7) s.w6.toNat).x,i (gL tV (rt tV t1.2.d7) s.w6.toNat).y,i (gL tV (rt tV t1.2.d7) s.w6.toNat).z]::.tup [.agg [i t3.1.n.x,i t3.1.n.y,i t3.1.n.z,i t3.1.b],b t3.2]::.agg [i t3.1.n.x,i t3.1.n.y,i t3.1.n.z,i t3.1.b]::b t3.2::b t3.2::b true::.unk::.agg [i t3.1.n.x,i t3.1.n.y,i t3.1.n.z,i t3.1.b]::b false::b true::b true::.unk::u::u::u::u::b true::b true::ra 3 (i 1::.unk::.ptr 1 0 0 0::.ptr 2 0 0 0::ra 8 []))),[⟨0,1,[[eL tV (rt tV t1.2.d7)]],true,false,0⟩,⟨0,1,[[eL tV (rt tV t1.2.g7)]],true,false,0⟩,⟨0,1,[[b (!t4.bs0)]],true,false,0⟩,⟨0,4,[[i t3.1.n.x,i t3.1.n.y,i t3.1.n.z,i t3.1.b]],true,false,0⟩,⟨0,4,[[i t3.1.n.x,i t3.1.n.y,i t3.1.n.z,i t3.1.b]],true,false,0⟩]⟩),(some 0,λp s=>upq (rb9 p s) [(11,b (decide (s.w6<p.is9)))])],rb9⟩
theorem qc6:ab9.OkM:=Lo.okM [ab8.prM] (by kernel_rfl) (.cons qc5 .nil) rfl (.cons (λa H=>by kernel_rfl) .nil) λp s=>(.of @ja7 (λF _ _ _ _ _=>by unfold ja7;(repeat' apply q9 (f:=F))<;>rfl) (by kernel_rfl))
noncomputable def Ia0(x:List V3):Option (c7×List c9):=let t1:=(lp (ga7 (⟨(↑(List.length x):Int)⟩:ta5)) (⟨0,rt tV x,rt tV x⟩:R4));let t2:=(lp (S1 (⟨t1.2.w6,(↑(List.length x):Int),t1.2.w6,(↑(t1.2.w6.toNat-0):Int)⟩:ea3)) (⟨0,rt tV t1.2.d7,rt tV t1.2.g7⟩:I6));let t3:=(lp (L9 (⟨t1.2.w6,t2.2.H6,(↑(List.length x):Int),t1.2.w6,(↑(t1.2.w6.toNat-0):Int),t2.2.H6,(↑(t2.2.H6.toNat-0):Int),rt tV t2.2.d7,rt tV t2.2.g7⟩:Y2)) (⟨0⟩:F4));let t4:=(E9 (gL tV (rt tV t2.2.d7) t3.2.B0.toNat) (gL tV (rt tV t2.2.d7) t2.2.H6.toNat) (gL tV (rt tV t2.2.d7) t1.2.w6.toNat));let t5:=(o3 ⟨rt tV (rt tV t2.2.g7),t4.1.n.x,t4.1.n.y,t4.1.n.z,t4.1.b⟩);(sl ((cnE tV x)&&((cnE tV x)&&true)) (sl (Nat.beq t1.1 1) (some (b (!t5.bs0),[])) (sl (Nat.beq t1.1 2) (some (b true,[])) none)) none)
noncomputable def Ya3(x:List V3):Bool:=V0 (one r1B) (Ia0 x)
noncomputable def Ya4(x:List V3):Bool:=okO (one r1B) (Ia0 x)
noncomputable def Zb6:Sum:=L0 (ya3 tV) (λx=>.guard (Ya4 x) (.ret ((one r1B).enc (Ya3 x),[])))
theorem Nc2:i6 prog G 71 Zb6:=Da4 (bd b71 zc3) (one r1B) (o:=Ia0) λx=>Ec6 (.s .p (.s (.s .p (.b (.i (.s .p (.b (.u ab9.lsM)))))) .p)) [ab9.prM] (by kernel_rfl) (.cons qc6 .nil) (by kernel_rfl)
structure va1 where
 (da7 da8 da9 e8 e7 g8 m0:Int)
noncomputable def Ub0:List (Nat×Sum):=[(30,ra1)]
theorem Mb5:j9 prog G Ub0:=⟨ta3,trivial⟩
structure va2 where
 alt:Nat
 bs0:Bool
noncomputable def ca0{α:Type}(kk:va2->α)(x:va1):α:=let t1:=(J2 (⟨(⟨x.e8,x.e7,x.g8⟩:V3),x.m0⟩:Pln) (⟨x.da7,x.da8,x.da9⟩:V3));(sl (R3 (⟨(⟨x.e8,x.e7,x.g8⟩:V3),x.m0⟩:Pln) (⟨x.da7,x.da8,x.da9⟩:V3)) (kk ⟨1,decide (t1>0)⟩) (kk ⟨0,false⟩))
noncomputable def va3(x:va1):va2:=ca0 (λr=>r) x
noncomputable def Ea2(x:va1)(r:va2):DT (c7×List c9):=(.ite (Nat.beq r.alt 1) (.ret (b r.bs0,[⟨0,4,[[i x.e8,i x.e7,i x.g8,i x.m0]],true,false,0⟩])) .fail)
theorem dc0{α β:Type}(F:α->β)(kk:va2->α)(x:va1):F (ca0 kk x)=ca0 (λr=>F (kk r)) x:=by unfold ca0;(repeat' apply q9 (f:=F))<;>rfl
noncomputable def mb0:Sum:=Va7 ⟨[.agg (kLq 3),sPq 0],[⟨0,4,true,some [kLq 4]⟩],λa H=>(⟨cIq a 0 0,cIq a 0 1,cIq a 0 2,hIq H 0 0 0,hIq H 0 0 1,hIq H 0 0 2,hIq H 0 0 3⟩,())⟩ (λx=>Ea2 x (va3 x))
theorem Ub1:i6 prog G 79 mb0:=R2 (enc:=λx=>⟨[.agg [i x.da7,i x.da8,i x.da9],.ptr 0 0 0 0],[⟨0,4,[[i x.e8,i x.e7,i x.g8,i x.m0]],true,false,0⟩]⟩) (λa H=>by kernel_rfl) (bd b79 Mb5) λx=>y5 (Qhd (b:=ca0 (λr=>(Ea2 x r).run) x) (by kernel_rfl) (dc0 (λr=>(Ea2 x r).run) (λr=>r) x).symm)
structure T4 where
 j6:List V3
 (e8 e7 g8 m0:Int)
noncomputable def ta6:List (Nat×Sum):=[(79,mb0)]
theorem Va9:j9 prog G ta6:=⟨Ub1,trivial⟩
structure G8 where
 j6:List V3
 (is7 e8 e7 g8 m0:Int)
structure n4 where
 is8:Int
noncomputable def oa2(p:G8)(s:n4):St:=⟨eL tV p.j6::.fn 79 [.ptr 0 0 0 0]::ra 5 (i p.is7::i s.is8::ra 10 []),[⟨0,4,[[i p.e8,i p.e7,i p.g8,i p.m0]],true,false,0⟩]⟩
noncomputable def C3{α:Type}(k:n4->α)(e:Nat->α)(z:α)(p:G8)(s:n4):α:=let t1:=(va3 ⟨(gL tV p.j6 s.is8.toNat).x,(gL tV p.j6 s.is8.toNat).y,(gL tV p.j6 s.is8.toNat).z,p.e8,p.e7,p.g8,p.m0⟩);(sl (decide (s.is8<p.is7)) (sl (inB s.is8 (List.length p.j6)) (sl (Nat.beq t1.alt 1) (sl t1.bs0 (e 1) (k ⟨W (s.is8+1)⟩)) z) z) (e 2))
noncomputable def E3(p:G8)(s:n4):Stp n4:=C3 .next .exit .fail p s
noncomputable def aa8:Lo G8 n4:=⟨En ta6,1,Jd6,[1,0,1,4,4],[0,1,7,8],.p,[⟨sLq tV::.fn 79 [.o (.ptr 0 0 0 0)]::ru2 5 (sIq::sIq::ru2 10 []),[⟨0,4,true,some [kLq 4]⟩],λa H=>(⟨aLq tV a 0,aIq a 7,hIq H 0 0 0,hIq H 0 0 1,hIq H 0 0 2,hIq H 0 0 3⟩,⟨aIq a 8⟩)⟩],E3,[(none,λp s=>⟨[i s.is8],[⟨0,4,[[i p.e8,i p.e7,i p.g8,i p.m0]],true,false,0⟩]⟩),(some 0,λp s=>upq (oa2 p s) [(9,b (decide (s.is8<p.is7)))])],oa2⟩
theorem Ta1:aa8.Ok:=Lo.ok [] (by kernel_rfl) .nil rfl (.cons (λa H=>by kernel_rfl) .nil) λp s=>(.of @C3 (λF _ _ _ _ _=>by unfold C3;(repeat' apply q9 (f:=F))<;>rfl) (by kernel_rfl))
structure T5 where
 alt:Nat
 is0:Int
noncomputable def D2{α:Type}(kk:T5->α)(x:T4):α:=let t1:=(lp (E3 (⟨rt tV x.j6,(↑(List.length x.j6):Int),x.e8,x.e7,x.g8,x.m0⟩:G8)) (⟨0⟩:n4));(sl ((cnE tV x.j6)&&true) (sl (Nat.beq t1.1 1) (kk ⟨1,t1.2.is8⟩) (sl (Nat.beq t1.1 2) (kk ⟨1,-1⟩) (kk ⟨0,0⟩))) (kk ⟨0,0⟩))
noncomputable def T6(x:T4):T5:=D2 (λr=>r) x
noncomputable def ea4(x:T4)(r:T5):DT (c7×List c9):=(.ite (Nat.beq r.alt 1) (.ret (i r.is0,[⟨0,4,[[i x.e8,i x.e7,i x.g8,i x.m0]],true,false,0⟩])) .fail)
theorem eb4{α β:Type}(F:α->β)(kk:T5->α)(x:T4):F (D2 kk x)=D2 (λr=>F (kk r)) x:=by unfold D2;(repeat' apply q9 (f:=F))<;>rfl
noncomputable def xa6:Sum:=Va7 ⟨[sLq tV,.fn 79 [.o (.ptr 0 0 0 0)]],[⟨0,4,true,some [kLq 4]⟩],λa H=>(⟨aLq tV a 0,hIq H 0 0 0,hIq H 0 0 1,hIq H 0 0 2,hIq H 0 0 3⟩,())⟩ (λx=>ea4 x (T6 x))
theorem bb0:i6 prog G 88 xa6:=R2 (enc:=λx=>⟨[eL tV x.j6,.fn 79 [.ptr 0 0 0 0]],[⟨0,4,[[i x.e8,i x.e7,i x.g8,i x.m0]],true,false,0⟩]⟩) (λa H=>by kernel_rfl) (bd b88 Va9) λx=>ib8 (.s .p (.s (.s .p (.b (.u aa8.ls))) .p)) [aa8.pr] (by kernel_rfl) (.cons Ta1 .nil) (Qhd (b:=D2 (λr=>(ea4 x r).run) x) (by kernel_rfl) (eb4 (λr=>(ea4 x r).run) (λr=>r) x).symm)
structure M0 where
 j6:List V3
 (e8 e7 g8 m0:Int)
noncomputable def Ma8:List (Nat×Sum):=[(88,xa6)]
theorem Ka0:j9 prog G Ma8:=⟨bb0,trivial⟩
structure M1 where
 alt:Nat
 bs0:Bool
noncomputable def y7{α:Type}(kk:M1->α)(x:M0):α:=let t1:=(T6 ⟨rt tV x.j6,x.e8,x.e7,x.g8,x.m0⟩);(sl ((cnE tV x.j6)&&true) (sl (Nat.beq t1.alt 1) (kk ⟨1,decide (t1.is0>=0)⟩) (kk ⟨0,false⟩)) (kk ⟨0,false⟩))
noncomputable def M2(x:M0):M1:=y7 (λr=>r) x
noncomputable def X1(x:M0)(r:M1):DT (c7×List c9):=(.ite (Nat.beq r.alt 1) (.ret (b r.bs0,[⟨0,4,[[i x.e8,i x.e7,i x.g8,i x.m0]],true,false,0⟩])) .fail)
theorem Ta2{α β:Type}(F:α->β)(kk:M1->α)(x:M0):F (y7 kk x)=y7 (λr=>F (kk r)) x:=by unfold y7;(repeat' apply q9 (f:=F))<;>rfl
noncomputable def oa3:Sum:=Va7 ⟨[sLq tV,.fn 79 [.o (.ptr 0 0 0 0)]],[⟨0,4,true,some [kLq 4]⟩],λa H=>(⟨aLq tV a 0,hIq H 0 0 0,hIq H 0 0 1,hIq H 0 0 2,hIq H 0 0 3⟩,())⟩ (λx=>X1 x (M2 x))
theorem Ma9:i6 prog G 70 oa3:=R2 (enc:=λx=>⟨[eL tV x.j6,.fn 79 [.ptr 0 0 0 0]],[⟨0,4,[[i x.e8,i x.e7,i x.g8,i x.m0]],true,false,0⟩]⟩) (λa H=>by kernel_rfl) (bd b70 Ka0) λx=>y5 (Qhd (b:=y7 (λr=>(X1 x r).run) x) (by kernel_rfl) (Ta2 (λr=>(X1 x r).run) (λr=>r) x).symm)
noncomputable def qc7:List (Nat×Sum):=[(70,oa3)]
theorem dc1:j9 prog G qc7:=⟨Ma9,trivial⟩
noncomputable def ta7(x:List V3)(y:Pln):Option (c7×List c9):=let t1:=(M2 ⟨rt tV x,y.n.x,y.n.y,y.n.z,y.b⟩);(sl ((cnE tV x)&&true) (sl (Nat.beq t1.alt 1) (some (b t1.bs0,[])) none) none)
noncomputable def Y3(x:List V3)(y:Pln):Bool:=V0 (one r1B) (ta7 x y)
noncomputable def F5(x:List V3)(y:Pln):Bool:=okO (one r1B) (ta7 x y)
noncomputable def Ab5:Sum:=Ha4 (ya3 tV) (Z4 tP) (λx y=>.guard (F5 x y) (.ret ((one r1B).enc (Y3 x y),[])))
theorem qc8:i6 prog G 47 Ab5:=Sb1 (bd b47 dc1) (one r1B) (o:=ta7) λx y=>y5 (by kernel_rfl)
noncomputable def dc2:List (Nat×Sum):=[(20,Sa3)]
theorem Ub2:j9 prog G dc2:=⟨Ya1,trivial⟩
noncomputable def oa4(x:V3):Option (c7×List c9):=let t1:=(ha7 x);(sl (ha8 x) (some (b (!t1),[])) none)
noncomputable def Aa4(x:V3):Bool:=V0 (one r1B) (oa4 x)
noncomputable def Aa5(x:V3):Bool:=okO (one r1B) (oa4 x)
noncomputable def sb0:Sum:=L0 (Z4 tV) (λx=>.guard (Aa5 x) (.ret ((one r1B).enc (Aa4 x),[])))
theorem dc3:i6 prog G 69 sb0:=Da4 (bd b69 Ub2) (one r1B) (o:=oa4) λx=>y5 (by kernel_rfl)
structure T7 where
 j6:List V3
noncomputable def ta8:List (Nat×Sum):=[(69,sb0)]
theorem Wa0:j9 prog G ta8:=⟨dc3,trivial⟩
structure G9 where
 j6:List V3
 is7:Int
structure n5 where
 is8:Int
noncomputable def oa5(p:G9)(s:n5):St:=⟨eL tV p.j6::.fn 69 []::ra 5 (i p.is7::i s.is8::ra 10 []),[]⟩
noncomputable def C4{α:Type}(k:n5->α)(e:Nat->α)(z:α)(p:G9)(s:n5):α:=let t1:=(Aa4 (gL tV p.j6 s.is8.toNat));(sl (decide (s.is8<p.is7)) (sl (inB s.is8 (List.length p.j6)) (sl (Aa5 (gL tV p.j6 s.is8.toNat)) (sl t1 (e 1) (k ⟨W (s.is8+1)⟩)) z) z) (e 2))
noncomputable def E4(p:G9)(s:n5):Stp n5:=C4 .next .exit .fail p s
noncomputable def aa9:Lo G9 n5:=⟨En ta8,0,Jd6,[1,0,1,4,4],[0,1,7,8],.p,[⟨sLq tV::.s (.o (.fn 69))::ru2 5 (sIq::sIq::ru2 10 []),[],λa H=>(⟨aLq tV a 0,aIq a 7⟩,⟨aIq a 8⟩)⟩],E4,[(none,λp s=>⟨[i s.is8],[]⟩),(some 0,λp s=>upq (oa5 p s) [(9,b (decide (s.is8<p.is7)))])],oa5⟩
theorem Ta3:aa9.Ok:=Lo.ok [] (by kernel_rfl) .nil rfl (.cons (λa H=>by kernel_rfl) .nil) λp s=>(.of @C4 (λF _ _ _ _ _=>by unfold C4;(repeat' apply q9 (f:=F))<;>rfl) (by kernel_rfl))
structure T8 where
 alt:Nat
 is0:Int
noncomputable def D4{α:Type}(kk:T8->α)(x:T7):α:=let t1:=(lp (E4 (⟨rt tV x.j6,(↑(List.length x.j6):Int)⟩:G9)) (⟨0⟩:n5));(sl ((cnE tV x.j6)&&true) (sl (Nat.beq t1.1 1) (kk ⟨1,t1.2.is8⟩) (sl (Nat.beq t1.1 2) (kk ⟨1,-1⟩) (kk ⟨0,0⟩))) (kk ⟨0,0⟩))
noncomputable def T9(x:T7):T8:=D4 (λr=>r) x
noncomputable def ea5(x:T7)(r:T8):DT (c7×List c9):=(.ite (Nat.beq r.alt 1) (.ret (i r.is0,[])) .fail)
theorem eb5{α β:Type}(F:α->β)(kk:T8->α)(x:T7):F (D4 kk x)=D4 (λr=>F (kk r)) x:=by unfold D4;(repeat' apply q9 (f:=F))<;>rfl
noncomputable def xa7:Sum:=Va7 ⟨[sLq tV,.s (.o (.fn 69))],[],λa H=>(⟨aLq tV a 0⟩,())⟩ (λx=>ea5 x (T9 x))
theorem bb1:i6 prog G 88 xa7:=R2 (enc:=λx=>⟨[eL tV x.j6,.fn 69 []],[]⟩) (λa H=>by kernel_rfl) (bd b88 Wa0) λx=>ib8 (.s .p (.s (.s .p (.b (.u aa9.ls))) .p)) [aa9.pr] (by kernel_rfl) (.cons Ta3 .nil) (Qhd (b:=D4 (λr=>(ea5 x r).run) x) (by kernel_rfl) (eb5 (λr=>(ea5 x r).run) (λr=>r) x).symm)
structure M3 where
 j6:List V3
noncomputable def Na0:List (Nat×Sum):=[(88,xa7)]
theorem Ka1:j9 prog G Na0:=⟨bb1,trivial⟩
structure M4 where
 alt:Nat
 bs0:Bool
noncomputable def y8{α:Type}(kk:M4->α)(x:M3):α:=let t1:=(T9 ⟨rt tV x.j6⟩);(sl ((cnE tV x.j6)&&true) (sl (Nat.beq t1.alt 1) (kk ⟨1,decide (t1.is0>=0)⟩) (kk ⟨0,false⟩)) (kk ⟨0,false⟩))
noncomputable def M5(x:M3):M4:=y8 (λr=>r) x
noncomputable def X2(x:M3)(r:M4):DT (c7×List c9):=(.ite (Nat.beq r.alt 1) (.ret (b r.bs0,[])) .fail)
theorem Ta4{α β:Type}(F:α->β)(kk:M4->α)(x:M3):F (y8 kk x)=y8 (λr=>F (kk r)) x:=by unfold y8;(repeat' apply q9 (f:=F))<;>rfl
noncomputable def oa6:Sum:=Va7 ⟨[sLq tV,.s (.o (.fn 69))],[],λa H=>(⟨aLq tV a 0⟩,())⟩ (λx=>X2 x (M5 x))
theorem Na1:i6 prog G 70 oa6:=R2 (enc:=λx=>⟨[eL tV x.j6,.fn 69 []],[]⟩) (λa H=>by kernel_rfl) (bd b70 Ka1) λx=>y5 (Qhd (b:=y8 (λr=>(X2 x r).run) x) (by kernel_rfl) (Ta4 (λr=>(X2 x r).run) (λr=>r) x).symm)
noncomputable def zc4:List (Nat×Sum):=[(70,oa6),(71,Zb6)]
theorem qc9:j9 prog G zc4:=⟨Na1,Nc2,trivial⟩
noncomputable def Aa6(x:List V3):Option (c7×List c9):=let t1:=(M5 ⟨rt tV x⟩);let t2:=(Ya3 (rt tV x));(sl (decide ((↑(List.length x):Int)>48)) (some (i 2,[])) (sl ((cnE tV x)&&true) (sl (Nat.beq t1.alt 1) (sl t1.bs0 (some (i 3,[])) (sl (okE tV x) (sl (Ya4 (rt tV x)) (sl t2 (some (i 11,[])) (some (i 0,[]))) none) none)) none) none))
noncomputable def ra2(x:List V3):Int:=V0 (one r1I) (Aa6 x)
noncomputable def ra3(x:List V3):Bool:=okO (one r1I) (Aa6 x)
noncomputable def Na2:Sum:=L0 (ya3 tV) (λx=>.guard (ra3 x) (.ret ((one r1I).enc (ra2 x),[])))
theorem bb2:i6 prog G 44 Na2:=Da4 (bd b44 qc9) (one r1I) (o:=Aa6) λx=>y5 (by kernel_rfl)
noncomputable def Ub3:List (Nat×Sum):=[]
theorem Mb6:j9 prog G Ub3:=trivial
noncomputable def va4(x:Int):Bool:=(x != x)
noncomputable def mb1:Sum:=L0 cI (λx=>.ret ((one r1B).enc (va4 x),[]))
theorem Ub4:i6 prog G 120 mb1:=ib0 (bd Ge5 Mb6) λx=>y5 (by kernel_rfl)
noncomputable def Fb8:List (Nat×Sum):=[(120,mb1)]
theorem yb0:j9 prog G Fb8:=⟨Ub4,trivial⟩
noncomputable def ca7(x:Int)(y:Int):Option (c7×List c9):=let t1:=(va4 x);let t2:=(va4 y);(sl t1 (sl t2 (some (i 0,[])) (some (i (-1),[]))) (sl t2 (some (i 1,[])) (sl (decide (x<y)) (some (i (-1),[])) (sl (decide (x>y)) (some (i 1,[])) (some (i 0,[]))))))
noncomputable def U0(x:Int)(y:Int):Int:=V0 (one r1I) (ca7 x y)
noncomputable def U1(x:Int)(y:Int):Bool:=okO (one r1I) (ca7 x y)
noncomputable def Ya5:Sum:=Ha4 cI cI (λx y=>.guard (U1 x y) (.ret ((one r1I).enc (U0 x y),[])))
theorem Fb9:i6 prog G 97 Ya5:=Sb1 (bd b97 yb0) (one r1I) (o:=ca7) λx y=>y5 (by kernel_rfl)
noncomputable def Ab6:List (Nat×Sum):=[]
theorem rc0:j9 prog G Ab6:=trivial
structure oa7 where
 Za2:List Int
 is7:Int
structure I7 where
 is8:Int
noncomputable def mb2(p:oa7)(s:I7):St:=⟨ra 3 (i 0::.unk::.unk::eL tI p.Za2::i p.is7::i s.is8::ra 9 []),[]⟩
noncomputable def Ea3{α:Type}(k:I7->α)(e:Nat->α)(z:α)(p:oa7)(s:I7):α:=(sl (decide (s.is8<p.is7)) (sl (inB s.is8 (List.length p.Za2)) (sl ((gL tI p.Za2 s.is8.toNat) != 0) (e 1) (k ⟨W (s.is8+1)⟩)) z) (e 2))
noncomputable def V4(p:oa7)(s:I7):Stp I7:=Ea3 .next .exit .fail p s
noncomputable def Ta5:Lo oa7 I7:=⟨En Ab6,0,xe3,[1,1,0,1,4,4],[3,6,7,8],.p,[⟨ru2 3 (.s (.o (.lit .i64 0))::sUq::sUq::sLq tI::sIq::sIq::ru2 9 []),[],λa H=>(⟨aLq tI a 6,aIq a 7⟩,⟨aIq a 8⟩)⟩],V4,[(none,λp s=>⟨[i (gL tI p.Za2 s.is8.toNat)],[]⟩),(some 0,λp s=>upq (mb2 p s) [(9,b (decide (s.is8<p.is7)))])],mb2⟩
theorem dc4:Ta5.Ok:=Lo.ok [] (by kernel_rfl) .nil rfl (.cons (λa H=>by kernel_rfl) .nil) λp s=>(.of @Ea3 (λF _ _ _ _ _=>by unfold Ea3;(repeat' apply q9 (f:=F))<;>rfl) (by kernel_rfl))
noncomputable def Aa7(x:List Int):Option (c7×List c9):=let t1:=(lp (V4 (⟨rt tI x,(↑(List.length x):Int)⟩:oa7)) (⟨0⟩:I7));(sl ((cnE tI x)&&true) (sl (Nat.beq t1.1 1) (some (i (gL tI (rt tI x) t1.2.is8.toNat),[])) (sl (Nat.beq t1.1 2) (some (i 0,[])) none)) none)
noncomputable def Na3(x:List Int):Int:=V0 (one r1I) (Aa7 x)
noncomputable def Na4(x:List Int):Bool:=okO (one r1I) (Aa7 x)
noncomputable def Mb7:Sum:=L0 (ya3 tI) (λx=>.guard (Na4 x) (.ret ((one r1I).enc (Na3 x),[])))
theorem zc5:i6 prog G 96 Mb7:=Da4 (bd b96 rc0) (one r1I) (o:=Aa7) λx=>ib8 (.s .p (.s .p (.s (.s .p (.b (.u Ta5.ls))) .p))) [Ta5.pr] (by kernel_rfl) (.cons dc4 .nil) (by kernel_rfl)
noncomputable def dc5:List (Nat×Sum):=[(97,Ya5),(96,Mb7)]
theorem Ub5:j9 prog G dc5:=⟨Fb9,zc5,trivial⟩
noncomputable def oa8(x:V3)(y:V3):Option (c7×List c9):=let t1:=(U0 x.x y.x);let t2:=(U0 x.y y.y);let t3:=(U0 x.z y.z);let t4:=(Na3 [t1,t2,t3]);(sl (U1 x.x y.x) (sl (U1 x.y y.y) (sl (U1 x.z y.z) (sl (Na4 [t1,t2,t3]) (some (i t4,[])) none) none) none) none)
noncomputable def Aa8(x:V3)(y:V3):Int:=V0 (one r1I) (oa8 x y)
noncomputable def Aa9(x:V3)(y:V3):Bool:=okO (one r1I) (oa8 x y)
noncomputable def Ta6:Sum:=Ha4 (Z4 tV) (Z4 tV) (λx y=>.guard (Aa9 x y) (.ret ((one r1I).enc (Aa8 x y),[])))
theorem dc6:i6 prog G 74 Ta6:=Sb1 (bd b74 Ub5) (one r1I) (o:=oa8) λx y=>y5 (by kernel_rfl)
end Go.Ev.Ce
namespace Go.Ev.L
open Go Go.Ev
theorem Zd9(n:Int):W n=(n+9223372036854775808) % 18446744073709551616-9223372036854775808:=IntKind.wrap_i64 n
theorem ca8{n:Int}(h1:-9223372036854775808<=n)(h2:n<=9223372036854775807):W n=n:=by rw[Zd9];omega
theorem Jd8(n:Int):∃k,W n=n+18446744073709551616*k:=⟨-((n+9223372036854775808) / 18446744073709551616),by rw[Zd9];omega⟩
theorem Ub6(n k:Int):W (n+18446744073709551616*k)=W n:=by rw[Zd9,Zd9];omega
theorem Gb0(a b:Int):W (W a+b)=W (a+b):=by
 obtain⟨k,hk⟩:=Jd8 a;rw[hk,show a+18446744073709551616*k+b=a+b+18446744073709551616*k by omega,Ub6]
theorem Ub7(a b:Int):W (a+W b)=W (a+b):=by rw[Int.add_comm,Gb0,Int.add_comm]
theorem Nc3(a b:Int):W (W a-b)=W (a-b):=by
 obtain⟨k,hk⟩:=Jd8 a;rw[hk,show a+18446744073709551616*k-b=a-b+18446744073709551616*k by omega,Ub6]
theorem kd1(a b:Int):W (a-W b)=W (a-b):=by
 obtain⟨k,hk⟩:=Jd8 b;rw[hk,show a-(b+18446744073709551616*k)=a-b+18446744073709551616*(-k) by omega,Ub6]
theorem D0{j n:Nat}(h:j<n)(hn:n<=4611686018427387904):W ((j:Int)+1)=((j+1:Nat):Int):=by
 rw[ca8 (by omega) (by omega)];omega
theorem rc1{j n:Nat}(h:j<n):decide ((j:Int)<(n:Int))=true:=decide_eq_true (by omega)
theorem Mb8{j n:Nat}(h:¬ j<n):decide ((j:Int)<(n:Int))=false:=decide_eq_false (by omega)
theorem i8{j n:Nat}(h:j<n):inB (j:Int) n=true:=by
 show Nat.blt j n=true;rw[Nat.blt_eq];exact h
theorem ae0(m:Int)(n:Nat):inB m n=decide (0<=m/\m<n):=by
 unfold inB;cases m with
 |ofNat k =>
  rw[Bool.eq_iff_iff,decide_eq_true_eq];show Nat.blt k n=true↔_;rw[Nat.blt_eq];constructor
  ·intro h;exact⟨Int.natCast_nonneg k,Int.ofNat_lt.2 h⟩
  ·intro h;exact Int.ofNat_lt.1 h.2
 |negSucc k=>exact (decide_eq_false (λh=>by omega)).symm
theorem bt{c:Bool}(h:c=true){α:Type}(t e:α):sl c t e=t:=by rw[h];rfl
theorem bf{c:Bool}(h:c=false){α:Type}(t e:α):sl c t e=e:=by rw[h];rfl
theorem ae1{n:Nat}(h:n<=1000000000000):Nat.ble (n*32) room=true:=by
 rw[Nat.ble_eq];unfold room;omega
theorem Jd9 {σ : Type} {step : σ → Stp σ} {I : Nat → σ → Prop} {Q : Nat → σ → Prop} (h : ∀ m s, I m s → (∃ t, step s = .exit t ∧ Q t s) ∨ ∃ s' m', m = m' + 1 ∧ step s = .next s' ∧ I m' s') :
  ∀(m n:Nat) (s:σ),m<=n->I m s->Q (lp0 step n s).1 (lp0 step n s).2
 |m,n,s,hn,hi=>by
  rcases h m s hi with⟨t,h1,h2⟩|⟨s',m',rfl,h1,h2⟩
  ·rw[mc6 h1];exact h2
  ·cases n with
   |zero=>omega
   |succ n =>
    rw[Uc5 h1];exact Jd9 h m' n s' (by omega) h2
theorem Ub8 {σ : Type} {step : σ → Stp σ} {I : Nat → σ → Prop} {Q : Nat → σ → Prop} (h : ∀ m s, I m s → (∃ t, step s = .exit t ∧ Q t s) ∨ ∃ s' m', m = m' + 1 ∧ step s = .next s' ∧ I m' s')
  (m:Nat) (s:σ) (hm:m<=18446744073709551615) (hi:I m s):Q (lp step s).1 (lp step s).2:=by
 rw[Fd5];exact Jd9 h m rounds s (by unfold rounds;omega) hi
section
variable{σ τ α:Type}{step:σ->Stp σ}
theorem ae2 {mk : Nat → τ → σ} {f : τ → α → τ} {fin : Nat} (t : Ty α) (l : List α) (I : Nat → τ → Prop) (hl : l.length ≤ 1000000000)
  (h:∀j a,j<l.length->I j a->step (mk j a)=.next (mk (j+1) (f a (gL t l j)))/\I (j+1) (f a (gL t l j)))
  (hf:∀a,I l.length a->step (mk l.length a)=.exit fin) (j0:Nat) (hj:j0<=l.length) (a:τ) (hi:I j0 a) :
  lp step (mk j0 a)=(fin,mk l.length ((l.drop j0).foldl f a))/\I l.length ((l.drop j0).foldl f a):=by
 have key:=Ub8 (step:=step) (I:=λm s=>∃j b,m=l.length-j/\j<=l.length/\s=mk j b/\I j b/\(l.drop j).foldl f b=(l.drop j0).foldl f a)
  (Q:=λu s=>u=fin/\s=mk l.length ((l.drop j0).foldl f a)/\I l.length ((l.drop j0).foldl f a)) (λm s ⟨j,b,hm,hj,hs,hb,he⟩=>by
   subst hs;by_cases hlt:j<l.length
   ·obtain⟨h1,h2⟩:=h j b hlt hb;refine .inr ⟨_,l.length-(j+1),by omega,h1,j+1,_,rfl,by omega,rfl,h2,?_⟩
    rw[<- he,Qhc hlt,List.foldl_cons];simp[gL,Qha,Qhb hlt]
   ·have:j=l.length:=by omega
    subst this;have he:b=(l.drop j0).foldl f a:=by rw[<- he];simp
    subst he;exact .inl ⟨fin,hf _ hb,rfl,rfl,hb⟩) (l.length-j0) (mk j0 a) (by omega) ⟨j0,a,rfl,hj,rfl,hi,rfl⟩
 exact⟨by rw[<- key.2.1,<- key.1],key.2.2⟩
theorem Kd0 {mk : Nat → σ} {c : α → Bool} {u fin : Nat} (t : Ty α) (l : List α) (hl : l.length ≤ 1000000000)
  (h:∀j,j<l.length->step (mk j)=sl (c (gL t l j)) (.exit u) (.next (mk (j+1)))) (hf:step (mk l.length)=.exit fin) (j0:Nat) (hj:j0<=l.length) :
  (lp step (mk j0)).1=if (l.drop j0).any c then u else fin :=
 Ub8 (step:=step) (I:=λm s=>∃j,m=l.length-j/\j<=l.length/\s=mk j/\(l.drop j).any c=(l.drop j0).any c)
  (Q:=λv _=>v=if (l.drop j0).any c then u else fin) (λm s ⟨j,hm,hj,hs,he⟩=>by
   subst hs;by_cases hlt:j<l.length
   ·have h1:=h j hlt;have e:gL t l j=l[j]:=by simp[gL,Qha,Qhb hlt]
    have e2:(l.drop j).any c=(c l[j]||(l.drop (j+1)).any c):=by rw[Qhc hlt,List.any_cons]
    rw[e] at h1;cases hc:c l[j] with
    |true =>
     rw[hc] at h1;refine .inl ⟨u,h1,?_⟩;rw[<- he,e2,hc];rfl
    |false =>
     rw[hc] at h1;refine .inr ⟨_,l.length-(j+1),by omega,h1,j+1,rfl,by omega,rfl,?_⟩
     rw[<- he,e2,hc];rfl
   ·have:j=l.length:=by omega
    subst this;refine .inl ⟨fin,hf,?_⟩;rw[<- he];simp) (l.length-j0) (mk j0) (by omega) ⟨j0,rfl,hj,rfl,rfl⟩
theorem Na5 {mk : Nat → σ} {c : α → Bool} {u fin : Nat} (t : Ty α) (l : List α) (hl : l.length ≤ 1000000000)
  (h:∀j,j<l.length->step (mk j)=sl (c (gL t l j)) (.exit u) (.next (mk (j+1)))) (hf:step (mk l.length)=.exit fin) (j0:Nat) (hj:j0<=l.length) :
  lp step (mk j0)=if (l.drop j0).any c then (u,mk (j0+(l.drop j0).findIdx c)) else (fin,mk l.length):=by
 have key:=Ub8 (step:=step) (I:=λm s=>∃j,m=l.length-j/\j<=l.length/\j0<=j/\s=mk j/\(l.drop j).any c=(l.drop j0).any c/\j+(l.drop j).findIdx c=j0+(l.drop j0).findIdx c)
  (Q:=λv s=>(v,s)=if (l.drop j0).any c then (u,mk (j0+(l.drop j0).findIdx c)) else (fin,mk l.length)) (λm s ⟨j,hm,hj,hj0,hs,he,hi⟩=>by
   subst hs;by_cases hlt:j<l.length
   ·have h1:=h j hlt;have e:gL t l j=l[j]:=by simp[gL,Qha,Qhb hlt]
    have e2:(l.drop j).any c=(c l[j]||(l.drop (j+1)).any c):=by rw[Qhc hlt,List.any_cons]
    have e3:(l.drop j).findIdx c=if c l[j] then 0 else (l.drop (j+1)).findIdx c+1:=by rw[Qhc hlt,List.findIdx_cons];cases c l[j]<;>rfl
    rw[e] at h1;cases hc:c l[j] with
    |true =>
     rw[hc] at h1;refine .inl ⟨u,h1,?_⟩;rw[<- he,e2,hc,<- hi,e3,hc];rfl
    |false =>
     rw[hc] at h1;refine .inr ⟨_,l.length-(j+1),by omega,h1,j+1,rfl,by omega,by omega,rfl,?_,?_⟩
     ·rw[<- he,e2,hc];rfl
     ·rw[<- hi,e3,hc];simp only[Qhg,if_false];omega
   ·have:j=l.length:=by omega
    subst this;refine .inl ⟨fin,hf,?_⟩;rw[<- he];simp) (l.length-j0) (mk j0) (by omega) ⟨j0,rfl,hj,Qhe _,rfl,rfl,rfl⟩
 exact key
end
theorem Ta7{α:Type}(t:Ty α){l:List α}{j:Nat}(h:j<l.length):gL t l j∈l:=by
 simp[gL,Qha,Qhb h]
theorem mb3{α:Type}(t:Ty α){l:List α}{j:Nat}(h:j<l.length):gL t l j=l[j]:=by
 simp[gL,Qha,Qhb h]
def euF:Nat->Int->Int->Int
 |0,g,_=>g
 |k+1,g,n=>if n=0 then g else euF k n (Int.tmod g n)
def eu(g n:Int):Int:=euF (n.natAbs+1) g n
theorem Pa3{g n:Int}(h:n≠0):(Int.tmod g n).natAbs<n.natAbs:=by
 rw[Int.natAbs_tmod];exact Nat.mod_lt _ (by omega)
theorem Yc3:∀(k m:Nat) {g n:Int},n.natAbs<k->n.natAbs<m->euF k g n=euF m g n
 |0,_,_,_,h,_=>by omega
 |_+1,0,_,_,_,h=>by omega
 |k+1,m+1,g,n,h1,h2=>by
  unfold euF;by_cases h:n=0
  ·rw[if_pos h,if_pos h]
  ·rw[if_neg h,if_neg h]
   have:=Pa3 (g:=g) h
   exact Yc3 k m (by omega) (by omega)
theorem Mb9(g:Int):eu g 0=g:=by simp[eu,euF]
theorem Nc4{g n:Int}(h:n≠0):eu g n=eu n (Int.tmod g n):=by
 have:=Pa3 (g:=g) h
 unfold eu
 conv=>lhs;unfold euF
 rw[if_neg h];exact Yc3 _ _ (by omega) (by omega)
theorem oe6:∀(k:Nat) (g n:Int),n.natAbs<=k->(eu g n).natAbs=Int.gcd g n:=by
 intro k
 induction k with
 |zero =>
  intro g n h
  have:n=0:=by omega
  subst this;rw[Mb9];simp
 |succ k ih =>
  intro g n h;by_cases h0:n=0
  ·subst h0;rw[Mb9];simp
  ·have:=Pa3 (g:=g) h0
   rw[Nc4 h0,ih n (Int.tmod g n) (by omega)]
   unfold Int.gcd;rw[Int.natAbs_tmod,Nat.gcd_comm g.natAbs,Nat.gcd_comm n.natAbs,<- Nat.gcd_rec]
theorem oe7(g n:Int):(eu g n).natAbs=Int.gcd g n:=oe6 _ g n (Qhe _)
theorem zd4:∀(k:Nat) (g n:Int),n.natAbs<=k->0<=g->0<=n->0<=eu g n:=by
 intro k
 induction k with
 |zero =>
  intro g n h hg _
  have:n=0:=by omega
  subst this;rw[Mb9];exact hg
 |succ k ih =>
  intro g n h hg hn;by_cases h0:n=0
  ·subst h0;rw[Mb9];exact hg
  ·have:=Pa3 (g:=g) h0
   rw[Nc4 h0];exact ih n _ (by omega) hn (Int.tmod_nonneg _ hg)
theorem oe8{g n:Int}(hg:0<=g)(hn:0<=n):eu g n=(Int.gcd g n:Int):=by
 have h1:=zd4 _ g n (Qhe _) hg hn;have h2:=oe7 g n;omega
section
variable{σ:Type}{step:σ->Stp σ}{mk:Int->Int->σ}
theorem Zb7(h:∀g n,0<n->step (mk g n)=.next (mk n (Int.tmod g n)))(h0:∀g,step (mk g 0)=.exit 1)(g n:Int)(hg:0<=g)(h1:0<=n)(hn:n<=9223372036854775808):lp step (mk g n)=(1,mk (eu g n) 0):=by
 have:=Ub8 (step:=step) (I:=λm s=>∃a c,s=mk a c/\c.natAbs<=m/\0<=a/\0<=c/\eu a c=eu g n) (Q:=λu s=>(u,s)=(1,mk (eu g n) 0)) (λm s ⟨a,c,hs,hm,ha,hc0,he⟩=>by
  subst hs;by_cases hc:c=0
  ·subst hc;rw[Mb9] at he;subst he;exact .inl ⟨1,h0 _,rfl⟩
  ·have ht:=Pa3 (g:=a) hc;exact .inr ⟨_,m-1,by omega,h a c (by omega),c,_,rfl,by omega,hc0,Int.tmod_nonneg _ ha,by rw[<- he,Nc4 hc]⟩) n.natAbs (mk g n) (by omega) ⟨g,n,rfl,Qhe _,hg,h1,rfl⟩
 exact this
end
theorem mb{a c A C:Int}(h1:-A<=a)(h2:a<=A)(h3:-C<=c)(h4:c<=C):-(A*C)<=a*c/\a*c<=A*C:=by
 have hA:a.natAbs<=A.natAbs:=by omega
 have hC:c.natAbs<=C.natAbs:=by omega
 have h5:=Nat.mul_le_mul hA hC;rw[<- Int.natAbs_mul,<- Int.natAbs_mul] at h5;have h6:0<=A*C:=Int.mul_nonneg (by omega) (by omega)
 omega
end Go.Ev.L
namespace Go.Proofs
open Go.Shelf
set_option maxRecDepth 100000 in
def Ce.sortLayV_ren:Go.Shelf.Ren:=⟨fun | 6=>73 | 15=>81 | 14=>95 | 28=>107 | 29=>108 | 20=>112 | 21=>113 | 22=>114 | 23=>115 | 24=>116 | 25=>117 | 26=>118 | 27=>119 | 46=>126 | 47=>122 | 48=>123 | 49=>127 | 50=>128 | 57=>130 | n=>n,fun | 22=>23 | 24=>25 | 25=>36 | 3=>3 | 39=>104 | 0=>0 | 53=>123 | 55=>125 | 4=>4 | 46=>116 | 45=>115 | 50=>120 | 5=>5 | 9=>9 | 66=>134 | 70=>138 | 76=>142 | 77=>143 | n=>n,fun | n=>n⟩
set_option maxRecDepth 100000 in
theorem Ce.sortLayV:Go.Proofs.SlLaysF0.n6 Tryz.prog Ce.sortLayV_ren:={
 mixed:=by kernel_rfl
 f6:=⟨Tryz.f73.name,by decide,Tryz.func73.trans (congrArg some (by kernel_rfl))⟩
 f14:=⟨Tryz.f95.name,by decide,Tryz.func95.trans (congrArg some (by kernel_rfl))⟩
 f15:=Tryz.func81.trans (congrArg some (by kernel_rfl))
 f20:=⟨Tryz.f112.name,by decide,Tryz.func112.trans (congrArg some (by kernel_rfl))⟩
 f21:=⟨Tryz.f113.name,by decide,Tryz.func113.trans (congrArg some (by kernel_rfl))⟩
 f22:=⟨Tryz.f114.name,by decide,Tryz.func114.trans (congrArg some (by kernel_rfl))⟩
 f23:=⟨Tryz.f115.name,by decide,Tryz.func115.trans (congrArg some (by kernel_rfl))⟩
 f24:=⟨Tryz.f116.name,by decide,Tryz.func116.trans (congrArg some (by kernel_rfl))⟩
 f25:=⟨Tryz.f117.name,by decide,Tryz.func117.trans (congrArg some (by kernel_rfl))⟩
 f26:=⟨Tryz.f118.name,by decide,Tryz.func118.trans (congrArg some (by kernel_rfl))⟩
 f27:=⟨Tryz.f119.name,by decide,Tryz.func119.trans (congrArg some (by kernel_rfl))⟩
 f28:=Tryz.func107.trans (congrArg some (by kernel_rfl))
 f29:=Tryz.func108.trans (congrArg some (by kernel_rfl))
 f46:=⟨Tryz.f126.name,by decide,Tryz.func126.trans (congrArg some (by kernel_rfl))⟩
 f47:=Tryz.func122.trans (congrArg some (by kernel_rfl))
 f48:=Tryz.func123.trans (congrArg some (by kernel_rfl))
 f49:=⟨Tryz.f127.name,by decide,Tryz.func127.trans (congrArg some (by kernel_rfl))⟩
 f50:=⟨Tryz.f128.name,by decide,Tryz.func128.trans (congrArg some (by kernel_rfl))⟩
 f57:=⟨Tryz.f130.name,by decide,Tryz.func130.trans (congrArg some (by kernel_rfl))⟩
 t0:=Tryz.underlying0
 a0:=Tryz.isAgg0
 z0:=Tryz.sizeOf0
 v0:=Tryz.zeroValue0
 t3:=Tryz.underlying3
 a3:=Tryz.isAgg3
 z3:=Tryz.sizeOf3
 v3:=Tryz.zeroValue3
 t4:=Tryz.underlying4
 a4:=Tryz.isAgg4
 z4:=Tryz.sizeOf4
 v4:=Tryz.zeroValue4
 t5:=Tryz.underlying5
 a5:=Tryz.isAgg5
 z5:=Tryz.sizeOf5
 v5:=Tryz.zeroValue5
 t9:=Tryz.underlying9
 a9:=Tryz.isAgg9
 z9:=Tryz.sizeOf9
 v9:=Tryz.zeroValue9
 t22:=Tryz.underlying23
 a22:=Tryz.isAgg23
 z22:=Tryz.sizeOf23
 v22:=Tryz.zeroValue23
 t25:=Tryz.underlying36
 a25:=Tryz.isAgg36
 z25:=Tryz.sizeOf36
 v25:=Tryz.zeroValue36
 t39:=Tryz.underlying104
 a39:=Tryz.isAgg104
 z39:=Tryz.sizeOf104
 v39:=Tryz.zeroValue104
 t45:=Tryz.underlying115
 a45:=Tryz.isAgg115
 z45:=Tryz.sizeOf115
 v45:=Tryz.zeroValue115
 t46:=Tryz.underlying116
 a46:=Tryz.isAgg116
 z46:=Tryz.sizeOf116
 v46:=Tryz.zeroValue116
 t50:=Tryz.underlying120
 a50:=Tryz.isAgg120
 z50:=Tryz.sizeOf120
 v50:=Tryz.zeroValue120
 t53:=Tryz.underlying123
 a53:=Tryz.isAgg123
 z53:=Tryz.sizeOf123
 v53:=Tryz.zeroValue123
 t55:=Tryz.underlying125
 a55:=Tryz.isAgg125
 z55:=Tryz.sizeOf125
 v55:=Tryz.zeroValue125
 t66:=Tryz.underlying134
 a66:=Tryz.isAgg134
 z66:=Tryz.sizeOf134
 v66:=Tryz.zeroValue134
 t70:=Tryz.underlying138
 a70:=Tryz.isAgg138
 z70:=Tryz.sizeOf138
 v70:=Tryz.zeroValue138
 t76:=Tryz.underlying142
 a76:=Tryz.isAgg142
 z76:=Tryz.sizeOf142
 v76:=Tryz.zeroValue142
 t77:=Tryz.underlying143
 a77:=Tryz.isAgg143
 z77:=Tryz.sizeOf143
 v77:=Tryz.zeroValue143 }
end Go.Proofs
namespace Go.Ev.Ce
open Go Go.Ev Go.Ev.L Go.Proofs Go.Sort
theorem qd1(x y:Int):ca7 x y=some (i (ab2 x y),[]):=by
 unfold ca7 va4 ab2;simp only[bne_self_eq_false,Eb8,decide_eq_true_eq,Qhg,if_false]
 split<;>(try split)<;>rfl
theorem oe9(x y:Int):U0 x y=ab2 x y:=by unfold U0;rw[qd1];rfl
theorem pe0(x y:Int):U1 x y=true:=by unfold U1;rw[qd1];rfl
def orI(a c d:Int):Int:=if a=0 then if c=0 then d else c else a
theorem ae3(a c d:Int):((lp (V4 ⟨[a,c,d],3⟩) ⟨0⟩).1=1/\gL tI [a,c,d] (lp (V4 ⟨[a,c,d],3⟩) ⟨0⟩).2.is8.toNat=orI a c d)\/((lp (V4 ⟨[a,c,d],3⟩) ⟨0⟩).1=2/\orI a c d=0):=by
 have g0:gL tI [a,c,d] 0=a:=rfl;have g1:gL tI [a,c,d] 1=c:=rfl;have g2:gL tI [a,c,d] 2=d:=rfl;refine Ub8 (step:=V4 ⟨[a,c,d],3⟩) (I:=λm s=>(m=3/\s=⟨0⟩)\/(m=2/\s=⟨1⟩/\a=0)\/(m=1/\s=⟨2⟩/\a=0/\c=0)\/(m=0/\s=⟨3⟩/\a=0/\c=0/\d=0))
  (Q:=λt s=>(t=1/\gL tI [a,c,d] s.is8.toNat=orI a c d)\/(t=2/\orI a c d=0)) (λm s hi=>?_) 3 ⟨0⟩ (by omega) (.inl ⟨rfl,rfl⟩)
 rcases hi with⟨rfl,rfl⟩|⟨rfl,rfl,ha⟩|⟨rfl,rfl,ha,hc⟩|⟨rfl,rfl,ha,hc,hd⟩
 ·by_cases h:a=0
  ·exact .inr ⟨⟨1⟩,2,rfl,by subst h;rfl,.inr (.inl ⟨rfl,rfl,h⟩)⟩
  ·refine .inl ⟨1,?_,.inl ⟨rfl,by unfold orI;rw[if_neg h];rfl⟩⟩
   show sl (a != 0) (Stp.exit 1) (Stp.next (⟨W (0+1)⟩:I7))=_;rw[bt (by simpa using h)]
 ·by_cases h:c=0
  ·exact .inr ⟨⟨2⟩,1,rfl,by subst h;rfl,.inr (.inr (.inl ⟨rfl,rfl,ha,h⟩))⟩
  ·refine .inl ⟨1,?_,.inl ⟨rfl,by unfold orI;rw[if_pos ha,if_neg h];rfl⟩⟩
   show sl (c != 0) (Stp.exit 1) (Stp.next (⟨W (1+1)⟩:I7))=_;rw[bt (by simpa using h)]
 ·by_cases h:d=0
  ·exact .inr ⟨⟨3⟩,0,rfl,by subst h;rfl,.inr (.inr (.inr ⟨rfl,rfl,ha,hc,h⟩))⟩
  ·refine .inl ⟨1,?_,.inl ⟨rfl,by unfold orI;rw[if_pos ha,if_pos hc];rfl⟩⟩
   show sl (d != 0) (Stp.exit 1) (Stp.next (⟨W (2+1)⟩:I7))=_;rw[bt (by simpa using h)]
 ·exact .inl ⟨2,rfl,.inr ⟨rfl,by unfold orI;rw[if_pos ha,if_pos hc];exact hd⟩⟩
theorem ie6(a c d:Int):Aa7 [a,c,d]=some (i (orI a c d),[]):=by
 have h:=ae3 a c d;unfold Aa7;simp only[o6,l9];rw[show ((([a,c,d]:List Int).length:Nat):Int)=3 from rfl]
 generalize lp (V4 ⟨[a,c,d],3⟩) ⟨0⟩=r at *
 rcases h with⟨h1,h2⟩|⟨h1,h2⟩
 ·rw[h1,h2];rfl
 ·rw[h1,h2];rfl
theorem Ge7(a c d:Int):Na3 [a,c,d]=orI a c d:=by unfold Na3;rw[ie6];rfl
theorem Ge8(a c d:Int):Na4 [a,c,d]=true:=by unfold Na4;rw[ie6];rfl
def bb3(x y:V3):Int:=orI (ab2 x.x y.x) (ab2 x.y y.y) (ab2 x.z y.z)
def LtV(x y:V3):Prop:=x.x<y.x\/x.x=y.x/\(x.y<y.y\/x.y=y.y/\x.z<y.z)
instance(x y:V3):Decidable (LtV x y):=by unfold LtV;exact inferInstance
theorem ae4(x y:V3):bb3 x y<0↔LtV x y:=by
 have h1:=jb0 x.x y.x;have h2:=Mb0 x.x y.x;have h3:=jb0 x.y y.y;have h4:=Mb0 x.y y.y;have h5:=jb0 x.z y.z;unfold bb3 orI LtV;split
 ·split<;>omega
 ·omega
theorem xa8(x y:V3):ltOf bb3 x y=decide (LtV x y):=by
 unfold ltOf;rw[decide_eq_decide];exact ae4 x y
theorem ye2:SWO (ltOf bb3) where
 irrefl x:=by rw[xa8];simp[LtV]
 trans x y z h1 h2:=by rw[xa8,decide_eq_true_eq] at *;unfold LtV at *;omega
 ntrans x y z h1 h2:=by rw[xa8,decide_eq_false_iff_not] at *;unfold LtV at *;omega
theorem Ge9(x y:V3)(h1:ltOf bb3 x y=false)(h2:ltOf bb3 y x=false):x=y:=by
 rw[xa8,decide_eq_false_iff_not] at *
 unfold LtV at *
 obtain⟨a,b,c⟩:=x;obtain⟨a',b',c'⟩:=y
 simp only at *
 have:a=a'/\b=b'/\c=c':=by omega
 obtain⟨rfl,rfl,rfl⟩:=this;rfl
theorem Zb8(x y:V3):oa8 x y=some (i (bb3 x y),[]):=by
 unfold oa8 bb3;simp only[oe9,pe0,Ge7,Ge8,u9]
theorem pe1(x y:V3):Aa8 x y=bb3 x y:=by unfold Aa8;rw[Zb8];rfl
theorem pe2(x y:V3):Aa9 x y=true:=by unfold Aa9;rw[Zb8];rfl
theorem pe3(x y:V3):(Ta6 [.agg (tV.row x),.agg (tV.row y)] []).run=some (i (bb3 x y),[]):=by
 have:(Ta6 [.agg (tV.row x),.agg (tV.row y)] []).run=sel (Aa9 x y) (some (i (Aa8 x y),[])) none:=by kernel_rfl
 rw[this,pe2,pe1]
def Kd1(p:V3):List Value:=[.int .i64 p.x,.int .i64 p.y,.int .i64 p.z]
instance:Inhabited V3:=⟨⟨0,0,0⟩⟩
def mb4(l:List V3):List V3:=l.mergeSort λx y=>!ltOf bb3 y x
theorem Fc1(l:List V3):(mb4 l).length=l.length:=Qhf l
noncomputable def ma5:Sum:=pd1 tV 74 25 mb4
theorem zd5:Ce.sortLayV_ren.f 6=73:=by kernel_rfl
theorem rc2:Ce.sortLayV_ren.t 24=25:=by kernel_rfl
set_option maxRecDepth 100000 in
theorem Ba0:i6 prog G 73 ma5:=by
 refine pd2 (enc:=Kd1) (cf:=bb3) ⟨_,Tryz.func73,by kernel_rfl,of_decide_eq_true (by kernel_rfl)⟩ (by decide) (λ_=>rfl) (λr h=>Pa4 (n:=3) h) (λx v hv=>?_) Fc1
  (λblk off size w=>pd0 dc6 pe3 (λ_=>rfl) (λ_=>rfl) _ _ _ _ _) (λblk cap d w hcl hH hb hs=>?_)
 ·simp[Kd1] at hv
  rcases hv with rfl|rfl|rfl<;>rfl
 ·have eg:∀args w,(callFunc 74 args).run Tryz.prog w=.ok (.enter 74 args) w:=enters_of Tryz.func74 (by kernel_rfl) rfl
  have:=AnyQ.slices_SortFunc Ce.sortLayV 3 (by rw[rc2];exact Tryz.isAgg25) (by rw[rc2];exact Tryz.sizeOf25) Kd1 (λ_=>rfl) (λx v hv=>by simp[Kd1] at hv;rcases hv with rfl | rfl | rfl<;>rfl) bb3 ye2 74 #[] blk 0 cap d w eg (hcl 0 d.size) hH hb hs
  rw[zd5] at this;refine this.mono λe w' ⟨h1,d',n,os,h2,h3,h4⟩=>⟨h1,n,os,?_⟩
  have h5:=sorted_unique_holds ye2 Ge9 d d' h2 h3;rw[h4];show _=sortWorldK Kd1 3 w blk 0 n (d.toList.mergeSort λx y=>!ltOf bb3 y x).toArray os
  rw[<- h5]
end Go.Ev.Ce
namespace Go.Ev.Ce
open Go Go.Ev Go.Ev.L Go.Proofs
set_option maxRecDepth 100000
noncomputable def yb1:List (Nat×Sum):=[]
theorem sb1:j9 prog G yb1:=trivial
structure ia1 where
 (alt ns0:Nat)
 eh0:List (List c7)
noncomputable def P4{α:Type}(kk:ia1->α)(x:V3×List V3):α:=(sl (Nat.beq 0 0&&Nat.ble ((0+(len (o5 (λk=>(tV).row (gL tV (x.1::x.2) k)) (List.range (List.length x.2+1)))))*24) room) (kk ⟨1,(0+(len (o5 (λk=>(tV).row (gL tV (x.1::x.2) k)) (List.range (List.length x.2+1))))),(app [] (o5 (λk=>(tV).row (gL tV (x.1::x.2) k)) (List.range (List.length x.2+1))))⟩) (kk ⟨0,0,[]⟩))
noncomputable def aa0(x:V3×List V3):ia1:=P4 (λr=>r) x
noncomputable def sa6(r:ia1):DT (c7×List c9):=(.ite (Nat.beq r.alt 1) (.ret (.sl 0 0 r.ns0 0,[⟨25,3,r.eh0,true,false,0⟩])) .fail)
theorem Gb1{α β:Type}(F:α->β)(kk:ia1->α)(x:V3×List V3):F (P4 kk x)=P4 (λr=>F (kk r)) x:=by unfold P4;(repeat' apply q9 (f:=F))<;>rfl
noncomputable def wa8:Sum:=L0 (Uc8 tV) (λx=>sa6 (aa0 x))
theorem La6:i6 prog G 72 wa8:=ib0 (bd b72 sb1) λx=>y5 (Qhd (b:=P4 (λr=>(sa6 r).run) x) (by kernel_rfl) (Gb1 (λr=>(sa6 r).run) (λr=>r) x).symm)
structure ca9 where
 ns0:Nat
 eh0:List (List c7)
noncomputable def ma6:List (Nat×Sum):=[]
theorem jb7:j9 prog G ma6:=trivial
structure B5 where
 (ns0 os4 ns4:Nat)
structure o0 where
 (is3 is5:Int)
 eh0:List (List c7)
noncomputable def xa9(p:B5)(s:o0):St:=⟨.sl 0 0 p.ns0 0::.unk::.unk::i s.is3::.sl 0 p.os4 p.ns4 0::i s.is5::ra 55 [],[⟨25,3,s.eh0,true,false,0⟩]⟩
noncomputable def I8{α:Type}(k:o0->α)(e:Nat->α)(z:α)(p:B5)(s:o0):α:=(sl (decide (s.is5<(↑p.ns4:Int))) (sl (inB s.is5 p.ns4) (sl (ldR tV s.eh0 (p.os4+s.is5.toNat)) (sl (inB (W (s.is5-1)) p.ns4) (sl (ldR tV s.eh0 (p.os4+(W (s.is5-1)).toNat)) (sl (!(((rdR tV s.eh0 (p.os4+s.is5.toNat)).x==(rdR tV s.eh0 (p.os4+(W (s.is5-1)).toNat)).x)&&(((rdR tV s.eh0 (p.os4+s.is5.toNat)).y==(rdR tV s.eh0 (p.os4+(W (s.is5-1)).toNat)).y)&&(((rdR tV s.eh0 (p.os4+s.is5.toNat)).z==(rdR tV s.eh0 (p.os4+(W (s.is5-1)).toNat)).z)&&true)))) (sl (inB s.is5 p.ns4) (sl (ldR tV s.eh0 (p.os4+s.is5.toNat)) (sl (inB s.is3 p.ns0) (sl ((Nat.blt (0+s.is3.toNat) (len s.eh0))&&(Nat.ble (0+3) (len (i9 s.eh0 (0+s.is3.toNat))))) (k ⟨W (s.is3+1),W (s.is5+1),setAt s.eh0 (0+s.is3.toNat) (O0 (i9 s.eh0 (0+s.is3.toNat)) 0 [i (rdR tV s.eh0 (p.os4+s.is5.toNat)).x,i (rdR tV s.eh0 (p.os4+s.is5.toNat)).y,i (rdR tV s.eh0 (p.os4+s.is5.toNat)).z])⟩) z) z) z) z) (k ⟨s.is3,W (s.is5+1),s.eh0⟩)) z) z) z) z) (e 1))
noncomputable def o8(p:B5)(s:o0):Stp o0:=I8 .next .exit .fail p s
noncomputable def ia2:Lo B5 o0:=⟨En ma6,1,oe3,[1,1,0,1,4,4,1,0,4,1,2,1,0,1,4,4],[0,3,4,5],.p,[⟨.s (.o (.sl 0 0 (some 0) none))::sUq::sUq::sIq::.s (.o (.sl 0 0 none none))::sIq::ru2 55 [],[⟨25,3,true,none⟩],λa H=>(⟨slN (slT a 0),slO (slT a 4),slN (slT a 4)⟩,⟨aIq a 3,aIq a 5,elT H 0⟩)⟩],o8,[(some 2,λp s=>upq (xa9 p s) [(29,i s.is5),(30,.sl 0 p.os4 p.ns4 0),(31,i (↑p.ns4:Int)),(32,b (decide (s.is5<(↑p.ns4:Int))))])],xa9⟩
theorem eb6:ia2.Ok:=Lo.ok [] (by kernel_rfl) .nil rfl (.cons (λa H=>by kernel_rfl) .nil) λp s=>(.of @I8 (λF _ _ _ _ _=>by unfold I8;(repeat' apply q9 (f:=F))<;>rfl) (by kernel_rfl))
structure M6 where
 ns0:Nat
 eh0:List (List c7)
structure p9 where
 is3:Int
noncomputable def ya0(p:M6)(s:p9):St:=⟨.sl 0 0 p.ns0 0::.unk::.unk::i s.is3::ra 57 [],[⟨25,3,p.eh0,true,false,0⟩]⟩
noncomputable def I9{α:Type}(k:p9->α)(e:Nat->α)(z:α)(p:M6)(s:p9):α:=let t1:=(lp (o8 (⟨p.ns0,0+s.is3.toNat,p.ns0-s.is3.toNat⟩:B5)) (⟨s.is3,1,p.eh0⟩:o0));(sl (decide (s.is3<(↑p.ns0:Int))) (sl (inB s.is3 p.ns0) (sl (ldR tV p.eh0 (0+s.is3.toNat)) (sl (inB (W (s.is3-1)) p.ns0) (sl (ldR tV p.eh0 (0+(W (s.is3-1)).toNat)) (sl (((rdR tV p.eh0 (0+s.is3.toNat)).x==(rdR tV p.eh0 (0+(W (s.is3-1)).toNat)).x)&&(((rdR tV p.eh0 (0+s.is3.toNat)).y==(rdR tV p.eh0 (0+(W (s.is3-1)).toNat)).y)&&(((rdR tV p.eh0 (0+s.is3.toNat)).z==(rdR tV p.eh0 (0+(W (s.is3-1)).toNat)).z)&&true))) (sl (inB s.is3 (p.ns0+1)) (sl (Nat.beq t1.1 1) (sl (inB t1.2.is3 (p.ns0+1)) (sl (inB t1.2.is3 (p.ns0+1)) (e 1) z) z) z) z) (k ⟨W (s.is3+1)⟩)) z) z) z) z) (e 2))
noncomputable def K4(p:M6)(s:p9):Stp p9:=I9 .next .exit .fail p s
noncomputable def ia3:Lo M6 p9:=⟨En ma6,1,oe3,[1,1,0,1,4,4],[0,3],.s .p (.s (.b (.s .p (.c (.s .p (.s (.s .p (.b (.u ia2.ls))) .p)) .p))) .p),[⟨.s (.o (.sl 0 0 (some 0) none))::sUq::sUq::sIq::ru2 57 [],[⟨25,3,true,none⟩],λa H=>(⟨slN (slT a 0),elT H 0⟩,⟨aIq a 3⟩)⟩],K4,[(none,λp s=>let t1:=(lp (o8 (⟨p.ns0,0+s.is3.toNat,p.ns0-s.is3.toNat⟩:B5)) (⟨s.is3,1,p.eh0⟩:o0));⟨[.sl 0 0 (t1.2.is3.toNat-0) 0],[⟨25,3,app (F6 t1.2.eh0 (0+t1.2.is3.toNat)) (app (List.replicate (p.ns0-t1.2.is3.toNat) [i 0,i 0,i 0]) (i7 t1.2.eh0 ((0+t1.2.is3.toNat)+(p.ns0-t1.2.is3.toNat)))),true,false,0⟩]⟩),(some 0,λp s=>upq (ya0 p s) [(10,i s.is3),(11,.sl 0 0 p.ns0 0),(12,i (↑p.ns0:Int)),(13,b (decide (s.is3<(↑p.ns0:Int))))])],ya0⟩
theorem eb7:ia3.Ok:=Lo.ok [ia2.pr] (by kernel_rfl) (.cons eb6 .nil) rfl (.cons (λa H=>by kernel_rfl) .nil) λp s=>(.of @I9 (λF _ _ _ _ _=>by unfold I9;(repeat' apply q9 (f:=F))<;>rfl) (by kernel_rfl))
structure da0 where
 (alt ns0:Nat)
 eh0:List (List c7)
noncomputable def K5{α:Type}(kk:da0->α)(x:ca9):α:=let t1:=(lp (K4 (⟨x.ns0,x.eh0⟩:M6)) (⟨1⟩:p9));let t2:=(lp (o8 (⟨x.ns0,0+t1.2.is3.toNat,x.ns0-t1.2.is3.toNat⟩:B5)) (⟨t1.2.is3,1,x.eh0⟩:o0));(sl (decide ((↑x.ns0:Int)<2)) (kk ⟨1,x.ns0,x.eh0⟩) (sl (Nat.beq t1.1 1) (kk ⟨1,t2.2.is3.toNat-0,app (F6 t2.2.eh0 (0+t2.2.is3.toNat)) (app (List.replicate (x.ns0-t2.2.is3.toNat) [i 0,i 0,i 0]) (i7 t2.2.eh0 ((0+t2.2.is3.toNat)+(x.ns0-t2.2.is3.toNat))))⟩) (sl (Nat.beq t1.1 2) (kk ⟨1,x.ns0,x.eh0⟩) (kk ⟨0,0,[]⟩))))
noncomputable def K6(x:ca9):da0:=K5 (λr=>r) x
noncomputable def ma7(x:ca9)(r:da0):DT (c7×List c9):=(.ite (Nat.beq r.alt 1) (.ret (.sl 0 0 r.ns0 0,[⟨25,3,r.eh0,true,false,0⟩])) .fail)
theorem sb2{α β:Type}(F:α->β)(kk:da0->α)(x:ca9):F (K5 kk x)=K5 (λr=>F (kk r)) x:=by unfold K5;(repeat' apply q9 (f:=F))<;>rfl
noncomputable def oa9:Sum:=Va7 ⟨[.s (.o (.sl 0 0 (some 0) none))],[⟨25,3,true,none⟩],λa H=>(⟨slN (slT a 0),elT H 0⟩,())⟩ (λx=>ma7 x (K6 x))
theorem Ca8:i6 prog G 75 oa9:=R2 (enc:=λx=>⟨[.sl 0 0 x.ns0 0],[⟨25,3,x.eh0,true,false,0⟩]⟩) (λa H=>by kernel_rfl) (bd b75 jb7) λx=>ib8 (.s .p (.s .p (.s (.s .p (.b (.u ia3.ls))) .p))) [ia3.pr] (by kernel_rfl) (.cons eb7 .nil) (Qhd (b:=K5 (λr=>(ma7 x r).run) x) (by kernel_rfl) (sb2 (λr=>(ma7 x r).run) (λr=>r) x).symm)
noncomputable def Ub9:List (Nat×Sum):=[(72,wa8),(73,ma5),(75,oa9)]
theorem Nb0:j9 prog G Ub9:=⟨La6,Ba0,Ca8,trivial⟩
noncomputable def ja8(x:V3×List V3):Option (c7×List c9):=let t1:=(aa0 (hC tV (λk=>(tV).row (gL tV (x.1::x.2) k)),tC tV (List.length x.2) (λk=>(tV).row (gL tV (x.1::x.2) k))));let t2:=(K6 ⟨t1.ns0,app (bL tV (mb4 (slR tV t1.eh0 0 t1.ns0))) (i7 t1.eh0 t1.ns0)⟩);(sl (okL tV (List.length x.2+1) (λk=>(tV).row (gL tV (x.1::x.2) k))) (sl (Nat.beq t1.alt 1) (sl (Bool.and (Nat.ble t1.ns0 room) (Bool.and (Nat.ble t1.ns0 (len t1.eh0)) (okS tV t1.eh0 0 t1.ns0))) (sl (Nat.beq t2.alt 1) (some (.sl 0 0 t2.ns0 0,[⟨25,3,t2.eh0,true,false,0⟩])) none) none) none) none)
noncomputable def Ka2(x:V3×List V3):List V3:=V0 (one (r1L tV)) (ja8 x)
noncomputable def Ka3(x:V3×List V3):Bool:=okO (one (r1L tV)) (ja8 x)
noncomputable def mb5:Sum:=L0 (Uc8 tV) (λx=>.guard (Ka3 x) (.ret ((one (r1L tV)).enc (Ka2 x),[])))
theorem Vb0:i6 prog G 45 mb5:=Da4 (bd b45 Nb0) (one (r1L tV)) (o:=ja8) λx=>y5 (by kernel_rfl)
noncomputable def Ga4:List (Nat×Sum):=[(44,Na2),(45,mb5),(77,Ja8),(78,Mb2),(47,Ab5),(48,xa4),(46,ga6)]
theorem rc3:j9 prog G Ga4:=⟨bb2,Vb0,eb2,yc8,qc8,ab4,ja4,trivial⟩
structure M7 where
 (is3 is4 is9 w6 Wa5 H6 hc3:Int)
 (d7 g7:List V3)
structure y9 where
 ph:Nat
 B0:Int
 eh4:List (List c7)
 A3:Nat
 eh5:List (List c7)
noncomputable def eb8(p:M7)(s:y9):St:=⟨.unk::.ptr 0 0 0 0::.unk::i p.is3::i p.is4::ra 4 (i p.is9::i p.w6::ra 5 (i p.Wa5::i p.H6::ra 5 (i p.hc3::i s.B0::ra 35 (i 0::.unk::.ptr 1 0 0 0::.v (.slice none 0 0)::i 0::.unk::.ptr 2 0 0 0::.ptr 3 0 0 0::ra 28 [])))),[⟨0,1,[[eL tV p.d7]],true,false,0⟩,⟨0,1,[[eL tV p.g7]],true,false,0⟩,⟨0,0,[[.ptr 4 0 0 0]],true,false,0⟩,⟨0,0,[[.v (.slice none 0 0)]],true,false,0⟩,⟨76,0,s.eh4,true,false,0⟩]⟩
noncomputable def eb9(p:M7)(s:y9):St:=⟨.unk::.ptr 0 0 0 0::.unk::i p.is3::i p.is4::ra 4 (i p.is9::i p.w6::ra 5 (i p.Wa5::i p.H6::ra 5 (i p.hc3::i s.B0::ra 35 (i 0::.unk::.ptr 1 0 0 0::.v (.slice none 0 0)::i 0::.unk::.ptr 2 0 0 0::.ptr 3 0 0 0::ra 28 [])))),[⟨0,1,[[eL tV p.d7]],true,false,0⟩,⟨0,1,[[eL tV p.g7]],true,false,0⟩,⟨0,0,[[.ptr 4 0 0 0]],true,false,0⟩,⟨0,0,[[.sl 5 0 s.A3 0]],true,false,0⟩,⟨76,0,s.eh4,true,false,0⟩,⟨60,4,s.eh5,true,false,0⟩]⟩
noncomputable def dc7(p:M7)(s:y9):St:=(sel (Nat.beq s.ph 1) (eb9 p s) (eb8 p s))
noncomputable def P5{α:Type}(k:y9->α)(e:Nat->α)(z:α)(p:M7)(s:y9):α:=let t1:=(E9 (gL tV p.d7 s.B0.toNat) (gL tV p.d7 p.is4.toNat) (gL tV p.d7 p.is3.toNat));let t2:=(qa9 t1.1);let t3:=(Y3 (rt tV p.g7) t2);let t4:=(Y3 (rt tV p.g7) t1.1);(sl (decide (s.B0<p.hc3)) (sl (inB s.B0 (List.length p.d7)) (sl (inB p.is4 (List.length p.d7)) (sl (inB p.is3 (List.length p.d7)) (sl (ba9 (gL tV p.d7 s.B0.toNat) (gL tV p.d7 p.is4.toNat) (gL tV p.d7 p.is3.toNat)) (sl t1.2 (sl t1.2 (sl (Pa7 4 [(0,.int .i64),(1,.int .i64),(2,.int .i64),(3,.int .i64)] [i t1.1.n.x,i t1.1.n.y,i t1.1.n.z,i t1.1.b] s.eh4) (sl (Pa7 4 [(0,.int .i64),(1,.int .i64),(2,.int .i64),(3,.int .i64)] [i t2.n.x,i t2.n.y,i t2.n.z,i t2.b] s.eh4) (k ⟨0,W (s.B0+1),s.eh4,0,[]⟩) (sl (okE tV p.g7) (sl (F5 (rt tV p.g7) t2) (sl (!t3) (k ⟨1,W (s.B0+1),Z2 [(0,.int .i64),(1,.int .i64),(2,.int .i64),(3,.int .i64)] [i t2.n.x,i t2.n.y,i t2.n.z,i t2.b] [i t2.n.x,i t2.n.y,i t2.n.z,i t2.b,b true] s.eh4,1,[[i t2.n.x,i t2.n.y,i t2.n.z,i t2.b]]⟩) (k ⟨0,W (s.B0+1),Z2 [(0,.int .i64),(1,.int .i64),(2,.int .i64),(3,.int .i64)] [i t2.n.x,i t2.n.y,i t2.n.z,i t2.b] [i t2.n.x,i t2.n.y,i t2.n.z,i t2.b,b true] s.eh4,0,[]⟩)) z) z)) (sl (okE tV p.g7) (sl (F5 (rt tV p.g7) t1.1) (sl (!t4) (sl (Pa7 4 [(0,.int .i64),(1,.int .i64),(2,.int .i64),(3,.int .i64)] [i t2.n.x,i t2.n.y,i t2.n.z,i t2.b] (Z2 [(0,.int .i64),(1,.int .i64),(2,.int .i64),(3,.int .i64)] [i t1.1.n.x,i t1.1.n.y,i t1.1.n.z,i t1.1.b] [i t1.1.n.x,i t1.1.n.y,i t1.1.n.z,i t1.1.b,b true] s.eh4)) (k ⟨1,W (s.B0+1),Z2 [(0,.int .i64),(1,.int .i64),(2,.int .i64),(3,.int .i64)] [i t1.1.n.x,i t1.1.n.y,i t1.1.n.z,i t1.1.b] [i t1.1.n.x,i t1.1.n.y,i t1.1.n.z,i t1.1.b,b true] s.eh4,1,[[i t1.1.n.x,i t1.1.n.y,i t1.1.n.z,i t1.1.b]]⟩) (sl (okE tV p.g7) (sl (F5 (rt tV p.g7) t2) (sl (!t3) (k ⟨1,W (s.B0+1),Z2 [(0,.int .i64),(1,.int .i64),(2,.int .i64),(3,.int .i64)] [i t2.n.x,i t2.n.y,i t2.n.z,i t2.b] [i t2.n.x,i t2.n.y,i t2.n.z,i t2.b,b true] (Z2 [(0,.int .i64),(1,.int .i64),(2,.int .i64),(3,.int .i64)] [i t1.1.n.x,i t1.1.n.y,i t1.1.n.z,i t1.1.b] [i t1.1.n.x,i t1.1.n.y,i t1.1.n.z,i t1.1.b,b true] s.eh4),2,[[i t1.1.n.x,i t1.1.n.y,i t1.1.n.z,i t1.1.b],[i t2.n.x,i t2.n.y,i t2.n.z,i t2.b]]⟩) (k ⟨1,W (s.B0+1),Z2 [(0,.int .i64),(1,.int .i64),(2,.int .i64),(3,.int .i64)] [i t2.n.x,i t2.n.y,i t2.n.z,i t2.b] [i t2.n.x,i t2.n.y,i t2.n.z,i t2.b,b true] (Z2 [(0,.int .i64),(1,.int .i64),(2,.int .i64),(3,.int .i64)] [i t1.1.n.x,i t1.1.n.y,i t1.1.n.z,i t1.1.b] [i t1.1.n.x,i t1.1.n.y,i t1.1.n.z,i t1.1.b,b true] s.eh4),1,[[i t1.1.n.x,i t1.1.n.y,i t1.1.n.z,i t1.1.b]]⟩)) z) z)) (sl (Pa7 4 [(0,.int .i64),(1,.int .i64),(2,.int .i64),(3,.int .i64)] [i t2.n.x,i t2.n.y,i t2.n.z,i t2.b] (Z2 [(0,.int .i64),(1,.int .i64),(2,.int .i64),(3,.int .i64)] [i t1.1.n.x,i t1.1.n.y,i t1.1.n.z,i t1.1.b] [i t1.1.n.x,i t1.1.n.y,i t1.1.n.z,i t1.1.b,b true] s.eh4)) (k ⟨0,W (s.B0+1),Z2 [(0,.int .i64),(1,.int .i64),(2,.int .i64),(3,.int .i64)] [i t1.1.n.x,i t1.1.n.y,i t1.1.n.z,i t1.1.b] [i t1.1.n.x,i t1.1.n.y,i t1.1.n.z,i t1.1.b,b true] s.eh4,0,[]⟩) (sl (okE tV p.g7) (sl (F5 (rt tV p.g7) t2) (sl (!t3) (k ⟨1,W (s.B0+1),Z2 [(0,.int .i64),(1,.int .i64),(2,.int .i64),(3,.int .i64)] [i t2.n.x,i t2.n.y,i t2.n.z,i t2.b] [i t2.n.x,i t2.n.y,i t2.n.z,i t2.b,b true] (Z2 [(0,.int .i64),(1,.int .i64),(2,.int .i64),(3,.int .i64)] [i t1.1.n.x,i t1.1.n.y,i t1.1.n.z,i t1.1.b] [i t1.1.n.x,i t1.1.n.y,i t1.1.n.z,i t1.1.b,b true] s.eh4),1,[[i t2.n.x,i t2.n.y,i t2.n.z,i t2.b]]⟩) (k ⟨0,W (s.B0+1),Z2 [(0,.int .i64),(1,.int .i64),(2,.int .i64),(3,.int .i64)] [i t2.n.x,i t2.n.y,i t2.n.z,i t2.b] [i t2.n.x,i t2.n.y,i t2.n.z,i t2.b,b true] (Z2 [(0,.int .i64),(1,.int .i64),(2,.int .i64),(3,.int .i64)] [i t1.1.n.x,i t1.1.n.y,i t1.1.n.z,i t1.1.b] [i t1.1.n.x,i t1.1.n.y,i t1.1.n.z,i t1.1.b,b true] s.eh4),0,[]⟩)) z) z))) z) z)) (k ⟨0,W (s.B0+1),s.eh4,0,[]⟩)) (sl t1.2 z (k ⟨0,W (s.B0+1),s.eh4,0,[]⟩))) z) z) z) z) (e 1))
noncomputable def P6{α:Type}(k:y9->α)(e:Nat->α)(z:α)(p:M7)(s:y9):α:=let t1:=(E9 (gL tV p.d7 s.B0.toNat) (gL tV p.d7 p.is4.toNat) (gL tV p.d7 p.is3.toNat));let t2:=(qa9 t1.1);let t3:=(Y3 (rt tV p.g7) t2);let t4:=(Y3 (rt tV p.g7) t1.1);let a0:=(Nat.beq s.A3 (len s.eh5)&&Nat.ble ((s.A3+1)*32) room);(sl (decide (s.B0<p.hc3)) (sl (inB s.B0 (List.length p.d7)) (sl (inB p.is4 (List.length p.d7)) (sl (inB p.is3 (List.length p.d7)) (sl (ba9 (gL tV p.d7 s.B0.toNat) (gL tV p.d7 p.is4.toNat) (gL tV p.d7 p.is3.toNat)) (sl t1.2 (sl t1.2 (sl (Pa7 4 [(0,.int .i64),(1,.int .i64),(2,.int .i64),(3,.int .i64)] [i t1.1.n.x,i t1.1.n.y,i t1.1.n.z,i t1.1.b] s.eh4) (sl (Pa7 4 [(0,.int .i64),(1,.int .i64),(2,.int .i64),(3,.int .i64)] [i t2.n.x,i t2.n.y,i t2.n.z,i t2.b] s.eh4) (k ⟨1,W (s.B0+1),s.eh4,s.A3,s.eh5⟩) (sl (okE tV p.g7) (sl (F5 (rt tV p.g7) t2) (sl (!t3) (sl a0 (k ⟨1,W (s.B0+1),Z2 [(0,.int .i64),(1,.int .i64),(2,.int .i64),(3,.int .i64)] [i t2.n.x,i t2.n.y,i t2.n.z,i t2.b] [i t2.n.x,i t2.n.y,i t2.n.z,i t2.b,b true] s.eh4,s.A3+1,app s.eh5 [[i t2.n.x,i t2.n.y,i t2.n.z,i t2.b]]⟩) z) (k ⟨1,W (s.B0+1),Z2 [(0,.int .i64),(1,.int .i64),(2,.int .i64),(3,.int .i64)] [i t2.n.x,i t2.n.y,i t2.n.z,i t2.b] [i t2.n.x,i t2.n.y,i t2.n.z,i t2.b,b true] s.eh4,s.A3,s.eh5⟩)) z) z)) (sl (okE tV p.g7) (sl (F5 (rt tV p.g7) t1.1) (sl (!t4) (sl a0 (sl (Pa7 4 [(0,.int .i64),(1,.int .i64),(2,.int .i64),(3,.int .i64)] [i t2.n.x,i t2.n.y,i t2.n.z,i t2.b] (Z2 [(0,.int .i64),(1,.int .i64),(2,.int .i64),(3,.int .i64)] [i t1.1.n.x,i t1.1.n.y,i t1.1.n.z,i t1.1.b] [i t1.1.n.x,i t1.1.n.y,i t1.1.n.z,i t1.1.b,b true] s.eh4)) (k ⟨1,W (s.B0+1),Z2 [(0,.int .i64),(1,.int .i64),(2,.int .i64),(3,.int .i64)] [i t1.1.n.x,i t1.1.n.y,i t1.1.n.z,i t1.1.b] [i t1.1.n.x,i t1.1.n.y,i t1.1.n.z,i t1.1.b,b true] s.eh4,s.A3+1,app s.eh5 [[i t1.1.n.x,i t1.1.n.y,i t1.1.n.z,i t1.1.b]]⟩) (sl (okE tV p.g7) (sl (F5 (rt tV p.g7) t2) (sl (!t3) (sl (Nat.beq (s.A3+1) (len (app s.eh5 [[i t1.1.n.x,i t1.1.n.y,i t1.1.n.z,i t1.1.b]]))&&Nat.ble (((s.A3+1)+1)*32) room) (k ⟨1,W (s.B0+1),Z2 [(0,.int .i64),(1,.int .i64),(2,.int .i64),(3,.int .i64)] [i t2.n.x,i t2.n.y,i t2.n.z,i t2.b] [i t2.n.x,i t2.n.y,i t2.n.z,i t2.b,b true] (Z2 [(0,.int .i64),(1,.int .i64),(2,.int .i64),(3,.int .i64)] [i t1.1.n.x,i t1.1.n.y,i t1.1.n.z,i t1.1.b] [i t1.1.n.x,i t1.1.n.y,i t1.1.n.z,i t1.1.b,b true] s.eh4),(s.A3+1)+1,app (app s.eh5 [[i t1.1.n.x,i t1.1.n.y,i t1.1.n.z,i t1.1.b]]) [[i t2.n.x,i t2.n.y,i t2.n.z,i t2.b]]⟩) z) (k ⟨1,W (s.B0+1),Z2 [(0,.int .i64),(1,.int .i64),(2,.int .i64),(3,.int .i64)] [i t2.n.x,i t2.n.y,i t2.n.z,i t2.b] [i t2.n.x,i t2.n.y,i t2.n.z,i t2.b,b true] (Z2 [(0,.int .i64),(1,.int .i64),(2,.int .i64),(3,.int .i64)] [i t1.1.n.x,i t1.1.n.y,i t1.1.n.z,i t1.1.b] [i t1.1.n.x,i t1.1.n.y,i t1.1.n.z,i t1.1.b,b true] s.eh4),s.A3+1,app s.eh5 [[i t1.1.n.x,i t1.1.n.y,i t1.1.n.z,i t1.1.b]]⟩)) z) z)) z) (sl (Pa7 4 [(0,.int .i64),(1,.int .i64),(2,.int .i64),(3,.int .i64)] [i t2.n.x,i t2.n.y,i t2.n.z,i t2.b] (Z2 [(0,.int .i64),(1,.int .i64),(2,.int .i64),(3,.int .i64)] [i t1.1.n.x,i t1.1.n.y,i t1.1.n.z,i t1.1.b] [i t1.1.n.x,i t1.1.n.y,i t1.1.n.z,i t1.1.b,b true] s.eh4)) (k ⟨1,W (s.B0+1),Z2 [(0,.int .i64),(1,.int .i64),(2,.int .i64),(3,.int .i64)] [i t1.1.n.x,i t1.1.n.y,i t1.1.n.z,i t1.1.b] [i t1.1.n.x,i t1.1.n.y,i t1.1.n.z,i t1.1.b,b true] s.eh4,s.A3,s.eh5⟩) (sl (okE tV p.g7) (sl (F5 (rt tV p.g7) t2) (sl (!t3) (sl a0 (k ⟨1,W (s.B0+1),Z2 [(0,.int .i64),(1,.int .i64),(2,.int .i64),(3,.int .i64)] [i t2.n.x,i t2.n.y,i t2.n.z,i t2.b] [i t2.n.x,i t2.n.y,i t2.n.z,i t2.b,b true] (Z2 [(0,.int .i64),(1,.int .i64),(2,.int .i64),(3,.int .i64)] [i t1.1.n.x,i t1.1.n.y,i t1.1.n.z,i t1.1.b] [i t1.1.n.x,i t1.1.n.y,i t1.1.n.z,i t1.1.b,b true] s.eh4),s.A3+1,app s.eh5 [[i t2.n.x,i t2.n.y,i t2.n.z,i t2.b]]⟩) z) (k ⟨1,W (s.B0+1),Z2 [(0,.int .i64),(1,.int .i64),(2,.int .i64),(3,.int .i64)] [i t2.n.x,i t2.n.y,i t2.n.z,i t2.b] [i t2.n.x,i t2.n.y,i t2.n.z,i t2.b,b true] (Z2 [(0,.int .i64),(1,.int .i64),(2,.int .i64),(3,.int .i64)] [i t1.1.n.x,i t1.1.n.y,i t1.1.n.z,i t1.1.b] [i t1.1.n.x,i t1.1.n.y,i t1.1.n.z,i t1.1.b,b true] s.eh4),s.A3,s.eh5⟩)) z) z))) z) z)) (k ⟨1,W (s.B0+1),s.eh4,s.A3,s.eh5⟩)) (sl t1.2 z (k ⟨1,W (s.B0+1),s.eh4,s.A3,s.eh5⟩))) z) z) z) z) (e 2))
noncomputable def N7(p:M7)(s:y9):Stp y9:=(sel (Nat.beq s.ph 1) (P6 .next .exit .fail p s) (P5 .next .exit .fail p s))
noncomputable def Ta8:Lo M7 y9:=⟨En Ga4,0,Zd7,[1,1,1,1,1,0,1,4,4,1,4,4,1,1,0,4,1,1,4,4,1,1,0,4,1,1,4,4],[1,3,4,9,10,16,17,23,24,60,62,63,64,66,67],.p,[⟨sUq::sPq 0::sUq::sIq::sIq::ru2 4 (sIq::sIq::ru2 5 (sIq::sIq::ru2 5 (sIq::sIq::ru2 35 (.s (.o (.lit .i64 0))::sUq::sPq 1::.s (.o .nil)::.s (.o (.lit .i64 0))::sUq::sPq 2::sPq 3::ru2 28 [])))),[⟨0,1,true,some [[.c 3 (nL tV)]]⟩,⟨0,1,true,some [[.c 3 (nL tV)]]⟩,⟨0,0,true,some [[.o (.ptr 4 0 0 0)]]⟩,⟨0,0,true,some [[.o .nil]]⟩,⟨76,0,true,none⟩],λa H=>(⟨aIq a 3,aIq a 4,aIq a 9,aIq a 10,aIq a 16,aIq a 17,aIq a 23,hLq tV H 0 0 0,hLq tV H 1 0 0⟩,⟨0,aIq a 24,elT H 4,0,[]⟩)⟩,⟨sUq::sPq 0::sUq::sIq::sIq::ru2 4 (sIq::sIq::ru2 5 (sIq::sIq::ru2 5 (sIq::sIq::ru2 35 (.s (.o (.lit .i64 0))::sUq::sPq 1::.s (.o .nil)::.s (.o (.lit .i64 0))::sUq::sPq 2::sPq 3::ru2 28 [])))),[⟨0,1,true,some [[.c 3 (nL tV)]]⟩,⟨0,1,true,some [[.c 3 (nL tV)]]⟩,⟨0,0,true,some [[.o (.ptr 4 0 0 0)]]⟩,⟨0,0,true,some [[.o (.sl 5 0 (some 0) none)]]⟩,⟨76,0,true,none⟩,⟨60,4,true,none⟩],λa H=>(⟨aIq a 3,aIq a 4,aIq a 9,aIq a 10,aIq a 16,aIq a 17,aIq a 23,hLq tV H 0 0 0,hLq tV H 1 0 0⟩,⟨1,aIq a 24,elT H 4,slN (slT (rwT (elT H 3) 0) 0),elT H 5⟩)⟩],N7,[(some 4,λp s=>upq (eb8 p s) [(25,b (decide (s.B0<p.hc3)))]),(some 4,λp s=>upq (eb9 p s) [(25,b (decide (s.B0<p.hc3)))])],dc7⟩
theorem dc8:Ta8.OkM:=Lo.okM [] (by kernel_rfl) .nil rfl (.cons (λa H=>by kernel_rfl) (.cons (λa H=>by kernel_rfl) .nil)) λp s=>(.sel (Nat.beq s.ph 1) (.of @P6 (λF _ _ _ _ _=>by unfold P6;(repeat' apply q9 (f:=F))<;>rfl) (by kernel_rfl)) (.of @P5 (λF _ _ _ _ _=>by unfold P5;(repeat' apply q9 (f:=F))<;>rfl) (by kernel_rfl)))
structure M8 where
 (is3 is9 w6 Wa5:Int)
structure s8 where
 ph:Nat
 H6:Int
 (d7 g7:List V3)
 eh4:List (List c7)
 A3:Nat
 eh5:List (List c7)
noncomputable def fb0(p:M8)(s:s8):St:=⟨.unk::.ptr 0 0 0 0::.unk::i p.is3::ra 5 (i p.is9::i p.w6::ra 5 (i p.Wa5::i s.H6::ra 42 (i 0::.unk::.ptr 1 0 0 0::.v (.slice none 0 0)::i 0::.unk::.ptr 2 0 0 0::.ptr 3 0 0 0::ra 28 []))),[⟨0,1,[[eL tV s.d7]],true,false,0⟩,⟨0,1,[[eL tV s.g7]],true,false,0⟩,⟨0,0,[[.ptr 4 0 0 0]],true,false,0⟩,⟨0,0,[[.v (.slice none 0 0)]],true,false,0⟩,⟨76,0,s.eh4,true,false,0⟩]⟩
noncomputable def fb1(p:M8)(s:s8):St:=⟨.unk::.ptr 0 0 0 0::.unk::i p.is3::ra 5 (i p.is9::i p.w6::ra 5 (i p.Wa5::i s.H6::ra 42 (i 0::.unk::.ptr 1 0 0 0::.v (.slice none 0 0)::i 0::.unk::.ptr 2 0 0 0::.ptr 3 0 0 0::ra 28 []))),[⟨0,1,[[eL tV s.d7]],true,false,0⟩,⟨0,1,[[eL tV s.g7]],true,false,0⟩,⟨0,0,[[.ptr 4 0 0 0]],true,false,0⟩,⟨0,0,[[.sl 5 0 s.A3 0]],true,false,0⟩,⟨76,0,s.eh4,true,false,0⟩,⟨60,4,s.eh5,true,false,0⟩]⟩
noncomputable def dc9(p:M8)(s:s8):St:=(sel (Nat.beq s.ph 1) (fb1 p s) (fb0 p s))
noncomputable def P7{α:Type}(k:s8->α)(e:Nat->α)(z:α)(p:M8)(s:s8):α:=let t1:=(lp (N7 (⟨p.is3,s.H6,p.is9,p.w6,p.Wa5,s.H6,(↑(s.H6.toNat-0):Int),rt tV s.d7,rt tV s.g7⟩:M7)) (⟨0,0,s.eh4,0,[]⟩:y9));(sl (decide (s.H6<p.Wa5)) (sl (inB s.H6 ((List.length s.d7)+1)) (sl ((cnE tV s.d7)&&((cnE tV s.g7)&&true)) (sl (Nat.beq t1.1 1) (k ⟨0,W (s.H6+1),rt tV s.d7,rt tV s.g7,t1.2.eh4,0,[]⟩) (sl (Nat.beq t1.1 2) (k ⟨1,W (s.H6+1),rt tV s.d7,rt tV s.g7,t1.2.eh4,t1.2.A3,t1.2.eh5⟩) z)) z) z) (e 1))
noncomputable def P8{α:Type}(k:s8->α)(e:Nat->α)(z:α)(p:M8)(s:s8):α:=let t1:=(lp (N7 (⟨p.is3,s.H6,p.is9,p.w6,p.Wa5,s.H6,(↑(s.H6.toNat-0):Int),rt tV s.d7,rt tV s.g7⟩:M7)) (⟨1,0,s.eh4,s.A3,s.eh5⟩:y9));(sl (decide (s.H6<p.Wa5)) (sl (inB s.H6 ((List.length s.d7)+1)) (sl ((cnE tV s.d7)&&((cnE tV s.g7)&&true)) (sl (Nat.beq t1.1 1) (k ⟨0,W (s.H6+1),rt tV s.d7,rt tV s.g7,t1.2.eh4,0,[]⟩) (sl (Nat.beq t1.1 2) (k ⟨1,W (s.H6+1),rt tV s.d7,rt tV s.g7,t1.2.eh4,t1.2.A3,t1.2.eh5⟩) z)) z) z) (e 2))
noncomputable def V5(p:M8)(s:s8):Stp s8:=(sel (Nat.beq s.ph 1) (P8 .next .exit .fail p s) (P7 .next .exit .fail p s))
noncomputable def Ta9:Lo M8 s8:=⟨En Ga4,0,Zd7,[1,1,1,1,1,0,1,4,4,1,4,4,1,1,0,4,1,1,4,4],[1,3,9,10,16,17,60,62,63,64,66,67],.s .p (.s .p (.s (.b (.s .p (.s .p (.b (.u Ta8.lsM))))) .p)),[⟨sUq::sPq 0::sUq::sIq::ru2 5 (sIq::sIq::ru2 5 (sIq::sIq::ru2 42 (.s (.o (.lit .i64 0))::sUq::sPq 1::.s (.o .nil)::.s (.o (.lit .i64 0))::sUq::sPq 2::sPq 3::ru2 28 []))),[⟨0,1,true,some [[.c 3 (nL tV)]]⟩,⟨0,1,true,some [[.c 3 (nL tV)]]⟩,⟨0,0,true,some [[.o (.ptr 4 0 0 0)]]⟩,⟨0,0,true,some [[.o .nil]]⟩,⟨76,0,true,none⟩],λa H=>(⟨aIq a 3,aIq a 9,aIq a 10,aIq a 16⟩,⟨0,aIq a 17,hLq tV H 0 0 0,hLq tV H 1 0 0,elT H 4,0,[]⟩)⟩,⟨sUq::sPq 0::sUq::sIq::ru2 5 (sIq::sIq::ru2 5 (sIq::sIq::ru2 42 (.s (.o (.lit .i64 0))::sUq::sPq 1::.s (.o .nil)::.s (.o (.lit .i64 0))::sUq::sPq 2::sPq 3::ru2 28 []))),[⟨0,1,true,some [[.c 3 (nL tV)]]⟩,⟨0,1,true,some [[.c 3 (nL tV)]]⟩,⟨0,0,true,some [[.o (.ptr 4 0 0 0)]]⟩,⟨0,0,true,some [[.o (.sl 5 0 (some 0) none)]]⟩,⟨76,0,true,none⟩,⟨60,4,true,none⟩],λa H=>(⟨aIq a 3,aIq a 9,aIq a 10,aIq a 16⟩,⟨1,aIq a 17,hLq tV H 0 0 0,hLq tV H 1 0 0,elT H 4,slN (slT (rwT (elT H 3) 0) 0),elT H 5⟩)⟩],V5,[(some 2,λp s=>upq (fb0 p s) [(18,b (decide (s.H6<p.Wa5)))]),(some 2,λp s=>upq (fb1 p s) [(18,b (decide (s.H6<p.Wa5)))])],dc9⟩
theorem ec0:Ta9.OkM:=Lo.okM [Ta8.prM] (by kernel_rfl) (.cons dc8 .nil) rfl (.cons (λa H=>by kernel_rfl) (.cons (λa H=>by kernel_rfl) .nil)) λp s=>(.sel (Nat.beq s.ph 1) (.of @P8 (λF _ _ _ _ _=>by unfold P8;(repeat' apply q9 (f:=F))<;>rfl) (by kernel_rfl)) (.of @P7 (λF _ _ _ _ _=>by unfold P7;(repeat' apply q9 (f:=F))<;>rfl) (by kernel_rfl)))
structure S3 where
 is9:Int
structure z6 where
 ph:Nat
 w6:Int
 (d7 g7:List V3)
 eh4:List (List c7)
 A3:Nat
 eh5:List (List c7)
noncomputable def fb2(p:S3)(s:z6):St:=⟨.unk::.ptr 0 0 0 0::ra 7 (i p.is9::i s.w6::ra 49 (i 0::.unk::.ptr 1 0 0 0::.v (.slice none 0 0)::i 0::.unk::.ptr 2 0 0 0::.ptr 3 0 0 0::ra 28 [])),[⟨0,1,[[eL tV s.d7]],true,false,0⟩,⟨0,1,[[eL tV s.g7]],true,false,0⟩,⟨0,0,[[.ptr 4 0 0 0]],true,false,0⟩,⟨0,0,[[.v (.slice none 0 0)]],true,false,0⟩,⟨76,0,s.eh4,true,false,0⟩]⟩
noncomputable def fb3(p:S3)(s:z6):St:=⟨.unk::.ptr 0 0 0 0::ra 7 (i p.is9::i s.w6::ra 49 (i 0::.unk::.ptr 1 0 0 0::.v (.slice none 0 0)::i 0::.unk::.ptr 2 0 0 0::.ptr 3 0 0 0::ra 28 [])),[⟨0,1,[[eL tV s.d7]],true,false,0⟩,⟨0,1,[[eL tV s.g7]],true,false,0⟩,⟨0,0,[[.ptr 4 0 0 0]],true,false,0⟩,⟨0,0,[[.sl 5 0 s.A3 0]],true,false,0⟩,⟨76,0,s.eh4,true,false,0⟩,⟨60,4,s.eh5,true,false,0⟩]⟩
noncomputable def ec1(p:S3)(s:z6):St:=(sel (Nat.beq s.ph 1) (fb3 p s) (fb2 p s))
noncomputable def P9{α:Type}(k:z6->α)(e:Nat->α)(z:α)(p:S3)(s:z6):α:=let t1:=(lp (V5 (⟨s.w6,p.is9,s.w6,(↑(s.w6.toNat-0):Int)⟩:M8)) (⟨0,0,rt tV s.d7,rt tV s.g7,s.eh4,0,[]⟩:s8));(sl (decide (s.w6<p.is9)) (sl (inB s.w6 ((List.length s.d7)+1)) (sl ((cnE tV s.d7)&&((cnE tV s.g7)&&true)) (sl (Nat.beq t1.1 1) (k ⟨0,W (s.w6+1),t1.2.d7,t1.2.g7,t1.2.eh4,0,[]⟩) (sl (Nat.beq t1.1 2) (k ⟨1,W (s.w6+1),t1.2.d7,t1.2.g7,t1.2.eh4,t1.2.A3,t1.2.eh5⟩) z)) z) z) (e 1))
noncomputable def Q0{α:Type}(k:z6->α)(e:Nat->α)(z:α)(p:S3)(s:z6):α:=let t1:=(lp (V5 (⟨s.w6,p.is9,s.w6,(↑(s.w6.toNat-0):Int)⟩:M8)) (⟨1,0,rt tV s.d7,rt tV s.g7,s.eh4,s.A3,s.eh5⟩:s8));(sl (decide (s.w6<p.is9)) (sl (inB s.w6 ((List.length s.d7)+1)) (sl ((cnE tV s.d7)&&((cnE tV s.g7)&&true)) (sl (Nat.beq t1.1 1) (k ⟨0,W (s.w6+1),t1.2.d7,t1.2.g7,t1.2.eh4,0,[]⟩) (sl (Nat.beq t1.1 2) (k ⟨1,W (s.w6+1),t1.2.d7,t1.2.g7,t1.2.eh4,t1.2.A3,t1.2.eh5⟩) z)) z) z) (e 2))
noncomputable def va5(p:S3)(s:z6):Stp z6:=(sel (Nat.beq s.ph 1) (Q0 .next .exit .fail p s) (P9 .next .exit .fail p s))
noncomputable def Ua0:Lo S3 z6:=⟨En Ga4,0,Zd7,[1,1,1,1,1,0,1,4,4,1,4,4],[1,9,10,60,62,63,64,66,67],.s .p (.s .p (.s (.b (.s .p (.s .p (.b (.u Ta9.lsM))))) .p)),[⟨sUq::sPq 0::ru2 7 (sIq::sIq::ru2 49 (.s (.o (.lit .i64 0))::sUq::sPq 1::.s (.o .nil)::.s (.o (.lit .i64 0))::sUq::sPq 2::sPq 3::ru2 28 [])),[⟨0,1,true,some [[.c 3 (nL tV)]]⟩,⟨0,1,true,some [[.c 3 (nL tV)]]⟩,⟨0,0,true,some [[.o (.ptr 4 0 0 0)]]⟩,⟨0,0,true,some [[.o .nil]]⟩,⟨76,0,true,none⟩],λa H=>(⟨aIq a 9⟩,⟨0,aIq a 10,hLq tV H 0 0 0,hLq tV H 1 0 0,elT H 4,0,[]⟩)⟩,⟨sUq::sPq 0::ru2 7 (sIq::sIq::ru2 49 (.s (.o (.lit .i64 0))::sUq::sPq 1::.s (.o .nil)::.s (.o (.lit .i64 0))::sUq::sPq 2::sPq 3::ru2 28 [])),[⟨0,1,true,some [[.c 3 (nL tV)]]⟩,⟨0,1,true,some [[.c 3 (nL tV)]]⟩,⟨0,0,true,some [[.o (.ptr 4 0 0 0)]]⟩,⟨0,0,true,some [[.o (.sl 5 0 (some 0) none)]]⟩,⟨76,0,true,none⟩,⟨60,4,true,none⟩],λa H=>(⟨aIq a 9⟩,⟨1,aIq a 10,hLq tV H 0 0 0,hLq tV H 1 0 0,elT H 4,slN (slT (rwT (elT H 3) 0) 0),elT H 5⟩)⟩],va5,[(some 0,λp s=>upq (fb2 p s) [(11,b (decide (s.w6<p.is9)))]),(some 0,λp s=>upq (fb3 p s) [(11,b (decide (s.w6<p.is9)))])],ec1⟩
theorem ec2:Ua0.OkM:=Lo.okM [Ta9.prM] (by kernel_rfl) (.cons ec0 .nil) rfl (.cons (λa H=>by kernel_rfl) (.cons (λa H=>by kernel_rfl) .nil)) λp s=>(.sel (Nat.beq s.ph 1) (.of @Q0 (λF _ _ _ _ _=>by unfold Q0;(repeat' apply q9 (f:=F))<;>rfl) (by kernel_rfl)) (.of @P9 (λF _ _ _ _ _=>by unfold P9;(repeat' apply q9 (f:=F))<;>rfl) (by kernel_rfl)))
noncomputable def ia4(x:V3×List V3):Option (c7×List c9):=let t1:=(ra2 (rt tV (x.1::x.2)));let t2:=(Ka2 (hC tV (λk=>(tV).row (gL tV (x.1::x.2) k)),tC tV (List.length x.2) (λk=>(tV).row (gL tV (x.1::x.2) k))));let t3:=(lp (va5 (⟨(↑(List.length t2):Int)⟩:S3)) (⟨0,0,rt tV t2,rt tV t2,[],0,[]⟩:z6));(sl (okE tV (x.1::x.2)) (sl (ra3 (rt tV (x.1::x.2))) (sl (t1 != 0) (some (.tup [.v (.slice none 0 0),i t1],[])) (sl (okL tV (List.length x.2+1) (λk=>(tV).row (gL tV (x.1::x.2) k))) (sl (Ka3 (hC tV (λk=>(tV).row (gL tV (x.1::x.2) k)),tC tV (List.length x.2) (λk=>(tV).row (gL tV (x.1::x.2) k)))) (sl ((cnE tV t2)&&((cnE tV t2)&&true)) (sl (Nat.beq t3.1 1) none (sl (Nat.beq t3.1 2) (sl (Bool.and (Nat.ble t3.2.A3 room) (Bool.and (Nat.ble t3.2.A3 (len t3.2.eh5)) (okS tP t3.2.eh5 0 t3.2.A3))) (some (.tup [.sl 0 0 t3.2.A3 0,i 0],[⟨60,4,app (bL tP (zb8 (slR tP t3.2.eh5 0 t3.2.A3))) (i7 t3.2.eh5 t3.2.A3),true,false,0⟩])) none) none)) none) none) none)) none) none)
noncomputable def Na6(x:V3×List V3):List Pln×Int:=V0 (two (r1L tP) r1I) (ia4 x)
noncomputable def Na7(x:V3×List V3):Bool:=okO (two (r1L tP) r1I) (ia4 x)
noncomputable def Nb1:Sum:=L0 (Uc8 tV) (λx=>.guard (Na7 x) (.ret ((two (r1L tP) r1I).enc (Na6 x),[])))
theorem Ab7:i6 prog G 22 Nb1:=Da4 (bd b22 rc3) (two (r1L tP) r1I) (o:=ia4) λx=>Ec6 (.s .p (.s .p (.s .p (.s .p (.s .p (.s (.s .p (.b (.i (.s .p (.b (.u Ua0.lsM)))))) .p)))))) [Ua0.prM] (by kernel_rfl) (.cons ec2 .nil) (by kernel_rfl)
end Go.Ev.Ce
