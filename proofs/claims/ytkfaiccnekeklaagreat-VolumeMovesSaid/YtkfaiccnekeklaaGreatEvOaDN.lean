/- Own work. -/
import Derived.Test.YtkfaiccnekeklaaGreatChecked
import Derived.Test.YtkfaiccnekeklaaGreatEvOaCePf
import Derived.KernelRfl
set_option linter.all false
def Qha:=@List.getD_eq_getElem?_getD
def Qhb:=@List.getElem?_eq_getElem
def Qhc:=@List.drop_eq_getElem_cons
def Qhd:=@Eq.trans
def Qhe:=@Nat.le_refl
def Qhf:=@List.length_mergeSort
def Qhg:=@Bool.false_eq_true
namespace Go.Ev.Ce
open Go Go.Ev Go.Proofs
set_option maxRecDepth 1000000
theorem mx:(Tryz.prog).follows .mixedOrders=true:=Checked.mixed Tryz.checked
abbrev Bdq(n:Nat)(pf:PFn):Prop:=jd0 Tryz.prog n λE=>Gb2 E pf
theorem bdq{f:FuncId}{fn:Func}(hf:(Tryz.prog).funcs[f]?=some fn)(hn:decide (fn.name ≠ "runtime.NumGoroutine")=true:=by kernel_rfl)(hc:Option.isSome (g7 Tryz.prog fn)=true:=by kernel_rfl):Bdq f (got (g7 Tryz.prog fn)):=Be5 mx hf hn (Kc9 hc)
theorem b3:Bdq 3 pf3:=bdq Tryz.func3
theorem b4:Bdq 4 pf4:=bdq Tryz.func4
theorem b5:Bdq 5 pf5:=bdq Tryz.func5
theorem b6:Bdq 6 pf6:=bdq Tryz.func6
theorem b8:Bdq 8 pf8:=bdq Tryz.func8
theorem b9:Bdq 9 pf9:=bdq Tryz.func9
theorem b11:jd0 Tryz.prog 11 λE=>fb8 E ne6:=Jd5 (h:=h11) mx Tryz.func11 (by kernel_rfl) Tryz.func30 (by kernel_rfl) (Kc9 (by kernel_rfl))
theorem b13:Bdq 13 Be6:=bdq Tryz.func13
theorem b15:Bdq 15 Be7:=bdq Tryz.func15
theorem b17:Bdq 17 Be8:=bdq Tryz.func17
theorem b18:Bdq 18 Be9:=bdq Tryz.func18
theorem b19:Bdq 19 ve8:=bdq Tryz.func19
theorem b20:Bdq 20 Ce0:=bdq Tryz.func20
theorem b21:Bdq 21 Ce1:=bdq Tryz.func21
theorem b22:jd0 Tryz.prog 22 λE=>fb8 E Yd9:=Jd5 (h:=h22) mx Tryz.func22 (by kernel_rfl) Tryz.func76 (by kernel_rfl) (Kc9 (by kernel_rfl))
theorem b24:Bdq 24 Ce2:=bdq Tryz.func24
theorem b25:Bdq 25 ve9:=bdq Tryz.func25
theorem b26:Bdq 26 Ce3:=bdq Tryz.func26
theorem b27:Bdq 27 Ce4:=bdq Tryz.func27
theorem b28:Bdq 28 Ce5:=bdq Tryz.func28
theorem b30:Bdq 30 Ce6:=bdq Tryz.func30
theorem b32:Bdq 32 Ce7:=bdq Tryz.func32
theorem b33:Bdq 33 we0:=bdq Tryz.func33
theorem b34:Bdq 34 we1:=bdq Tryz.func34
theorem b35:Bdq 35 Ce8:=bdq Tryz.func35
theorem b36:Bdq 36 Ce9:=bdq Tryz.func36
theorem b37:Bdq 37 we2:=bdq Tryz.func37
theorem b38:Bdq 38 we3:=bdq Tryz.func38
theorem b43:Bdq 43 we4:=bdq Tryz.func43
theorem b44:Bdq 44 De0:=bdq Tryz.func44
theorem b45:Bdq 45 De1:=bdq Tryz.func45
theorem b46:Bdq 46 we5:=bdq Tryz.func46
theorem b47:Bdq 47 De2:=bdq Tryz.func47
theorem b49:Bdq 49 De3:=bdq Tryz.func49
theorem b50:Bdq 50 De4:=bdq Tryz.func50
theorem b52:Bdq 52 De5:=bdq Tryz.func52
theorem b53:Bdq 53 De6:=bdq Tryz.func53
theorem b54:Bdq 54 De7:=bdq Tryz.func54
theorem b55:Bdq 55 we6:=bdq Tryz.func55
theorem b56:Bdq 56 ne7:=bdq Tryz.func56
theorem b57:Bdq 57 we7:=bdq Tryz.func57
theorem b58:Bdq 58 De8:=bdq Tryz.func58
theorem b59:Bdq 59 Jd6:=bdq Tryz.func59
theorem b61:Bdq 61 De9:=bdq Tryz.func61
theorem b69:Bdq 69 Ee0:=bdq Tryz.func69
theorem b70:Bdq 70 Ee1:=bdq Tryz.func70
theorem b71:jd0 Tryz.prog 71 λE=>fb8 E Zd0:=Jd5 (h:=h71) mx Tryz.func71 (by kernel_rfl) Tryz.func76 (by kernel_rfl) (Kc9 (by kernel_rfl))
theorem b72:Bdq 72 Ee2:=bdq Tryz.func72
theorem b74:Bdq 74 Ee3:=bdq Tryz.func74
theorem b75:Bdq 75 ne8:=bdq Tryz.func75
theorem b77:Bdq 77 Ee4:=bdq Tryz.func77
theorem b78:Bdq 78 Ee5:=bdq Tryz.func78
theorem b79:Bdq 79 Ee6:=bdq Tryz.func79
theorem b82:Bdq 82 we8:=bdq Tryz.func82
theorem b83:Bdq 83 ne9:=bdq Tryz.func83
theorem b84:Bdq 84 Ee7:=bdq Tryz.func84
theorem b85:Bdq 85 Ee8:=bdq Tryz.func85
theorem b86:Bdq 86 Ee9:=bdq Tryz.func86
theorem b87:Bdq 87 Fe0:=bdq Tryz.func87
theorem b88:Bdq 88 Jd7:=bdq Tryz.func88
theorem b89:Bdq 89 we9:=bdq Tryz.func89
theorem b90:Bdq 90 Fe1:=bdq Tryz.func90
theorem b91:Bdq 91 Fe2:=bdq Tryz.func91
theorem b94:Bdq 94 Fe3:=bdq Tryz.func94
theorem b96:Bdq 96 xe0:=bdq Tryz.func96
theorem b97:Bdq 97 Fe4:=bdq Tryz.func97
theorem b98:Bdq 98 Fe5:=bdq Tryz.func98
theorem Fe6:Bdq 109 xe1:=bdq Tryz.func109
theorem Fe7:Bdq 110 he4:=bdq Tryz.func110
theorem Fe8:Bdq 111 xe2:=bdq Tryz.func111
theorem Fe9:Bdq 120 xe3:=bdq Tryz.func120
end Go.Ev.Ce
namespace Go.Ev.L
open Go Go.Ev
noncomputable def pb6:RT->PC->PS2
 |.s a b,.seq x y=>.seq (pb6 a x) (pb6 b y)
 |.c a b,.cond g x y=>.cond g (pb6 a x) (pb6 b y)
 |.b a,.block id x=>.block id (pb6 a x)
 |.i a,.inner f x n c=>.inner f x n (pb6 a c)
 |.u S,_=>.sum S
 |_,c=>.pc c
theorem Lc0{E:Env}{k:Nat}(rt:RT)(c:PC):ya1 (λx=>∀s,Q8 (x.1 s) (H5 E k x.2 s)) (wb2 rt c)->aa2 E k (pb6 rt c) c:=by
 induction rt generalizing c with
 |p=>intro h;cases c<;>exact .pc _
 |s a b iha ihb =>
  intro h;cases c with
  |seq x y=>exact .seq (iha x (ya1.app h).1) (ihb y (ya1.app h).2)
  |_=>exact .pc _
 |c a b iha ihb =>
  intro h;cases c with
  |cond g x y=>exact .cond g (iha x (ya1.app h).1) (ihb y (ya1.app h).2)
  |_=>exact .pc _
 |b a iha =>
  intro h;cases c with
  |block id x=>exact .block id (iha x h)
  |_=>exact .pc _
 |l a iha=>intro h;cases c<;>exact .pc _
 |i a iha =>
  intro h;cases c with
  |inner f x n c=>exact .inner f x n (iha c h)
  |_=>exact .pc _
 |u S =>
  intro h
  have:wb2 (.u S) c=[(S,c)]:=by cases c<;>rfl
  rw[this] at h;cases h with
  |cons h t =>
   have e:pb6 (.u S) c=.sum S:=by cases c<;>rfl
   rw[e];exact .sum h
section
variable{π σ:Type}{E:Env}{k:Nat}{keep:List Nat}{alts:List (Al2 π σ)}{enc:π->σ->St}{step:π->σ->Stp σ}{xs:Xs π σ}{body:PS2}{c:PC}
theorem ob7.belowM(hb:aa2 E k body c)(hN:E.N=rounds+1)(w:ob7 Wc7 k keep (Rb3 E k body) alts step xs enc)(s:St):Q8 (Cc8 Wc7 k keep alts step xs s) (H5 E k (.loopM keep c) s):=λr hr=>by
 obtain⟨t,h1,h2⟩:=w.go hr;rw[id9,hN];exact fb2 hb.le _ _ _ (ub1 h1 h2)
theorem ob7.belowML(hb:aa2 E k body c)(hN:E.N=rounds+1)(w:ob7 ob3 k keep (Rb3 E k body) alts step xs enc)(s:St):Q8 (Cc8 ob3 k keep alts step xs s) (H5 E k (.loop keep c) s):=λr hr=>by
 obtain⟨t,h1,h2⟩:=w.go hr;rw[Cc7,hN];exact fb2 hb.le _ _ _ (ub1 h1 h2)
end
end Go.Ev.L
namespace Go.Ev.Ab
open Go Go.Ev
@[reducible] def o(d:Nat)(x:PO):PI:=⟨some d,none,[],x⟩
@[reducible] def s(x:PO):PI:=⟨none,none,[],x⟩
@[reducible] def ci(n:Int):Arg:=.c (.v (.int .i64 n))
@[reducible] def cb(b:Bool):Arg:=.c (.v (.bool b))
@[reducible] def vi(n:Int):b7:=.v (.int .i64 n)
@[reducible] def rep{α:Type}(n:Nat)(x:α):List α:=List.replicate n x
@[reducible] def ki(n:Nat):List CK:=List.replicate n (.int .i64)
@[reducible] def mv(d n:Nat):PI:=o d (.mv (.t n))
@[reducible] def mc(d:Nat)(n:Int):PI:=o d (.mv (ci n))
@[reducible] def mb(d:Nat)(x:Bool):PI:=o d (.mv (cb x))
@[reducible] def fd(d k n:Nat):PI:=o d (.fld k (.t n))
@[reducible] def lf(d k n:Nat):PI:=o d (.load (ki k) k false (.t n))
@[reducible] def ex(d x k:Nat):PI:=o d (.ext (.t x) k)
@[reducible] def ca(d f:Nat)(l:List Arg):PI:=o d (.call f l)
@[reducible] def gf(n:Nat)(x:PI):PI:=⟨x.dst,some (n,false),x.hide,x.op⟩
@[reducible] def so(l:List PI)(x:PC):PC:=.seq (.ops l) x
@[reducible] def sq(x y:PC):PC:=.seq x y
@[reducible] def ts(l:List Nat):List Arg:=l.map .t
@[reducible] def cA(d f:Nat)(l:List Nat):PI:=o d (.call f (ts l))
@[reducible] def cl(f:Nat)(l:List Nat):PO:=.call f (ts l)
@[reducible] def sT(k a b:Nat):PI:=s (.store k (.t a) (.t b))
@[reducible] def pa(d c x:Nat):PI:=o d (.pick (.t c) (.t x) (cb false))
@[reducible] def po(d c x:Nat):PI:=o d (.pick (.t c) (cb true) (.t x))
@[reducible] def al(d k:Nat)(n:Int):PI:=o d (.alloc (rep k (vi n)))
@[reducible] def ap(d et es n x y:Nat):PI:=o d (.append et es n (.t x) (.t y))
end Go.Ev.Ab
namespace Go.Ev.L
open Go Go.Ev
def Cps{π σ:Type}(u:∀{α:Type},(σ->α)->(Nat->α)->α->π->σ->α):Prop :=
 ∀{α β:Type} (F:α->β) (k:σ->α) (e:Nat->α) (z:α) (p:π) (s:σ),F (u k e z p s)=u (λx=>F (k x)) (λt=>F (e t)) (F z) p s
@[reducible] noncomputable def foL{π σ:Type}(en:π->σ->St)(xs:Xs π σ)(p:π)(s:σ):Stp σ->Option (e8×St):=ob4 (λs'=>some (.normal,en p s')) (λt=>xOf xs p s t 1) none
structure Lo(π σ:Type) where
 E:Env
 k:Nat
 F:PFn
 at':List Nat
 kp:List Nat
 rt:RT
 al:List (Al2 π σ)
 st:π->σ->Stp σ
 xs:Xs π σ
 en:π->σ->St
namespace Lo
variable{π σ:Type}(L:Lo π σ)
noncomputable def lc:PC:=Be3 L.at' L.F.body
noncomputable def ls:St->DT (e8×St):=Cc8 ob3 L.k L.kp L.al L.st L.xs
noncomputable def lsM:St->DT (e8×St):=Cc8 Wc7 L.k L.kp L.al L.st L.xs
noncomputable def pr:(St->DT (e8×St))×PC:=(L.ls,.loop L.kp L.lc)
noncomputable def prM:(St->DT (e8×St))×PC:=(L.lsM,.loopM L.kp L.lc)
def Ok:Prop:=∀s,W4 L.k L.F.res (L.pr.1 s) (H5 L.E L.k L.pr.2 s)
def OkE:Prop:=∀s,Q8 (L.pr.1 s) (H5 L.E L.k L.pr.2 s)
def OkM:Prop:=∀s,Q8 (L.prM.1 s) (H5 L.E L.k L.prM.2 s)
def Rd(hd:St->DT St)(bd:St->DT (e8×St))(p:π)(s:σ)(a:St)(b:Stp σ):Prop:=(fb3 hd bd a).run=foL L.en L.xs p s b
def H0:Prop:=∀p s,L.Rd (ob3 L.k L.kp) (nd7 L.E L.k L.F.res (wc6 L.rt L.lc)) p s (L.en p s) (L.st p s)
def H1:Prop:=∀p s,L.Rd (ob3 L.k L.kp) (Rb3 L.E L.k (pb6 L.rt L.lc)) p s (L.en p s) (L.st p s)
def H2:Prop:=∀p s,L.Rd (Wc7 L.k L.kp) (Rb3 L.E L.k (pb6 L.rt L.lc)) p s (L.en p s) (L.st p s)
def HA:Prop:=ya1 (λx=>∀a H,(⟨wd6 x.sh a,wd7 x.bl H⟩:St)=L.en (x.rd a H).1 (x.rd a H).2) L.al
variable{L}
theorem Rd.of {hd : St → DT St} {bd : St → DT (e8 × St)} {p : π} {s : σ} {a : St} (u : ∀ {α : Type}, (σ → α) → (Nat → α) → α → π → σ → α)
  (q:Cps @u) (H:(fb3 hd bd a).run=u (λx=>foL L.en L.xs p s (.next x)) (λt=>foL L.en L.xs p s (.exit t)) (foL L.en L.xs p s .fail) p s):L.Rd hd bd p s a (u .next .exit .fail p s) :=
 H.trans (q (foL L.en L.xs p s) Stp.next Stp.exit Stp.fail p s).symm
theorem Rd.sel{hd:St->DT St}{bd:St->DT (e8×St)}{p:π}{s:σ}{a1 a0:St}{b1 b0:Stp σ}(c:Bool)(h1:L.Rd hd bd p s a1 b1)(h0:L.Rd hd bd p s a0 b0):L.Rd hd bd p s (sel c a1 a0) (sel c b1 b0):=by
 cases c with
 |true=>exact h1
 |false=>exact h0
theorem ok(l:List ((St->DT (e8×St))×PC))(hs:wb2 L.rt L.lc=l)(hl:ya1 (λx=>∀s,W4 L.k L.F.res (x.1 s) (H5 L.E L.k x.2 s)) l)(hN:L.E.N=rounds+1)(ha:L.HA)(h:L.H0):L.Ok :=
 ob7.belowC (od7 _ _ (by rw[hs];exact hl)) hN ⟨ha,h⟩
theorem okE(l:List ((St->DT (e8×St))×PC))(hs:wb2 L.rt L.lc=l)(hl:ya1 (λx=>∀s,Q8 (x.1 s) (H5 L.E L.k x.2 s)) l)(hN:L.E.N=rounds+1)(ha:L.HA)(h:L.H1):L.OkE :=
 ob7.belowML (Lc0 _ _ (by rw[hs];exact hl)) hN ⟨ha,h⟩
theorem okM(l:List ((St->DT (e8×St))×PC))(hs:wb2 L.rt L.lc=l)(hl:ya1 (λx=>∀s,Q8 (x.1 s) (H5 L.E L.k x.2 s)) l)(hN:L.E.N=rounds+1)(ha:L.HA)(h:L.H2):L.OkM :=
 ob7.belowM (Lc0 _ _ (by rw[hs];exact hl)) hN ⟨ha,h⟩
end Lo
theorem bb4 {E : Env} {F : PFn} {args : List b7} {blks : List c8} {o : Option (b7 × List c8)} (rt : RT) (l : List ((St → DT (e8 × St)) × PC)) (hs : wb2 rt F.body = l)
  (hl:ya1 (λx=>∀s,W4 (len blks) F.res (x.1 s) (H5 E (len blks) x.2 s)) l) (h:(ue8 E F (wc6 rt F.body) args blks).run=o) (r:b7×List c8) (hr:o=some r):(Gb2 E F args blks).run=some r :=
 gd3 (od7 rt _ (by rw[hs];exact hl)) r (h.trans hr)
theorem Dc9 {E : Env} {F : PFn} {args : List b7} {blks : List c8} {o : Option (b7 × List c8)} (rt : RT) (l : List ((St → DT (e8 × St)) × PC)) (hs : wb2 rt F.body = l)
  (hl:ya1 (λx=>∀s,Q8 (x.1 s) (H5 E (len blks) x.2 s)) l) (h:(he3 E F (pb6 rt F.body) args blks).run=o) (r:b7×List c8) (hr:o=some r):(fb8 E F args blks).run=some r :=
 Wc6 (Lc0 rt _ (by rw[hs];exact hl)) r (h.trans hr)
theorem B7{A o:Option (b7×List c8)}(h:A=o)(r:b7×List c8)(hr:o=some r):A=some r:=h.trans hr
noncomputable abbrev upq(x:St)(l:List (Nat×b7)):St:=⟨l.foldl (λa q=>a.set q.1 q.2) x.a,x.H⟩
noncomputable abbrev sIq:S2:=.s (.o (.int .i64))
noncomputable abbrev sUq:S2:=.s (.o .unk)
noncomputable abbrev sBq:S2:=.s (.o .bool)
noncomputable abbrev sPq(n:Nat):S2:=.s (.o (.ptr n 0 0 0))
noncomputable abbrev sTq(n:Nat):S2:=.s (.o (.tree n))
noncomputable abbrev sLq{α:Type}(t:Ty α):S2:=.s (.c t.es (nL t))
noncomputable abbrev kLq(n:Nat):List K:=List.replicate n (.o (.int .i64))
noncomputable abbrev aIq(a:List b7)(n:Nat):Int:=toI (slT a n)
noncomputable abbrev aBq(a:List b7)(n:Nat):Bool:=toB (slT a n)
noncomputable abbrev aNq(a:List b7)(n:Nat):Nat:=toN (slT a n)
noncomputable abbrev aGq(a:List b7)(n:Nat):Nat->List b7:=toG (slT a n)
noncomputable abbrev aLq{α:Type}(t:Ty α)(a:List b7)(n:Nat):List α:=rL t (slT a n)
noncomputable abbrev hIq(H:List c8)(m r n:Nat):Int:=toI (slT (rwT (elT H m) r) n)
noncomputable abbrev cIq(a:List b7)(m n:Nat):Int:=toI (slT (cellsOf (slT a m)) n)
noncomputable abbrev cNq(a:List b7)(m n:Nat):Nat:=toN (slT (cellsOf (slT a m)) n)
noncomputable abbrev cGq(a:List b7)(m n:Nat):Nat->List b7:=toG (slT (cellsOf (slT a m)) n)
noncomputable abbrev hNq(H:List c8)(m r n:Nat):Nat:=toN (slT (rwT (elT H m) r) n)
noncomputable abbrev hGq(H:List c8)(m r n:Nat):Nat->List b7:=toG (slT (rwT (elT H m) r) n)
noncomputable abbrev hLq{α:Type}(t:Ty α)(H:List c8)(m r n:Nat):List α:=rL t (slT (rwT (elT H m) r) n)
end Go.Ev.L
namespace Go.Ev.Ce
structure V3 where
 x:Int
 y:Int
 z:Int
structure Pln where
 n:V3
 b:Int
structure Pt where
 px:Int
 py:Int
 pz:Int
 pw:Int
def c7(a b:V3):V3:=⟨a.y*b.z-a.z*b.y,a.z*b.x-a.x*b.z,a.x*b.y-a.y*b.x⟩
def dot(a b:V3):Int:=a.x*b.x+a.y*b.y+a.z*b.z
def mw(p q r:Pln):Int:=dot p.n (c7 q.n r.n)
end Go.Ev.Ce
namespace Go.Ev.Ce
open Go Go.Ev Go.Ev.L Go.Proofs
@[reducible] noncomputable def prog:Program:=Tryz.prog
noncomputable def G:Nat->List Value:=λ_=>[]
noncomputable def En(l:List (Nat×Sum)):Env:={ P:=prog,G,fns:=λ_=>none,call:=le1 l,own:=λf j=>Bool.and (Ga3 f [48,57,82,88,73,75]) (Nat.beq j 0),N:=18446744073709551616 }
@[reducible] def u:b7:=.v (.tuple #[])
theorem xe4{l:List (Nat×Sum)}(h:k8 prog G l):∀f,i4 (En l).P (En l).G f ((En l).call f):=nd5 h
theorem bd{l:List (Nat×Sum)}{f:FuncId}{R:Env->Sum}(b:jd0 prog f R)(h:k8 prog G l):i4 prog G f (R (En l)):=b rfl (xe4 h)
noncomputable def tV:Ty V3 where
 es:=3
 row x:=[i x.x,i x.y,i x.z]
 rd r:=⟨toI (hdA r),toI (hdA (tlA r)),toI (hdA (tlA (tlA r)))⟩
 ok r:=ra7 3 r
 cks:=List.replicate 3 (.int .i64)
 d:=⟨0,0,0⟩
 h0 _:=rfl
 h1 _:=rfl
 h2 _:=rfl
 h3 _ h:=.of (Na7 h)
 h4 _:=rfl
 h5 _:=rfl
noncomputable def r1V:R1 V3:=r1A tV 3 λ_ h=>h
noncomputable def tP:Ty Pln where
 es:=4
 row x:=[i x.n.x,i x.n.y,i x.n.z,i x.b]
 rd r:=⟨⟨toI (hdA r),toI (hdA (tlA r)),toI (hdA (tlA (tlA r)))⟩,toI (hdA (tlA (tlA (tlA r))))⟩
 ok r:=ra7 4 r
 cks:=List.replicate 4 (.int .i64)
 d:=⟨⟨0,0,0⟩,0⟩
 h0 _:=rfl
 h1 _:=rfl
 h2 _:=rfl
 h3 _ h:=.of (Na7 h)
 h4 _:=rfl
 h5 _:=rfl
noncomputable def r1P:R1 Pln:=r1A tP 4 λ_ h=>h
structure Tp where
 p:Pln
 q:Pln
 r:Pln
structure Q2 where
 a:V3
 b:V3
set_option maxRecDepth 100000
noncomputable def jd1:List (Nat×Sum):=[]
theorem Wc8:k8 prog G jd1:=trivial
noncomputable def Ca4(x:V3)(y:V3):Int:=(W ((W ((W (x.x*y.x))+(W (x.y*y.y))))+(W (x.z*y.z))))
noncomputable def Rb4:Sum:=Ca2 (U7 tV) (U7 tV) (λx y=>.ret ((one r1I).enc (Ca4 x y),[]))
theorem oc1:i4 prog G 86 Rb4:=Va2 (bd b86 Wc8) λx y=>B7 (by kernel_rfl)
noncomputable def Lc1:List (Nat×Sum):=[]
theorem wc9:k8 prog G Lc1:=trivial
noncomputable def Ga6(x:V3)(y:V3):V3:=(⟨W ((W (x.y*y.z))-(W (x.z*y.y))),W ((W (x.z*y.x))-(W (x.x*y.z))),W ((W (x.x*y.y))-(W (x.y*y.x)))⟩:V3)
noncomputable def Xb9:Sum:=Ca2 (U7 tV) (U7 tV) (λx y=>.ret ((one r1V).enc (Ga6 x y),[]))
theorem Lc2:i4 prog G 90 Xb9:=Va2 (bd b90 wc9) λx y=>B7 (by kernel_rfl)
noncomputable def Va5:List (Nat×Sum):=[]
theorem Db5:k8 prog G Va5:=trivial
@[reducible] noncomputable def qa1:Sum:=Gb2 (En Va5) he4
theorem ya5:i4 prog G 110 qa1:=bd Fe7 Db5
noncomputable def ac5:List (Nat×Sum):=[]
theorem Rb5:k8 prog G ac5:=trivial
noncomputable def ma9(x:Int):Option (b7×List c8):=(sl (decide (x<0)) (some (i (W (0-x)),[])) (some (i x,[])))
noncomputable def fa3(x:Int):Int:=U8 (one r1I) (ma9 x)
noncomputable def fa4(x:Int):Bool:=okO (one r1I) (ma9 x)
noncomputable def pb7:Sum:=K9 cI (λx=>.guard (fa4 x) (.ret ((one r1I).enc (fa3 x),[])))
theorem ac6:i4 prog G 111 pb7:=Ca3 (bd Fe8 Rb5) (one r1I) (o:=ma9) λx=>B7 (by kernel_rfl)
noncomputable def Yb0:List (Nat×Sum):=[(111,pb7),(110,qa1)]
theorem Lc3:k8 prog G Yb0:=⟨ac6,ya5,trivial⟩
structure ca1 where
 (is6 e7 d9 f7 ia3 ia4 ia5:Int)
structure L3 where
 (is5 is7:Int)
noncomputable def yb0(p:ca1)(s:L3):St:=⟨.unk::.ptr 0 0 0 0::.ptr 1 0 0 0::.unk::.ptr 2 0 0 0::i s.is5::i p.is6::i s.is7::ra 38 [],[⟨0,3,[[i p.e7,i p.d9,i p.f7]],true,false,0⟩,⟨0,3,[[i 0,i 0,i 0]],true,false,0⟩,⟨0,3,[[i p.ia3,i p.ia4,i p.ia5]],true,false,0⟩]⟩
noncomputable def na0{α:Type}(k:L3->α)(e:Nat->α)(z:α)(p:ca1)(s:L3):α:=(sl (decide (s.is7>0)) (sl (s.is7==0) z (k ⟨s.is7,Int.tmod s.is5 s.is7⟩)) (e 1))
noncomputable def X6(p:ca1)(s:L3):Stp L3:=na0 .next .exit .fail p s
noncomputable def gb1:Lo ca1 L3:=⟨En Yb0,0,we9,[1,1,1,0,1,4,4,1,0,4,1,1,4,4],[1,2,4,5,6,7],.p,[⟨sUq::sPq 0::sPq 1::sUq::sPq 2::sIq::sIq::sIq::ru2 38 [],[⟨0,3,true,some [kLq 3]⟩,⟨0,3,true,some [[.o (.lit .i64 0),.o (.lit .i64 0),.o (.lit .i64 0)]]⟩,⟨0,3,true,some [kLq 3]⟩],λa H=>(⟨aIq a 6,hIq H 0 0 0,hIq H 0 0 1,hIq H 0 0 2,hIq H 2 0 0,hIq H 2 0 1,hIq H 2 0 2⟩,⟨aIq a 5,aIq a 7⟩)⟩],X6,[(some 2,λp s=>upq (yb0 p s) [(23,i s.is7),(24,b (decide (s.is7>0)))])],yb0⟩
theorem xc0:gb1.Ok:=Lo.ok [] (by kernel_rfl) .nil rfl (.cons (λa H=>by kernel_rfl) .nil) λp s=>(.of @na0 (λF _ _ _ _ _=>by unfold na0;(repeat' apply r9 (f:=F))<;>rfl) (by kernel_rfl))
noncomputable def Pa9(x:V3):Option (b7×List c8):=let t1:=(fa3 x.x);let t2:=(lp (X6 (⟨0,x.x,x.y,x.z,x.x,x.y,x.z⟩:ca1)) (⟨0,t1⟩:L3));let t3:=(fa3 x.y);let t4:=(lp (X6 (⟨1,x.x,x.y,x.z,x.x,x.y,x.z⟩:ca1)) (⟨t2.2.is5,t3⟩:L3));let t5:=(fa3 x.z);let t6:=(lp (X6 (⟨2,x.x,x.y,x.z,x.x,x.y,x.z⟩:ca1)) (⟨t4.2.is5,t5⟩:L3));(sl (x.x==(-9223372036854775808)) (some (.tup [.agg [i 0,i 0,i 0],i 0],[])) (sl (fa4 x.x) (sl (Nat.beq t2.1 1) (sl (x.y==(-9223372036854775808)) (some (.tup [.agg [i 0,i 0,i 0],i 0],[])) (sl (fa4 x.y) (sl (Nat.beq t4.1 1) (sl (x.z==(-9223372036854775808)) (some (.tup [.agg [i 0,i 0,i 0],i 0],[])) (sl (fa4 x.z) (sl (Nat.beq t6.1 1) (sl (t6.2.is5==0) (some (.tup [.agg [i 0,i 0,i 0],i 0],[])) (sl (t6.2.is5==0) none (sl (t6.2.is5==0) none (sl (t6.2.is5==0) none (some (.tup [.agg [i (W (Int.tdiv x.x t6.2.is5)),i (W (Int.tdiv x.y t6.2.is5)),i (W (Int.tdiv x.z t6.2.is5))],i t6.2.is5],[])))))) none) none)) none) none)) none) none))
noncomputable def va3(x:V3):V3×Int:=U8 (two r1V r1I) (Pa9 x)
noncomputable def Qa0(x:V3):Bool:=okO (two r1V r1I) (Pa9 x)
noncomputable def Db6:Sum:=K9 (U7 tV) (λx=>.guard (Qa0 x) (.ret ((two r1V r1I).enc (va3 x),[])))
theorem Yb1:i4 prog G 89 Db6:=Ca3 (bd b89 Lc3) (two r1V r1I) (o:=Pa9) λx=>bb4 (.s .p (.s .p (.s .p (.s (.s .p (.b (.l (.s .p (.s (.b (.s .p (.s .p (.b (.u gb1.ls))))) .p))))) .p)))) [gb1.pr] (by kernel_rfl) (.cons xc0 .nil) (by kernel_rfl)
noncomputable def Lc4:List (Nat×Sum):=[(89,Db6),(110,qa1)]
theorem xc1:k8 prog G Lc4:=⟨Yb1,ya5,trivial⟩
noncomputable def Ga7(x:Pln):Option (b7×List c8):=let t1:=(va3 x.n);(sl (decide (x.n.x<(-4608))) (some (b false,[])) (sl (decide (x.n.x>4608)) (some (b false,[])) (sl (decide (x.n.y<(-4608))) (some (b false,[])) (sl (decide (x.n.y>4608)) (some (b false,[])) (sl (decide (x.n.z<(-4608))) (some (b false,[])) (sl (decide (x.n.z>4608)) (some (b false,[])) (sl (Qa0 x.n) (sl (t1.2==1) (sl (decide (x.b>=(-2097152))) (some (b (decide (x.b<=2097152)),[])) (some (b false,[]))) (some (b false,[]))) none)))))))
noncomputable def Va6(x:Pln):Bool:=U8 (one r1B) (Ga7 x)
noncomputable def Va7(x:Pln):Bool:=okO (one r1B) (Ga7 x)
noncomputable def Yb2:Sum:=K9 (U7 tP) (λx=>.guard (Va7 x) (.ret ((one r1B).enc (Va6 x),[])))
theorem Lc5:i4 prog G 84 Yb2:=Ca3 (bd b84 xc1) (one r1B) (o:=Ga7) λx=>B7 (by kernel_rfl)
noncomputable def jd2:List (Nat×Sum):=[]
theorem Wc9:k8 prog G jd2:=trivial
noncomputable def bb5(x:Int)(y:Int):Option (b7×List c8):=(sl (decide (y<1)) (some (i 0,[])) (sl (y==0) none (sl (y==0) none (some (i (Int.tmod (W ((Int.tmod x y)+y)) y),[])))))
noncomputable def ub7(x:Int)(y:Int):Int:=U8 (one r1I) (bb5 x y)
noncomputable def ub8(x:Int)(y:Int):Bool:=okO (one r1I) (bb5 x y)
noncomputable def Ec0:Sum:=Ca2 cI cI (λx y=>.guard (ub8 x y) (.ret ((one r1I).enc (ub7 x y),[])))
theorem jd3:i4 prog G 28 Ec0:=Qb4 (bd b28 Wc9) (one r1I) (o:=bb5) λx y=>B7 (by kernel_rfl)
noncomputable def Lc6:List (Nat×Sum):=[]
theorem xc2:k8 prog G Lc6:=trivial
noncomputable def y5(x:V3)(y:V3):Int:=(W ((W ((W (x.x*y.x))+(W (x.y*y.y))))+(W (x.z*y.z))))
noncomputable def na1:Sum:=Ca2 (U7 tV) (U7 tV) (λx y=>.ret ((one r1I).enc (y5 x y),[]))
theorem qa2:i4 prog G 35 na1:=Va2 (bd b35 xc2) λx y=>B7 (by kernel_rfl)
noncomputable def Lc7:List (Nat×Sum):=[]
theorem xc3:k8 prog G Lc7:=trivial
noncomputable def R6(x:V3)(y:V3):V3:=(⟨W (x.x+y.x),W (x.y+y.y),W (x.z+y.z)⟩:V3)
noncomputable def Yb3:Sum:=Ca2 (U7 tV) (U7 tV) (λx y=>.ret ((one r1V).enc (R6 x y),[]))
theorem Lc8:i4 prog G 18 Yb3:=Va2 (bd b18 xc3) λx y=>B7 (by kernel_rfl)
noncomputable def oc2:List (Nat×Sum):=[]
theorem ac7:k8 prog G oc2:=trivial
noncomputable def A6(x:V3)(y:V3):V3:=(⟨W ((W (x.y*y.z))-(W (x.z*y.y))),W ((W (x.z*y.x))-(W (x.x*y.z))),W ((W (x.x*y.y))-(W (x.y*y.x)))⟩:V3)
noncomputable def ka8:Sum:=Ca2 (U7 tV) (U7 tV) (λx y=>.ret ((one r1V).enc (A6 x y),[]))
theorem na2:i4 prog G 36 ka8:=Va2 (bd b36 ac7) λx y=>B7 (by kernel_rfl)
noncomputable def jb6:List (Nat×Sum):=[]
theorem Rb6:k8 prog G jb6:=trivial
structure fa5 where
 is0:Int
 td3:List Int
 is8:Int
structure F6 where
 is9:Int
noncomputable def Va8(p:fa5)(s:F6):St:=⟨i p.is0::ra 6 (eL tI p.td3::i p.is8::i s.is9::ra 13 []),[]⟩
noncomputable def Z0{α:Type}(k:F6->α)(e:Nat->α)(z:α)(p:fa5)(s:F6):α:=(sl (decide (s.is9<p.is8)) (sl (inB s.is9 (List.length p.td3)) (sl (decide ((gL tI p.td3 s.is9.toNat)<(W (0-p.is0)))) (e 1) (sl (decide ((gL tI p.td3 s.is9.toNat)>p.is0)) (e 1) (k ⟨W (s.is9+1)⟩))) z) (e 2))
noncomputable def ca2(p:fa5)(s:F6):Stp F6:=Z0 .next .exit .fail p s
noncomputable def Ca5:Lo fa5 F6:=⟨En jb6,0,we4,[1,0,1,4,4],[0,7,8,9],.p,[⟨sIq::ru2 6 (sLq tI::sIq::sIq::ru2 13 []),[],λa H=>(⟨aIq a 0,aLq tI a 7,aIq a 8⟩,⟨aIq a 9⟩)⟩],ca2,[(none,λp s=>⟨[b false],[]⟩),(some 0,λp s=>upq (Va8 p s) [(10,b (decide (s.is9<p.is8)))])],Va8⟩
theorem Kb1:Ca5.Ok:=Lo.ok [] (by kernel_rfl) .nil rfl (.cons (λa H=>by kernel_rfl) .nil) λp s=>(.of @Z0 (λF _ _ _ _ _=>by unfold Z0;(repeat' apply r9 (f:=F))<;>rfl) (by kernel_rfl))
noncomputable def na3(x:Int)(y:List Int):Option (b7×List c8):=let t1:=(lp (ca2 (⟨x,rt tI y,(↑(List.length y):Int)⟩:fa5)) (⟨0⟩:F6));(sl ((cnE tI y)&&true) (sl (Nat.beq t1.1 1) (some (b false,[])) (sl (Nat.beq t1.1 2) (some (b true,[])) none)) none)
noncomputable def fa6(x:Int)(y:List Int):Bool:=U8 (one r1B) (na3 x y)
noncomputable def fa7(x:Int)(y:List Int):Bool:=okO (one r1B) (na3 x y)
noncomputable def Qa1:Sum:=Ca2 cI (ya3 tI) (λx y=>.guard (fa7 x y) (.ret ((one r1B).enc (fa6 x y),[])))
theorem jb7:i4 prog G 43 Qa1:=Qb4 (bd b43 Rb6) (one r1B) (o:=na3) λx y=>bb4 (.s .p (.s (.s .p (.b (.u Ca5.ls))) .p)) [Ca5.pr] (by kernel_rfl) (.cons Kb1 .nil) (by kernel_rfl)
noncomputable def Kb2:List (Nat×Sum):=[]
theorem Db7:k8 prog G Kb2:=trivial
noncomputable def qa3(x:Int):Int:=(if (W (0-x))>x then (W (0-x)) else x)
noncomputable def bb6:Sum:=K9 cI (λx=>.ret ((one r1I).enc (qa3 x),[]))
theorem Kb3:i4 prog G 109 bb6:=ub2 (bd Fe6 Db7) λx=>B7 (by kernel_rfl)
noncomputable def Ca6:List (Nat×Sum):=[(109,bb6)]
theorem Kb4:k8 prog G Ca6:=⟨Kb3,trivial⟩
structure S5 where
 Xa1:List Int
 (is7 is8:Int)
structure H8 where
 (is3 is5:Int)
noncomputable def Qa2(p:S5)(s:H8):St:=⟨ra 3 (i s.is3::.unk::i s.is5::eL tI p.Xa1::i p.is7::i p.is8::ra 15 []),[]⟩
noncomputable def V7{α:Type}(k:H8->α)(e:Nat->α)(z:α)(p:S5)(s:H8):α:=(sl (decide (s.is5>0)) (sl (s.is5==0) z (k ⟨s.is5,Int.tmod s.is3 s.is5⟩)) (e 1))
noncomputable def P0(p:S5)(s:H8):Stp H8:=V7 .next .exit .fail p s
noncomputable def ya6:Lo S5 H8:=⟨En Ca6,0,ne9,[1,1,0,1,4,4,1,1,0,4,1,1,1,4,4],[3,5,6,7,8],.p,[⟨ru2 3 (sIq::sUq::sIq::sLq tI::sIq::sIq::ru2 15 []),[],λa H=>(⟨aLq tI a 6,aIq a 7,aIq a 8⟩,⟨aIq a 3,aIq a 5⟩)⟩],P0,[(some 2,λp s=>upq (Qa2 p s) [(16,i s.is5),(17,b (decide (s.is5>0)))])],Qa2⟩
theorem Db8:ya6.Ok:=Lo.ok [] (by kernel_rfl) .nil rfl (.cons (λa H=>by kernel_rfl) .nil) λp s=>(.of @V7 (λF _ _ _ _ _=>by unfold V7;(repeat' apply r9 (f:=F))<;>rfl) (by kernel_rfl))
structure ca3 where
 is7:Int
structure C5 where
 is3:Int
 Xa1:List Int
 is8:Int
noncomputable def Qa3(p:ca3)(s:C5):St:=⟨ra 3 (i s.is3::.unk::.unk::eL tI s.Xa1::i p.is7::i s.is8::ra 15 []),[]⟩
noncomputable def V8{α:Type}(k:C5->α)(e:Nat->α)(z:α)(p:ca3)(s:C5):α:=let t1:=(qa3 (gL tI s.Xa1 s.is8.toNat));let t2:=(lp (P0 (⟨rt tI s.Xa1,p.is7,s.is8⟩:S5)) (⟨s.is3,t1⟩:H8));(sl (decide (s.is8<p.is7)) (sl (inB s.is8 (List.length s.Xa1)) (sl ((gL tI s.Xa1 s.is8.toNat)==(-9223372036854775808)) (e 1) (sl ((cnE tI s.Xa1)&&true) (sl (Nat.beq t2.1 1) (k ⟨t2.2.is3,rt tI s.Xa1,W (s.is8+1)⟩) z) z)) z) (e 2))
noncomputable def Z1(p:ca3)(s:C5):Stp C5:=V8 .next .exit .fail p s
noncomputable def ya7:Lo ca3 C5:=⟨En Ca6,0,ne9,[1,1,0,1,4,4],[3,6,7,8],.s .p (.s .p (.s (.b (.s .p (.s .p (.s .p (.b (.u ya6.ls)))))) .p)),[⟨ru2 3 (sIq::sUq::sUq::sLq tI::sIq::sIq::ru2 15 []),[],λa H=>(⟨aIq a 7⟩,⟨aIq a 3,aLq tI a 6,aIq a 8⟩)⟩],Z1,[(none,λp s=>⟨[i 0],[]⟩),(some 0,λp s=>upq (Qa3 p s) [(9,b (decide (s.is8<p.is7)))])],Qa3⟩
theorem Db9:ya7.Ok:=Lo.ok [ya6.pr] (by kernel_rfl) (.cons Db8 .nil) rfl (.cons (λa H=>by kernel_rfl) .nil) λp s=>(.of @V8 (λF _ _ _ _ _=>by unfold V8;(repeat' apply r9 (f:=F))<;>rfl) (by kernel_rfl))
noncomputable def ia8(x:List Int):Option (b7×List c8):=let t1:=(lp (Z1 (⟨(↑(List.length x):Int)⟩:ca3)) (⟨0,rt tI x,0⟩:C5));(sl ((cnE tI x)&&true) (sl (Nat.beq t1.1 1) (some (i 0,[])) (sl (Nat.beq t1.1 2) (some (i t1.2.is3,[])) none)) none)
noncomputable def U9(x:List Int):Int:=U8 (one r1I) (ia8 x)
noncomputable def V0(x:List Int):Bool:=okO (one r1I) (ia8 x)
noncomputable def Ia4:Sum:=K9 (ya3 tI) (λx=>.guard (V0 x) (.ret ((one r1I).enc (U9 x),[])))
theorem bb7:i4 prog G 83 Ia4:=Ca3 (bd b83 Kb4) (one r1I) (o:=ia8) λx=>bb4 (.s .p (.s .p (.s (.s .p (.b (.u ya7.ls))) .p))) [ya7.pr] (by kernel_rfl) (.cons Db9 .nil) (by kernel_rfl)
noncomputable def oc3:List (Nat×Sum):=[(43,Qa1),(83,Ia4)]
theorem ac8:k8 prog G oc3:=⟨jb7,bb7,trivial⟩
noncomputable def sa1(x:Pln):Option (b7×List c8):=let t1:=(fa6 4608 [x.n.x,x.n.y,x.n.z]);let t2:=(U9 [x.n.x,x.n.y,x.n.z]);let t3:=(fa6 2097152 [x.b]);(sl (fa7 4608 [x.n.x,x.n.y,x.n.z]) (sl t1 (sl (V0 [x.n.x,x.n.y,x.n.z]) (sl (t2==1) (sl (fa7 2097152 [x.b]) (some (b t3,[])) none) (some (b false,[]))) none) (some (b false,[]))) none)
noncomputable def Ea6(x:Pln):Bool:=U8 (one r1B) (sa1 x)
noncomputable def Ea7(x:Pln):Bool:=okO (one r1B) (sa1 x)
noncomputable def yb1:Sum:=K9 (U7 tP) (λx=>.guard (Ea7 x) (.ret ((one r1B).enc (Ea6 x),[])))
theorem oc4:i4 prog G 52 yb1:=Ca3 (bd b52 ac8) (one r1B) (o:=sa1) λx=>B7 (by kernel_rfl)
noncomputable def oc5:List (Nat×Sum):=[]
theorem ac9:k8 prog G oc5:=trivial
noncomputable def sa2(x:Int)(y:Int):Option (b7×List c8):=(sl (decide (x<y)) (some (i (-1),[])) (sl (decide (x>y)) (some (i 1,[])) (some (i 0,[]))))
noncomputable def X7(x:Int)(y:Int):Int:=U8 (one r1I) (sa2 x y)
noncomputable def X8(x:Int)(y:Int):Bool:=okO (one r1I) (sa2 x y)
noncomputable def Ya1:Sum:=Ca2 cI cI (λx y=>.guard (X8 x y) (.ret ((one r1I).enc (X7 x y),[])))
theorem pb8:i4 prog G 53 Ya1:=Qb4 (bd b53 ac9) (one r1I) (o:=sa2) λx y=>B7 (by kernel_rfl)
noncomputable def Rb7:List (Nat×Sum):=[(53,Ya1)]
theorem Kb5:k8 prog G Rb7:=⟨pb8,trivial⟩
noncomputable def ia9(x:Pln)(y:Pln):Option (b7×List c8):=let t1:=(X7 x.n.x y.n.x);let t2:=(X7 x.n.y y.n.y);let t3:=(X7 x.n.z y.n.z);let t4:=(X7 x.b y.b);(sl (X8 x.n.x y.n.x) (sl (t1==0) (sl (X8 x.n.y y.n.y) (sl (t2==0) (sl (X8 x.n.z y.n.z) (sl (t3==0) (sl (X8 x.b y.b) (sl (t4==0) (some (i t4,[])) (some (i t4,[]))) none) (some (i t3,[]))) none) (some (i t2,[]))) none) (some (i t1,[]))) none)
noncomputable def ta5(x:Pln)(y:Pln):Int:=U8 (one r1I) (ia9 x y)
noncomputable def ta6(x:Pln)(y:Pln):Bool:=okO (one r1I) (ia9 x y)
noncomputable def Ia5:Sum:=Ca2 (U7 tP) (U7 tP) (λx y=>.guard (ta6 x y) (.ret ((one r1I).enc (ta5 x y),[])))
theorem Rb8:i4 prog G 49 Ia5:=Qb4 (bd b49 Kb5) (one r1I) (o:=ia9) λx y=>B7 (by kernel_rfl)
noncomputable def Xc0:List (Nat×Sum):=[(43,Qa1)]
theorem Lc9:k8 prog G Xc0:=⟨jb7,trivial⟩
noncomputable def Qa4(x:V3):Option (b7×List c8):=let t1:=(fa6 24 [x.x,x.y,x.z]);(sl (fa7 24 [x.x,x.y,x.z]) (some (b t1,[])) none)
noncomputable def P1(x:V3):Bool:=U8 (one r1B) (Qa4 x)
noncomputable def J5(x:V3):Bool:=okO (one r1B) (Qa4 x)
noncomputable def Qa5:Sum:=K9 (U7 tV) (λx=>.guard (J5 x) (.ret ((one r1B).enc (P1 x),[])))
theorem Va9:i4 prog G 20 Qa5:=Ca3 (bd b20 Lc9) (one r1B) (o:=Qa4) λx=>B7 (by kernel_rfl)
end Go.Ev.Ce
namespace Go.Proofs
open Go.Shelf
set_option maxRecDepth 100000 in
def Ce.sortLay_ren:Go.Shelf.Ren:=⟨fun | 6=>48 | 15=>81 | 14=>80 | 28=>107 | 29=>108 | 20=>99 | 21=>100 | 22=>101 | 23=>102 | 24=>103 | 25=>104 | 26=>105 | 27=>106 | 46=>121 | 47=>122 | 48=>123 | 49=>124 | 50=>125 | 57=>129 | n=>n,fun | 22=>47 | 24=>60 | 25=>81 | 3=>3 | 39=>104 | 0=>0 | 53=>123 | 55=>125 | 4=>4 | 46=>116 | 45=>115 | 50=>120 | 5=>5 | 9=>9 | 66=>134 | 70=>138 | 76=>142 | 77=>143 | n=>n,fun | n=>n⟩
set_option maxRecDepth 100000 in
theorem Ce.sortLay:Go.Proofs.SlLaysF0.n6 Tryz.prog Ce.sortLay_ren:={
 mixed:=by kernel_rfl
 f6:=⟨Tryz.f48.name,by decide,Tryz.func48.trans (congrArg some (by kernel_rfl))⟩
 f14:=⟨Tryz.f80.name,by decide,Tryz.func80.trans (congrArg some (by kernel_rfl))⟩
 f15:=Tryz.func81.trans (congrArg some (by kernel_rfl))
 f20:=⟨Tryz.f99.name,by decide,Tryz.func99.trans (congrArg some (by kernel_rfl))⟩
 f21:=⟨Tryz.f100.name,by decide,Tryz.func100.trans (congrArg some (by kernel_rfl))⟩
 f22:=⟨Tryz.f101.name,by decide,Tryz.func101.trans (congrArg some (by kernel_rfl))⟩
 f23:=⟨Tryz.f102.name,by decide,Tryz.func102.trans (congrArg some (by kernel_rfl))⟩
 f24:=⟨Tryz.f103.name,by decide,Tryz.func103.trans (congrArg some (by kernel_rfl))⟩
 f25:=⟨Tryz.f104.name,by decide,Tryz.func104.trans (congrArg some (by kernel_rfl))⟩
 f26:=⟨Tryz.f105.name,by decide,Tryz.func105.trans (congrArg some (by kernel_rfl))⟩
 f27:=⟨Tryz.f106.name,by decide,Tryz.func106.trans (congrArg some (by kernel_rfl))⟩
 f28:=Tryz.func107.trans (congrArg some (by kernel_rfl))
 f29:=Tryz.func108.trans (congrArg some (by kernel_rfl))
 f46:=⟨Tryz.f121.name,by decide,Tryz.func121.trans (congrArg some (by kernel_rfl))⟩
 f47:=Tryz.func122.trans (congrArg some (by kernel_rfl))
 f48:=Tryz.func123.trans (congrArg some (by kernel_rfl))
 f49:=⟨Tryz.f124.name,by decide,Tryz.func124.trans (congrArg some (by kernel_rfl))⟩
 f50:=⟨Tryz.f125.name,by decide,Tryz.func125.trans (congrArg some (by kernel_rfl))⟩
 f57:=⟨Tryz.f129.name,by decide,Tryz.func129.trans (congrArg some (by kernel_rfl))⟩
 t0:=Tryz.underlying0
 a0:=Tryz.isAgg0
 z0:=Tryz.sizeOf0
 v0:=Tryz.zeroValue0
 t3:=Tryz.underlying3
 a3:=Tryz.isAgg3
 z3:=Tryz.sizeOf3
 v3:=Tryz.zeroValue3
 t4:=Tryz.underlying4
 a4:=Tryz.isAgg4
 z4:=Tryz.sizeOf4
 v4:=Tryz.zeroValue4
 t5:=Tryz.underlying5
 a5:=Tryz.isAgg5
 z5:=Tryz.sizeOf5
 v5:=Tryz.zeroValue5
 t9:=Tryz.underlying9
 a9:=Tryz.isAgg9
 z9:=Tryz.sizeOf9
 v9:=Tryz.zeroValue9
 t22:=Tryz.underlying47
 a22:=Tryz.isAgg47
 z22:=Tryz.sizeOf47
 v22:=Tryz.zeroValue47
 t25:=Tryz.underlying81
 a25:=Tryz.isAgg81
 z25:=Tryz.sizeOf81
 v25:=Tryz.zeroValue81
 t39:=Tryz.underlying104
 a39:=Tryz.isAgg104
 z39:=Tryz.sizeOf104
 v39:=Tryz.zeroValue104
 t45:=Tryz.underlying115
 a45:=Tryz.isAgg115
 z45:=Tryz.sizeOf115
 v45:=Tryz.zeroValue115
 t46:=Tryz.underlying116
 a46:=Tryz.isAgg116
 z46:=Tryz.sizeOf116
 v46:=Tryz.zeroValue116
 t50:=Tryz.underlying120
 a50:=Tryz.isAgg120
 z50:=Tryz.sizeOf120
 v50:=Tryz.zeroValue120
 t53:=Tryz.underlying123
 a53:=Tryz.isAgg123
 z53:=Tryz.sizeOf123
 v53:=Tryz.zeroValue123
 t55:=Tryz.underlying125
 a55:=Tryz.isAgg125
 z55:=Tryz.sizeOf125
 v55:=Tryz.zeroValue125
 t66:=Tryz.underlying134
 a66:=Tryz.isAgg134
 z66:=Tryz.sizeOf134
 v66:=Tryz.zeroValue134
 t70:=Tryz.underlying138
 a70:=Tryz.isAgg138
 z70:=Tryz.sizeOf138
 v70:=Tryz.zeroValue138
 t76:=Tryz.underlying142
 a76:=Tryz.isAgg142
 z76:=Tryz.sizeOf142
 v76:=Tryz.zeroValue142
 t77:=Tryz.underlying143
 a77:=Tryz.isAgg143
 z77:=Tryz.sizeOf143
 v77:=Tryz.zeroValue143 }
end Go.Proofs
namespace Go.Ev.Ce
open Go Go.Ev Go.Ev.L Go.Proofs Go.Sort
def Ya2(x y:Int):Int:=if x<y then -1 else if x>y then 1 else 0
def Ya3(x y:Pln):Int :=
 if Ya2 x.n.x y.n.x=0 then if Ya2 x.n.y y.n.y=0 then if Ya2 x.n.z y.n.z=0 then Ya2 x.b y.b else Ya2 x.n.z y.n.z else Ya2 x.n.y y.n.y else Ya2 x.n.x y.n.x
theorem gb2(x y:Int):Ya2 x y<0↔x<y:=by unfold Ya2;split<;>(try split)<;>omega
theorem Kb6(x y:Int):Ya2 x y=0↔x=y:=by unfold Ya2;split<;>(try split)<;>omega
def LtP(x y:Pln):Prop:=x.n.x<y.n.x\/x.n.x=y.n.x/\(x.n.y<y.n.y\/x.n.y=y.n.y/\(x.n.z<y.n.z\/x.n.z=y.n.z/\x.b<y.b))
instance(x y:Pln):Decidable (LtP x y):=by unfold LtP;exact inferInstance
theorem Mc0(x y:Pln):Ya3 x y<0↔LtP x y:=by
 have h1:=gb2 x.n.x y.n.x;have h2:=Kb6 x.n.x y.n.x;have h3:=gb2 x.n.y y.n.y;have h4:=Kb6 x.n.y y.n.y;have h5:=gb2 x.n.z y.n.z;have h6:=Kb6 x.n.z y.n.z;have h7:=gb2 x.b y.b;unfold Ya3 LtP;split
 ·split
  ·split<;>omega
  ·omega
 ·omega
theorem Ca7(x y:Pln):ltOf Ya3 x y=decide (LtP x y):=by
 unfold ltOf;rw[decide_eq_decide];exact Mc0 x y
theorem xe5:SWO (ltOf Ya3) where
 irrefl x:=by rw[Ca7];simp[LtP]
 trans x y z h1 h2:=by rw[Ca7,decide_eq_true_eq] at *;unfold LtP at *;omega
 ntrans x y z h1 h2:=by rw[Ca7,decide_eq_false_iff_not] at *;unfold LtP at *;omega
theorem Ge0(x y:Pln)(h1:ltOf Ya3 x y=false)(h2:ltOf Ya3 y x=false):x=y:=by
 rw[Ca7,decide_eq_false_iff_not] at *
 unfold LtP at *
 obtain⟨⟨a,b,c⟩,d⟩:=x;obtain⟨⟨a',b',c'⟩,d'⟩:=y
 simp only at *
 have:a=a'/\b=b'/\c=c'/\d=d':=by omega
 obtain⟨rfl,rfl,rfl,rfl⟩:=this;rfl
theorem Xc1(x y:Int):sa2 x y=some (i (Ya2 x y),[]):=by
 unfold sa2 Ya2;simp only[Db1,decide_eq_true_eq]
 split<;>(try split)<;>rfl
theorem pd7(x y:Int):X7 x y=Ya2 x y:=by unfold X7;rw[Xc1];rfl
theorem pd8(x y:Int):X8 x y=true:=by unfold X8;rw[Xc1];rfl
theorem oc6(x y:Pln):ia9 x y=some (i (Ya3 x y),[]):=by
 unfold ia9 Ya3;simp only[pd7,pd8,Db1,beq_iff_eq,if_true]
 repeat' (first | rfl | split)
theorem xe6(x y:Pln):ta5 x y=Ya3 x y:=by unfold ta5;rw[oc6];rfl
theorem xe7(x y:Pln):ta6 x y=true:=by unfold ta6;rw[oc6];rfl
theorem xe8(x y:Pln):(Ia5 [.agg (tP.row x),.agg (tP.row y)] []).run=some (i (Ya3 x y),[]):=by
 have:(Ia5 [.agg (tP.row x),.agg (tP.row y)] []).run=sel (ta6 x y) (some (i (ta5 x y),[])) none:=by kernel_rfl
 rw[this,xe7,xe6]
def Rb2(p:Pln):List Value:=[.int .i64 p.n.x,.int .i64 p.n.y,.int .i64 p.n.z,.int .i64 p.b]
instance:Inhabited Pln:=⟨⟨⟨0,0,0⟩,0⟩⟩
def yb2(l:List Pln):List Pln:=l.mergeSort λx y=>!ltOf Ya3 y x
theorem ub9(l:List Pln):(yb2 l).length=l.length:=Qhf l
noncomputable def wa1:Sum:=od9 tP 49 60 yb2
theorem Jd8:Ce.sortLay_ren.f 6=48:=by kernel_rfl
theorem Ec1:Ce.sortLay_ren.t 24=60:=by kernel_rfl
set_option maxRecDepth 100000 in
theorem Ya4:i4 prog G 48 wa1:=by
 refine pd0 (enc:=Rb2) (cf:=Ya3) ⟨_,Tryz.func48,by kernel_rfl,of_decide_eq_true (by kernel_rfl)⟩ (by decide) (λ_=>rfl) (λr h=>Na7 (n:=4) h) (λx v hv=>?_) ub9
  (λblk off size w=>od8 Rb8 xe8 (λ_=>rfl) (λ_=>rfl) _ _ _ _ _) (λblk cap d w hcl hH hb hs=>?_)
 ·simp[Rb2] at hv
  rcases hv with rfl|rfl|rfl|rfl<;>rfl
 ·have eg:∀args w,(callFunc 49 args).run Tryz.prog w=.ok (.enter 49 args) w:=enters_of Tryz.func49 (by kernel_rfl) rfl
  have:=AnyQ.slices_SortFunc Ce.sortLay 4 (by rw[Ec1];exact Tryz.isAgg60) (by rw[Ec1];exact Tryz.sizeOf60) Rb2 (λ_=>rfl) (λx v hv=>by simp[Rb2] at hv;rcases hv with rfl | rfl | rfl | rfl<;>rfl) Ya3 xe5 49 #[] blk 0 cap d w eg (hcl 0 d.size) hH hb hs
  rw[Jd8] at this;refine this.mono λe w' ⟨h1,d',n,os,h2,h3,h4⟩=>⟨h1,n,os,?_⟩
  have h5:=sorted_unique_holds xe5 Ge0 d d' h2 h3;rw[h4];show _=sortWorldK Rb2 4 w blk 0 n (d.toList.mergeSort λx y=>!ltOf Ya3 y x).toArray os
  rw[<- h5]
end Go.Ev.Ce
namespace Go.Ev.Ce
open Go Go.Ev Go.Ev.L Go.Proofs
set_option maxRecDepth 100000
structure ta7 where
 is1:Int
 A5:List Int
 d9:Int
noncomputable def Rb9:List (Nat×Sum):=[(28,Ec0)]
theorem Kb7:k8 prog G Rb9:=⟨jd3,trivial⟩
structure ta8 where
 alt:Nat
 (is0 d9:Int)
noncomputable def ba4{α:Type}(kk:ta8->α)(x:ta7):α:=let t1:=(ub7 (gL tI x.A5 (W ((W (x.d9+1))-1)).toNat) x.is1);(sl (decide (x.d9>=(↑(List.length x.A5):Int))) (kk ⟨1,0,x.d9⟩) (sl (inB (W ((W (x.d9+1))-1)) (List.length x.A5)) (sl (ub8 (gL tI x.A5 (W ((W (x.d9+1))-1)).toNat) x.is1) (kk ⟨1,t1,W (x.d9+1)⟩) (kk ⟨0,0,0⟩)) (kk ⟨0,0,0⟩)))
noncomputable def y6(x:ta7):ta8:=ba4 (λr=>r) x
noncomputable def Ca8(x:ta7)(r:ta8):DT (b7×List c8):=(.ite (Nat.beq r.alt 1) (.ret (i r.is0,[⟨0,2,[[eL tI x.A5,i r.d9]],true,false,0⟩])) .fail)
theorem bc0{α β:Type}(F:α->β)(kk:ta8->α)(x:ta7):F (ba4 kk x)=ba4 (λr=>F (kk r)) x:=by unfold ba4;(repeat' apply r9 (f:=F))<;>rfl
noncomputable def jb8:Sum:=fb4 ⟨[.s (.o (.ptr 0 0 0 0)),.s (.o (.int .i64))],[⟨0,2,true,some [[.c 1 (nL tI),.o (.int .i64)]]⟩],λa H=>(⟨toI (slT a 1),rL tI (slT (rwT (elT H 0) 0) 0),toI (slT (rwT (elT H 0) 0) 1)⟩,())⟩ (λx=>Ca8 x (y6 x))
theorem Sb0:i4 prog G 58 jb8:=aa1 (enc:=λx=>⟨[.ptr 0 0 0 0,i x.is1],[⟨0,2,[[eL tI x.A5,i x.d9]],true,false,0⟩]⟩) (λa H=>by kernel_rfl) (bd b58 Kb7) λx=>B7 (Qhd (b:=ba4 (λr=>(Ca8 x r).run) x) (by kernel_rfl) (bc0 (λr=>(Ca8 x r).run) (λr=>r) x).symm)
noncomputable def jd4:List (Nat×Sum):=[]
theorem Xc2:k8 prog G jd4:=trivial
noncomputable def Ca9(x:V3)(y:V3):V3:=(⟨W (x.x-y.x),W (x.y-y.y),W (x.z-y.z)⟩:V3)
noncomputable def Ec2:Sum:=Ca2 (U7 tV) (U7 tV) (λx y=>.ret ((one r1V).enc (Ca9 x y),[]))
theorem jd5:i4 prog G 91 Ec2:=Va2 (bd b91 Xc2) λx y=>B7 (by kernel_rfl)
noncomputable def zd0:List (Nat×Sum):=[(110,qa1)]
theorem jd6:k8 prog G zd0:=⟨ya5,trivial⟩
noncomputable def pb9(x:V3):Option (b7×List c8):=(sl (decide (x.x<(-24))) (some (b false,[])) (sl (decide (x.x>24)) (some (b false,[])) (sl (decide (x.y<(-24))) (some (b false,[])) (sl (decide (x.y>24)) (some (b false,[])) (sl (decide (x.z<(-24))) (some (b false,[])) (sl (decide (x.z>24)) (some (b false,[])) (some (b true,[]))))))))
noncomputable def Qa6(x:V3):Bool:=U8 (one r1B) (pb9 x)
noncomputable def Qa7(x:V3):Bool:=okO (one r1B) (pb9 x)
noncomputable def oc7:Sum:=K9 (U7 tV) (λx=>.guard (Qa7 x) (.ret ((one r1B).enc (Qa6 x),[])))
theorem Ec3:i4 prog G 85 oc7:=Ca3 (bd b85 jd6) (one r1B) (o:=pb9) λx=>B7 (by kernel_rfl)
noncomputable def oc8:List (Nat×Sum):=[(85,oc7),(91,Ec2),(90,Xb9),(89,Db6),(86,Rb4)]
theorem bc3:k8 prog G oc8:=⟨Ec3,jd5,Lc2,Yb1,oc1,trivial⟩
noncomputable def sa3(x:V3)(y:V3)(z:V3):Option (b7×List c8):=let t1:=(Qa6 x);let t2:=(Qa6 y);let t3:=(Qa6 z);let t4:=(Ca9 y x);let t5:=(Ca9 z x);let t6:=(Ga6 t4 t5);let t7:=(va3 t6);let t8:=(Ca4 t7.1 x);(sl (Qa7 x) (sl (!t1) (some (.tup [.agg [i 0,i 0,i 0,i 0],b false],[])) (sl (Qa7 y) (sl (!t2) (some (.tup [.agg [i 0,i 0,i 0,i 0],b false],[])) (sl (Qa7 z) (sl (!t3) (some (.tup [.agg [i 0,i 0,i 0,i 0],b false],[])) (sl (Qa0 t6) (sl (t7.2==0) (some (.tup [.agg [i 0,i 0,i 0,i 0],b false],[])) (some (.tup [.agg [i t7.1.x,i t7.1.y,i t7.1.z,i t8],b true],[]))) none)) none)) none)) none)
noncomputable def Ea8(x:V3)(y:V3)(z:V3):Pln×Bool:=U8 (two r1P r1B) (sa3 x y z)
noncomputable def Ea9(x:V3)(y:V3)(z:V3):Bool:=okO (two r1P r1B) (sa3 x y z)
noncomputable def yb3:Sum:=Ib8 (U7 tV) (U7 tV) (U7 tV) (λx y z=>.guard (Ea9 x y z) (.ret ((two r1P r1B).enc (Ea8 x y z),[])))
theorem oc9:i4 prog G 61 yb3:=Wd8 (bd b61 bc3) (two r1P r1B) (o:=sa3) λx y z=>B7 (by kernel_rfl)
noncomputable def Xc3:List (Nat×Sum):=[(84,Yb2),(85,oc7),(86,Rb4)]
theorem Mc1:k8 prog G Xc3:=⟨Lc5,Ec3,oc1,trivial⟩
noncomputable def va4(x:Pln)(y:V3):Option (b7×List c8):=let t1:=(Va6 x);let t2:=(Qa6 y);let t3:=(Ca4 x.n y);(sl (Va7 x) (sl (!t1) (some (i 0,[])) (sl (Qa7 y) (sl (!t2) (some (i 0,[])) (sl (decide ((W (t3-x.b))<0)) (some (i (-1),[])) (sl (decide ((W (t3-x.b))>0)) (some (i 1,[])) (some (i 0,[]))))) none)) none)
noncomputable def gb3(x:Pln)(y:V3):Int:=U8 (one r1I) (va4 x y)
noncomputable def Eb0(x:Pln)(y:V3):Bool:=okO (one r1I) (va4 x y)
noncomputable def pc0:Sum:=Ca2 (U7 tP) (U7 tV) (λx y=>.guard (Eb0 x y) (.ret ((one r1I).enc (gb3 x y),[])))
theorem Xc4:i4 prog G 54 pc0:=Qb4 (bd b54 Mc1) (one r1I) (o:=va4) λx y=>B7 (by kernel_rfl)
structure Cd8 where
 (e7 d9 f7 l6 n9 q8 q9 U3:Int)
structure Cd9 where
 is7:Int
noncomputable def Ga8:List (Nat×Sum):=[(61,yb3),(54,pc0)]
theorem Mc2:k8 prog G Ga8:=⟨oc9,Xc4,trivial⟩
structure ha4 where
 j5:List V3
 (is3 is4 is5:Int)
 bs7:Bool
 (e7 d9 f7 l6:Int)
structure W5 where
 is8:Int
noncomputable def Ya5(p:ha4)(s:W5):St:=⟨eL tV p.j5::.unk::.unk::i p.is3::i p.is4::i p.is5::.ptr 0 0 0 0::b p.bs7::i s.is8::ra 48 [],[⟨0,4,[[i p.e7,i p.d9,i p.f7,i p.l6]],true,false,0⟩]⟩
noncomputable def R7{α:Type}(k:W5->α)(e:Nat->α)(z:α)(p:ha4)(s:W5):α:=let t1:=(gb3 (⟨(⟨p.e7,p.d9,p.f7⟩:V3),p.l6⟩:Pln) (gL tV p.j5 s.is8.toNat));(sl (decide (s.is8<(↑(List.length p.j5):Int))) (sl p.bs7 (sl (inB s.is8 (List.length p.j5)) (sl (Eb0 (⟨(⟨p.e7,p.d9,p.f7⟩:V3),p.l6⟩:Pln) (gL tV p.j5 s.is8.toNat)) (sl (t1 != 0) (e 1) (k ⟨W (s.is8+1)⟩)) z) z) (e 2)) (e 3))
noncomputable def v8(p:ha4)(s:W5):Stp W5:=R7 .next .exit .fail p s
noncomputable def gb4:Lo ha4 W5:=⟨En Ga8,0,Jd6,[1,0,1,4,4,1,0,4,1,4,4,1,0,4,1,4,4,1,0,4,1,1,4,4],[0,3,4,5,6,7,8],.p,[⟨sLq tV::sUq::sUq::sIq::sIq::sIq::sPq 0::sBq::sIq::ru2 48 [],[⟨0,4,true,some [kLq 4]⟩],λa H=>(⟨aLq tV a 0,aIq a 3,aIq a 4,aIq a 5,aBq a 7,hIq H 0 0 0,hIq H 0 0 1,hIq H 0 0 2,hIq H 0 0 3⟩,⟨aIq a 8⟩)⟩],v8,[(none,λp s=>⟨[b false],[]⟩),(some 6,λp s=>upq (Ya5 p s) [(41,i s.is8),(42,eL tV p.j5),(43,i (↑(List.length p.j5):Int)),(44,b (decide (s.is8<(↑(List.length p.j5):Int)))),(45,b true),(46,b p.bs7),(47,b p.bs7)]),(some 6,λp s=>upq (Ya5 p s) [(41,i s.is8),(42,eL tV p.j5),(43,i (↑(List.length p.j5):Int)),(44,b (decide (s.is8<(↑(List.length p.j5):Int)))),(45,b false),(46,u),(47,b false)])],Ya5⟩
theorem xc4:gb4.Ok:=Lo.ok [] (by kernel_rfl) .nil rfl (.cons (λa H=>by kernel_rfl) .nil) λp s=>(.of @R7 (λF _ _ _ _ _=>by unfold R7;(repeat' apply r9 (f:=F))<;>rfl) (by kernel_rfl))
structure ya8 where
 (is3 is4:Int)
structure W6 where
 j5:List V3
 is5:Int
noncomputable def yb4(p:ya8)(s:W6):St:=⟨eL tV s.j5::.unk::.unk::i p.is3::i p.is4::i s.is5::ra 51 [],[]⟩
noncomputable def Z2{α:Type}(k:W6->α)(e:Nat->α)(z:α)(p:ya8)(s:W6):α:=let t1:=(Ea8 (gL tV s.j5 p.is3.toNat) (gL tV s.j5 p.is4.toNat) (gL tV s.j5 s.is5.toNat));let t2:=(lp (v8 (⟨rt tV s.j5,p.is3,p.is4,s.is5,t1.2,t1.1.n.x,t1.1.n.y,t1.1.n.z,t1.1.b⟩:ha4)) (⟨0⟩:W5));(sl (decide (s.is5<p.is4)) (sl (inB p.is3 (List.length s.j5)) (sl (inB p.is4 (List.length s.j5)) (sl (inB s.is5 (List.length s.j5)) (sl (Ea9 (gL tV s.j5 p.is3.toNat) (gL tV s.j5 p.is4.toNat) (gL tV s.j5 s.is5.toNat)) (sl ((cnE tV s.j5)&&true) (sl (Nat.beq t2.1 1) (e 1) (sl (Nat.beq t2.1 2) (k ⟨rt tV s.j5,W (s.is5+1)⟩) (sl (Nat.beq t2.1 3) (k ⟨rt tV s.j5,W (s.is5+1)⟩) z))) z) z) z) z) z) (e 2))
noncomputable def L0(p:ya8)(s:W6):Stp W6:=Z2 .next .exit .fail p s
noncomputable def gb5:Lo ya8 W6:=⟨En Ga8,0,Jd6,[1,0,1,4,4,1,0,4,1,4,4,1,0,4,1,4,4],[0,3,4,5],.s .p (.s (.b (.s .p (.s .p (.b (.u gb4.ls))))) .p),[⟨sLq tV::sUq::sUq::sIq::sIq::sIq::ru2 51 [],[],λa H=>(⟨aIq a 3,aIq a 4⟩,⟨aLq tV a 0,aIq a 5⟩)⟩],L0,[(none,λp s=>⟨[b false],[]⟩),(some 4,λp s=>upq (yb4 p s) [(20,i s.is5),(21,i p.is4),(22,b (decide (s.is5<p.is4)))])],yb4⟩
theorem xc5:gb5.Ok:=Lo.ok [gb4.pr] (by kernel_rfl) (.cons xc4 .nil) rfl (.cons (λa H=>by kernel_rfl) .nil) λp s=>(.of @Z2 (λF _ _ _ _ _=>by unfold Z2;(repeat' apply r9 (f:=F))<;>rfl) (by kernel_rfl))
structure ya9 where
 is3:Int
structure W7 where
 j5:List V3
 is4:Int
noncomputable def yb5(p:ya9)(s:W7):St:=⟨eL tV s.j5::.unk::.unk::i p.is3::i s.is4::ra 52 [],[]⟩
noncomputable def Z3{α:Type}(k:W7->α)(e:Nat->α)(z:α)(p:ya9)(s:W7):α:=let t1:=(lp (L0 (⟨p.is3,s.is4⟩:ya8)) (⟨rt tV s.j5,0⟩:W6));(sl (decide (s.is4<p.is3)) (sl ((cnE tV s.j5)&&true) (sl (Nat.beq t1.1 1) (e 1) (sl (Nat.beq t1.1 2) (k ⟨t1.2.j5,W (s.is4+1)⟩) z)) z) (e 2))
noncomputable def L1(p:ya9)(s:W7):Stp W7:=Z3 .next .exit .fail p s
noncomputable def gb6:Lo ya9 W7:=⟨En Ga8,0,Jd6,[1,0,1,4,4,1,0,4,1,4,4],[0,3,4],.s .p (.s (.b (.s .p (.b (.u gb5.ls)))) .p),[⟨sLq tV::sUq::sUq::sIq::sIq::ru2 52 [],[],λa H=>(⟨aIq a 3⟩,⟨aLq tV a 0,aIq a 4⟩)⟩],L1,[(none,λp s=>⟨[b false],[]⟩),(some 2,λp s=>upq (yb5 p s) [(15,i s.is4),(16,i p.is3),(17,b (decide (s.is4<p.is3)))])],yb5⟩
theorem xc6:gb6.Ok:=Lo.ok [gb5.pr] (by kernel_rfl) (.cons xc5 .nil) rfl (.cons (λa H=>by kernel_rfl) .nil) λp s=>(.of @Z3 (λF _ _ _ _ _=>by unfold Z3;(repeat' apply r9 (f:=F))<;>rfl) (by kernel_rfl))
structure za0 where
structure W8 where
 j5:List V3
 is3:Int
noncomputable def yb6(p:za0)(s:W8):St:=⟨eL tV s.j5::.unk::.unk::i s.is3::ra 53 [],[]⟩
noncomputable def Z4{α:Type}(k:W8->α)(e:Nat->α)(z:α)(p:za0)(s:W8):α:=let t1:=(lp (L1 (⟨s.is3⟩:ya9)) (⟨rt tV s.j5,0⟩:W7));(sl (decide (s.is3<(↑(List.length s.j5):Int))) (sl ((cnE tV s.j5)&&true) (sl (Nat.beq t1.1 1) (e 1) (sl (Nat.beq t1.1 2) (k ⟨t1.2.j5,W (s.is3+1)⟩) z)) z) (e 2))
noncomputable def L2(p:za0)(s:W8):Stp W8:=Z4 .next .exit .fail p s
noncomputable def gb7:Lo za0 W8:=⟨En Ga8,0,Jd6,[1,0,1,4,4],[0,3],.s .p (.s (.b (.s .p (.b (.u gb6.ls)))) .p),[⟨sLq tV::sUq::sUq::sIq::ru2 53 [],[],λa H=>(⟨⟩,⟨aLq tV a 0,aIq a 3⟩)⟩],L2,[(none,λp s=>⟨[b false],[]⟩),(some 0,λp s=>upq (yb6 p s) [(9,i s.is3),(10,eL tV s.j5),(11,i (↑(List.length s.j5):Int)),(12,b (decide (s.is3<(↑(List.length s.j5):Int))))])],yb6⟩
theorem xc7:gb7.Ok:=Lo.ok [gb6.pr] (by kernel_rfl) (.cons xc6 .nil) rfl (.cons (λa H=>by kernel_rfl) .nil) λp s=>(.of @Z4 (λF _ _ _ _ _=>by unfold Z4;(repeat' apply r9 (f:=F))<;>rfl) (by kernel_rfl))
noncomputable def va5(x:List V3):Option (b7×List c8):=let t1:=(lp (L2 (⟨⟩:za0)) (⟨rt tV x,0⟩:W8));(sl ((cnE tV x)&&true) (sl (Nat.beq t1.1 1) (some (b false,[])) (sl (Nat.beq t1.1 2) (some (b true,[])) none)) none)
noncomputable def Qa8(x:List V3):Bool:=U8 (one r1B) (va5 x)
noncomputable def Da0(x:List V3):Bool:=okO (one r1B) (va5 x)
noncomputable def pc1:Sum:=K9 (ya3 tV) (λx=>.guard (Da0 x) (.ret ((one r1B).enc (Qa8 x),[])))
theorem Xc5:i4 prog G 59 pc1:=Ca3 (bd b59 Mc2) (one r1B) (o:=va5) λx=>bb4 (.s .p (.s (.s .p (.b (.u gb7.ls))) .p)) [gb7.pr] (by kernel_rfl) (.cons xc7 .nil) (by kernel_rfl)
structure Td7 where
 j5:List V3
structure Td8 where
 is3:Int
structure Td9 where
 vc6:List V3
 (e7 d9 f7 l6:Int)
structure Ud0 where
 is5:Int
structure he5 where
 Z9:List Pln
 (e7 d9 f7 l6:Int)
structure he6 where
 is5:Int
structure Ud1 where
 j5:List V3
 (is6 is7:Int)
structure Ud2 where
 ph:Nat
 is8:Int
 je4:List Pln
structure Ud3 where
 is6:Int
structure Ud4 where
 ph:Nat
 j5:List V3
 is7:Int
 je4:List Pln
structure Ud5 where
structure Ud6 where
 ph:Nat
 j5:List V3
 is6:Int
 je4:List Pln
noncomputable def yb7:List (Nat×Sum):=[(58,jb8),(59,pc1)]
theorem pc2:k8 prog G yb7:=⟨Sb0,Xc5,trivial⟩
structure R8 where
 is4:Int
structure o4 where
 ph:Nat
 is6:Int
 A5:List Int
 d9:Int
 ns5:Nat
 eh1:List (List b7)
noncomputable def bb8(p:R8)(s:o4):St:=⟨ra 3 (.ptr 0 0 0 0::i p.is4::.v (.slice none 0 0)::i s.is6::ra 127 []),[⟨0,2,[[eL tI s.A5,i s.d9]],true,false,0⟩]⟩
noncomputable def bb9(p:R8)(s:o4):St:=⟨ra 3 (.ptr 0 0 0 0::i p.is4::.sl 1 0 s.ns5 0::i s.is6::ra 127 []),[⟨0,2,[[eL tI s.A5,i s.d9]],true,false,0⟩,⟨25,3,s.eh1,true,false,0⟩]⟩
noncomputable def bc4(p:R8)(s:o4):St:=(sel (Nat.beq s.ph 1) (bb9 p s) (bb8 p s))
noncomputable def P2{α:Type}(k:o4->α)(e:Nat->α)(z:α)(p:R8)(s:o4):α:=let t1:=(y6 ⟨17,rt tI s.A5,s.d9⟩);let t2:=(y6 ⟨17,rt tI (rt tI s.A5),t1.d9⟩);let t3:=(y6 ⟨17,rt tI (rt tI (rt tI s.A5)),t2.d9⟩);let t4:=(y6 ⟨6,rt tI (rt tI (rt tI (rt tI s.A5))),t3.d9⟩);let w0:α:=(sl (t4.is0==3) (sl (decide (s.is6>2)) z (k ⟨1,W (s.is6+1),rt tI (rt tI (rt tI (rt tI s.A5))),t4.d9,1,[[i (W (t1.is0-8)),i (W (t2.is0-8)),i (W (t3.is0-8))]]⟩)) (k ⟨1,W (s.is6+1),rt tI (rt tI (rt tI (rt tI s.A5))),t4.d9,1,[[i (W (t1.is0-8)),i (W (t2.is0-8)),i (W (t3.is0-8))]]⟩));(sl (decide (s.is6<p.is4)) (sl ((cnE tI s.A5)&&true) (sl (Nat.beq t1.alt 1) (sl ((cnE tI (rt tI s.A5))&&true) (sl (Nat.beq t2.alt 1) (sl ((cnE tI (rt tI (rt tI s.A5)))&&true) (sl (Nat.beq t3.alt 1) (sl ((cnE tI (rt tI (rt tI (rt tI s.A5))))&&true) (sl (Nat.beq t4.alt 1) (sl (t4.is0==1) (sl (decide (s.is6>1)) z (sl (t4.is0==2) (sl (decide (s.is6>0)) z w0) w0)) (sl (t4.is0==2) (sl (decide (s.is6>0)) z w0) w0)) z) z) z) z) z) z) z) z) (e 1))
noncomputable def n7{α:Type}(k:o4->α)(e:Nat->α)(z:α)(p:R8)(s:o4):α:=let t1:=(y6 ⟨17,rt tI s.A5,s.d9⟩);let a0:=(i7 s.eh1 (0+(W (s.is6-1)).toNat));let a1:=(Nat.beq s.ns5 (len s.eh1)&&Nat.ble ((s.ns5+1)*24) room);let a3:=(i5 (i7 s.eh1 (0+(W (s.is6-2)).toNat)) 0);let a4:=((Nat.blt (0+(W (s.is6-1)).toNat) (len s.eh1))&&(Nat.ble (2+1) (len a0)));let a5:=(i (W (Int.tdiv (W ((toI (hdA (tlA (i5 a0 0))))+(toI (hdA (tlA a3))))) 2)));let a6:=(i (W (Int.tdiv (W ((toI (hdA (i5 a0 0)))+(toI (hdA a3)))) 2)));let a7:=(app s.eh1 [[a6,a5,i (W (Int.tdiv (W ((toI (hdA (tlA (tlA (i5 a0 0)))))+(toI (hdA (tlA (tlA a3)))))) 2))]]);let a8:=(inB (W (s.is6-1)) s.ns5);let a9:=(i (toI (hdA (tlA (i5 a0 0)))));let a10:=((Nat.blt (0+(W (s.is6-1)).toNat) (len s.eh1))&&(Nat.ble (0+3) (len a0)));let a11:=(i (toI (hdA (i5 a0 0))));let a12:=(app s.eh1 [[a11,a9,i (toI (hdA (tlA (tlA (i5 a0 0)))))]]);let a13:=(i (toI (hdA (i5 a0 2))));let a14:=(rt tI (rt tI s.A5));let t2:=(y6 ⟨17,a14,t1.d9⟩);let t3:=(y6 ⟨17,rt tI a14,t2.d9⟩);let a2:=(rt tI (rt tI a14));let t4:=(y6 ⟨6,a2,t3.d9⟩);let w0:α:=(sl (t4.is0==3) (sl (decide (s.is6>2)) (sl a8 (sl (a4&&(ma1 [CK.int .i64] (i5 a0 2))) (sl a1 (k ⟨1,W (s.is6+1),a2,t4.d9,s.ns5+1,app s.eh1 [[i (W (t1.is0-8)),i (W (t2.is0-8)),a13]]⟩) z) z) z) (sl a1 (k ⟨1,W (s.is6+1),a2,t4.d9,s.ns5+1,app s.eh1 [[i (W (t1.is0-8)),i (W (t2.is0-8)),i (W (t3.is0-8))]]⟩) z)) (sl a1 (k ⟨1,W (s.is6+1),a2,t4.d9,s.ns5+1,app s.eh1 [[i (W (t1.is0-8)),i (W (t2.is0-8)),i (W (t3.is0-8))]]⟩) z));let w1:α:=(sl a8 (sl (a10&&(ma1 [CK.int .i64,CK.int .i64,CK.int .i64] (i5 a0 0))) (sl (t4.is0==3) (sl (decide (s.is6>2)) (sl a8 (sl (a4&&(ma1 [CK.int .i64] (i5 a0 2))) (sl a1 (k ⟨1,W (s.is6+1),a2,t4.d9,s.ns5+1,app s.eh1 [[a11,a9,a13]]⟩) z) z) z) (sl a1 (k ⟨1,W (s.is6+1),a2,t4.d9,s.ns5+1,a12⟩) z)) (sl a1 (k ⟨1,W (s.is6+1),a2,t4.d9,s.ns5+1,a12⟩) z)) z) z);let w2:α:=(sl (t4.is0==3) (sl (decide (s.is6>2)) (sl a8 (sl (a4&&(ma1 [CK.int .i64] (i5 a0 2))) (sl a1 (k ⟨1,W (s.is6+1),a2,t4.d9,s.ns5+1,app s.eh1 [[a6,a5,a13]]⟩) z) z) z) (sl a1 (k ⟨1,W (s.is6+1),a2,t4.d9,s.ns5+1,a7⟩) z)) (sl a1 (k ⟨1,W (s.is6+1),a2,t4.d9,s.ns5+1,a7⟩) z));(sl (decide (s.is6<p.is4)) (sl ((cnE tI s.A5)&&true) (sl (Nat.beq t1.alt 1) (sl ((cnE tI (rt tI s.A5))&&true) (sl (Nat.beq t2.alt 1) (sl ((cnE tI a14)&&true) (sl (Nat.beq t3.alt 1) (sl ((cnE tI (rt tI a14))&&true) (sl (Nat.beq t4.alt 1) (sl (t4.is0==1) (sl (decide (s.is6>1)) (sl a8 (sl (a10&&(ma1 [CK.int .i64,CK.int .i64,CK.int .i64] (i5 a0 0))) (sl (inB (W (s.is6-2)) s.ns5) (sl (((Nat.blt (0+(W (s.is6-2)).toNat) (len s.eh1))&&(Nat.ble (0+3) (len (i7 s.eh1 (0+(W (s.is6-2)).toNat)))))&&(ma1 [CK.int .i64,CK.int .i64,CK.int .i64] a3)) (sl (t4.is0==2) (sl (decide (s.is6>0)) w1 w2) w2) z) z) z) z) (sl (t4.is0==2) (sl (decide (s.is6>0)) w1 w0) w0)) (sl (t4.is0==2) (sl (decide (s.is6>0)) w1 w0) w0)) z) z) z) z) z) z) z) z) (e 2))
noncomputable def ba5(p:R8)(s:o4):Stp o4:=(sel (Nat.beq s.ph 1) (n7 .next .exit .fail p s) (P2 .next .exit .fail p s))
noncomputable def Qa9:Lo R8 o4:=⟨En yb7,0,we0,[1,1,1,1,0,1,4,4],[3,4,5,6],.p,[⟨ru2 3 (sPq 0::sIq::.s (.o .nil)::sIq::ru2 127 []),[⟨0,2,true,some [[.c 1 (nL tI),.o (.int .i64)]]⟩],λa H=>(⟨aIq a 4⟩,⟨0,aIq a 6,hLq tI H 0 0 0,hIq H 0 0 1,0,[]⟩)⟩,⟨ru2 3 (sPq 0::sIq::.s (.o (.sl 1 0 (some 0) none))::sIq::ru2 127 []),[⟨0,2,true,some [[.c 1 (nL tI),.o (.int .i64)]]⟩,⟨25,3,true,none⟩],λa H=>(⟨aIq a 4⟩,⟨1,aIq a 6,hLq tI H 0 0 0,hIq H 0 0 1,slN (slT a 5),elT H 1⟩)⟩],ba5,[(some 0,λp s=>upq (bb8 p s) [(18,i s.is6),(19,i p.is4),(20,b (decide (s.is6<p.is4)))]),(some 0,λp s=>upq (bb9 p s) [(18,i s.is6),(19,i p.is4),(20,b (decide (s.is6<p.is4)))])],bc4⟩
theorem bc5:Qa9.Ok:=Lo.ok [] (by kernel_rfl) .nil rfl (.cons (λa H=>by kernel_rfl) (.cons (λa H=>by kernel_rfl) .nil)) λp s=>(.sel (Nat.beq s.ph 1) (.of @n7 (λF _ _ _ _ _=>by unfold n7;(repeat' apply r9 (f:=F))<;>rfl) (by kernel_rfl)) (.of @P2 (λF _ _ _ _ _=>by unfold P2;(repeat' apply r9 (f:=F))<;>rfl) (by kernel_rfl)))
noncomputable def ha5(x:List Int):Option (b7×List c8):=let t1:=(y6 ⟨5,rt tI x,0⟩);let t2:=(lp (ba5 (⟨W (4+t1.is0)⟩:R8)) (⟨0,0,rt tI (rt tI x),t1.d9,0,[]⟩:o4));let t3:=(Qa8 []);let t4:=(Qa8 (lsL tV t2.2.ns5 (λk=>i7 t2.2.eh1 (0+k))));let a0:=(i5 (i7 t2.2.eh1 0) 0);let a1:=(i (toI (hdA (tlA (tlA a0)))));let a2:=(i (W ((toI (hdA a0))-3)));let a3:=(setAt t2.2.eh1 1 (O2 (i7 t2.2.eh1 1) 0 [a2,i (toI (hdA (tlA a0))),a1]));let a4:=(i (W ((toI (hdA (tlA a0)))-2)));(sl ((cnE tI x)&&true) (sl (Nat.beq t1.alt 1) (sl ((cnE tI (rt tI x))&&true) (sl (Nat.beq t2.1 1) (sl (Da0 []) (sl t3 none (some (.v (.slice none 0 0),[]))) none) (sl (Nat.beq t2.1 2) (sl (okL tV t2.2.ns5 (λk=>i7 t2.2.eh1 (0+k))) (sl (Da0 (lsL tV t2.2.ns5 (λk=>i7 t2.2.eh1 (0+k)))) (sl t4 (sl (inB 0 t2.2.ns5) (sl (((Nat.blt 0 (len t2.2.eh1))&&(Nat.ble (0+3) (len (i7 t2.2.eh1 0))))&&(ma1 [CK.int .i64,CK.int .i64,CK.int .i64] a0)) (sl (inB 1 t2.2.ns5) (sl ((Nat.blt 1 (len t2.2.eh1))&&(Nat.ble (0+3) (len (i7 t2.2.eh1 1)))) (sl (inB 2 t2.2.ns5) (sl ((Nat.blt 2 (len a3))&&(Nat.ble (0+3) (len (i7 a3 2)))) (sl (inB 3 t2.2.ns5) (sl ((Nat.blt 3 (len (setAt a3 2 (O2 (i7 a3 2) 0 [i (toI (hdA a0)),a4,a1]))))&&(Nat.ble (0+3) (len (i7 (setAt a3 2 (O2 (i7 a3 2) 0 [i (toI (hdA a0)),a4,a1])) 3)))) (some (.sl 0 0 t2.2.ns5 0,[⟨25,3,setAt (setAt a3 2 (O2 (i7 a3 2) 0 [i (toI (hdA a0)),a4,a1])) 3 (O2 (i7 (setAt a3 2 (O2 (i7 a3 2) 0 [i (toI (hdA a0)),a4,a1])) 3) 0 [i (toI (hdA a0)),i (toI (hdA (tlA a0))),i (W ((toI (hdA (tlA (tlA a0))))-1))]),true,false,0⟩])) none) none) none) none) none) none) none) none) (some (.sl 0 0 t2.2.ns5 0,[⟨25,3,t2.2.eh1,true,false,0⟩]))) none) none) none)) none) none) none)
noncomputable def o7(x:List Int):List V3:=U8 (one (r1L tV)) (ha5 x)
noncomputable def La0(x:List Int):Bool:=okO (one (r1L tV)) (ha5 x)
noncomputable def Mc3:Sum:=K9 (ya3 tI) (λx=>.guard (La0 x) (.ret ((one (r1L tV)).enc (o7 x),[])))
theorem xc8:i4 prog G 33 Mc3:=Ca3 (bd b33 pc2) (one (r1L tV)) (o:=ha5) λx=>bb4 (.s .p (.s .p (.s .p (.s .p (.s (.s .p (.b (.u Qa9.ls))) .p))))) [Qa9.pr] (by kernel_rfl) (.cons bc5 .nil) (by kernel_rfl)
noncomputable def Mc4:List (Nat×Sum):=[]
theorem xc9:k8 prog G Mc4:=trivial
noncomputable def J8(x:V3)(y:V3):V3:=(⟨W (x.x-y.x),W (x.y-y.y),W (x.z-y.z)⟩:V3)
noncomputable def Wa0:Sum:=Ca2 (U7 tV) (U7 tV) (λx y=>.ret ((one r1V).enc (J8 x y),[]))
theorem gb8:i4 prog G 27 Wa0:=Va2 (bd b27 xc9) λx y=>B7 (by kernel_rfl)
noncomputable def yc0:List (Nat×Sum):=[(27,Wa0)]
theorem pc3:k8 prog G yc0:=⟨gb8,trivial⟩
noncomputable def qa4(x:Pln):Pln:=let t1:=(J8 (⟨0,0,0⟩:V3) x.n);(⟨t1,W (0-x.b)⟩:Pln)
noncomputable def Kb8:Sum:=K9 (U7 tP) (λx=>.ret ((one r1P).enc (qa4 x),[]))
theorem yc1:i4 prog G 78 Kb8:=ub2 (bd b78 pc3) λx=>B7 (by kernel_rfl)
noncomputable def yc2:List (Nat×Sum):=[(83,Ia4)]
theorem pc4:k8 prog G yc2:=⟨bb7,trivial⟩
noncomputable def za1(x:V3):Option (b7×List c8):=let t1:=(U9 [x.x,x.y,x.z]);(sl (V0 [x.x,x.y,x.z]) (sl (t1==0) (some (.tup [.agg [i 0,i 0,i 0],i 0],[])) (sl (t1==0) none (sl (t1==0) none (sl (t1==0) none (some (.tup [.agg [i (W (Int.tdiv x.x t1)),i (W (Int.tdiv x.y t1)),i (W (Int.tdiv x.z t1))],i t1],[])))))) none)
noncomputable def qa5(x:V3):V3×Int:=U8 (two r1V r1I) (za1 x)
noncomputable def La1(x:V3):Bool:=okO (two r1V r1I) (za1 x)
noncomputable def Kb9:Sum:=K9 (U7 tV) (λx=>.guard (La1 x) (.ret ((two r1V r1I).enc (qa5 x),[])))
theorem yc3:i4 prog G 98 Kb9:=Ca3 (bd b98 pc4) (two r1V r1I) (o:=za1) λx=>B7 (by kernel_rfl)
noncomputable def Sb1:List (Nat×Sum):=[(20,Qa5),(27,Wa0),(36,ka8),(98,Kb9),(35,na1)]
theorem Lb0:k8 prog G Sb1:=⟨Va9,gb8,na2,yc3,qa2,trivial⟩
noncomputable def ja0(x:V3)(y:V3)(z:V3):Option (b7×List c8):=let t1:=(P1 x);let t2:=(P1 y);let t3:=(P1 z);let t4:=(J8 y x);let t5:=(J8 z x);let t6:=(A6 t4 t5);let t7:=(qa5 t6);let t8:=(y5 t7.1 x);(sl (J5 x) (sl (!t1) (some (.tup [.agg [i 0,i 0,i 0,i 0],b false],[])) (sl (J5 y) (sl (!t2) (some (.tup [.agg [i 0,i 0,i 0,i 0],b false],[])) (sl (J5 z) (sl (!t3) (some (.tup [.agg [i 0,i 0,i 0,i 0],b false],[])) (sl (La1 t6) (some (.tup [.agg [i t7.1.x,i t7.1.y,i t7.1.z,i t8],b (decide (t7.2>0))],[])) none)) none)) none)) none)
noncomputable def E8(x:V3)(y:V3)(z:V3):Pln×Bool:=U8 (two r1P r1B) (ja0 x y z)
noncomputable def ba6(x:V3)(y:V3)(z:V3):Bool:=okO (two r1P r1B) (ja0 x y z)
noncomputable def Ia6:Sum:=Ib8 (U7 tV) (U7 tV) (U7 tV) (λx y z=>.guard (ba6 x y z) (.ret ((two r1P r1B).enc (E8 x y z),[])))
theorem cb0:i4 prog G 77 Ia6:=Wd8 (bd b77 Lb0) (two r1P r1B) (o:=ja0) λx y z=>B7 (by kernel_rfl)
noncomputable def yc4:List (Nat×Sum):=[(52,yb1),(20,Qa5),(35,na1),(53,Ya1)]
theorem pc5:k8 prog G yc4:=⟨oc4,Va9,qa2,pb8,trivial⟩
noncomputable def za2(x:Pln)(y:V3):Option (b7×List c8):=let t1:=(Ea6 x);let t2:=(P1 y);let t3:=(y5 x.n y);let t4:=(X7 t3 x.b);(sl (Ea7 x) (sl (!t1) (some (i 0,[])) (sl (J5 y) (sl (!t2) (some (i 0,[])) (sl (X8 t3 x.b) (some (i t4,[])) none)) none)) none)
noncomputable def L4(x:Pln)(y:V3):Int:=U8 (one r1I) (za2 x y)
noncomputable def W9(x:Pln)(y:V3):Bool:=okO (one r1I) (za2 x y)
noncomputable def za3:Sum:=Ca2 (U7 tP) (U7 tV) (λx y=>.guard (W9 x y) (.ret ((one r1I).enc (L4 x y),[])))
theorem Fa0:i4 prog G 30 za3:=Qb4 (bd b30 pc5) (one r1I) (o:=za2) λx y=>B7 (by kernel_rfl)
structure Fa1 where
 (ga4 ga5 ga6 e7 d9 f7 l6:Int)
noncomputable def pc6:List (Nat×Sum):=[(30,za3)]
theorem bc6:k8 prog G pc6:=⟨Fa0,trivial⟩
structure Fa2 where
 alt:Nat
 bs0:Bool
noncomputable def ka9{α:Type}(kk:Fa2->α)(x:Fa1):α:=let t1:=(L4 (⟨(⟨x.e7,x.d9,x.f7⟩:V3),x.l6⟩:Pln) (⟨x.ga4,x.ga5,x.ga6⟩:V3));(sl (W9 (⟨(⟨x.e7,x.d9,x.f7⟩:V3),x.l6⟩:Pln) (⟨x.ga4,x.ga5,x.ga6⟩:V3)) (kk ⟨1,t1 != 0⟩) (kk ⟨0,false⟩))
noncomputable def Fa3(x:Fa1):Fa2:=ka9 (λr=>r) x
noncomputable def Ra0(x:Fa1)(r:Fa2):DT (b7×List c8):=(.ite (Nat.beq r.alt 1) (.ret (b r.bs0,[⟨0,4,[[i x.e7,i x.d9,i x.f7,i x.l6]],true,false,0⟩])) .fail)
theorem yc5{α β:Type}(F:α->β)(kk:Fa2->α)(x:Fa1):F (ka9 kk x)=ka9 (λr=>F (kk r)) x:=by unfold ka9;(repeat' apply r9 (f:=F))<;>rfl
noncomputable def yb8:Sum:=fb4 ⟨[.agg (kLq 3),sPq 0],[⟨0,4,true,some [kLq 4]⟩],λa H=>(⟨cIq a 0 0,cIq a 0 1,cIq a 0 2,hIq H 0 0 0,hIq H 0 0 1,hIq H 0 0 2,hIq H 0 0 3⟩,())⟩ (λx=>Ra0 x (Fa3 x))
theorem pc7:i4 prog G 94 yb8:=aa1 (enc:=λx=>⟨[.agg [i x.ga4,i x.ga5,i x.ga6],.ptr 0 0 0 0],[⟨0,4,[[i x.e7,i x.d9,i x.f7,i x.l6]],true,false,0⟩]⟩) (λa H=>by kernel_rfl) (bd b94 bc6) λx=>B7 (Qhd (b:=ka9 (λr=>(Ra0 x r).run) x) (by kernel_rfl) (yc5 (λr=>(Ra0 x r).run) (λr=>r) x).symm)
structure S6 where
 j5:List V3
 (e7 d9 f7 l6:Int)
noncomputable def sa4:List (Nat×Sum):=[(94,yb8)]
theorem Ta6:k8 prog G sa4:=⟨pc7,trivial⟩
structure G5 where
 j5:List V3
 (is7 e7 d9 f7 l6:Int)
structure l7 where
 is8:Int
noncomputable def na4(p:G5)(s:l7):St:=⟨eL tV p.j5::.fn 94 [.ptr 0 0 0 0]::ra 5 (i p.is7::i s.is8::ra 10 []),[⟨0,4,[[i p.e7,i p.d9,i p.f7,i p.l6]],true,false,0⟩]⟩
noncomputable def C6{α:Type}(k:l7->α)(e:Nat->α)(z:α)(p:G5)(s:l7):α:=let t1:=(Fa3 ⟨(gL tV p.j5 s.is8.toNat).x,(gL tV p.j5 s.is8.toNat).y,(gL tV p.j5 s.is8.toNat).z,p.e7,p.d9,p.f7,p.l6⟩);(sl (decide (s.is8<p.is7)) (sl (inB s.is8 (List.length p.j5)) (sl (Nat.beq t1.alt 1) (sl t1.bs0 (e 1) (k ⟨W (s.is8+1)⟩)) z) z) (e 2))
noncomputable def E1(p:G5)(s:l7):Stp l7:=C6 .next .exit .fail p s
noncomputable def aa4:Lo G5 l7:=⟨En sa4,1,Jd7,[1,0,1,4,4],[0,1,7,8],.p,[⟨sLq tV::.fn 94 [.o (.ptr 0 0 0 0)]::ru2 5 (sIq::sIq::ru2 10 []),[⟨0,4,true,some [kLq 4]⟩],λa H=>(⟨aLq tV a 0,aIq a 7,hIq H 0 0 0,hIq H 0 0 1,hIq H 0 0 2,hIq H 0 0 3⟩,⟨aIq a 8⟩)⟩],E1,[(none,λp s=>⟨[i s.is8],[⟨0,4,[[i p.e7,i p.d9,i p.f7,i p.l6]],true,false,0⟩]⟩),(some 0,λp s=>upq (na4 p s) [(9,b (decide (s.is8<p.is7)))])],na4⟩
theorem Ra1:aa4.Ok:=Lo.ok [] (by kernel_rfl) .nil rfl (.cons (λa H=>by kernel_rfl) .nil) λp s=>(.of @C6 (λF _ _ _ _ _=>by unfold C6;(repeat' apply r9 (f:=F))<;>rfl) (by kernel_rfl))
structure S7 where
 alt:Nat
 is0:Int
noncomputable def D4{α:Type}(kk:S7->α)(x:S6):α:=let t1:=(lp (E1 (⟨rt tV x.j5,(↑(List.length x.j5):Int),x.e7,x.d9,x.f7,x.l6⟩:G5)) (⟨0⟩:l7));(sl ((cnE tV x.j5)&&true) (sl (Nat.beq t1.1 1) (kk ⟨1,t1.2.is8⟩) (sl (Nat.beq t1.1 2) (kk ⟨1,-1⟩) (kk ⟨0,0⟩))) (kk ⟨0,0⟩))
noncomputable def S8(x:S6):S7:=D4 (λr=>r) x
noncomputable def da5(x:S6)(r:S7):DT (b7×List c8):=(.ite (Nat.beq r.alt 1) (.ret (i r.is0,[⟨0,4,[[i x.e7,i x.d9,i x.f7,i x.l6]],true,false,0⟩])) .fail)
theorem cb1{α β:Type}(F:α->β)(kk:S7->α)(x:S6):F (D4 kk x)=D4 (λr=>F (kk r)) x:=by unfold D4;(repeat' apply r9 (f:=F))<;>rfl
noncomputable def wa2:Sum:=fb4 ⟨[sLq tV,.fn 94 [.o (.ptr 0 0 0 0)]],[⟨0,4,true,some [kLq 4]⟩],λa H=>(⟨aLq tV a 0,hIq H 0 0 0,hIq H 0 0 1,hIq H 0 0 2,hIq H 0 0 3⟩,())⟩ (λx=>da5 x (S8 x))
theorem Ya6:i4 prog G 88 wa2:=aa1 (enc:=λx=>⟨[eL tV x.j5,.fn 94 [.ptr 0 0 0 0]],[⟨0,4,[[i x.e7,i x.d9,i x.f7,i x.l6]],true,false,0⟩]⟩) (λa H=>by kernel_rfl) (bd b88 Ta6) λx=>bb4 (.s .p (.s (.s .p (.b (.u aa4.ls))) .p)) [aa4.pr] (by kernel_rfl) (.cons Ra1 .nil) (Qhd (b:=D4 (λr=>(da5 x r).run) x) (by kernel_rfl) (cb1 (λr=>(da5 x r).run) (λr=>r) x).symm)
structure L5 where
 j5:List V3
 (e7 d9 f7 l6:Int)
noncomputable def La2:List (Nat×Sum):=[(88,wa2)]
theorem Ia7:k8 prog G La2:=⟨Ya6,trivial⟩
structure L6 where
 alt:Nat
 bs0:Bool
noncomputable def y8{α:Type}(kk:L6->α)(x:L5):α:=let t1:=(S8 ⟨rt tV x.j5,x.e7,x.d9,x.f7,x.l6⟩);(sl ((cnE tV x.j5)&&true) (sl (Nat.beq t1.alt 1) (kk ⟨1,decide (t1.is0>=0)⟩) (kk ⟨0,false⟩)) (kk ⟨0,false⟩))
noncomputable def o5(x:L5):L6:=y8 (λr=>r) x
noncomputable def X0(x:L5)(r:L6):DT (b7×List c8):=(.ite (Nat.beq r.alt 1) (.ret (b r.bs0,[⟨0,4,[[i x.e7,i x.d9,i x.f7,i x.l6]],true,false,0⟩])) .fail)
theorem Ra2{α β:Type}(F:α->β)(kk:L6->α)(x:L5):F (y8 kk x)=y8 (λr=>F (kk r)) x:=by unfold y8;(repeat' apply r9 (f:=F))<;>rfl
noncomputable def na5:Sum:=fb4 ⟨[sLq tV,.fn 94 [.o (.ptr 0 0 0 0)]],[⟨0,4,true,some [kLq 4]⟩],λa H=>(⟨aLq tV a 0,hIq H 0 0 0,hIq H 0 0 1,hIq H 0 0 2,hIq H 0 0 3⟩,())⟩ (λx=>X0 x (o5 x))
theorem La3:i4 prog G 70 na5:=aa1 (enc:=λx=>⟨[eL tV x.j5,.fn 94 [.ptr 0 0 0 0]],[⟨0,4,[[i x.e7,i x.d9,i x.f7,i x.l6]],true,false,0⟩]⟩) (λa H=>by kernel_rfl) (bd b70 Ia7) λx=>B7 (Qhd (b:=y8 (λr=>(X0 x r).run) x) (by kernel_rfl) (Ra2 (λr=>(X0 x r).run) (λr=>r) x).symm)
noncomputable def jb9:List (Nat×Sum):=[]
theorem Sb2:k8 prog G jb9:=trivial
@[reducible] noncomputable def fa8:Sum:=Gb2 (En jb9) we5
theorem ja1:i4 prog G 46 fa8:=bd b46 Sb2
noncomputable def La4:List (Nat×Sum):=[(77,Ia6),(70,na5),(46,fa8)]
theorem yc6:k8 prog G La4:=⟨cb0,La3,ja1,trivial⟩
structure X9 where
 (is3 is4 is9 v7 Ua2 H4 gc2:Int)
 (c9 f0:List V3)
structure E9 where
 B1:Int
noncomputable def qb0(p:X9)(s:E9):St:=⟨.unk::.ptr 0 0 0 0::.unk::i p.is3::i p.is4::ra 4 (i p.is9::i p.v7::ra 5 (i p.Ua2::i p.H4::ra 5 (i p.gc2::i s.B1::ra 35 (i 0::.unk::.ptr 1 0 0 0::.ptr 2 0 0 0::ra 8 [])))),[⟨0,1,[[eL tV p.c9]],true,false,0⟩,⟨0,1,[[eL tV p.f0]],true,false,0⟩,⟨0,1,[[b false]],true,false,0⟩]⟩
noncomputable def ja2{α:Type}(k:E9->α)(e:Nat->α)(z:α)(p:X9)(s:E9):α:=let t1:=(E8 (gL tV p.c9 s.B1.toNat) (gL tV p.c9 p.is4.toNat) (gL tV p.c9 p.is3.toNat));let t2:=(o5 ⟨rt tV p.f0,t1.1.n.x,t1.1.n.y,t1.1.n.z,t1.1.b⟩);(sl (decide (s.B1<p.gc2)) (sl (inB s.B1 (List.length p.c9)) (sl (inB p.is4 (List.length p.c9)) (sl (inB p.is3 (List.length p.c9)) (sl (ba6 (gL tV p.c9 s.B1.toNat) (gL tV p.c9 p.is4.toNat) (gL tV p.c9 p.is3.toNat)) (sl t1.2 (sl t1.2 (sl ((cnE tV p.f0)&&true) (sl (Nat.beq t2.alt 1) (e 1) z) z) (k ⟨W (s.B1+1)⟩)) (sl t1.2 z (k ⟨W (s.B1+1)⟩))) z) z) z) z) (e 2))
noncomputable def L7(p:X9)(s:E9):Stp E9:=ja2 .next .exit .fail p s
noncomputable def Ya7:Lo X9 E9:=⟨En La4,0,Zd0,[1,0,1,4,4,1,4,4,1,1,0,4,1,1,4,4,1,1,0,4,1,1,4,4],[1,3,4,9,10,16,17,23,24,60,62,63],.p,[⟨sUq::sPq 0::sUq::sIq::sIq::ru2 4 (sIq::sIq::ru2 5 (sIq::sIq::ru2 5 (sIq::sIq::ru2 35 (.s (.o (.lit .i64 0))::sUq::sPq 1::sPq 2::ru2 8 [])))),[⟨0,1,true,some [[.c 3 (nL tV)]]⟩,⟨0,1,true,some [[.c 3 (nL tV)]]⟩,⟨0,1,true,some [[.o (.blit false)]]⟩],λa H=>(⟨aIq a 3,aIq a 4,aIq a 9,aIq a 10,aIq a 16,aIq a 17,aIq a 23,hLq tV H 0 0 0,hLq tV H 1 0 0⟩,⟨aIq a 24⟩)⟩],L7,[(none,λp s=>let t1:=(E8 (gL tV p.c9 s.B1.toNat) (gL tV p.c9 p.is4.toNat) (gL tV p.c9 p.is3.toNat));let t2:=(o5 ⟨rt tV p.f0,t1.1.n.x,t1.1.n.y,t1.1.n.z,t1.1.b⟩);⟨.unk::.ptr 0 0 0 0::.unk::i p.is3::i p.is4::i s.B1::.ptr 3 0 0 0::b t1.2::.unk::i p.is9::i p.v7::ra 5 (i p.Ua2::i p.H4::ra 5 (i p.gc2::i s.B1::b (decide (s.B1<p.gc2))::i s.B1::.tup [.agg [i t1.1.n.x,i t1.1.n.y,i t1.1.n.z,i t1.1.b],b t1.2]::eL tV p.c9::i s.B1::.tptr [i (gL tV p.c9 s.B1.toNat).x,i (gL tV p.c9 s.B1.toNat).y,i (gL tV p.c9 s.B1.toNat).z]::.agg [i (gL tV p.c9 s.B1.toNat).x,i (gL tV p.c9 s.B1.toNat).y,i (gL tV p.c9 s.B1.toNat).z]::eL tV p.c9::i p.is4::.tptr [i (gL tV p.c9 p.is4.toNat).x,i (gL tV p.c9 p.is4.toNat).y,i (gL tV p.c9 p.is4.toNat).z]::.agg [i (gL tV p.c9 p.is4.toNat).x,i (gL tV p.c9 p.is4.toNat).y,i (gL tV p.c9 p.is4.toNat).z]::eL tV p.c9::i p.is3::.tptr [i (gL tV p.c9 p.is3.toNat).x,i (gL tV p.c9 p.is3.toNat).y,i (gL tV p.c9 p.is3.toNat).z]::.agg [i (gL tV p.c9 p.is3.toNat).x,i (gL tV p.c9 p.is3.toNat).y,i (gL tV p.c9 p.is3.toNat).z]::.tup [.agg [i t1.1.n.x,i t1.1.n.y,i t1.1.n.z,i t1.1.b],b t1.2]::.agg [i t1.1.n.x,i t1.1.n.y,i t1.1.n.z,i t1.1.b]::b t1.2::b t1.2::b true::.unk::.agg [i t1.1.n.x,i t1.1.n.y,i t1.1.n.z,i t1.1.b]::b false::b true::b true::.unk::u::u::u::u::b true::b true::ra 3 (i 1::.unk::.ptr 1 0 0 0::.ptr 2 0 0 0::ra 8 []))),[⟨0,1,[[eL tV p.c9]],true,false,0⟩,⟨0,1,[[eL tV p.f0]],true,false,0⟩,⟨0,1,[[b (!t2.bs0)]],true,false,0⟩,⟨0,4,[[i t1.1.n.x,i t1.1.n.y,i t1.1.n.z,i t1.1.b]],true,false,0⟩,⟨0,4,[[i t1.1.n.x,i t1.1.n.y,i t1.1.n.z,i t1.1.b]],true,false,0⟩]⟩),(some 4,λp s=>upq (qb0 p s) [(25,b (decide (s.B1<p.gc2)))])],qb0⟩
theorem pc8:Ya7.OkM:=Lo.okM [] (by kernel_rfl) .nil rfl (.cons (λa H=>by kernel_rfl) .nil) λp s=>(.of @ja2 (λF _ _ _ _ _=>by unfold ja2;(repeat' apply r9 (f:=F))<;>rfl) (by kernel_rfl))
structure da6 where
 (is3 is9 v7 Ua2:Int)
structure I1 where
 H4:Int
 (c9 f0:List V3)
noncomputable def qb1(p:da6)(s:I1):St:=⟨.unk::.ptr 0 0 0 0::.unk::i p.is3::ra 5 (i p.is9::i p.v7::ra 5 (i p.Ua2::i s.H4::ra 42 (i 0::.unk::.ptr 1 0 0 0::.ptr 2 0 0 0::ra 8 []))),[⟨0,1,[[eL tV s.c9]],true,false,0⟩,⟨0,1,[[eL tV s.f0]],true,false,0⟩,⟨0,1,[[b false]],true,false,0⟩]⟩
noncomputable def ja3{α:Type}(k:I1->α)(e:Nat->α)(z:α)(p:da6)(s:I1):α:=let t1:=(lp (L7 (⟨p.is3,s.H4,p.is9,p.v7,p.Ua2,s.H4,(↑(s.H4.toNat-0):Int),rt tV s.c9,rt tV s.f0⟩:X9)) (⟨0⟩:E9));(sl (decide (s.H4<p.Ua2)) (sl (inB s.H4 ((List.length s.c9)+1)) (sl ((cnE tV s.c9)&&((cnE tV s.f0)&&true)) (sl (Nat.beq t1.1 1) (e 1) (sl (Nat.beq t1.1 2) (k ⟨W (s.H4+1),rt tV s.c9,rt tV s.f0⟩) z)) z) z) (e 2))
noncomputable def R9(p:da6)(s:I1):Stp I1:=ja3 .next .exit .fail p s
noncomputable def Ya8:Lo da6 I1:=⟨En La4,0,Zd0,[1,0,1,4,4,1,4,4,1,1,0,4,1,1,4,4],[1,3,9,10,16,17,60,62,63],.s .p (.s .p (.s (.b (.s .p (.s .p (.b (.u Ya7.lsM))))) .p)),[⟨sUq::sPq 0::sUq::sIq::ru2 5 (sIq::sIq::ru2 5 (sIq::sIq::ru2 42 (.s (.o (.lit .i64 0))::sUq::sPq 1::sPq 2::ru2 8 []))),[⟨0,1,true,some [[.c 3 (nL tV)]]⟩,⟨0,1,true,some [[.c 3 (nL tV)]]⟩,⟨0,1,true,some [[.o (.blit false)]]⟩],λa H=>(⟨aIq a 3,aIq a 9,aIq a 10,aIq a 16⟩,⟨aIq a 17,hLq tV H 0 0 0,hLq tV H 1 0 0⟩)⟩],R9,[(none,λp s=>let t1:=(lp (L7 (⟨p.is3,s.H4,p.is9,p.v7,p.Ua2,s.H4,(↑(s.H4.toNat-0):Int),rt tV s.c9,rt tV s.f0⟩:X9)) (⟨0⟩:E9));let t2:=(E8 (gL tV (rt tV s.c9) t1.2.B1.toNat) (gL tV (rt tV s.c9) s.H4.toNat) (gL tV (rt tV s.c9) p.is3.toNat));let t3:=(o5 ⟨rt tV (rt tV s.f0),t2.1.n.x,t2.1.n.y,t2.1.n.z,t2.1.b⟩);⟨.unk::.ptr 0 0 0 0::.unk::i p.is3::i s.H4::i t1.2.B1::.ptr 3 0 0 0::b t2.2::.unk::i p.is9::i p.v7::ra 5 (i p.Ua2::i s.H4::ra 5 (i (↑(s.H4.toNat-0):Int)::i t1.2.B1::b (decide (t1.2.B1<(↑(s.H4.toNat-0):Int)))::i t1.2.B1::.tup [.agg [i t2.1.n.x,i t2.1.n.y,i t2.1.n.z,i t2.1.b],b t2.2]::eL tV (rt tV s.c9)::i t1.2.B1::.tptr [i (gL tV (rt tV s.c9) t1.2.B1.toNat).x,i (gL tV (rt tV s.c9) t1.2.B1.toNat).y,i (gL tV (rt tV s.c9) t1.2.B1.toNat).z]::.agg [i (gL tV (rt tV s.c9) t1.2.B1.toNat).x,i (gL tV (rt tV s.c9) t1.2.B1.toNat).y,i (gL tV (rt tV s.c9) t1.2.B1.toNat).z]::eL tV (rt tV s.c9)::i s.H4::.tptr [i (gL tV (rt tV s.c9) s.H4.toNat).x,i (gL tV (rt tV s.c9) s.H4.toNat).y,i (gL tV (rt tV s.c9) s.H4.toNat).z]::.agg [i (gL tV (rt tV s.c9) s.H4.toNat).x,i (gL tV (rt tV s.c9) s.H4.toNat).y,i (gL tV (rt tV s.c9) s.H4.toNat).z]::eL tV (rt tV s.c9)::i p.is3::.tptr [i (gL tV (rt tV s.c9) p.is3.toNat).x,i (gL tV (rt tV s.c9) p.is3.toNat).y,i (gL tV (rt tV s.c9) p.is3.toNat).z]::.agg [i (gL tV (rt tV s.c9) p.is3.toNat).x,i (gL tV (rt tV s.c9) p.is3.toNat).y,i (gL tV (rt tV s.c9) p.is3.toNat).z]::.tup [.agg [i t2.1.n.x,i t2.1.n.y,i t2.1.n.z,i t2.1.b],b t2.2]::.agg [i t2.1.n.x,i t2.1.n.y,i t2.1.n.z,i t2.1.b]::b t2.2::b t2.2::b true::.unk::.agg [i t2.1.n.x,i t2.1.n.y,i t2.1.n.z,i t2.1.b]::b false::b true::b true::.unk::u::u::u::u::b true::b true::ra 3 (i 1::.unk::.ptr 1 0 0 0::.ptr 2 0 0 0::ra 8 []))),[⟨0,1,[[eL tV (rt tV s.c9)]],true,false,0⟩,⟨0,1,[[eL tV (rt tV s.f0)]],true,false,0⟩,⟨0,1,[[b (!t3.bs0)]],true,false,0⟩,⟨0,4,[[i t2.1.n.x,i t2.1.n.y,i t2.1.n.z,i t2.1.b]],true,false,0⟩,⟨0,4,[[i t2.1.n.x,i t2.1.n.y,i t2.1.n.z,i t2.1.b]],true,false,0⟩]⟩),(some 2,λp s=>upq (qb1 p s) [(18,b (decide (s.H4<p.Ua2)))])],qb1⟩
theorem pc9:Ya8.OkM:=Lo.okM [Ya7.prM] (by kernel_rfl) (.cons pc8 .nil) rfl (.cons (λa H=>by kernel_rfl) .nil) λp s=>(.of @ja3 (λF _ _ _ _ _=>by unfold ja3;(repeat' apply r9 (f:=F))<;>rfl) (by kernel_rfl))
structure sa5 where
 is9:Int
structure Q9 where
 v7:Int
 (c9 f0:List V3)
noncomputable def qb2(p:sa5)(s:Q9):St:=⟨.unk::.ptr 0 0 0 0::ra 7 (i p.is9::i s.v7::ra 49 (i 0::.unk::.ptr 1 0 0 0::.ptr 2 0 0 0::ra 8 [])),[⟨0,1,[[eL tV s.c9]],true,false,0⟩,⟨0,1,[[eL tV s.f0]],true,false,0⟩,⟨0,1,[[b false]],true,false,0⟩]⟩
noncomputable def ja4{α:Type}(k:Q9->α)(e:Nat->α)(z:α)(p:sa5)(s:Q9):α:=let t1:=(lp (R9 (⟨s.v7,p.is9,s.v7,(↑(s.v7.toNat-0):Int)⟩:da6)) (⟨0,rt tV s.c9,rt tV s.f0⟩:I1));(sl (decide (s.v7<p.is9)) (sl (inB s.v7 ((List.length s.c9)+1)) (sl ((cnE tV s.c9)&&((cnE tV s.f0)&&true)) (sl (Nat.beq t1.1 1) (e 1) (sl (Nat.beq t1.1 2) (k ⟨W (s.v7+1),t1.2.c9,t1.2.f0⟩) z)) z) z) (e 2))
noncomputable def fa9(p:sa5)(s:Q9):Stp Q9:=ja4 .next .exit .fail p s
noncomputable def Ya9:Lo sa5 Q9:=⟨En La4,0,Zd0,[1,0,1,4,4,1,4,4],[1,9,10,60,62,63],.s .p (.s .p (.s (.b (.s .p (.s .p (.b (.u Ya8.lsM))))) .p)),[⟨sUq::sPq 0::ru2 7 (sIq::sIq::ru2 49 (.s (.o (.lit .i64 0))::sUq::sPq 1::sPq 2::ru2 8 [])),[⟨0,1,true,some [[.c 3 (nL tV)]]⟩,⟨0,1,true,some [[.c 3 (nL tV)]]⟩,⟨0,1,true,some [[.o (.blit false)]]⟩],λa H=>(⟨aIq a 9⟩,⟨aIq a 10,hLq tV H 0 0 0,hLq tV H 1 0 0⟩)⟩],fa9,[(none,λp s=>let t1:=(lp (R9 (⟨s.v7,p.is9,s.v7,(↑(s.v7.toNat-0):Int)⟩:da6)) (⟨0,rt tV s.c9,rt tV s.f0⟩:I1));let t2:=(lp (L7 (⟨s.v7,t1.2.H4,p.is9,s.v7,(↑(s.v7.toNat-0):Int),t1.2.H4,(↑(t1.2.H4.toNat-0):Int),rt tV t1.2.c9,rt tV t1.2.f0⟩:X9)) (⟨0⟩:E9));let t3:=(E8 (gL tV (rt tV t1.2.c9) t2.2.B1.toNat) (gL tV (rt tV t1.2.c9) t1.2.H4.toNat) (gL tV (rt tV t1.2.c9) s.v7.toNat));let t4:=(o5 ⟨rt tV (rt tV t1.2.f0),t3.1.n.x,t3.1.n.y,t3.1.n.z,t3.1.b⟩);⟨.unk::.ptr 0 0 0 0::.unk::i s.v7::i t1.2.H4::i t2.2.B1::.ptr 3 0 0 0::b t3.2::.unk::i p.is9::i s.v7::ra 5 (i (↑(s.v7.toNat-0):Int)::i t1.2.H4::ra 5 (i (↑(t1.2.H4.toNat-0):Int)::i t2.2.B1::b (decide (t2.2.B1<(↑(t1.2.H4.toNat-0):Int)))::i t2.2.B1::.tup [.agg [i t3.1.n.x,i t3.1.n.y,i t3.1.n.z,i t3.1.b],b t3.2]::eL tV (rt tV t1.2.c9)::i t2.2.B1::.tptr [i (gL tV (rt tV t1.2.c9) t2.2.B1.toNat).x,i (gL tV (rt tV t1.2.c9) t2.2.B1.toNat).y,i (gL tV (rt tV t1.2.c9) t2.2.B1.toNat).z]::.agg [i (gL tV (rt tV t1.2.c9) t2.2.B1.toNat).x,i (gL tV (rt tV t1.2.c9) t2.2.B1.toNat).y,i (gL tV (rt tV t1.2.c9) t2.2.B1.toNat).z]::eL tV (rt tV t1.2.c9)::i t1.2.H4::.tptr [i (gL tV (rt tV t1.2.c9) t1.2.H4.toNat).x,i (gL tV (rt tV t1.2.c9) t1.2.H4.toNat).y,i (gL tV (rt tV t1.2.c9) t1.2.H4.toNat).z]::.agg [i (gL tV (rt tV t1.2.c9) t1.2.H4.toNat).x,i (gL tV (rt tV t1.2.c9) t1.2.H4.toNat).y,i (gL tV (rt tV t1.2.c9) t1.2.H4.toNat).z]::eL tV (rt tV t1.2.c9)::i s.v7::.tptr [i (gL tV (rt tV t1.2.c9) s.v7.toNat).x,i (gL tV (rt tV t1.2.c9) s.v7.toNat).y,i (gL tV (rt tV t1.2.c9) s.v7.toNat).z]::.agg [i (gL tV (rt tV t1.2.c9) s.v7.toNat).x,i (gL tV (rt tV t1.2.c9) s.v7.toNat).y,i (gL tV (rt tV t1.2.c9) s.v7.toNat).z]::.tup [.agg [i t3.1.n.x,i t3.1.n.y,i t3.1.n.z,i t3.1.b],b t3.2]::.agg [i t3.1.n.x,i t3.1.n.y,i t3.1.n.z,i t3.1.b]::b t3.2::b t3.2::b true::.unk::.agg [i t3.1.n.x,i t3.1.n.y,i t3.1.n.z,i t3.1.b]::b false::b true::b true::.unk::u::u::u::u::b true::b true::ra 3 (i 1::.unk::.ptr 1 0 0 0::.ptr 2 0 0 0::ra 8 []))),[⟨0,1,[[eL tV (rt tV t1.2.c9)]],true,false,0⟩,⟨0,1,[[eL tV (rt tV t1.2.f0)]],true,false,0⟩,⟨0,1,[[b (!t4.bs0)]],true,false,0⟩,⟨0,4,[[i t3.1.n.x,i t3.1.n.y,i t3.1.n.z,i t3.1.b]],true,false,0⟩,⟨0,4,[[i t3.1.n.x,i t3.1.n.y,i t3.1.n.z,i t3.1.b]],true,false,0⟩]⟩),(some 0,λp s=>upq (qb2 p s) [(11,b (decide (s.v7<p.is9)))])],qb2⟩
theorem qc0:Ya9.OkM:=Lo.okM [Ya8.prM] (by kernel_rfl) (.cons pc9 .nil) rfl (.cons (λa H=>by kernel_rfl) .nil) λp s=>(.of @ja4 (λF _ _ _ _ _=>by unfold ja4;(repeat' apply r9 (f:=F))<;>rfl) (by kernel_rfl))
noncomputable def Ga9(x:List V3):Option (b7×List c8):=let t1:=(lp (fa9 (⟨(↑(List.length x):Int)⟩:sa5)) (⟨0,rt tV x,rt tV x⟩:Q9));let t2:=(lp (R9 (⟨t1.2.v7,(↑(List.length x):Int),t1.2.v7,(↑(t1.2.v7.toNat-0):Int)⟩:da6)) (⟨0,rt tV t1.2.c9,rt tV t1.2.f0⟩:I1));let t3:=(lp (L7 (⟨t1.2.v7,t2.2.H4,(↑(List.length x):Int),t1.2.v7,(↑(t1.2.v7.toNat-0):Int),t2.2.H4,(↑(t2.2.H4.toNat-0):Int),rt tV t2.2.c9,rt tV t2.2.f0⟩:X9)) (⟨0⟩:E9));let t4:=(E8 (gL tV (rt tV t2.2.c9) t3.2.B1.toNat) (gL tV (rt tV t2.2.c9) t2.2.H4.toNat) (gL tV (rt tV t2.2.c9) t1.2.v7.toNat));let t5:=(o5 ⟨rt tV (rt tV t2.2.f0),t4.1.n.x,t4.1.n.y,t4.1.n.z,t4.1.b⟩);(sl ((cnE tV x)&&((cnE tV x)&&true)) (sl (Nat.beq t1.1 1) (some (b (!t5.bs0),[])) (sl (Nat.beq t1.1 2) (some (b true,[])) none)) none)
noncomputable def Wa1(x:List V3):Bool:=U8 (one r1B) (Ga9 x)
noncomputable def Wa2(x:List V3):Bool:=okO (one r1B) (Ga9 x)
noncomputable def Yb4:Sum:=K9 (ya3 tV) (λx=>.guard (Wa2 x) (.ret ((one r1B).enc (Wa1 x),[])))
theorem Mc5:i4 prog G 71 Yb4:=Ca3 (bd b71 yc6) (one r1B) (o:=Ga9) λx=>Dc9 (.s .p (.s (.s .p (.b (.i (.s .p (.b (.u Ya9.lsM)))))) .p)) [Ya9.prM] (by kernel_rfl) (.cons qc0 .nil) (by kernel_rfl)
structure ta9 where
 (ga4 ga5 ga6 e7 d9 f7 l6:Int)
noncomputable def Sb3:List (Nat×Sum):=[(30,za3)]
theorem Lb1:k8 prog G Sb3:=⟨Fa0,trivial⟩
structure ua0 where
 alt:Nat
 bs0:Bool
noncomputable def ba7{α:Type}(kk:ua0->α)(x:ta9):α:=let t1:=(L4 (⟨(⟨x.e7,x.d9,x.f7⟩:V3),x.l6⟩:Pln) (⟨x.ga4,x.ga5,x.ga6⟩:V3));(sl (W9 (⟨(⟨x.e7,x.d9,x.f7⟩:V3),x.l6⟩:Pln) (⟨x.ga4,x.ga5,x.ga6⟩:V3)) (kk ⟨1,decide (t1>0)⟩) (kk ⟨0,false⟩))
noncomputable def ua1(x:ta9):ua0:=ba7 (λr=>r) x
noncomputable def Da1(x:ta9)(r:ua0):DT (b7×List c8):=(.ite (Nat.beq r.alt 1) (.ret (b r.bs0,[⟨0,4,[[i x.e7,i x.d9,i x.f7,i x.l6]],true,false,0⟩])) .fail)
theorem bc7{α β:Type}(F:α->β)(kk:ua0->α)(x:ta9):F (ba7 kk x)=ba7 (λr=>F (kk r)) x:=by unfold ba7;(repeat' apply r9 (f:=F))<;>rfl
noncomputable def kb0:Sum:=fb4 ⟨[.agg (kLq 3),sPq 0],[⟨0,4,true,some [kLq 4]⟩],λa H=>(⟨cIq a 0 0,cIq a 0 1,cIq a 0 2,hIq H 0 0 0,hIq H 0 0 1,hIq H 0 0 2,hIq H 0 0 3⟩,())⟩ (λx=>Da1 x (ua1 x))
theorem Sb4:i4 prog G 79 kb0:=aa1 (enc:=λx=>⟨[.agg [i x.ga4,i x.ga5,i x.ga6],.ptr 0 0 0 0],[⟨0,4,[[i x.e7,i x.d9,i x.f7,i x.l6]],true,false,0⟩]⟩) (λa H=>by kernel_rfl) (bd b79 Lb1) λx=>B7 (Qhd (b:=ba7 (λr=>(Da1 x r).run) x) (by kernel_rfl) (bc7 (λr=>(Da1 x r).run) (λr=>r) x).symm)
structure S9 where
 j5:List V3
 (e7 d9 f7 l6:Int)
noncomputable def sa6:List (Nat×Sum):=[(79,kb0)]
theorem Ta7:k8 prog G sa6:=⟨Sb4,trivial⟩
structure G6 where
 j5:List V3
 (is7 e7 d9 f7 l6:Int)
structure l9 where
 is8:Int
noncomputable def na6(p:G6)(s:l9):St:=⟨eL tV p.j5::.fn 79 [.ptr 0 0 0 0]::ra 5 (i p.is7::i s.is8::ra 10 []),[⟨0,4,[[i p.e7,i p.d9,i p.f7,i p.l6]],true,false,0⟩]⟩
noncomputable def C7{α:Type}(k:l9->α)(e:Nat->α)(z:α)(p:G6)(s:l9):α:=let t1:=(ua1 ⟨(gL tV p.j5 s.is8.toNat).x,(gL tV p.j5 s.is8.toNat).y,(gL tV p.j5 s.is8.toNat).z,p.e7,p.d9,p.f7,p.l6⟩);(sl (decide (s.is8<p.is7)) (sl (inB s.is8 (List.length p.j5)) (sl (Nat.beq t1.alt 1) (sl t1.bs0 (e 1) (k ⟨W (s.is8+1)⟩)) z) z) (e 2))
noncomputable def E2(p:G6)(s:l9):Stp l9:=C7 .next .exit .fail p s
noncomputable def aa5:Lo G6 l9:=⟨En sa6,1,Jd7,[1,0,1,4,4],[0,1,7,8],.p,[⟨sLq tV::.fn 79 [.o (.ptr 0 0 0 0)]::ru2 5 (sIq::sIq::ru2 10 []),[⟨0,4,true,some [kLq 4]⟩],λa H=>(⟨aLq tV a 0,aIq a 7,hIq H 0 0 0,hIq H 0 0 1,hIq H 0 0 2,hIq H 0 0 3⟩,⟨aIq a 8⟩)⟩],E2,[(none,λp s=>⟨[i s.is8],[⟨0,4,[[i p.e7,i p.d9,i p.f7,i p.l6]],true,false,0⟩]⟩),(some 0,λp s=>upq (na6 p s) [(9,b (decide (s.is8<p.is7)))])],na6⟩
theorem Ra3:aa5.Ok:=Lo.ok [] (by kernel_rfl) .nil rfl (.cons (λa H=>by kernel_rfl) .nil) λp s=>(.of @C7 (λF _ _ _ _ _=>by unfold C7;(repeat' apply r9 (f:=F))<;>rfl) (by kernel_rfl))
structure T0 where
 alt:Nat
 is0:Int
noncomputable def D5{α:Type}(kk:T0->α)(x:S9):α:=let t1:=(lp (E2 (⟨rt tV x.j5,(↑(List.length x.j5):Int),x.e7,x.d9,x.f7,x.l6⟩:G6)) (⟨0⟩:l9));(sl ((cnE tV x.j5)&&true) (sl (Nat.beq t1.1 1) (kk ⟨1,t1.2.is8⟩) (sl (Nat.beq t1.1 2) (kk ⟨1,-1⟩) (kk ⟨0,0⟩))) (kk ⟨0,0⟩))
noncomputable def T1(x:S9):T0:=D5 (λr=>r) x
noncomputable def da7(x:S9)(r:T0):DT (b7×List c8):=(.ite (Nat.beq r.alt 1) (.ret (i r.is0,[⟨0,4,[[i x.e7,i x.d9,i x.f7,i x.l6]],true,false,0⟩])) .fail)
theorem cb2{α β:Type}(F:α->β)(kk:T0->α)(x:S9):F (D5 kk x)=D5 (λr=>F (kk r)) x:=by unfold D5;(repeat' apply r9 (f:=F))<;>rfl
noncomputable def wa3:Sum:=fb4 ⟨[sLq tV,.fn 79 [.o (.ptr 0 0 0 0)]],[⟨0,4,true,some [kLq 4]⟩],λa H=>(⟨aLq tV a 0,hIq H 0 0 0,hIq H 0 0 1,hIq H 0 0 2,hIq H 0 0 3⟩,())⟩ (λx=>da7 x (T1 x))
theorem Za0:i4 prog G 88 wa3:=aa1 (enc:=λx=>⟨[eL tV x.j5,.fn 79 [.ptr 0 0 0 0]],[⟨0,4,[[i x.e7,i x.d9,i x.f7,i x.l6]],true,false,0⟩]⟩) (λa H=>by kernel_rfl) (bd b88 Ta7) λx=>bb4 (.s .p (.s (.s .p (.b (.u aa5.ls))) .p)) [aa5.pr] (by kernel_rfl) (.cons Ra3 .nil) (Qhd (b:=D5 (λr=>(da7 x r).run) x) (by kernel_rfl) (cb2 (λr=>(da7 x r).run) (λr=>r) x).symm)
structure L8 where
 j5:List V3
 (e7 d9 f7 l6:Int)
noncomputable def La5:List (Nat×Sum):=[(88,wa3)]
theorem Ia8:k8 prog G La5:=⟨Za0,trivial⟩
structure L9 where
 alt:Nat
 bs0:Bool
noncomputable def y9{α:Type}(kk:L9->α)(x:L8):α:=let t1:=(T1 ⟨rt tV x.j5,x.e7,x.d9,x.f7,x.l6⟩);(sl ((cnE tV x.j5)&&true) (sl (Nat.beq t1.alt 1) (kk ⟨1,decide (t1.is0>=0)⟩) (kk ⟨0,false⟩)) (kk ⟨0,false⟩))
noncomputable def M0(x:L8):L9:=y9 (λr=>r) x
noncomputable def X1(x:L8)(r:L9):DT (b7×List c8):=(.ite (Nat.beq r.alt 1) (.ret (b r.bs0,[⟨0,4,[[i x.e7,i x.d9,i x.f7,i x.l6]],true,false,0⟩])) .fail)
theorem Ra4{α β:Type}(F:α->β)(kk:L9->α)(x:L8):F (y9 kk x)=y9 (λr=>F (kk r)) x:=by unfold y9;(repeat' apply r9 (f:=F))<;>rfl
noncomputable def na7:Sum:=fb4 ⟨[sLq tV,.fn 79 [.o (.ptr 0 0 0 0)]],[⟨0,4,true,some [kLq 4]⟩],λa H=>(⟨aLq tV a 0,hIq H 0 0 0,hIq H 0 0 1,hIq H 0 0 2,hIq H 0 0 3⟩,())⟩ (λx=>X1 x (M0 x))
theorem La6:i4 prog G 70 na7:=aa1 (enc:=λx=>⟨[eL tV x.j5,.fn 79 [.ptr 0 0 0 0]],[⟨0,4,[[i x.e7,i x.d9,i x.f7,i x.l6]],true,false,0⟩]⟩) (λa H=>by kernel_rfl) (bd b70 Ia8) λx=>B7 (Qhd (b:=y9 (λr=>(X1 x r).run) x) (by kernel_rfl) (Ra4 (λr=>(X1 x r).run) (λr=>r) x).symm)
noncomputable def qc1:List (Nat×Sum):=[(70,na7)]
theorem bc8:k8 prog G qc1:=⟨La6,trivial⟩
noncomputable def sa7(x:List V3)(y:Pln):Option (b7×List c8):=let t1:=(M0 ⟨rt tV x,y.n.x,y.n.y,y.n.z,y.b⟩);(sl ((cnE tV x)&&true) (sl (Nat.beq t1.alt 1) (some (b t1.bs0,[])) none) none)
noncomputable def Y0(x:List V3)(y:Pln):Bool:=U8 (one r1B) (sa7 x y)
noncomputable def F4(x:List V3)(y:Pln):Bool:=okO (one r1B) (sa7 x y)
noncomputable def yb9:Sum:=Ca2 (ya3 tV) (U7 tP) (λx y=>.guard (F4 x y) (.ret ((one r1B).enc (Y0 x y),[])))
theorem qc2:i4 prog G 47 yb9:=Qb4 (bd b47 bc8) (one r1B) (o:=sa7) λx y=>B7 (by kernel_rfl)
noncomputable def bc9:List (Nat×Sum):=[(20,Qa5)]
theorem Sb5:k8 prog G bc9:=⟨Va9,trivial⟩
noncomputable def na8(x:V3):Option (b7×List c8):=let t1:=(P1 x);(sl (J5 x) (some (b (!t1),[])) none)
noncomputable def za4(x:V3):Bool:=U8 (one r1B) (na8 x)
noncomputable def za5(x:V3):Bool:=okO (one r1B) (na8 x)
noncomputable def qb3:Sum:=K9 (U7 tV) (λx=>.guard (za5 x) (.ret ((one r1B).enc (za4 x),[])))
theorem cc2:i4 prog G 69 qb3:=Ca3 (bd b69 Sb5) (one r1B) (o:=na8) λx=>B7 (by kernel_rfl)
structure T2 where
 j5:List V3
noncomputable def sa8:List (Nat×Sum):=[(69,qb3)]
theorem Ta8:k8 prog G sa8:=⟨cc2,trivial⟩
structure G7 where
 j5:List V3
 is7:Int
structure m0 where
 is8:Int
noncomputable def na9(p:G7)(s:m0):St:=⟨eL tV p.j5::.fn 69 []::ra 5 (i p.is7::i s.is8::ra 10 []),[]⟩
noncomputable def C8{α:Type}(k:m0->α)(e:Nat->α)(z:α)(p:G7)(s:m0):α:=let t1:=(za4 (gL tV p.j5 s.is8.toNat));(sl (decide (s.is8<p.is7)) (sl (inB s.is8 (List.length p.j5)) (sl (za5 (gL tV p.j5 s.is8.toNat)) (sl t1 (e 1) (k ⟨W (s.is8+1)⟩)) z) z) (e 2))
noncomputable def E3(p:G7)(s:m0):Stp m0:=C8 .next .exit .fail p s
noncomputable def aa6:Lo G7 m0:=⟨En sa8,0,Jd7,[1,0,1,4,4],[0,1,7,8],.p,[⟨sLq tV::.s (.o (.fn 69))::ru2 5 (sIq::sIq::ru2 10 []),[],λa H=>(⟨aLq tV a 0,aIq a 7⟩,⟨aIq a 8⟩)⟩],E3,[(none,λp s=>⟨[i s.is8],[]⟩),(some 0,λp s=>upq (na9 p s) [(9,b (decide (s.is8<p.is7)))])],na9⟩
theorem Ra5:aa6.Ok:=Lo.ok [] (by kernel_rfl) .nil rfl (.cons (λa H=>by kernel_rfl) .nil) λp s=>(.of @C8 (λF _ _ _ _ _=>by unfold C8;(repeat' apply r9 (f:=F))<;>rfl) (by kernel_rfl))
structure T3 where
 alt:Nat
 is0:Int
noncomputable def D6{α:Type}(kk:T3->α)(x:T2):α:=let t1:=(lp (E3 (⟨rt tV x.j5,(↑(List.length x.j5):Int)⟩:G7)) (⟨0⟩:m0));(sl ((cnE tV x.j5)&&true) (sl (Nat.beq t1.1 1) (kk ⟨1,t1.2.is8⟩) (sl (Nat.beq t1.1 2) (kk ⟨1,-1⟩) (kk ⟨0,0⟩))) (kk ⟨0,0⟩))
noncomputable def T4(x:T2):T3:=D6 (λr=>r) x
noncomputable def da8(x:T2)(r:T3):DT (b7×List c8):=(.ite (Nat.beq r.alt 1) (.ret (i r.is0,[])) .fail)
theorem cb3{α β:Type}(F:α->β)(kk:T3->α)(x:T2):F (D6 kk x)=D6 (λr=>F (kk r)) x:=by unfold D6;(repeat' apply r9 (f:=F))<;>rfl
noncomputable def wa4:Sum:=fb4 ⟨[sLq tV,.s (.o (.fn 69))],[],λa H=>(⟨aLq tV a 0⟩,())⟩ (λx=>da8 x (T4 x))
theorem Za1:i4 prog G 88 wa4:=aa1 (enc:=λx=>⟨[eL tV x.j5,.fn 69 []],[]⟩) (λa H=>by kernel_rfl) (bd b88 Ta8) λx=>bb4 (.s .p (.s (.s .p (.b (.u aa6.ls))) .p)) [aa6.pr] (by kernel_rfl) (.cons Ra5 .nil) (Qhd (b:=D6 (λr=>(da8 x r).run) x) (by kernel_rfl) (cb3 (λr=>(da8 x r).run) (λr=>r) x).symm)
structure M1 where
 j5:List V3
noncomputable def La7:List (Nat×Sum):=[(88,wa4)]
theorem Ia9:k8 prog G La7:=⟨Za1,trivial⟩
structure M2 where
 alt:Nat
 bs0:Bool
noncomputable def z6{α:Type}(kk:M2->α)(x:M1):α:=let t1:=(T4 ⟨rt tV x.j5⟩);(sl ((cnE tV x.j5)&&true) (sl (Nat.beq t1.alt 1) (kk ⟨1,decide (t1.is0>=0)⟩) (kk ⟨0,false⟩)) (kk ⟨0,false⟩))
noncomputable def M3(x:M1):M2:=z6 (λr=>r) x
noncomputable def X2(x:M1)(r:M2):DT (b7×List c8):=(.ite (Nat.beq r.alt 1) (.ret (b r.bs0,[])) .fail)
theorem Ra6{α β:Type}(F:α->β)(kk:M2->α)(x:M1):F (z6 kk x)=z6 (λr=>F (kk r)) x:=by unfold z6;(repeat' apply r9 (f:=F))<;>rfl
noncomputable def oa0:Sum:=fb4 ⟨[sLq tV,.s (.o (.fn 69))],[],λa H=>(⟨aLq tV a 0⟩,())⟩ (λx=>X2 x (M3 x))
theorem La8:i4 prog G 70 oa0:=aa1 (enc:=λx=>⟨[eL tV x.j5,.fn 69 []],[]⟩) (λa H=>by kernel_rfl) (bd b70 Ia9) λx=>B7 (Qhd (b:=z6 (λr=>(X2 x r).run) x) (by kernel_rfl) (Ra6 (λr=>(X2 x r).run) (λr=>r) x).symm)
noncomputable def yc7:List (Nat×Sum):=[(70,oa0),(71,Yb4)]
theorem qc3:k8 prog G yc7:=⟨La8,Mc5,trivial⟩
noncomputable def za6(x:List V3):Option (b7×List c8):=let t1:=(M3 ⟨rt tV x⟩);let t2:=(Wa1 (rt tV x));(sl (decide ((↑(List.length x):Int)>48)) (some (i 2,[])) (sl ((cnE tV x)&&true) (sl (Nat.beq t1.alt 1) (sl t1.bs0 (some (i 3,[])) (sl (okE tV x) (sl (Wa2 (rt tV x)) (sl t2 (some (i 11,[])) (some (i 0,[]))) none) none)) none) none))
noncomputable def qa6(x:List V3):Int:=U8 (one r1I) (za6 x)
noncomputable def qa7(x:List V3):Bool:=okO (one r1I) (za6 x)
noncomputable def La9:Sum:=K9 (ya3 tV) (λx=>.guard (qa7 x) (.ret ((one r1I).enc (qa6 x),[])))
theorem Za2:i4 prog G 44 La9:=Ca3 (bd b44 qc3) (one r1I) (o:=za6) λx=>B7 (by kernel_rfl)
noncomputable def Sb6:List (Nat×Sum):=[]
theorem Lb2:k8 prog G Sb6:=trivial
noncomputable def ua2(x:Int):Bool:=(x != x)
noncomputable def kb1:Sum:=K9 cI (λx=>.ret ((one r1B).enc (ua2 x),[]))
theorem Sb7:i4 prog G 120 kb1:=ub2 (bd Fe9 Lb2) λx=>B7 (by kernel_rfl)
noncomputable def Eb1:List (Nat×Sum):=[(120,kb1)]
theorem wb4:k8 prog G Eb1:=⟨Sb7,trivial⟩
noncomputable def ca4(x:Int)(y:Int):Option (b7×List c8):=let t1:=(ua2 x);let t2:=(ua2 y);(sl t1 (sl t2 (some (i 0,[])) (some (i (-1),[]))) (sl t2 (some (i 1,[])) (sl (decide (x<y)) (some (i (-1),[])) (sl (decide (x>y)) (some (i 1,[])) (some (i 0,[]))))))
noncomputable def T5(x:Int)(y:Int):Int:=U8 (one r1I) (ca4 x y)
noncomputable def T6(x:Int)(y:Int):Bool:=okO (one r1I) (ca4 x y)
noncomputable def Wa3:Sum:=Ca2 cI cI (λx y=>.guard (T6 x y) (.ret ((one r1I).enc (T5 x y),[])))
theorem Eb2:i4 prog G 97 Wa3:=Qb4 (bd b97 wb4) (one r1I) (o:=ca4) λx y=>B7 (by kernel_rfl)
noncomputable def zb0:List (Nat×Sum):=[]
theorem qc4:k8 prog G zb0:=trivial
structure oa1 where
 Xa1:List Int
 is7:Int
structure I5 where
 is8:Int
noncomputable def kb2(p:oa1)(s:I5):St:=⟨ra 3 (i 0::.unk::.unk::eL tI p.Xa1::i p.is7::i s.is8::ra 9 []),[]⟩
noncomputable def Da2{α:Type}(k:I5->α)(e:Nat->α)(z:α)(p:oa1)(s:I5):α:=(sl (decide (s.is8<p.is7)) (sl (inB s.is8 (List.length p.Xa1)) (sl ((gL tI p.Xa1 s.is8.toNat) != 0) (e 1) (k ⟨W (s.is8+1)⟩)) z) (e 2))
noncomputable def V1(p:oa1)(s:I5):Stp I5:=Da2 .next .exit .fail p s
noncomputable def Ra7:Lo oa1 I5:=⟨En zb0,0,xe0,[1,1,0,1,4,4],[3,6,7,8],.p,[⟨ru2 3 (.s (.o (.lit .i64 0))::sUq::sUq::sLq tI::sIq::sIq::ru2 9 []),[],λa H=>(⟨aLq tI a 6,aIq a 7⟩,⟨aIq a 8⟩)⟩],V1,[(none,λp s=>⟨[i (gL tI p.Xa1 s.is8.toNat)],[]⟩),(some 0,λp s=>upq (kb2 p s) [(9,b (decide (s.is8<p.is7)))])],kb2⟩
theorem cc3:Ra7.Ok:=Lo.ok [] (by kernel_rfl) .nil rfl (.cons (λa H=>by kernel_rfl) .nil) λp s=>(.of @Da2 (λF _ _ _ _ _=>by unfold Da2;(repeat' apply r9 (f:=F))<;>rfl) (by kernel_rfl))
noncomputable def za7(x:List Int):Option (b7×List c8):=let t1:=(lp (V1 (⟨rt tI x,(↑(List.length x):Int)⟩:oa1)) (⟨0⟩:I5));(sl ((cnE tI x)&&true) (sl (Nat.beq t1.1 1) (some (i (gL tI (rt tI x) t1.2.is8.toNat),[])) (sl (Nat.beq t1.1 2) (some (i 0,[])) none)) none)
noncomputable def Ma0(x:List Int):Int:=U8 (one r1I) (za7 x)
noncomputable def Ma1(x:List Int):Bool:=okO (one r1I) (za7 x)
noncomputable def Lb3:Sum:=K9 (ya3 tI) (λx=>.guard (Ma1 x) (.ret ((one r1I).enc (Ma0 x),[])))
theorem yc8:i4 prog G 96 Lb3:=Ca3 (bd b96 qc4) (one r1I) (o:=za7) λx=>bb4 (.s .p (.s .p (.s (.s .p (.b (.u Ra7.ls))) .p))) [Ra7.pr] (by kernel_rfl) (.cons cc3 .nil) (by kernel_rfl)
noncomputable def cc4:List (Nat×Sum):=[(97,Wa3),(96,Lb3)]
theorem Sb8:k8 prog G cc4:=⟨Eb2,yc8,trivial⟩
noncomputable def oa2(x:V3)(y:V3):Option (b7×List c8):=let t1:=(T5 x.x y.x);let t2:=(T5 x.y y.y);let t3:=(T5 x.z y.z);let t4:=(Ma0 [t1,t2,t3]);(sl (T6 x.x y.x) (sl (T6 x.y y.y) (sl (T6 x.z y.z) (sl (Ma1 [t1,t2,t3]) (some (i t4,[])) none) none) none) none)
noncomputable def za8(x:V3)(y:V3):Int:=U8 (one r1I) (oa2 x y)
noncomputable def za9(x:V3)(y:V3):Bool:=okO (one r1I) (oa2 x y)
noncomputable def Ra8:Sum:=Ca2 (U7 tV) (U7 tV) (λx y=>.guard (za9 x y) (.ret ((one r1I).enc (za8 x y),[])))
theorem cc5:i4 prog G 74 Ra8:=Qb4 (bd b74 Sb8) (one r1I) (o:=oa2) λx y=>B7 (by kernel_rfl)
end Go.Ev.Ce
namespace Go.Ev.L
open Go Go.Ev
theorem Zd1(n:Int):W n=(n+9223372036854775808) % 18446744073709551616-9223372036854775808:=IntKind.wrap_i64 n
theorem J9{n:Int}(h1:-9223372036854775808<=n)(h2:n<=9223372036854775807):W n=n:=by rw[Zd1];omega
theorem Jd9(n:Int):∃k,W n=n+18446744073709551616*k:=⟨-((n+9223372036854775808) / 18446744073709551616),by rw[Zd1];omega⟩
theorem Sb9(n k:Int):W (n+18446744073709551616*k)=W n:=by rw[Zd1,Zd1];omega
theorem Eb3(a b:Int):W (W a+b)=W (a+b):=by
 obtain⟨k,hk⟩:=Jd9 a;rw[hk,show a+18446744073709551616*k+b=a+b+18446744073709551616*k by omega,Sb9]
theorem Tb0(a b:Int):W (a+W b)=W (a+b):=by rw[Int.add_comm,Eb3,Int.add_comm]
theorem Mc6(a b:Int):W (W a-b)=W (a-b):=by
 obtain⟨k,hk⟩:=Jd9 a;rw[hk,show a+18446744073709551616*k-b=a-b+18446744073709551616*k by omega,Sb9]
theorem jd7(a b:Int):W (a-W b)=W (a-b):=by
 obtain⟨k,hk⟩:=Jd9 b;rw[hk,show a-(b+18446744073709551616*k)=a-b+18446744073709551616*(-k) by omega,Sb9]
theorem C4{j n:Nat}(h:j<n)(hn:n<=4611686018427387904):W ((j:Int)+1)=((j+1:Nat):Int):=by
 rw[J9 (by omega) (by omega)];omega
theorem qc5{j n:Nat}(h:j<n):decide ((j:Int)<(n:Int))=true:=decide_eq_true (by omega)
theorem Lb4{j n:Nat}(h:¬ j<n):decide ((j:Int)<(n:Int))=false:=decide_eq_false (by omega)
theorem i6{j n:Nat}(h:j<n):inB (j:Int) n=true:=by
 show Nat.blt j n=true;rw[Nat.blt_eq];exact h
theorem Zd2(m:Int)(n:Nat):inB m n=decide (0<=m/\m<n):=by
 unfold inB;cases m with
 |ofNat k =>
  rw[Bool.eq_iff_iff,decide_eq_true_eq];show Nat.blt k n=true↔_;rw[Nat.blt_eq];constructor
  ·intro h;exact⟨Int.natCast_nonneg k,Int.ofNat_lt.2 h⟩
  ·intro h;exact Int.ofNat_lt.1 h.2
 |negSucc k=>exact (decide_eq_false (λh=>by omega)).symm
theorem bt{c:Bool}(h:c=true){α:Type}(t e:α):sl c t e=t:=by rw[h];rfl
theorem bf{c:Bool}(h:c=false){α:Type}(t e:α):sl c t e=e:=by rw[h];rfl
theorem Zd3{n:Nat}(h:n<=1000000000000):Nat.ble (n*32) room=true:=by
 rw[Nat.ble_eq];unfold room;omega
theorem Kd0 {σ : Type} {step : σ → Stp σ} {I : Nat → σ → Prop} {Q : Nat → σ → Prop} (h : ∀ m s, I m s → (∃ t, step s = .exit t ∧ Q t s) ∨ ∃ s' m', m = m' + 1 ∧ step s = .next s' ∧ I m' s') :
  ∀(m n:Nat) (s:σ),m<=n->I m s->Q (lp0 step n s).1 (lp0 step n s).2
 |m,n,s,hn,hi=>by
  rcases h m s hi with⟨t,h1,h2⟩|⟨s',m',rfl,h1,h2⟩
  ·rw[lc9 h1];exact h2
  ·cases n with
   |zero=>omega
   |succ n =>
    rw[Tc8 h1];exact Kd0 h m' n s' (by omega) h2
theorem Tb1 {σ : Type} {step : σ → Stp σ} {I : Nat → σ → Prop} {Q : Nat → σ → Prop} (h : ∀ m s, I m s → (∃ t, step s = .exit t ∧ Q t s) ∨ ∃ s' m', m = m' + 1 ∧ step s = .next s' ∧ I m' s')
  (m:Nat) (s:σ) (hm:m<=18446744073709551615) (hi:I m s):Q (lp step s).1 (lp step s).2:=by
 rw[Fd5];exact Kd0 h m rounds s (by unfold rounds;omega) hi
section
variable{σ τ α:Type}{step:σ->Stp σ}
theorem Zd4 {mk : Nat → τ → σ} {f : τ → α → τ} {fin : Nat} (t : Ty α) (l : List α) (I : Nat → τ → Prop) (hl : l.length ≤ 1000000000)
  (h:∀j a,j<l.length->I j a->step (mk j a)=.next (mk (j+1) (f a (gL t l j)))/\I (j+1) (f a (gL t l j)))
  (hf:∀a,I l.length a->step (mk l.length a)=.exit fin) (j0:Nat) (hj:j0<=l.length) (a:τ) (hi:I j0 a) :
  lp step (mk j0 a)=(fin,mk l.length ((l.drop j0).foldl f a))/\I l.length ((l.drop j0).foldl f a):=by
 have key:=Tb1 (step:=step) (I:=λm s=>∃j b,m=l.length-j/\j<=l.length/\s=mk j b/\I j b/\(l.drop j).foldl f b=(l.drop j0).foldl f a)
  (Q:=λu s=>u=fin/\s=mk l.length ((l.drop j0).foldl f a)/\I l.length ((l.drop j0).foldl f a)) (λm s ⟨j,b,hm,hj,hs,hb,he⟩=>by
   subst hs;by_cases hlt:j<l.length
   ·obtain⟨h1,h2⟩:=h j b hlt hb;refine .inr ⟨_,l.length-(j+1),by omega,h1,j+1,_,rfl,by omega,rfl,h2,?_⟩
    rw[<- he,Qhc hlt,List.foldl_cons];simp[gL,Qha,Qhb hlt]
   ·have:j=l.length:=by omega
    subst this;have he:b=(l.drop j0).foldl f a:=by rw[<- he];simp
    subst he;exact .inl ⟨fin,hf _ hb,rfl,rfl,hb⟩) (l.length-j0) (mk j0 a) (by omega) ⟨j0,a,rfl,hj,rfl,hi,rfl⟩
 exact⟨by rw[<- key.2.1,<- key.1],key.2.2⟩
theorem Kd1 {mk : Nat → σ} {c : α → Bool} {u fin : Nat} (t : Ty α) (l : List α) (hl : l.length ≤ 1000000000)
  (h:∀j,j<l.length->step (mk j)=sl (c (gL t l j)) (.exit u) (.next (mk (j+1)))) (hf:step (mk l.length)=.exit fin) (j0:Nat) (hj:j0<=l.length) :
  (lp step (mk j0)).1=if (l.drop j0).any c then u else fin :=
 Tb1 (step:=step) (I:=λm s=>∃j,m=l.length-j/\j<=l.length/\s=mk j/\(l.drop j).any c=(l.drop j0).any c)
  (Q:=λv _=>v=if (l.drop j0).any c then u else fin) (λm s ⟨j,hm,hj,hs,he⟩=>by
   subst hs;by_cases hlt:j<l.length
   ·have h1:=h j hlt;have e:gL t l j=l[j]:=by simp[gL,Qha,Qhb hlt]
    have e2:(l.drop j).any c=(c l[j]||(l.drop (j+1)).any c):=by rw[Qhc hlt,List.any_cons]
    rw[e] at h1;cases hc:c l[j] with
    |true =>
     rw[hc] at h1;refine .inl ⟨u,h1,?_⟩;rw[<- he,e2,hc];rfl
    |false =>
     rw[hc] at h1;refine .inr ⟨_,l.length-(j+1),by omega,h1,j+1,rfl,by omega,rfl,?_⟩
     rw[<- he,e2,hc];rfl
   ·have:j=l.length:=by omega
    subst this;refine .inl ⟨fin,hf,?_⟩;rw[<- he];simp) (l.length-j0) (mk j0) (by omega) ⟨j0,rfl,hj,rfl,rfl⟩
theorem Wa4 {mk : Nat → σ} {c : α → Bool} {u fin : Nat} (t : Ty α) (l : List α) (hl : l.length ≤ 1000000000)
  (h:∀j,j<l.length->step (mk j)=sl (c (gL t l j)) (.exit u) (.next (mk (j+1)))) (hf:step (mk l.length)=.exit fin) (j0:Nat) (hj:j0<=l.length) :
  lp step (mk j0)=if (l.drop j0).any c then (u,mk (j0+(l.drop j0).findIdx c)) else (fin,mk l.length):=by
 have key:=Tb1 (step:=step) (I:=λm s=>∃j,m=l.length-j/\j<=l.length/\j0<=j/\s=mk j/\(l.drop j).any c=(l.drop j0).any c/\j+(l.drop j).findIdx c=j0+(l.drop j0).findIdx c)
  (Q:=λv s=>(v,s)=if (l.drop j0).any c then (u,mk (j0+(l.drop j0).findIdx c)) else (fin,mk l.length)) (λm s ⟨j,hm,hj,hj0,hs,he,hi⟩=>by
   subst hs;by_cases hlt:j<l.length
   ·have h1:=h j hlt;have e:gL t l j=l[j]:=by simp[gL,Qha,Qhb hlt]
    have e2:(l.drop j).any c=(c l[j]||(l.drop (j+1)).any c):=by rw[Qhc hlt,List.any_cons]
    have e3:(l.drop j).findIdx c=if c l[j] then 0 else (l.drop (j+1)).findIdx c+1:=by rw[Qhc hlt,List.findIdx_cons];cases c l[j]<;>rfl
    rw[e] at h1;cases hc:c l[j] with
    |true =>
     rw[hc] at h1;refine .inl ⟨u,h1,?_⟩;rw[<- he,e2,hc,<- hi,e3,hc];rfl
    |false =>
     rw[hc] at h1;refine .inr ⟨_,l.length-(j+1),by omega,h1,j+1,rfl,by omega,by omega,rfl,?_,?_⟩
     ·rw[<- he,e2,hc];rfl
     ·rw[<- hi,e3,hc];simp only[Qhg,if_false];omega
   ·have:j=l.length:=by omega
    subst this;refine .inl ⟨fin,hf,?_⟩;rw[<- he];simp) (l.length-j0) (mk j0) (by omega) ⟨j0,rfl,hj,Qhe _,rfl,rfl,rfl⟩
 exact key
end
theorem Ra9{α:Type}(t:Ty α){l:List α}{j:Nat}(h:j<l.length):gL t l j∈l:=by
 simp[gL,Qha,Qhb h]
theorem kb3{α:Type}(t:Ty α){l:List α}{j:Nat}(h:j<l.length):gL t l j=l[j]:=by
 simp[gL,Qha,Qhb h]
def euF:Nat->Int->Int->Int
 |0,g,_=>g
 |k+1,g,n=>if n=0 then g else euF k n (Int.tmod g n)
def eu(g n:Int):Int:=euF (n.natAbs+1) g n
theorem Na6{g n:Int}(h:n≠0):(Int.tmod g n).natAbs<n.natAbs:=by
 rw[Int.natAbs_tmod];exact Nat.mod_lt _ (by omega)
theorem Xc6:∀(k m:Nat) {g n:Int},n.natAbs<k->n.natAbs<m->euF k g n=euF m g n
 |0,_,_,_,h,_=>by omega
 |_+1,0,_,_,_,h=>by omega
 |k+1,m+1,g,n,h1,h2=>by
  unfold euF;by_cases h:n=0
  ·rw[if_pos h,if_pos h]
  ·rw[if_neg h,if_neg h]
   have:=Na6 (g:=g) h
   exact Xc6 k m (by omega) (by omega)
theorem Lb5(g:Int):eu g 0=g:=by simp[eu,euF]
theorem Mc7{g n:Int}(h:n≠0):eu g n=eu n (Int.tmod g n):=by
 have:=Na6 (g:=g) h
 unfold eu
 conv=>lhs;unfold euF
 rw[if_neg h];exact Xc6 _ _ (by omega) (by omega)
theorem oe0:∀(k:Nat) (g n:Int),n.natAbs<=k->(eu g n).natAbs=Int.gcd g n:=by
 intro k
 induction k with
 |zero =>
  intro g n h
  have:n=0:=by omega
  subst this;rw[Lb5];simp
 |succ k ih =>
  intro g n h;by_cases h0:n=0
  ·subst h0;rw[Lb5];simp
  ·have:=Na6 (g:=g) h0
   rw[Mc7 h0,ih n (Int.tmod g n) (by omega)]
   unfold Int.gcd;rw[Int.natAbs_tmod,Nat.gcd_comm g.natAbs,Nat.gcd_comm n.natAbs,<- Nat.gcd_rec]
theorem oe1(g n:Int):(eu g n).natAbs=Int.gcd g n:=oe0 _ g n (Qhe _)
theorem zd1:∀(k:Nat) (g n:Int),n.natAbs<=k->0<=g->0<=n->0<=eu g n:=by
 intro k
 induction k with
 |zero =>
  intro g n h hg _
  have:n=0:=by omega
  subst this;rw[Lb5];exact hg
 |succ k ih =>
  intro g n h hg hn;by_cases h0:n=0
  ·subst h0;rw[Lb5];exact hg
  ·have:=Na6 (g:=g) h0
   rw[Mc7 h0];exact ih n _ (by omega) hn (Int.tmod_nonneg _ hg)
theorem oe2{g n:Int}(hg:0<=g)(hn:0<=n):eu g n=(Int.gcd g n:Int):=by
 have h1:=zd1 _ g n (Qhe _) hg hn;have h2:=oe1 g n;omega
section
variable{σ:Type}{step:σ->Stp σ}{mk:Int->Int->σ}
theorem Yb5(h:∀g n,0<n->step (mk g n)=.next (mk n (Int.tmod g n)))(h0:∀g,step (mk g 0)=.exit 1)(g n:Int)(hg:0<=g)(h1:0<=n)(hn:n<=9223372036854775808):lp step (mk g n)=(1,mk (eu g n) 0):=by
 have:=Tb1 (step:=step) (I:=λm s=>∃a c,s=mk a c/\c.natAbs<=m/\0<=a/\0<=c/\eu a c=eu g n) (Q:=λu s=>(u,s)=(1,mk (eu g n) 0)) (λm s ⟨a,c,hs,hm,ha,hc0,he⟩=>by
  subst hs;by_cases hc:c=0
  ·subst hc;rw[Lb5] at he;subst he;exact .inl ⟨1,h0 _,rfl⟩
  ·have ht:=Na6 (g:=a) hc;exact .inr ⟨_,m-1,by omega,h a c (by omega),c,_,rfl,by omega,hc0,Int.tmod_nonneg _ ha,by rw[<- he,Mc7 hc]⟩) n.natAbs (mk g n) (by omega) ⟨g,n,rfl,Qhe _,hg,h1,rfl⟩
 exact this
end
theorem mb{a c A C:Int}(h1:-A<=a)(h2:a<=A)(h3:-C<=c)(h4:c<=C):-(A*C)<=a*c/\a*c<=A*C:=by
 have hA:a.natAbs<=A.natAbs:=by omega
 have hC:c.natAbs<=C.natAbs:=by omega
 have h5:=Nat.mul_le_mul hA hC;rw[<- Int.natAbs_mul,<- Int.natAbs_mul] at h5;have h6:0<=A*C:=Int.mul_nonneg (by omega) (by omega)
 omega
end Go.Ev.L
namespace Go.Proofs
open Go.Shelf
set_option maxRecDepth 100000 in
def Ce.sortLayV_ren:Go.Shelf.Ren:=⟨fun | 6=>73 | 15=>81 | 14=>95 | 28=>107 | 29=>108 | 20=>112 | 21=>113 | 22=>114 | 23=>115 | 24=>116 | 25=>117 | 26=>118 | 27=>119 | 46=>126 | 47=>122 | 48=>123 | 49=>127 | 50=>128 | 57=>130 | n=>n,fun | 22=>23 | 24=>25 | 25=>36 | 3=>3 | 39=>104 | 0=>0 | 53=>123 | 55=>125 | 4=>4 | 46=>116 | 45=>115 | 50=>120 | 5=>5 | 9=>9 | 66=>134 | 70=>138 | 76=>142 | 77=>143 | n=>n,fun | n=>n⟩
set_option maxRecDepth 100000 in
theorem Ce.sortLayV:Go.Proofs.SlLaysF0.n6 Tryz.prog Ce.sortLayV_ren:={
 mixed:=by kernel_rfl
 f6:=⟨Tryz.f73.name,by decide,Tryz.func73.trans (congrArg some (by kernel_rfl))⟩
 f14:=⟨Tryz.f95.name,by decide,Tryz.func95.trans (congrArg some (by kernel_rfl))⟩
 f15:=Tryz.func81.trans (congrArg some (by kernel_rfl))
 f20:=⟨Tryz.f112.name,by decide,Tryz.func112.trans (congrArg some (by kernel_rfl))⟩
 f21:=⟨Tryz.f113.name,by decide,Tryz.func113.trans (congrArg some (by kernel_rfl))⟩
 f22:=⟨Tryz.f114.name,by decide,Tryz.func114.trans (congrArg some (by kernel_rfl))⟩
 f23:=⟨Tryz.f115.name,by decide,Tryz.func115.trans (congrArg some (by kernel_rfl))⟩
 f24:=⟨Tryz.f116.name,by decide,Tryz.func116.trans (congrArg some (by kernel_rfl))⟩
 f25:=⟨Tryz.f117.name,by decide,Tryz.func117.trans (congrArg some (by kernel_rfl))⟩
 f26:=⟨Tryz.f118.name,by decide,Tryz.func118.trans (congrArg some (by kernel_rfl))⟩
 f27:=⟨Tryz.f119.name,by decide,Tryz.func119.trans (congrArg some (by kernel_rfl))⟩
 f28:=Tryz.func107.trans (congrArg some (by kernel_rfl))
 f29:=Tryz.func108.trans (congrArg some (by kernel_rfl))
 f46:=⟨Tryz.f126.name,by decide,Tryz.func126.trans (congrArg some (by kernel_rfl))⟩
 f47:=Tryz.func122.trans (congrArg some (by kernel_rfl))
 f48:=Tryz.func123.trans (congrArg some (by kernel_rfl))
 f49:=⟨Tryz.f127.name,by decide,Tryz.func127.trans (congrArg some (by kernel_rfl))⟩
 f50:=⟨Tryz.f128.name,by decide,Tryz.func128.trans (congrArg some (by kernel_rfl))⟩
 f57:=⟨Tryz.f130.name,by decide,Tryz.func130.trans (congrArg some (by kernel_rfl))⟩
 t0:=Tryz.underlying0
 a0:=Tryz.isAgg0
 z0:=Tryz.sizeOf0
 v0:=Tryz.zeroValue0
 t3:=Tryz.underlying3
 a3:=Tryz.isAgg3
 z3:=Tryz.sizeOf3
 v3:=Tryz.zeroValue3
 t4:=Tryz.underlying4
 a4:=Tryz.isAgg4
 z4:=Tryz.sizeOf4
 v4:=Tryz.zeroValue4
 t5:=Tryz.underlying5
 a5:=Tryz.isAgg5
 z5:=Tryz.sizeOf5
 v5:=Tryz.zeroValue5
 t9:=Tryz.underlying9
 a9:=Tryz.isAgg9
 z9:=Tryz.sizeOf9
 v9:=Tryz.zeroValue9
 t22:=Tryz.underlying23
 a22:=Tryz.isAgg23
 z22:=Tryz.sizeOf23
 v22:=Tryz.zeroValue23
 t25:=Tryz.underlying36
 a25:=Tryz.isAgg36
 z25:=Tryz.sizeOf36
 v25:=Tryz.zeroValue36
 t39:=Tryz.underlying104
 a39:=Tryz.isAgg104
 z39:=Tryz.sizeOf104
 v39:=Tryz.zeroValue104
 t45:=Tryz.underlying115
 a45:=Tryz.isAgg115
 z45:=Tryz.sizeOf115
 v45:=Tryz.zeroValue115
 t46:=Tryz.underlying116
 a46:=Tryz.isAgg116
 z46:=Tryz.sizeOf116
 v46:=Tryz.zeroValue116
 t50:=Tryz.underlying120
 a50:=Tryz.isAgg120
 z50:=Tryz.sizeOf120
 v50:=Tryz.zeroValue120
 t53:=Tryz.underlying123
 a53:=Tryz.isAgg123
 z53:=Tryz.sizeOf123
 v53:=Tryz.zeroValue123
 t55:=Tryz.underlying125
 a55:=Tryz.isAgg125
 z55:=Tryz.sizeOf125
 v55:=Tryz.zeroValue125
 t66:=Tryz.underlying134
 a66:=Tryz.isAgg134
 z66:=Tryz.sizeOf134
 v66:=Tryz.zeroValue134
 t70:=Tryz.underlying138
 a70:=Tryz.isAgg138
 z70:=Tryz.sizeOf138
 v70:=Tryz.zeroValue138
 t76:=Tryz.underlying142
 a76:=Tryz.isAgg142
 z76:=Tryz.sizeOf142
 v76:=Tryz.zeroValue142
 t77:=Tryz.underlying143
 a77:=Tryz.isAgg143
 z77:=Tryz.sizeOf143
 v77:=Tryz.zeroValue143 }
end Go.Proofs
namespace Go.Ev.Ce
open Go Go.Ev Go.Ev.L Go.Proofs Go.Sort
theorem pd9(x y:Int):ca4 x y=some (i (Ya2 x y),[]):=by
 unfold ca4 ua2 Ya2;simp only[bne_self_eq_false,Db1,decide_eq_true_eq,Qhg,if_false]
 split<;>(try split)<;>rfl
theorem oe3(x y:Int):T5 x y=Ya2 x y:=by unfold T5;rw[pd9];rfl
theorem oe4(x y:Int):T6 x y=true:=by unfold T6;rw[pd9];rfl
def orI(a c d:Int):Int:=if a=0 then if c=0 then d else c else a
theorem Zd5(a c d:Int):((lp (V1 ⟨[a,c,d],3⟩) ⟨0⟩).1=1/\gL tI [a,c,d] (lp (V1 ⟨[a,c,d],3⟩) ⟨0⟩).2.is8.toNat=orI a c d)\/((lp (V1 ⟨[a,c,d],3⟩) ⟨0⟩).1=2/\orI a c d=0):=by
 have g0:gL tI [a,c,d] 0=a:=rfl;have g1:gL tI [a,c,d] 1=c:=rfl;have g2:gL tI [a,c,d] 2=d:=rfl;refine Tb1 (step:=V1 ⟨[a,c,d],3⟩) (I:=λm s=>(m=3/\s=⟨0⟩)\/(m=2/\s=⟨1⟩/\a=0)\/(m=1/\s=⟨2⟩/\a=0/\c=0)\/(m=0/\s=⟨3⟩/\a=0/\c=0/\d=0))
  (Q:=λt s=>(t=1/\gL tI [a,c,d] s.is8.toNat=orI a c d)\/(t=2/\orI a c d=0)) (λm s hi=>?_) 3 ⟨0⟩ (by omega) (.inl ⟨rfl,rfl⟩)
 rcases hi with⟨rfl,rfl⟩|⟨rfl,rfl,ha⟩|⟨rfl,rfl,ha,hc⟩|⟨rfl,rfl,ha,hc,hd⟩
 ·by_cases h:a=0
  ·exact .inr ⟨⟨1⟩,2,rfl,by subst h;rfl,.inr (.inl ⟨rfl,rfl,h⟩)⟩
  ·refine .inl ⟨1,?_,.inl ⟨rfl,by unfold orI;rw[if_neg h];rfl⟩⟩
   show sl (a != 0) (Stp.exit 1) (Stp.next (⟨W (0+1)⟩:I5))=_;rw[bt (by simpa using h)]
 ·by_cases h:c=0
  ·exact .inr ⟨⟨2⟩,1,rfl,by subst h;rfl,.inr (.inr (.inl ⟨rfl,rfl,ha,h⟩))⟩
  ·refine .inl ⟨1,?_,.inl ⟨rfl,by unfold orI;rw[if_pos ha,if_neg h];rfl⟩⟩
   show sl (c != 0) (Stp.exit 1) (Stp.next (⟨W (1+1)⟩:I5))=_;rw[bt (by simpa using h)]
 ·by_cases h:d=0
  ·exact .inr ⟨⟨3⟩,0,rfl,by subst h;rfl,.inr (.inr (.inr ⟨rfl,rfl,ha,hc,h⟩))⟩
  ·refine .inl ⟨1,?_,.inl ⟨rfl,by unfold orI;rw[if_pos ha,if_pos hc];rfl⟩⟩
   show sl (d != 0) (Stp.exit 1) (Stp.next (⟨W (2+1)⟩:I5))=_;rw[bt (by simpa using h)]
 ·exact .inl ⟨2,rfl,.inr ⟨rfl,by unfold orI;rw[if_pos ha,if_pos hc];exact hd⟩⟩
theorem he7(a c d:Int):za7 [a,c,d]=some (i (orI a c d),[]):=by
 have h:=Zd5 a c d;unfold za7;simp only[r5,m9];rw[show ((([a,c,d]:List Int).length:Nat):Int)=3 from rfl]
 generalize lp (V1 ⟨[a,c,d],3⟩) ⟨0⟩=r at *
 rcases h with⟨h1,h2⟩|⟨h1,h2⟩
 ·rw[h1,h2];rfl
 ·rw[h1,h2];rfl
theorem Ge1(a c d:Int):Ma0 [a,c,d]=orI a c d:=by unfold Ma0;rw[he7];rfl
theorem Ge2(a c d:Int):Ma1 [a,c,d]=true:=by unfold Ma1;rw[he7];rfl
def Za3(x y:V3):Int:=orI (Ya2 x.x y.x) (Ya2 x.y y.y) (Ya2 x.z y.z)
def LtV(x y:V3):Prop:=x.x<y.x\/x.x=y.x/\(x.y<y.y\/x.y=y.y/\x.z<y.z)
instance(x y:V3):Decidable (LtV x y):=by unfold LtV;exact inferInstance
theorem Zd6(x y:V3):Za3 x y<0↔LtV x y:=by
 have h1:=gb2 x.x y.x;have h2:=Kb6 x.x y.x;have h3:=gb2 x.y y.y;have h4:=Kb6 x.y y.y;have h5:=gb2 x.z y.z;unfold Za3 orI LtV;split
 ·split<;>omega
 ·omega
theorem wa5(x y:V3):ltOf Za3 x y=decide (LtV x y):=by
 unfold ltOf;rw[decide_eq_decide];exact Zd6 x y
theorem xe9:SWO (ltOf Za3) where
 irrefl x:=by rw[wa5];simp[LtV]
 trans x y z h1 h2:=by rw[wa5,decide_eq_true_eq] at *;unfold LtV at *;omega
 ntrans x y z h1 h2:=by rw[wa5,decide_eq_false_iff_not] at *;unfold LtV at *;omega
theorem Ge3(x y:V3)(h1:ltOf Za3 x y=false)(h2:ltOf Za3 y x=false):x=y:=by
 rw[wa5,decide_eq_false_iff_not] at *
 unfold LtV at *
 obtain⟨a,b,c⟩:=x;obtain⟨a',b',c'⟩:=y
 simp only at *
 have:a=a'/\b=b'/\c=c':=by omega
 obtain⟨rfl,rfl,rfl⟩:=this;rfl
theorem Yb6(x y:V3):oa2 x y=some (i (Za3 x y),[]):=by
 unfold oa2 Za3;simp only[oe3,oe4,Ge1,Ge2,w6]
theorem oe5(x y:V3):za8 x y=Za3 x y:=by unfold za8;rw[Yb6];rfl
theorem oe6(x y:V3):za9 x y=true:=by unfold za9;rw[Yb6];rfl
theorem oe7(x y:V3):(Ra8 [.agg (tV.row x),.agg (tV.row y)] []).run=some (i (Za3 x y),[]):=by
 have:(Ra8 [.agg (tV.row x),.agg (tV.row y)] []).run=sel (za9 x y) (some (i (za8 x y),[])) none:=by kernel_rfl
 rw[this,oe6,oe5]
def Kd2(p:V3):List Value:=[.int .i64 p.x,.int .i64 p.y,.int .i64 p.z]
instance:Inhabited V3:=⟨⟨0,0,0⟩⟩
def kb4(l:List V3):List V3:=l.mergeSort λx y=>!ltOf Za3 y x
theorem Ec4(l:List V3):(kb4 l).length=l.length:=Qhf l
noncomputable def la6:Sum:=od9 tV 74 25 kb4
theorem zd2:Ce.sortLayV_ren.f 6=73:=by kernel_rfl
theorem qc6:Ce.sortLayV_ren.t 24=25:=by kernel_rfl
set_option maxRecDepth 100000 in
theorem Aa0:i4 prog G 73 la6:=by
 refine pd0 (enc:=Kd2) (cf:=Za3) ⟨_,Tryz.func73,by kernel_rfl,of_decide_eq_true (by kernel_rfl)⟩ (by decide) (λ_=>rfl) (λr h=>Na7 (n:=3) h) (λx v hv=>?_) Ec4
  (λblk off size w=>od8 cc5 oe7 (λ_=>rfl) (λ_=>rfl) _ _ _ _ _) (λblk cap d w hcl hH hb hs=>?_)
 ·simp[Kd2] at hv
  rcases hv with rfl|rfl|rfl<;>rfl
 ·have eg:∀args w,(callFunc 74 args).run Tryz.prog w=.ok (.enter 74 args) w:=enters_of Tryz.func74 (by kernel_rfl) rfl
  have:=AnyQ.slices_SortFunc Ce.sortLayV 3 (by rw[qc6];exact Tryz.isAgg25) (by rw[qc6];exact Tryz.sizeOf25) Kd2 (λ_=>rfl) (λx v hv=>by simp[Kd2] at hv;rcases hv with rfl | rfl | rfl<;>rfl) Za3 xe9 74 #[] blk 0 cap d w eg (hcl 0 d.size) hH hb hs
  rw[zd2] at this;refine this.mono λe w' ⟨h1,d',n,os,h2,h3,h4⟩=>⟨h1,n,os,?_⟩
  have h5:=sorted_unique_holds xe9 Ge3 d d' h2 h3;rw[h4];show _=sortWorldK Kd2 3 w blk 0 n (d.toList.mergeSort λx y=>!ltOf Za3 y x).toArray os
  rw[<- h5]
end Go.Ev.Ce
namespace Go.Ev.Ce
open Go Go.Ev Go.Ev.L Go.Proofs
set_option maxRecDepth 100000
noncomputable def wb5:List (Nat×Sum):=[]
theorem qb4:k8 prog G wb5:=trivial
structure ha6 where
 (alt ns0:Nat)
 eh0:List (List b7)
noncomputable def P4{α:Type}(kk:ha6->α)(x:V3×List V3):α:=(sl (Nat.beq 0 0&&Nat.ble ((0+(len (r4 (λk=>(tV).row (gL tV (x.1::x.2) k)) (List.range (List.length x.2+1)))))*24) room) (kk ⟨1,(0+(len (r4 (λk=>(tV).row (gL tV (x.1::x.2) k)) (List.range (List.length x.2+1))))),(app [] (r4 (λk=>(tV).row (gL tV (x.1::x.2) k)) (List.range (List.length x.2+1))))⟩) (kk ⟨0,0,[]⟩))
noncomputable def Z5(x:V3×List V3):ha6:=P4 (λr=>r) x
noncomputable def ra8(r:ha6):DT (b7×List c8):=(.ite (Nat.beq r.alt 1) (.ret (.sl 0 0 r.ns0 0,[⟨25,3,r.eh0,true,false,0⟩])) .fail)
theorem Eb4{α β:Type}(F:α->β)(kk:ha6->α)(x:V3×List V3):F (P4 kk x)=P4 (λr=>F (kk r)) x:=by unfold P4;(repeat' apply r9 (f:=F))<;>rfl
noncomputable def va6:Sum:=K9 (Uc1 tV) (λx=>ra8 (Z5 x))
theorem Ka3:i4 prog G 72 va6:=ub2 (bd b72 qb4) λx=>B7 (Qhd (b:=P4 (λr=>(ra8 r).run) x) (by kernel_rfl) (Eb4 (λr=>(ra8 r).run) (λr=>r) x).symm)
structure ca5 where
 ns0:Nat
 eh0:List (List b7)
noncomputable def la7:List (Nat×Sum):=[]
theorem gb9:k8 prog G la7:=trivial
structure B6 where
 (ns0 os4 ns4:Nat)
structure n8 where
 (is3 is5:Int)
 eh0:List (List b7)
noncomputable def wa6(p:B6)(s:n8):St:=⟨.sl 0 0 p.ns0 0::.unk::.unk::i s.is3::.sl 0 p.os4 p.ns4 0::i s.is5::ra 55 [],[⟨25,3,s.eh0,true,false,0⟩]⟩
noncomputable def I6{α:Type}(k:n8->α)(e:Nat->α)(z:α)(p:B6)(s:n8):α:=(sl (decide (s.is5<(↑p.ns4:Int))) (sl (inB s.is5 p.ns4) (sl (ldR tV s.eh0 (p.os4+s.is5.toNat)) (sl (inB (W (s.is5-1)) p.ns4) (sl (ldR tV s.eh0 (p.os4+(W (s.is5-1)).toNat)) (sl (!(((rdR tV s.eh0 (p.os4+s.is5.toNat)).x==(rdR tV s.eh0 (p.os4+(W (s.is5-1)).toNat)).x)&&(((rdR tV s.eh0 (p.os4+s.is5.toNat)).y==(rdR tV s.eh0 (p.os4+(W (s.is5-1)).toNat)).y)&&(((rdR tV s.eh0 (p.os4+s.is5.toNat)).z==(rdR tV s.eh0 (p.os4+(W (s.is5-1)).toNat)).z)&&true)))) (sl (inB s.is5 p.ns4) (sl (ldR tV s.eh0 (p.os4+s.is5.toNat)) (sl (inB s.is3 p.ns0) (sl ((Nat.blt (0+s.is3.toNat) (len s.eh0))&&(Nat.ble (0+3) (len (i7 s.eh0 (0+s.is3.toNat))))) (k ⟨W (s.is3+1),W (s.is5+1),setAt s.eh0 (0+s.is3.toNat) (O2 (i7 s.eh0 (0+s.is3.toNat)) 0 [i (rdR tV s.eh0 (p.os4+s.is5.toNat)).x,i (rdR tV s.eh0 (p.os4+s.is5.toNat)).y,i (rdR tV s.eh0 (p.os4+s.is5.toNat)).z])⟩) z) z) z) z) (k ⟨s.is3,W (s.is5+1),s.eh0⟩)) z) z) z) z) (e 1))
noncomputable def o8(p:B6)(s:n8):Stp n8:=I6 .next .exit .fail p s
noncomputable def ha7:Lo B6 n8:=⟨En la7,1,ne8,[1,1,0,1,4,4,1,0,4,1,2,1,0,1,4,4],[0,3,4,5],.p,[⟨.s (.o (.sl 0 0 (some 0) none))::sUq::sUq::sIq::.s (.o (.sl 0 0 none none))::sIq::ru2 55 [],[⟨25,3,true,none⟩],λa H=>(⟨slN (slT a 0),slO (slT a 4),slN (slT a 4)⟩,⟨aIq a 3,aIq a 5,elT H 0⟩)⟩],o8,[(some 2,λp s=>upq (wa6 p s) [(29,i s.is5),(30,.sl 0 p.os4 p.ns4 0),(31,i (↑p.ns4:Int)),(32,b (decide (s.is5<(↑p.ns4:Int))))])],wa6⟩
theorem cb4:ha7.Ok:=Lo.ok [] (by kernel_rfl) .nil rfl (.cons (λa H=>by kernel_rfl) .nil) λp s=>(.of @I6 (λF _ _ _ _ _=>by unfold I6;(repeat' apply r9 (f:=F))<;>rfl) (by kernel_rfl))
structure M4 where
 ns0:Nat
 eh0:List (List b7)
structure q7 where
 is3:Int
noncomputable def wa7(p:M4)(s:q7):St:=⟨.sl 0 0 p.ns0 0::.unk::.unk::i s.is3::ra 57 [],[⟨25,3,p.eh0,true,false,0⟩]⟩
noncomputable def I7{α:Type}(k:q7->α)(e:Nat->α)(z:α)(p:M4)(s:q7):α:=let t1:=(lp (o8 (⟨p.ns0,0+s.is3.toNat,p.ns0-s.is3.toNat⟩:B6)) (⟨s.is3,1,p.eh0⟩:n8));(sl (decide (s.is3<(↑p.ns0:Int))) (sl (inB s.is3 p.ns0) (sl (ldR tV p.eh0 (0+s.is3.toNat)) (sl (inB (W (s.is3-1)) p.ns0) (sl (ldR tV p.eh0 (0+(W (s.is3-1)).toNat)) (sl (((rdR tV p.eh0 (0+s.is3.toNat)).x==(rdR tV p.eh0 (0+(W (s.is3-1)).toNat)).x)&&(((rdR tV p.eh0 (0+s.is3.toNat)).y==(rdR tV p.eh0 (0+(W (s.is3-1)).toNat)).y)&&(((rdR tV p.eh0 (0+s.is3.toNat)).z==(rdR tV p.eh0 (0+(W (s.is3-1)).toNat)).z)&&true))) (sl (inB s.is3 (p.ns0+1)) (sl (Nat.beq t1.1 1) (sl (inB t1.2.is3 (p.ns0+1)) (sl (inB t1.2.is3 (p.ns0+1)) (e 1) z) z) z) z) (k ⟨W (s.is3+1)⟩)) z) z) z) z) (e 2))
noncomputable def K0(p:M4)(s:q7):Stp q7:=I7 .next .exit .fail p s
noncomputable def ha8:Lo M4 q7:=⟨En la7,1,ne8,[1,1,0,1,4,4],[0,3],.s .p (.s (.b (.s .p (.c (.s .p (.s (.s .p (.b (.u ha7.ls))) .p)) .p))) .p),[⟨.s (.o (.sl 0 0 (some 0) none))::sUq::sUq::sIq::ru2 57 [],[⟨25,3,true,none⟩],λa H=>(⟨slN (slT a 0),elT H 0⟩,⟨aIq a 3⟩)⟩],K0,[(none,λp s=>let t1:=(lp (o8 (⟨p.ns0,0+s.is3.toNat,p.ns0-s.is3.toNat⟩:B6)) (⟨s.is3,1,p.eh0⟩:n8));⟨[.sl 0 0 (t1.2.is3.toNat-0) 0],[⟨25,3,app (F5 t1.2.eh0 (0+t1.2.is3.toNat)) (app (List.replicate (p.ns0-t1.2.is3.toNat) [i 0,i 0,i 0]) (i5 t1.2.eh0 ((0+t1.2.is3.toNat)+(p.ns0-t1.2.is3.toNat)))),true,false,0⟩]⟩),(some 0,λp s=>upq (wa7 p s) [(10,i s.is3),(11,.sl 0 0 p.ns0 0),(12,i (↑p.ns0:Int)),(13,b (decide (s.is3<(↑p.ns0:Int))))])],wa7⟩
theorem cb5:ha8.Ok:=Lo.ok [ha7.pr] (by kernel_rfl) (.cons cb4 .nil) rfl (.cons (λa H=>by kernel_rfl) .nil) λp s=>(.of @I7 (λF _ _ _ _ _=>by unfold I7;(repeat' apply r9 (f:=F))<;>rfl) (by kernel_rfl))
structure ca6 where
 (alt ns0:Nat)
 eh0:List (List b7)
noncomputable def K1{α:Type}(kk:ca6->α)(x:ca5):α:=let t1:=(lp (K0 (⟨x.ns0,x.eh0⟩:M4)) (⟨1⟩:q7));let t2:=(lp (o8 (⟨x.ns0,0+t1.2.is3.toNat,x.ns0-t1.2.is3.toNat⟩:B6)) (⟨t1.2.is3,1,x.eh0⟩:n8));(sl (decide ((↑x.ns0:Int)<2)) (kk ⟨1,x.ns0,x.eh0⟩) (sl (Nat.beq t1.1 1) (kk ⟨1,t2.2.is3.toNat-0,app (F5 t2.2.eh0 (0+t2.2.is3.toNat)) (app (List.replicate (x.ns0-t2.2.is3.toNat) [i 0,i 0,i 0]) (i5 t2.2.eh0 ((0+t2.2.is3.toNat)+(x.ns0-t2.2.is3.toNat))))⟩) (sl (Nat.beq t1.1 2) (kk ⟨1,x.ns0,x.eh0⟩) (kk ⟨0,0,[]⟩))))
noncomputable def K2(x:ca5):ca6:=K1 (λr=>r) x
noncomputable def la8(x:ca5)(r:ca6):DT (b7×List c8):=(.ite (Nat.beq r.alt 1) (.ret (.sl 0 0 r.ns0 0,[⟨25,3,r.eh0,true,false,0⟩])) .fail)
theorem qb5{α β:Type}(F:α->β)(kk:ca6->α)(x:ca5):F (K1 kk x)=K1 (λr=>F (kk r)) x:=by unfold K1;(repeat' apply r9 (f:=F))<;>rfl
noncomputable def oa3:Sum:=fb4 ⟨[.s (.o (.sl 0 0 (some 0) none))],[⟨25,3,true,none⟩],λa H=>(⟨slN (slT a 0),elT H 0⟩,())⟩ (λx=>la8 x (K2 x))
theorem Ba6:i4 prog G 75 oa3:=aa1 (enc:=λx=>⟨[.sl 0 0 x.ns0 0],[⟨25,3,x.eh0,true,false,0⟩]⟩) (λa H=>by kernel_rfl) (bd b75 gb9) λx=>bb4 (.s .p (.s .p (.s (.s .p (.b (.u ha8.ls))) .p))) [ha8.pr] (by kernel_rfl) (.cons cb5 .nil) (Qhd (b:=K1 (λr=>(la8 x r).run) x) (by kernel_rfl) (qb5 (λr=>(la8 x r).run) (λr=>r) x).symm)
noncomputable def Tb2:List (Nat×Sum):=[(72,va6),(73,la6),(75,oa3)]
theorem Lb6:k8 prog G Tb2:=⟨Ka3,Aa0,Ba6,trivial⟩
noncomputable def ja5(x:V3×List V3):Option (b7×List c8):=let t1:=(Z5 (hC tV (λk=>(tV).row (gL tV (x.1::x.2) k)),tC tV (List.length x.2) (λk=>(tV).row (gL tV (x.1::x.2) k))));let t2:=(K2 ⟨t1.ns0,app (bL tV (kb4 (slR tV t1.eh0 0 t1.ns0))) (i5 t1.eh0 t1.ns0)⟩);(sl (okL tV (List.length x.2+1) (λk=>(tV).row (gL tV (x.1::x.2) k))) (sl (Nat.beq t1.alt 1) (sl (Bool.and (Nat.ble t1.ns0 room) (Bool.and (Nat.ble t1.ns0 (len t1.eh0)) (okS tV t1.eh0 0 t1.ns0))) (sl (Nat.beq t2.alt 1) (some (.sl 0 0 t2.ns0 0,[⟨25,3,t2.eh0,true,false,0⟩])) none) none) none) none)
noncomputable def Ja0(x:V3×List V3):List V3:=U8 (one (r1L tV)) (ja5 x)
noncomputable def Ja1(x:V3×List V3):Bool:=okO (one (r1L tV)) (ja5 x)
noncomputable def kb5:Sum:=K9 (Uc1 tV) (λx=>.guard (Ja1 x) (.ret ((one (r1L tV)).enc (Ja0 x),[])))
theorem Tb3:i4 prog G 45 kb5:=Ca3 (bd b45 Lb6) (one (r1L tV)) (o:=ja5) λx=>B7 (by kernel_rfl)
noncomputable def Fa4:List (Nat×Sum):=[(44,La9),(45,kb5),(77,Ia6),(78,Kb8),(47,yb9),(48,wa1),(46,fa8)]
theorem qc7:k8 prog G Fa4:=⟨Za2,Tb3,cb0,yc1,qc2,Ya4,ja1,trivial⟩
structure M5 where
 (is3 is4 is9 v7 Ua2 H4 gc2:Int)
 (c9 f0:List V3)
structure z7 where
 ph:Nat
 B1:Int
 eh4:List (List b7)
 A7:Nat
 eh5:List (List b7)
noncomputable def cb6(p:M5)(s:z7):St:=⟨.unk::.ptr 0 0 0 0::.unk::i p.is3::i p.is4::ra 4 (i p.is9::i p.v7::ra 5 (i p.Ua2::i p.H4::ra 5 (i p.gc2::i s.B1::ra 35 (i 0::.unk::.ptr 1 0 0 0::.v (.slice none 0 0)::i 0::.unk::.ptr 2 0 0 0::.ptr 3 0 0 0::ra 28 [])))),[⟨0,1,[[eL tV p.c9]],true,false,0⟩,⟨0,1,[[eL tV p.f0]],true,false,0⟩,⟨0,0,[[.ptr 4 0 0 0]],true,false,0⟩,⟨0,0,[[.v (.slice none 0 0)]],true,false,0⟩,⟨76,0,s.eh4,true,false,0⟩]⟩
noncomputable def cb7(p:M5)(s:z7):St:=⟨.unk::.ptr 0 0 0 0::.unk::i p.is3::i p.is4::ra 4 (i p.is9::i p.v7::ra 5 (i p.Ua2::i p.H4::ra 5 (i p.gc2::i s.B1::ra 35 (i 0::.unk::.ptr 1 0 0 0::.v (.slice none 0 0)::i 0::.unk::.ptr 2 0 0 0::.ptr 3 0 0 0::ra 28 [])))),[⟨0,1,[[eL tV p.c9]],true,false,0⟩,⟨0,1,[[eL tV p.f0]],true,false,0⟩,⟨0,0,[[.ptr 4 0 0 0]],true,false,0⟩,⟨0,0,[[.sl 5 0 s.A7 0]],true,false,0⟩,⟨76,0,s.eh4,true,false,0⟩,⟨60,4,s.eh5,true,false,0⟩]⟩
noncomputable def cc6(p:M5)(s:z7):St:=(sel (Nat.beq s.ph 1) (cb7 p s) (cb6 p s))
noncomputable def P5{α:Type}(k:z7->α)(e:Nat->α)(z:α)(p:M5)(s:z7):α:=let t1:=(E8 (gL tV p.c9 s.B1.toNat) (gL tV p.c9 p.is4.toNat) (gL tV p.c9 p.is3.toNat));let t2:=(qa4 t1.1);let t3:=(Y0 (rt tV p.f0) t2);let t4:=(Y0 (rt tV p.f0) t1.1);(sl (decide (s.B1<p.gc2)) (sl (inB s.B1 (List.length p.c9)) (sl (inB p.is4 (List.length p.c9)) (sl (inB p.is3 (List.length p.c9)) (sl (ba6 (gL tV p.c9 s.B1.toNat) (gL tV p.c9 p.is4.toNat) (gL tV p.c9 p.is3.toNat)) (sl t1.2 (sl t1.2 (sl (Oa0 4 [(0,.int .i64),(1,.int .i64),(2,.int .i64),(3,.int .i64)] [i t1.1.n.x,i t1.1.n.y,i t1.1.n.z,i t1.1.b] s.eh4) (sl (Oa0 4 [(0,.int .i64),(1,.int .i64),(2,.int .i64),(3,.int .i64)] [i t2.n.x,i t2.n.y,i t2.n.z,i t2.b] s.eh4) (k ⟨0,W (s.B1+1),s.eh4,0,[]⟩) (sl (okE tV p.f0) (sl (F4 (rt tV p.f0) t2) (sl (!t3) (k ⟨1,W (s.B1+1),Y9 [(0,.int .i64),(1,.int .i64),(2,.int .i64),(3,.int .i64)] [i t2.n.x,i t2.n.y,i t2.n.z,i t2.b] [i t2.n.x,i t2.n.y,i t2.n.z,i t2.b,b true] s.eh4,1,[[i t2.n.x,i t2.n.y,i t2.n.z,i t2.b]]⟩) (k ⟨0,W (s.B1+1),Y9 [(0,.int .i64),(1,.int .i64),(2,.int .i64),(3,.int .i64)] [i t2.n.x,i t2.n.y,i t2.n.z,i t2.b] [i t2.n.x,i t2.n.y,i t2.n.z,i t2.b,b true] s.eh4,0,[]⟩)) z) z)) (sl (okE tV p.f0) (sl (F4 (rt tV p.f0) t1.1) (sl (!t4) (sl (Oa0 4 [(0,.int .i64),(1,.int .i64),(2,.int .i64),(3,.int .i64)] [i t2.n.x,i t2.n.y,i t2.n.z,i t2.b] (Y9 [(0,.int .i64),(1,.int .i64),(2,.int .i64),(3,.int .i64)] [i t1.1.n.x,i t1.1.n.y,i t1.1.n.z,i t1.1.b] [i t1.1.n.x,i t1.1.n.y,i t1.1.n.z,i t1.1.b,b true] s.eh4)) (k ⟨1,W (s.B1+1),Y9 [(0,.int .i64),(1,.int .i64),(2,.int .i64),(3,.int .i64)] [i t1.1.n.x,i t1.1.n.y,i t1.1.n.z,i t1.1.b] [i t1.1.n.x,i t1.1.n.y,i t1.1.n.z,i t1.1.b,b true] s.eh4,1,[[i t1.1.n.x,i t1.1.n.y,i t1.1.n.z,i t1.1.b]]⟩) (sl (okE tV p.f0) (sl (F4 (rt tV p.f0) t2) (sl (!t3) (k ⟨1,W (s.B1+1),Y9 [(0,.int .i64),(1,.int .i64),(2,.int .i64),(3,.int .i64)] [i t2.n.x,i t2.n.y,i t2.n.z,i t2.b] [i t2.n.x,i t2.n.y,i t2.n.z,i t2.b,b true] (Y9 [(0,.int .i64),(1,.int .i64),(2,.int .i64),(3,.int .i64)] [i t1.1.n.x,i t1.1.n.y,i t1.1.n.z,i t1.1.b] [i t1.1.n.x,i t1.1.n.y,i t1.1.n.z,i t1.1.b,b true] s.eh4),2,[[i t1.1.n.x,i t1.1.n.y,i t1.1.n.z,i t1.1.b],[i t2.n.x,i t2.n.y,i t2.n.z,i t2.b]]⟩) (k ⟨1,W (s.B1+1),Y9 [(0,.int .i64),(1,.int .i64),(2,.int .i64),(3,.int .i64)] [i t2.n.x,i t2.n.y,i t2.n.z,i t2.b] [i t2.n.x,i t2.n.y,i t2.n.z,i t2.b,b true] (Y9 [(0,.int .i64),(1,.int .i64),(2,.int .i64),(3,.int .i64)] [i t1.1.n.x,i t1.1.n.y,i t1.1.n.z,i t1.1.b] [i t1.1.n.x,i t1.1.n.y,i t1.1.n.z,i t1.1.b,b true] s.eh4),1,[[i t1.1.n.x,i t1.1.n.y,i t1.1.n.z,i t1.1.b]]⟩)) z) z)) (sl (Oa0 4 [(0,.int .i64),(1,.int .i64),(2,.int .i64),(3,.int .i64)] [i t2.n.x,i t2.n.y,i t2.n.z,i t2.b] (Y9 [(0,.int .i64),(1,.int .i64),(2,.int .i64),(3,.int .i64)] [i t1.1.n.x,i t1.1.n.y,i t1.1.n.z,i t1.1.b] [i t1.1.n.x,i t1.1.n.y,i t1.1.n.z,i t1.1.b,b true] s.eh4)) (k ⟨0,W (s.B1+1),Y9 [(0,.int .i64),(1,.int .i64),(2,.int .i64),(3,.int .i64)] [i t1.1.n.x,i t1.1.n.y,i t1.1.n.z,i t1.1.b] [i t1.1.n.x,i t1.1.n.y,i t1.1.n.z,i t1.1.b,b true] s.eh4,0,[]⟩) (sl (okE tV p.f0) (sl (F4 (rt tV p.f0) t2) (sl (!t3) (k ⟨1,W (s.B1+1),Y9 [(0,.int .i64),(1,.int .i64),(2,.int .i64),(3,.int .i64)] [i t2.n.x,i t2.n.y,i t2.n.z,i t2.b] [i t2.n.x,i t2.n.y,i t2.n.z,i t2.b,b true] (Y9 [(0,.int .i64),(1,.int .i64),(2,.int .i64),(3,.int .i64)] [i t1.1.n.x,i t1.1.n.y,i t1.1.n.z,i t1.1.b] [i t1.1.n.x,i t1.1.n.y,i t1.1.n.z,i t1.1.b,b true] s.eh4),1,[[i t2.n.x,i t2.n.y,i t2.n.z,i t2.b]]⟩) (k ⟨0,W (s.B1+1),Y9 [(0,.int .i64),(1,.int .i64),(2,.int .i64),(3,.int .i64)] [i t2.n.x,i t2.n.y,i t2.n.z,i t2.b] [i t2.n.x,i t2.n.y,i t2.n.z,i t2.b,b true] (Y9 [(0,.int .i64),(1,.int .i64),(2,.int .i64),(3,.int .i64)] [i t1.1.n.x,i t1.1.n.y,i t1.1.n.z,i t1.1.b] [i t1.1.n.x,i t1.1.n.y,i t1.1.n.z,i t1.1.b,b true] s.eh4),0,[]⟩)) z) z))) z) z)) (k ⟨0,W (s.B1+1),s.eh4,0,[]⟩)) (sl t1.2 z (k ⟨0,W (s.B1+1),s.eh4,0,[]⟩))) z) z) z) z) (e 1))
noncomputable def P6{α:Type}(k:z7->α)(e:Nat->α)(z:α)(p:M5)(s:z7):α:=let t1:=(E8 (gL tV p.c9 s.B1.toNat) (gL tV p.c9 p.is4.toNat) (gL tV p.c9 p.is3.toNat));let t2:=(qa4 t1.1);let t3:=(Y0 (rt tV p.f0) t2);let t4:=(Y0 (rt tV p.f0) t1.1);let a0:=(Nat.beq s.A7 (len s.eh5)&&Nat.ble ((s.A7+1)*32) room);(sl (decide (s.B1<p.gc2)) (sl (inB s.B1 (List.length p.c9)) (sl (inB p.is4 (List.length p.c9)) (sl (inB p.is3 (List.length p.c9)) (sl (ba6 (gL tV p.c9 s.B1.toNat) (gL tV p.c9 p.is4.toNat) (gL tV p.c9 p.is3.toNat)) (sl t1.2 (sl t1.2 (sl (Oa0 4 [(0,.int .i64),(1,.int .i64),(2,.int .i64),(3,.int .i64)] [i t1.1.n.x,i t1.1.n.y,i t1.1.n.z,i t1.1.b] s.eh4) (sl (Oa0 4 [(0,.int .i64),(1,.int .i64),(2,.int .i64),(3,.int .i64)] [i t2.n.x,i t2.n.y,i t2.n.z,i t2.b] s.eh4) (k ⟨1,W (s.B1+1),s.eh4,s.A7,s.eh5⟩) (sl (okE tV p.f0) (sl (F4 (rt tV p.f0) t2) (sl (!t3) (sl a0 (k ⟨1,W (s.B1+1),Y9 [(0,.int .i64),(1,.int .i64),(2,.int .i64),(3,.int .i64)] [i t2.n.x,i t2.n.y,i t2.n.z,i t2.b] [i t2.n.x,i t2.n.y,i t2.n.z,i t2.b,b true] s.eh4,s.A7+1,app s.eh5 [[i t2.n.x,i t2.n.y,i t2.n.z,i t2.b]]⟩) z) (k ⟨1,W (s.B1+1),Y9 [(0,.int .i64),(1,.int .i64),(2,.int .i64),(3,.int .i64)] [i t2.n.x,i t2.n.y,i t2.n.z,i t2.b] [i t2.n.x,i t2.n.y,i t2.n.z,i t2.b,b true] s.eh4,s.A7,s.eh5⟩)) z) z)) (sl (okE tV p.f0) (sl (F4 (rt tV p.f0) t1.1) (sl (!t4) (sl a0 (sl (Oa0 4 [(0,.int .i64),(1,.int .i64),(2,.int .i64),(3,.int .i64)] [i t2.n.x,i t2.n.y,i t2.n.z,i t2.b] (Y9 [(0,.int .i64),(1,.int .i64),(2,.int .i64),(3,.int .i64)] [i t1.1.n.x,i t1.1.n.y,i t1.1.n.z,i t1.1.b] [i t1.1.n.x,i t1.1.n.y,i t1.1.n.z,i t1.1.b,b true] s.eh4)) (k ⟨1,W (s.B1+1),Y9 [(0,.int .i64),(1,.int .i64),(2,.int .i64),(3,.int .i64)] [i t1.1.n.x,i t1.1.n.y,i t1.1.n.z,i t1.1.b] [i t1.1.n.x,i t1.1.n.y,i t1.1.n.z,i t1.1.b,b true] s.eh4,s.A7+1,app s.eh5 [[i t1.1.n.x,i t1.1.n.y,i t1.1.n.z,i t1.1.b]]⟩) (sl (okE tV p.f0) (sl (F4 (rt tV p.f0) t2) (sl (!t3) (sl (Nat.beq (s.A7+1) (len (app s.eh5 [[i t1.1.n.x,i t1.1.n.y,i t1.1.n.z,i t1.1.b]]))&&Nat.ble (((s.A7+1)+1)*32) room) (k ⟨1,W (s.B1+1),Y9 [(0,.int .i64),(1,.int .i64),(2,.int .i64),(3,.int .i64)] [i t2.n.x,i t2.n.y,i t2.n.z,i t2.b] [i t2.n.x,i t2.n.y,i t2.n.z,i t2.b,b true] (Y9 [(0,.int .i64),(1,.int .i64),(2,.int .i64),(3,.int .i64)] [i t1.1.n.x,i t1.1.n.y,i t1.1.n.z,i t1.1.b] [i t1.1.n.x,i t1.1.n.y,i t1.1.n.z,i t1.1.b,b true] s.eh4),(s.A7+1)+1,app (app s.eh5 [[i t1.1.n.x,i t1.1.n.y,i t1.1.n.z,i t1.1.b]]) [[i t2.n.x,i t2.n.y,i t2.n.z,i t2.b]]⟩) z) (k ⟨1,W (s.B1+1),Y9 [(0,.int .i64),(1,.int .i64),(2,.int .i64),(3,.int .i64)] [i t2.n.x,i t2.n.y,i t2.n.z,i t2.b] [i t2.n.x,i t2.n.y,i t2.n.z,i t2.b,b true] (Y9 [(0,.int .i64),(1,.int .i64),(2,.int .i64),(3,.int .i64)] [i t1.1.n.x,i t1.1.n.y,i t1.1.n.z,i t1.1.b] [i t1.1.n.x,i t1.1.n.y,i t1.1.n.z,i t1.1.b,b true] s.eh4),s.A7+1,app s.eh5 [[i t1.1.n.x,i t1.1.n.y,i t1.1.n.z,i t1.1.b]]⟩)) z) z)) z) (sl (Oa0 4 [(0,.int .i64),(1,.int .i64),(2,.int .i64),(3,.int .i64)] [i t2.n.x,i t2.n.y,i t2.n.z,i t2.b] (Y9 [(0,.int .i64),(1,.int .i64),(2,.int .i64),(3,.int .i64)] [i t1.1.n.x,i t1.1.n.y,i t1.1.n.z,i t1.1.b] [i t1.1.n.x,i t1.1.n.y,i t1.1.n.z,i t1.1.b,b true] s.eh4)) (k ⟨1,W (s.B1+1),Y9 [(0,.int .i64),(1,.int .i64),(2,.int .i64),(3,.int .i64)] [i t1.1.n.x,i t1.1.n.y,i t1.1.n.z,i t1.1.b] [i t1.1.n.x,i t1.1.n.y,i t1.1.n.z,i t1.1.b,b true] s.eh4,s.A7,s.eh5⟩) (sl (okE tV p.f0) (sl (F4 (rt tV p.f0) t2) (sl (!t3) (sl a0 (k ⟨1,W (s.B1+1),Y9 [(0,.int .i64),(1,.int .i64),(2,.int .i64),(3,.int .i64)] [i t2.n.x,i t2.n.y,i t2.n.z,i t2.b] [i t2.n.x,i t2.n.y,i t2.n.z,i t2.b,b true] (Y9 [(0,.int .i64),(1,.int .i64),(2,.int .i64),(3,.int .i64)] [i t1.1.n.x,i t1.1.n.y,i t1.1.n.z,i t1.1.b] [i t1.1.n.x,i t1.1.n.y,i t1.1.n.z,i t1.1.b,b true] s.eh4),s.A7+1,app s.eh5 [[i t2.n.x,i t2.n.y,i t2.n.z,i t2.b]]⟩) z) (k ⟨1,W (s.B1+1),Y9 [(0,.int .i64),(1,.int .i64),(2,.int .i64),(3,.int .i64)] [i t2.n.x,i t2.n.y,i t2.n.z,i t2.b] [i t2.n.x,i t2.n.y,i t2.n.z,i t2.b,b true] (Y9 [(0,.int .i64),(1,.int .i64),(2,.int .i64),(3,.int .i64)] [i t1.1.n.x,i t1.1.n.y,i t1.1.n.z,i t1.1.b] [i t1.1.n.x,i t1.1.n.y,i t1.1.n.z,i t1.1.b,b true] s.eh4),s.A7,s.eh5⟩)) z) z))) z) z)) (k ⟨1,W (s.B1+1),s.eh4,s.A7,s.eh5⟩)) (sl t1.2 z (k ⟨1,W (s.B1+1),s.eh4,s.A7,s.eh5⟩))) z) z) z) z) (e 2))
noncomputable def N9(p:M5)(s:z7):Stp z7:=(sel (Nat.beq s.ph 1) (P6 .next .exit .fail p s) (P5 .next .exit .fail p s))
noncomputable def Sa0:Lo M5 z7:=⟨En Fa4,0,Yd9,[1,1,1,1,1,0,1,4,4,1,4,4,1,1,0,4,1,1,4,4,1,1,0,4,1,1,4,4],[1,3,4,9,10,16,17,23,24,60,62,63,64,66,67],.p,[⟨sUq::sPq 0::sUq::sIq::sIq::ru2 4 (sIq::sIq::ru2 5 (sIq::sIq::ru2 5 (sIq::sIq::ru2 35 (.s (.o (.lit .i64 0))::sUq::sPq 1::.s (.o .nil)::.s (.o (.lit .i64 0))::sUq::sPq 2::sPq 3::ru2 28 [])))),[⟨0,1,true,some [[.c 3 (nL tV)]]⟩,⟨0,1,true,some [[.c 3 (nL tV)]]⟩,⟨0,0,true,some [[.o (.ptr 4 0 0 0)]]⟩,⟨0,0,true,some [[.o .nil]]⟩,⟨76,0,true,none⟩],λa H=>(⟨aIq a 3,aIq a 4,aIq a 9,aIq a 10,aIq a 16,aIq a 17,aIq a 23,hLq tV H 0 0 0,hLq tV H 1 0 0⟩,⟨0,aIq a 24,elT H 4,0,[]⟩)⟩,⟨sUq::sPq 0::sUq::sIq::sIq::ru2 4 (sIq::sIq::ru2 5 (sIq::sIq::ru2 5 (sIq::sIq::ru2 35 (.s (.o (.lit .i64 0))::sUq::sPq 1::.s (.o .nil)::.s (.o (.lit .i64 0))::sUq::sPq 2::sPq 3::ru2 28 [])))),[⟨0,1,true,some [[.c 3 (nL tV)]]⟩,⟨0,1,true,some [[.c 3 (nL tV)]]⟩,⟨0,0,true,some [[.o (.ptr 4 0 0 0)]]⟩,⟨0,0,true,some [[.o (.sl 5 0 (some 0) none)]]⟩,⟨76,0,true,none⟩,⟨60,4,true,none⟩],λa H=>(⟨aIq a 3,aIq a 4,aIq a 9,aIq a 10,aIq a 16,aIq a 17,aIq a 23,hLq tV H 0 0 0,hLq tV H 1 0 0⟩,⟨1,aIq a 24,elT H 4,slN (slT (rwT (elT H 3) 0) 0),elT H 5⟩)⟩],N9,[(some 4,λp s=>upq (cb6 p s) [(25,b (decide (s.B1<p.gc2)))]),(some 4,λp s=>upq (cb7 p s) [(25,b (decide (s.B1<p.gc2)))])],cc6⟩
theorem cc7:Sa0.OkM:=Lo.okM [] (by kernel_rfl) .nil rfl (.cons (λa H=>by kernel_rfl) (.cons (λa H=>by kernel_rfl) .nil)) λp s=>(.sel (Nat.beq s.ph 1) (.of @P6 (λF _ _ _ _ _=>by unfold P6;(repeat' apply r9 (f:=F))<;>rfl) (by kernel_rfl)) (.of @P5 (λF _ _ _ _ _=>by unfold P5;(repeat' apply r9 (f:=F))<;>rfl) (by kernel_rfl)))
structure M6 where
 (is3 is9 v7 Ua2:Int)
structure u7 where
 ph:Nat
 H4:Int
 (c9 f0:List V3)
 eh4:List (List b7)
 A7:Nat
 eh5:List (List b7)
noncomputable def cb8(p:M6)(s:u7):St:=⟨.unk::.ptr 0 0 0 0::.unk::i p.is3::ra 5 (i p.is9::i p.v7::ra 5 (i p.Ua2::i s.H4::ra 42 (i 0::.unk::.ptr 1 0 0 0::.v (.slice none 0 0)::i 0::.unk::.ptr 2 0 0 0::.ptr 3 0 0 0::ra 28 []))),[⟨0,1,[[eL tV s.c9]],true,false,0⟩,⟨0,1,[[eL tV s.f0]],true,false,0⟩,⟨0,0,[[.ptr 4 0 0 0]],true,false,0⟩,⟨0,0,[[.v (.slice none 0 0)]],true,false,0⟩,⟨76,0,s.eh4,true,false,0⟩]⟩
noncomputable def cb9(p:M6)(s:u7):St:=⟨.unk::.ptr 0 0 0 0::.unk::i p.is3::ra 5 (i p.is9::i p.v7::ra 5 (i p.Ua2::i s.H4::ra 42 (i 0::.unk::.ptr 1 0 0 0::.v (.slice none 0 0)::i 0::.unk::.ptr 2 0 0 0::.ptr 3 0 0 0::ra 28 []))),[⟨0,1,[[eL tV s.c9]],true,false,0⟩,⟨0,1,[[eL tV s.f0]],true,false,0⟩,⟨0,0,[[.ptr 4 0 0 0]],true,false,0⟩,⟨0,0,[[.sl 5 0 s.A7 0]],true,false,0⟩,⟨76,0,s.eh4,true,false,0⟩,⟨60,4,s.eh5,true,false,0⟩]⟩
noncomputable def cc8(p:M6)(s:u7):St:=(sel (Nat.beq s.ph 1) (cb9 p s) (cb8 p s))
noncomputable def P7{α:Type}(k:u7->α)(e:Nat->α)(z:α)(p:M6)(s:u7):α:=let t1:=(lp (N9 (⟨p.is3,s.H4,p.is9,p.v7,p.Ua2,s.H4,(↑(s.H4.toNat-0):Int),rt tV s.c9,rt tV s.f0⟩:M5)) (⟨0,0,s.eh4,0,[]⟩:z7));(sl (decide (s.H4<p.Ua2)) (sl (inB s.H4 ((List.length s.c9)+1)) (sl ((cnE tV s.c9)&&((cnE tV s.f0)&&true)) (sl (Nat.beq t1.1 1) (k ⟨0,W (s.H4+1),rt tV s.c9,rt tV s.f0,t1.2.eh4,0,[]⟩) (sl (Nat.beq t1.1 2) (k ⟨1,W (s.H4+1),rt tV s.c9,rt tV s.f0,t1.2.eh4,t1.2.A7,t1.2.eh5⟩) z)) z) z) (e 1))
noncomputable def P8{α:Type}(k:u7->α)(e:Nat->α)(z:α)(p:M6)(s:u7):α:=let t1:=(lp (N9 (⟨p.is3,s.H4,p.is9,p.v7,p.Ua2,s.H4,(↑(s.H4.toNat-0):Int),rt tV s.c9,rt tV s.f0⟩:M5)) (⟨1,0,s.eh4,s.A7,s.eh5⟩:z7));(sl (decide (s.H4<p.Ua2)) (sl (inB s.H4 ((List.length s.c9)+1)) (sl ((cnE tV s.c9)&&((cnE tV s.f0)&&true)) (sl (Nat.beq t1.1 1) (k ⟨0,W (s.H4+1),rt tV s.c9,rt tV s.f0,t1.2.eh4,0,[]⟩) (sl (Nat.beq t1.1 2) (k ⟨1,W (s.H4+1),rt tV s.c9,rt tV s.f0,t1.2.eh4,t1.2.A7,t1.2.eh5⟩) z)) z) z) (e 2))
noncomputable def V2(p:M6)(s:u7):Stp u7:=(sel (Nat.beq s.ph 1) (P8 .next .exit .fail p s) (P7 .next .exit .fail p s))
noncomputable def Sa1:Lo M6 u7:=⟨En Fa4,0,Yd9,[1,1,1,1,1,0,1,4,4,1,4,4,1,1,0,4,1,1,4,4],[1,3,9,10,16,17,60,62,63,64,66,67],.s .p (.s .p (.s (.b (.s .p (.s .p (.b (.u Sa0.lsM))))) .p)),[⟨sUq::sPq 0::sUq::sIq::ru2 5 (sIq::sIq::ru2 5 (sIq::sIq::ru2 42 (.s (.o (.lit .i64 0))::sUq::sPq 1::.s (.o .nil)::.s (.o (.lit .i64 0))::sUq::sPq 2::sPq 3::ru2 28 []))),[⟨0,1,true,some [[.c 3 (nL tV)]]⟩,⟨0,1,true,some [[.c 3 (nL tV)]]⟩,⟨0,0,true,some [[.o (.ptr 4 0 0 0)]]⟩,⟨0,0,true,some [[.o .nil]]⟩,⟨76,0,true,none⟩],λa H=>(⟨aIq a 3,aIq a 9,aIq a 10,aIq a 16⟩,⟨0,aIq a 17,hLq tV H 0 0 0,hLq tV H 1 0 0,elT H 4,0,[]⟩)⟩,⟨sUq::sPq 0::sUq::sIq::ru2 5 (sIq::sIq::ru2 5 (sIq::sIq::ru2 42 (.s (.o (.lit .i64 0))::sUq::sPq 1::.s (.o .nil)::.s (.o (.lit .i64 0))::sUq::sPq 2::sPq 3::ru2 28 []))),[⟨0,1,true,some [[.c 3 (nL tV)]]⟩,⟨0,1,true,some [[.c 3 (nL tV)]]⟩,⟨0,0,true,some [[.o (.ptr 4 0 0 0)]]⟩,⟨0,0,true,some [[.o (.sl 5 0 (some 0) none)]]⟩,⟨76,0,true,none⟩,⟨60,4,true,none⟩],λa H=>(⟨aIq a 3,aIq a 9,aIq a 10,aIq a 16⟩,⟨1,aIq a 17,hLq tV H 0 0 0,hLq tV H 1 0 0,elT H 4,slN (slT (rwT (elT H 3) 0) 0),elT H 5⟩)⟩],V2,[(some 2,λp s=>upq (cb8 p s) [(18,b (decide (s.H4<p.Ua2)))]),(some 2,λp s=>upq (cb9 p s) [(18,b (decide (s.H4<p.Ua2)))])],cc8⟩
theorem cc9:Sa1.OkM:=Lo.okM [Sa0.prM] (by kernel_rfl) (.cons cc7 .nil) rfl (.cons (λa H=>by kernel_rfl) (.cons (λa H=>by kernel_rfl) .nil)) λp s=>(.sel (Nat.beq s.ph 1) (.of @P8 (λF _ _ _ _ _=>by unfold P8;(repeat' apply r9 (f:=F))<;>rfl) (by kernel_rfl)) (.of @P7 (λF _ _ _ _ _=>by unfold P7;(repeat' apply r9 (f:=F))<;>rfl) (by kernel_rfl)))
structure S1 where
 is9:Int
structure z8 where
 ph:Nat
 v7:Int
 (c9 f0:List V3)
 eh4:List (List b7)
 A7:Nat
 eh5:List (List b7)
noncomputable def db0(p:S1)(s:z8):St:=⟨.unk::.ptr 0 0 0 0::ra 7 (i p.is9::i s.v7::ra 49 (i 0::.unk::.ptr 1 0 0 0::.v (.slice none 0 0)::i 0::.unk::.ptr 2 0 0 0::.ptr 3 0 0 0::ra 28 [])),[⟨0,1,[[eL tV s.c9]],true,false,0⟩,⟨0,1,[[eL tV s.f0]],true,false,0⟩,⟨0,0,[[.ptr 4 0 0 0]],true,false,0⟩,⟨0,0,[[.v (.slice none 0 0)]],true,false,0⟩,⟨76,0,s.eh4,true,false,0⟩]⟩
noncomputable def db1(p:S1)(s:z8):St:=⟨.unk::.ptr 0 0 0 0::ra 7 (i p.is9::i s.v7::ra 49 (i 0::.unk::.ptr 1 0 0 0::.v (.slice none 0 0)::i 0::.unk::.ptr 2 0 0 0::.ptr 3 0 0 0::ra 28 [])),[⟨0,1,[[eL tV s.c9]],true,false,0⟩,⟨0,1,[[eL tV s.f0]],true,false,0⟩,⟨0,0,[[.ptr 4 0 0 0]],true,false,0⟩,⟨0,0,[[.sl 5 0 s.A7 0]],true,false,0⟩,⟨76,0,s.eh4,true,false,0⟩,⟨60,4,s.eh5,true,false,0⟩]⟩
noncomputable def dc0(p:S1)(s:z8):St:=(sel (Nat.beq s.ph 1) (db1 p s) (db0 p s))
noncomputable def P9{α:Type}(k:z8->α)(e:Nat->α)(z:α)(p:S1)(s:z8):α:=let t1:=(lp (V2 (⟨s.v7,p.is9,s.v7,(↑(s.v7.toNat-0):Int)⟩:M6)) (⟨0,0,rt tV s.c9,rt tV s.f0,s.eh4,0,[]⟩:u7));(sl (decide (s.v7<p.is9)) (sl (inB s.v7 ((List.length s.c9)+1)) (sl ((cnE tV s.c9)&&((cnE tV s.f0)&&true)) (sl (Nat.beq t1.1 1) (k ⟨0,W (s.v7+1),t1.2.c9,t1.2.f0,t1.2.eh4,0,[]⟩) (sl (Nat.beq t1.1 2) (k ⟨1,W (s.v7+1),t1.2.c9,t1.2.f0,t1.2.eh4,t1.2.A7,t1.2.eh5⟩) z)) z) z) (e 1))
noncomputable def Q0{α:Type}(k:z8->α)(e:Nat->α)(z:α)(p:S1)(s:z8):α:=let t1:=(lp (V2 (⟨s.v7,p.is9,s.v7,(↑(s.v7.toNat-0):Int)⟩:M6)) (⟨1,0,rt tV s.c9,rt tV s.f0,s.eh4,s.A7,s.eh5⟩:u7));(sl (decide (s.v7<p.is9)) (sl (inB s.v7 ((List.length s.c9)+1)) (sl ((cnE tV s.c9)&&((cnE tV s.f0)&&true)) (sl (Nat.beq t1.1 1) (k ⟨0,W (s.v7+1),t1.2.c9,t1.2.f0,t1.2.eh4,0,[]⟩) (sl (Nat.beq t1.1 2) (k ⟨1,W (s.v7+1),t1.2.c9,t1.2.f0,t1.2.eh4,t1.2.A7,t1.2.eh5⟩) z)) z) z) (e 2))
noncomputable def ua3(p:S1)(s:z8):Stp z8:=(sel (Nat.beq s.ph 1) (Q0 .next .exit .fail p s) (P9 .next .exit .fail p s))
noncomputable def Sa2:Lo S1 z8:=⟨En Fa4,0,Yd9,[1,1,1,1,1,0,1,4,4,1,4,4],[1,9,10,60,62,63,64,66,67],.s .p (.s .p (.s (.b (.s .p (.s .p (.b (.u Sa1.lsM))))) .p)),[⟨sUq::sPq 0::ru2 7 (sIq::sIq::ru2 49 (.s (.o (.lit .i64 0))::sUq::sPq 1::.s (.o .nil)::.s (.o (.lit .i64 0))::sUq::sPq 2::sPq 3::ru2 28 [])),[⟨0,1,true,some [[.c 3 (nL tV)]]⟩,⟨0,1,true,some [[.c 3 (nL tV)]]⟩,⟨0,0,true,some [[.o (.ptr 4 0 0 0)]]⟩,⟨0,0,true,some [[.o .nil]]⟩,⟨76,0,true,none⟩],λa H=>(⟨aIq a 9⟩,⟨0,aIq a 10,hLq tV H 0 0 0,hLq tV H 1 0 0,elT H 4,0,[]⟩)⟩,⟨sUq::sPq 0::ru2 7 (sIq::sIq::ru2 49 (.s (.o (.lit .i64 0))::sUq::sPq 1::.s (.o .nil)::.s (.o (.lit .i64 0))::sUq::sPq 2::sPq 3::ru2 28 [])),[⟨0,1,true,some [[.c 3 (nL tV)]]⟩,⟨0,1,true,some [[.c 3 (nL tV)]]⟩,⟨0,0,true,some [[.o (.ptr 4 0 0 0)]]⟩,⟨0,0,true,some [[.o (.sl 5 0 (some 0) none)]]⟩,⟨76,0,true,none⟩,⟨60,4,true,none⟩],λa H=>(⟨aIq a 9⟩,⟨1,aIq a 10,hLq tV H 0 0 0,hLq tV H 1 0 0,elT H 4,slN (slT (rwT (elT H 3) 0) 0),elT H 5⟩)⟩],ua3,[(some 0,λp s=>upq (db0 p s) [(11,b (decide (s.v7<p.is9)))]),(some 0,λp s=>upq (db1 p s) [(11,b (decide (s.v7<p.is9)))])],dc0⟩
theorem dc1:Sa2.OkM:=Lo.okM [Sa1.prM] (by kernel_rfl) (.cons cc9 .nil) rfl (.cons (λa H=>by kernel_rfl) (.cons (λa H=>by kernel_rfl) .nil)) λp s=>(.sel (Nat.beq s.ph 1) (.of @Q0 (λF _ _ _ _ _=>by unfold Q0;(repeat' apply r9 (f:=F))<;>rfl) (by kernel_rfl)) (.of @P9 (λF _ _ _ _ _=>by unfold P9;(repeat' apply r9 (f:=F))<;>rfl) (by kernel_rfl)))
noncomputable def ha9(x:V3×List V3):Option (b7×List c8):=let t1:=(qa6 (rt tV (x.1::x.2)));let t2:=(Ja0 (hC tV (λk=>(tV).row (gL tV (x.1::x.2) k)),tC tV (List.length x.2) (λk=>(tV).row (gL tV (x.1::x.2) k))));let t3:=(lp (ua3 (⟨(↑(List.length t2):Int)⟩:S1)) (⟨0,0,rt tV t2,rt tV t2,[],0,[]⟩:z8));(sl (okE tV (x.1::x.2)) (sl (qa7 (rt tV (x.1::x.2))) (sl (t1 != 0) (some (.tup [.v (.slice none 0 0),i t1],[])) (sl (okL tV (List.length x.2+1) (λk=>(tV).row (gL tV (x.1::x.2) k))) (sl (Ja1 (hC tV (λk=>(tV).row (gL tV (x.1::x.2) k)),tC tV (List.length x.2) (λk=>(tV).row (gL tV (x.1::x.2) k)))) (sl ((cnE tV t2)&&((cnE tV t2)&&true)) (sl (Nat.beq t3.1 1) none (sl (Nat.beq t3.1 2) (sl (Bool.and (Nat.ble t3.2.A7 room) (Bool.and (Nat.ble t3.2.A7 (len t3.2.eh5)) (okS tP t3.2.eh5 0 t3.2.A7))) (some (.tup [.sl 0 0 t3.2.A7 0,i 0],[⟨60,4,app (bL tP (yb2 (slR tP t3.2.eh5 0 t3.2.A7))) (i5 t3.2.eh5 t3.2.A7),true,false,0⟩])) none) none)) none) none) none)) none) none)
noncomputable def Ma2(x:V3×List V3):List Pln×Int:=U8 (two (r1L tP) r1I) (ha9 x)
noncomputable def Ma3(x:V3×List V3):Bool:=okO (two (r1L tP) r1I) (ha9 x)
noncomputable def Lb7:Sum:=K9 (Uc1 tV) (λx=>.guard (Ma3 x) (.ret ((two (r1L tP) r1I).enc (Ma2 x),[])))
theorem zb1:i4 prog G 22 Lb7:=Ca3 (bd b22 qc7) (two (r1L tP) r1I) (o:=ha9) λx=>Dc9 (.s .p (.s .p (.s .p (.s .p (.s .p (.s (.s .p (.b (.i (.s .p (.b (.u Sa2.lsM)))))) .p)))))) [Sa2.prM] (by kernel_rfl) (.cons dc1 .nil) (by kernel_rfl)
end Go.Ev.Ce
