/- Own work. -/
import Derived.Test.YtkfaiccnekeklaaGreatChecked
import Derived.Test.YtkfaiccnekeklaaGreatEvOaCePf
import Derived.KernelRfl
set_option linter.all false
def Qha:=@List.getD_eq_getElem?_getD
def Qhb:=@List.getElem?_eq_getElem
def Qhc:=@List.drop_eq_getElem_cons
def Qhd:=@Eq.trans
def Qhe:=@Nat.le_refl
def Qhf:=@List.length_mergeSort
def Qhg:=@Bool.false_eq_true
namespace Go.Ev.Ce
open Go Go.Ev Go.Proofs
set_option maxRecDepth 1000000
theorem mx:(Tryz.prog).follows .mixedOrders=true:=Checked.mixed Tryz.checked
abbrev Bdq(n:Nat)(pf:PFn):Prop:=ld0 Tryz.prog n λE=>Ib9 E pf
theorem bdq{f:FuncId}{fn:Func}(hf:(Tryz.prog).funcs[f]?=some fn)(hn:decide (fn.name ≠ "runtime.NumGoroutine")=true:=by kernel_rfl)(hc:Option.isSome (g8 Tryz.prog fn)=true:=by kernel_rfl):Bdq f (got (g8 Tryz.prog fn)):=De7 mx hf hn (Nc3 hc)
theorem b3:Bdq 3 pf3:=bdq Tryz.func3
theorem b4:Bdq 4 pf4:=bdq Tryz.func4
theorem b5:Bdq 5 pf5:=bdq Tryz.func5
theorem b6:Bdq 6 pf6:=bdq Tryz.func6
theorem b8:Bdq 8 pf8:=bdq Tryz.func8
theorem b9:Bdq 9 pf9:=bdq Tryz.func9
theorem b11:ld0 Tryz.prog 11 λE=>jb6 E qe1:=Ld4 (h:=h11) mx Tryz.func11 (by kernel_rfl) Tryz.func30 (by kernel_rfl) (Nc3 (by kernel_rfl))
theorem b13:Bdq 13 De8:=bdq Tryz.func13
theorem b15:Bdq 15 De9:=bdq Tryz.func15
theorem b17:Bdq 17 Ee0:=bdq Tryz.func17
theorem b20:Bdq 20 Ee1:=bdq Tryz.func20
theorem b21:Bdq 21 Ee2:=bdq Tryz.func21
theorem b22:ld0 Tryz.prog 22 λE=>jb6 E be3:=Ld4 (h:=h22) mx Tryz.func22 (by kernel_rfl) Tryz.func76 (by kernel_rfl) (Nc3 (by kernel_rfl))
theorem b24:Bdq 24 Ee3:=bdq Tryz.func24
theorem b25:Bdq 25 ye2:=bdq Tryz.func25
theorem b26:Bdq 26 Ee4:=bdq Tryz.func26
theorem b27:Bdq 27 Ee5:=bdq Tryz.func27
theorem b28:Bdq 28 Ee6:=bdq Tryz.func28
theorem b29:Bdq 29 Ee7:=bdq Tryz.func29
theorem b30:Bdq 30 Ee8:=bdq Tryz.func30
theorem b31:Bdq 31 ye3:=bdq Tryz.func31
theorem b32:Bdq 32 Ee9:=bdq Tryz.func32
theorem b33:Bdq 33 ye4:=bdq Tryz.func33
theorem b34:Bdq 34 ye5:=bdq Tryz.func34
theorem b35:Bdq 35 Fe0:=bdq Tryz.func35
theorem b36:Bdq 36 Fe1:=bdq Tryz.func36
theorem b37:Bdq 37 ye6:=bdq Tryz.func37
theorem b38:Bdq 38 ye7:=bdq Tryz.func38
theorem b43:Bdq 43 ye8:=bdq Tryz.func43
theorem b44:Bdq 44 Fe2:=bdq Tryz.func44
theorem b45:Bdq 45 Fe3:=bdq Tryz.func45
theorem b46:Bdq 46 ye9:=bdq Tryz.func46
theorem b47:Bdq 47 Fe4:=bdq Tryz.func47
theorem b49:Bdq 49 Fe5:=bdq Tryz.func49
theorem b50:Bdq 50 Fe6:=bdq Tryz.func50
theorem b51:Bdq 51 Fe7:=bdq Tryz.func51
theorem b52:Bdq 52 Fe8:=bdq Tryz.func52
theorem b53:Bdq 53 Fe9:=bdq Tryz.func53
theorem b54:Bdq 54 Ge0:=bdq Tryz.func54
theorem b55:Bdq 55 ze0:=bdq Tryz.func55
theorem b56:Bdq 56 qe2:=bdq Tryz.func56
theorem b57:Bdq 57 ze1:=bdq Tryz.func57
theorem b58:Bdq 58 Ge1:=bdq Tryz.func58
theorem b59:Bdq 59 Ld5:=bdq Tryz.func59
theorem b61:Bdq 61 Ge2:=bdq Tryz.func61
theorem b69:Bdq 69 Ge3:=bdq Tryz.func69
theorem b70:Bdq 70 Ge4:=bdq Tryz.func70
theorem b71:ld0 Tryz.prog 71 λE=>jb6 E be4:=Ld4 (h:=h71) mx Tryz.func71 (by kernel_rfl) Tryz.func76 (by kernel_rfl) (Nc3 (by kernel_rfl))
theorem b72:Bdq 72 Ge5:=bdq Tryz.func72
theorem b74:Bdq 74 Ge6:=bdq Tryz.func74
theorem b75:Bdq 75 qe3:=bdq Tryz.func75
theorem b77:Bdq 77 Ge7:=bdq Tryz.func77
theorem b78:Bdq 78 Ge8:=bdq Tryz.func78
theorem b79:Bdq 79 Ge9:=bdq Tryz.func79
theorem b82:Bdq 82 qe4:=bdq Tryz.func82
theorem b83:Bdq 83 qe5:=bdq Tryz.func83
theorem b84:Bdq 84 He0:=bdq Tryz.func84
theorem b85:Bdq 85 He1:=bdq Tryz.func85
theorem b86:Bdq 86 He2:=bdq Tryz.func86
theorem b87:Bdq 87 He3:=bdq Tryz.func87
theorem b88:Bdq 88 Ld6:=bdq Tryz.func88
theorem b89:Bdq 89 ze2:=bdq Tryz.func89
theorem b90:Bdq 90 He4:=bdq Tryz.func90
theorem b91:Bdq 91 He5:=bdq Tryz.func91
theorem b94:Bdq 94 He6:=bdq Tryz.func94
theorem b96:Bdq 96 ze3:=bdq Tryz.func96
theorem b97:Bdq 97 He7:=bdq Tryz.func97
theorem b98:Bdq 98 He8:=bdq Tryz.func98
theorem He9:Bdq 109 ze4:=bdq Tryz.func109
theorem Ie0:Bdq 110 ke0:=bdq Tryz.func110
theorem Ie1:Bdq 111 ze5:=bdq Tryz.func111
theorem Ie2:Bdq 120 ze6:=bdq Tryz.func120
end Go.Ev.Ce
namespace Go.Ev.L
open Go Go.Ev
noncomputable def sb5:RT->PC->PS2
 |.s a b,.seq x y=>.seq (sb5 a x) (sb5 b y)
 |.c a b,.cond g x y=>.cond g (sb5 a x) (sb5 b y)
 |.b a,.block id x=>.block id (sb5 a x)
 |.i a,.inner f x n c=>.inner f x n (sb5 a c)
 |.u S,_=>.sum S
 |_,c=>.pc c
theorem Nc4{E:Env}{k:Nat}(rt:RT)(c:PC):Aa1 (λx=>∀s,R3 (x.1 s) (I6 E k x.2 s)) (zb2 rt c)->aa5 E k (sb5 rt c) c:=by
 induction rt generalizing c with
 |p=>intro h;cases c<;>exact .pc _
 |s a b iha ihb =>
  intro h;cases c with
  |seq x y=>exact .seq (iha x (Aa1.app h).1) (ihb y (Aa1.app h).2)
  |_=>exact .pc _
 |c a b iha ihb =>
  intro h;cases c with
  |cond g x y=>exact .cond g (iha x (Aa1.app h).1) (ihb y (Aa1.app h).2)
  |_=>exact .pc _
 |b a iha =>
  intro h;cases c with
  |block id x=>exact .block id (iha x h)
  |_=>exact .pc _
 |l a iha=>intro h;cases c<;>exact .pc _
 |i a iha =>
  intro h;cases c with
  |inner f x n c=>exact .inner f x n (iha c h)
  |_=>exact .pc _
 |u S =>
  intro h
  have:zb2 (.u S) c=[(S,c)]:=by cases c<;>rfl
  rw[this] at h;cases h with
  |cons h t =>
   have e:sb5 (.u S) c=.sum S:=by cases c<;>rfl
   rw[e];exact .sum h
section
variable{π σ:Type}{E:Env}{k:Nat}{keep:List Nat}{alts:List (Al2 π σ)}{enc:π->σ->St}{step:π->σ->Stp σ}{xs:Xs π σ}{body:PS2}{c:PC}
theorem rb6.belowM(hb:aa5 E k body c)(hN:E.N=rounds+1)(w:rb6 Yc9 k keep (Ub1 E k body) alts step xs enc)(s:St):R3 (Ec9 Yc9 k keep alts step xs s) (I6 E k (.loopM keep c) s):=λr hr=>by
 obtain⟨t,h1,h2⟩:=w.go hr;rw[kd9,hN];exact jb1 hb.le _ _ _ (xb1 h1 h2)
theorem rb6.belowML(hb:aa5 E k body c)(hN:E.N=rounds+1)(w:rb6 rb3 k keep (Ub1 E k body) alts step xs enc)(s:St):R3 (Ec9 rb3 k keep alts step xs s) (I6 E k (.loop keep c) s):=λr hr=>by
 obtain⟨t,h1,h2⟩:=w.go hr;rw[Ec8,hN];exact jb1 hb.le _ _ _ (xb1 h1 h2)
end
end Go.Ev.L
namespace Go.Ev.Ab
open Go Go.Ev
@[reducible] def o(d:Nat)(x:PO):PI:=⟨some d,none,[],x⟩
@[reducible] def s(x:PO):PI:=⟨none,none,[],x⟩
@[reducible] def ci(n:Int):Arg:=.c (.v (.int .i64 n))
@[reducible] def cb(b:Bool):Arg:=.c (.v (.bool b))
@[reducible] def vi(n:Int):b7:=.v (.int .i64 n)
@[reducible] def rep{α:Type}(n:Nat)(x:α):List α:=List.replicate n x
@[reducible] def ki(n:Nat):List CK:=List.replicate n (.int .i64)
@[reducible] def mv(d n:Nat):PI:=o d (.mv (.t n))
@[reducible] def mc(d:Nat)(n:Int):PI:=o d (.mv (ci n))
@[reducible] def mb(d:Nat)(x:Bool):PI:=o d (.mv (cb x))
@[reducible] def fd(d k n:Nat):PI:=o d (.fld k (.t n))
@[reducible] def lf(d k n:Nat):PI:=o d (.load (ki k) k false (.t n))
@[reducible] def ex(d x k:Nat):PI:=o d (.ext (.t x) k)
@[reducible] def ca(d f:Nat)(l:List Arg):PI:=o d (.call f l)
@[reducible] def gf(n:Nat)(x:PI):PI:=⟨x.dst,some (n,false),x.hide,x.op⟩
@[reducible] def so(l:List PI)(x:PC):PC:=.seq (.ops l) x
@[reducible] def sq(x y:PC):PC:=.seq x y
@[reducible] def ts(l:List Nat):List Arg:=l.map .t
@[reducible] def cl(f:Nat)(l:List Nat):PO:=.call f (ts l)
@[reducible] def sT(k a b:Nat):PI:=s (.store k (.t a) (.t b))
@[reducible] def pa(d c x:Nat):PI:=o d (.pick (.t c) (.t x) (cb false))
@[reducible] def po(d c x:Nat):PI:=o d (.pick (.t c) (cb true) (.t x))
@[reducible] def al(d k:Nat)(n:Int):PI:=o d (.alloc (rep k (vi n)))
@[reducible] def ap(d et es n x y:Nat):PI:=o d (.append et es n (.t x) (.t y))
end Go.Ev.Ab
namespace Go.Ev.L
open Go Go.Ev
def Cps{π σ:Type}(u:∀{α:Type},(σ->α)->(Nat->α)->α->π->σ->α):Prop :=
 ∀{α β:Type} (F:α->β) (k:σ->α) (e:Nat->α) (z:α) (p:π) (s:σ),F (u k e z p s)=u (λx=>F (k x)) (λt=>F (e t)) (F z) p s
@[reducible] noncomputable def foL{π σ:Type}(en:π->σ->St)(xs:Xs π σ)(p:π)(s:σ):Stp σ->Option (e8×St):=rb4 (λs'=>some (.normal,en p s')) (λt=>xOf xs p s t 1) none
structure Lo(π σ:Type) where
 E:Env
 k:Nat
 F:PFn
 at':List Nat
 kp:List Nat
 rt:RT
 al:List (Al2 π σ)
 st:π->σ->Stp σ
 xs:Xs π σ
 en:π->σ->St
namespace Lo
variable{π σ:Type}(L:Lo π σ)
noncomputable def lc:PC:=De5 L.at' L.F.body
noncomputable def ls:St->DT (e8×St):=Ec9 rb3 L.k L.kp L.al L.st L.xs
noncomputable def lsM:St->DT (e8×St):=Ec9 Yc9 L.k L.kp L.al L.st L.xs
noncomputable def pr:(St->DT (e8×St))×PC:=(L.ls,.loop L.kp L.lc)
noncomputable def prM:(St->DT (e8×St))×PC:=(L.lsM,.loopM L.kp L.lc)
def Ok:Prop:=∀s,W6 L.k L.F.res (L.pr.1 s) (I6 L.E L.k L.pr.2 s)
def OkE:Prop:=∀s,R3 (L.pr.1 s) (I6 L.E L.k L.pr.2 s)
def OkM:Prop:=∀s,R3 (L.prM.1 s) (I6 L.E L.k L.prM.2 s)
def Rd(hd:St->DT St)(bd:St->DT (e8×St))(p:π)(s:σ)(a:St)(b:Stp σ):Prop:=(jb2 hd bd a).run=foL L.en L.xs p s b
def H0:Prop:=∀p s,L.Rd (rb3 L.k L.kp) (pd8 L.E L.k L.F.res (yc7 L.rt L.lc)) p s (L.en p s) (L.st p s)
def H1:Prop:=∀p s,L.Rd (rb3 L.k L.kp) (Ub1 L.E L.k (sb5 L.rt L.lc)) p s (L.en p s) (L.st p s)
def H2:Prop:=∀p s,L.Rd (Yc9 L.k L.kp) (Ub1 L.E L.k (sb5 L.rt L.lc)) p s (L.en p s) (L.st p s)
def HA:Prop:=Aa1 (λx=>∀a H,(⟨yd8 x.sh a,yd9 x.bl H⟩:St)=L.en (x.rd a H).1 (x.rd a H).2) L.al
variable{L}
theorem Rd.of {hd : St → DT St} {bd : St → DT (e8 × St)} {p : π} {s : σ} {a : St} (u : ∀ {α : Type}, (σ → α) → (Nat → α) → α → π → σ → α)
  (q:Cps @u) (H:(jb2 hd bd a).run=u (λx=>foL L.en L.xs p s (.next x)) (λt=>foL L.en L.xs p s (.exit t)) (foL L.en L.xs p s .fail) p s):L.Rd hd bd p s a (u .next .exit .fail p s) :=
 H.trans (q (foL L.en L.xs p s) Stp.next Stp.exit Stp.fail p s).symm
theorem Rd.sel{hd:St->DT St}{bd:St->DT (e8×St)}{p:π}{s:σ}{a1 a0:St}{b1 b0:Stp σ}(c:Bool)(h1:L.Rd hd bd p s a1 b1)(h0:L.Rd hd bd p s a0 b0):L.Rd hd bd p s (sel c a1 a0) (sel c b1 b0):=by
 cases c with
 |true=>exact h1
 |false=>exact h0
theorem ok(l:List ((St->DT (e8×St))×PC))(hs:zb2 L.rt L.lc=l)(hl:Aa1 (λx=>∀s,W6 L.k L.F.res (x.1 s) (I6 L.E L.k x.2 s)) l)(hN:L.E.N=rounds+1)(ha:L.HA)(h:L.H0):L.Ok :=
 rb6.belowC (qd8 _ _ (by rw[hs];exact hl)) hN ⟨ha,h⟩
theorem okE(l:List ((St->DT (e8×St))×PC))(hs:zb2 L.rt L.lc=l)(hl:Aa1 (λx=>∀s,R3 (x.1 s) (I6 L.E L.k x.2 s)) l)(hN:L.E.N=rounds+1)(ha:L.HA)(h:L.H1):L.OkE :=
 rb6.belowML (Nc4 _ _ (by rw[hs];exact hl)) hN ⟨ha,h⟩
theorem okM(l:List ((St->DT (e8×St))×PC))(hs:zb2 L.rt L.lc=l)(hl:Aa1 (λx=>∀s,R3 (x.1 s) (I6 L.E L.k x.2 s)) l)(hN:L.E.N=rounds+1)(ha:L.HA)(h:L.H2):L.OkM :=
 rb6.belowM (Nc4 _ _ (by rw[hs];exact hl)) hN ⟨ha,h⟩
end Lo
theorem bb3 {E : Env} {F : PFn} {args : List b7} {blks : List c8} {o : Option (b7 × List c8)} (rt : RT) (l : List ((St → DT (e8 × St)) × PC)) (hs : zb2 rt F.body = l)
  (hl:Aa1 (λx=>∀s,W6 (len blks) F.res (x.1 s) (I6 E (len blks) x.2 s)) l) (h:(xe2 E F (yc7 rt F.body) args blks).run=o) (r:b7×List c8) (hr:o=some r):(Ib9 E F args blks).run=some r :=
 id9 (qd8 rt _ (by rw[hs];exact hl)) r (h.trans hr)
theorem Gc0 {E : Env} {F : PFn} {args : List b7} {blks : List c8} {o : Option (b7 × List c8)} (rt : RT) (l : List ((St → DT (e8 × St)) × PC)) (hs : zb2 rt F.body = l)
  (hl:Aa1 (λx=>∀s,R3 (x.1 s) (I6 E (len blks) x.2 s)) l) (h:(je9 E F (sb5 rt F.body) args blks).run=o) (r:b7×List c8) (hr:o=some r):(jb6 E F args blks).run=some r :=
 Yc8 (Nc4 rt _ (by rw[hs];exact hl)) r (h.trans hr)
theorem A6{A o:Option (b7×List c8)}(h:A=o)(r:b7×List c8)(hr:o=some r):A=some r:=h.trans hr
noncomputable abbrev upq(x:St)(l:List (Nat×b7)):St:=⟨l.foldl (λa q=>a.set q.1 q.2) x.a,x.H⟩
noncomputable abbrev sIq:S2:=.s (.o (.int .i64))
noncomputable abbrev sUq:S2:=.s (.o .unk)
noncomputable abbrev sBq:S2:=.s (.o .bool)
noncomputable abbrev sPq(n:Nat):S2:=.s (.o (.ptr n 0 0 0))
noncomputable abbrev sTq(n:Nat):S2:=.s (.o (.tree n))
noncomputable abbrev sLq{α:Type}(t:Ty α):S2:=.s (.c t.es (nL t))
noncomputable abbrev kLq(n:Nat):List K:=List.replicate n (.o (.int .i64))
noncomputable abbrev aIq(a:List b7)(n:Nat):Int:=toI (slT a n)
noncomputable abbrev aBq(a:List b7)(n:Nat):Bool:=toB (slT a n)
noncomputable abbrev aNq(a:List b7)(n:Nat):Nat:=toN (slT a n)
noncomputable abbrev aGq(a:List b7)(n:Nat):Nat->List b7:=toG (slT a n)
noncomputable abbrev aLq{α:Type}(t:Ty α)(a:List b7)(n:Nat):List α:=rL t (slT a n)
noncomputable abbrev hIq(H:List c8)(m r n:Nat):Int:=toI (slT (rwT (elT H m) r) n)
noncomputable abbrev cIq(a:List b7)(m n:Nat):Int:=toI (slT (cellsOf (slT a m)) n)
noncomputable abbrev cNq(a:List b7)(m n:Nat):Nat:=toN (slT (cellsOf (slT a m)) n)
noncomputable abbrev cGq(a:List b7)(m n:Nat):Nat->List b7:=toG (slT (cellsOf (slT a m)) n)
noncomputable abbrev hNq(H:List c8)(m r n:Nat):Nat:=toN (slT (rwT (elT H m) r) n)
noncomputable abbrev hGq(H:List c8)(m r n:Nat):Nat->List b7:=toG (slT (rwT (elT H m) r) n)
noncomputable abbrev hLq{α:Type}(t:Ty α)(H:List c8)(m r n:Nat):List α:=rL t (slT (rwT (elT H m) r) n)
end Go.Ev.L
namespace Go.Ev.Ce
structure V3 where
 x:Int
 y:Int
 z:Int
structure Pln where
 n:V3
 b:Int
structure Pt where
 px:Int
 py:Int
 pz:Int
 pw:Int
def c7(a b:V3):V3:=⟨a.y*b.z-a.z*b.y,a.z*b.x-a.x*b.z,a.x*b.y-a.y*b.x⟩
def dot(a b:V3):Int:=a.x*b.x+a.y*b.y+a.z*b.z
def mw(p q r:Pln):Int:=dot p.n (c7 q.n r.n)
end Go.Ev.Ce
namespace Go.Ev.Ce
open Go Go.Ev Go.Ev.L Go.Proofs
@[reducible] noncomputable def prog:Program:=Tryz.prog
noncomputable def G:Nat->List Value:=λ_=>[]
noncomputable def En(l:List (Nat×Sum)):Env:={ P:=prog,G,fns:=λ_=>none,call:=ne7 l,own:=λf j=>Bool.and (Ia2 f [48,57,82,88,73,75]) (Nat.beq j 0),N:=18446744073709551616 }
@[reducible] def u:b7:=.v (.tuple #[])
theorem ze7{l:List (Nat×Sum)}(h:k8 prog G l):∀f,i5 (En l).P (En l).G f ((En l).call f):=pd6 h
theorem bd{l:List (Nat×Sum)}{f:FuncId}{R:Env->Sum}(b:ld0 prog f R)(h:k8 prog G l):i5 prog G f (R (En l)):=b rfl (ze7 h)
noncomputable def tV:Ty V3 where
 es:=3
 row x:=[i x.x,i x.y,i x.z]
 rd r:=⟨toI (hdA r),toI (hdA (tlA r)),toI (hdA (tlA (tlA r)))⟩
 ok r:=xa1 3 r
 cks:=List.replicate 3 (.int .i64)
 d:=⟨0,0,0⟩
 h0 _:=rfl
 h1 _:=rfl
 h2 _:=rfl
 h3 _ h:=.of (Qa6 h)
 h4 _:=rfl
 h5 _:=rfl
noncomputable def r1V:R1 V3:=r1A tV 3 λ_ h=>h
noncomputable def tP:Ty Pln where
 es:=4
 row x:=[i x.n.x,i x.n.y,i x.n.z,i x.b]
 rd r:=⟨⟨toI (hdA r),toI (hdA (tlA r)),toI (hdA (tlA (tlA r)))⟩,toI (hdA (tlA (tlA (tlA r))))⟩
 ok r:=xa1 4 r
 cks:=List.replicate 4 (.int .i64)
 d:=⟨⟨0,0,0⟩,0⟩
 h0 _:=rfl
 h1 _:=rfl
 h2 _:=rfl
 h3 _ h:=.of (Qa6 h)
 h4 _:=rfl
 h5 _:=rfl
noncomputable def r1P:R1 Pln:=r1A tP 4 λ_ h=>h
structure Tp where
 p:Pln
 q:Pln
 r:Pln
structure Q2 where
 a:V3
 b:V3
set_option maxRecDepth 100000
noncomputable def ld1:List (Nat×Sum):=[]
theorem Zc0:k8 prog G ld1:=trivial
noncomputable def Ea6(x:V3)(y:V3):Int:=(W ((W ((W (x.x*y.x))+(W (x.y*y.y))))+(W (x.z*y.z))))
noncomputable def Ub2:Sum:=za1 (Z4 tV) (Z4 tV) (λx y=>.ret ((one r1I).enc (Ea6 x y),[]))
theorem qc4:i5 prog G 86 Ub2:=Ya7 (bd b86 Zc0) λx y=>A6 (by kernel_rfl)
noncomputable def Nc5:List (Nat×Sum):=[]
theorem zc0:k8 prog G Nc5:=trivial
noncomputable def Ia5(x:V3)(y:V3):V3:=(⟨W ((W (x.y*y.z))-(W (x.z*y.y))),W ((W (x.z*y.x))-(W (x.x*y.z))),W ((W (x.x*y.y))-(W (x.y*y.x)))⟩:V3)
noncomputable def bc3:Sum:=za1 (Z4 tV) (Z4 tV) (λx y=>.ret ((one r1V).enc (Ia5 x y),[]))
theorem Nc6:i5 prog G 90 bc3:=Ya7 (bd b90 zc0) λx y=>A6 (by kernel_rfl)
noncomputable def Za0:List (Nat×Sum):=[]
theorem Gb6:k8 prog G Za0:=trivial
@[reducible] noncomputable def ra7:Sum:=Ib9 (En Za0) ke0
theorem Aa4:i5 prog G 110 ra7:=bd Ie0 Gb6
noncomputable def dc8:List (Nat×Sum):=[]
theorem Ub3:k8 prog G dc8:=trivial
noncomputable def oa3(x:Int):Option (b7×List c8):=(sl (decide (x<0)) (some (i (W (0-x)),[])) (some (i x,[])))
noncomputable def ga4(x:Int):Int:=V1 (one r1I) (oa3 x)
noncomputable def ga5(x:Int):Bool:=okO (one r1I) (oa3 x)
noncomputable def sb6:Sum:=L4 cI (λx=>.guard (ga5 x) (.ret ((one r1I).enc (ga4 x),[])))
theorem dc9:i5 prog G 111 sb6:=Ea5 (bd Ie1 Ub3) (one r1I) (o:=oa3) λx=>A6 (by kernel_rfl)
noncomputable def bc4:List (Nat×Sum):=[(111,sb6),(110,ra7)]
theorem Nc7:k8 prog G bc4:=⟨dc9,Aa4,trivial⟩
structure ca5 where
 (is6 d9 d8 f7 ja2 ja3 ja4:Int)
structure L8 where
 (is5 is7:Int)
noncomputable def Bb0(p:ca5)(s:L8):St:=⟨.unk::.ptr 0 0 0 0::.ptr 1 0 0 0::.unk::.ptr 2 0 0 0::i s.is5::i p.is6::i s.is7::ra 38 [],[⟨0,3,[[i p.d9,i p.d8,i p.f7]],true,false,0⟩,⟨0,3,[[i 0,i 0,i 0]],true,false,0⟩,⟨0,3,[[i p.ja2,i p.ja3,i p.ja4]],true,false,0⟩]⟩
noncomputable def oa4{α:Type}(k:L8->α)(e:Nat->α)(z:α)(p:ca5)(s:L8):α:=(sl (decide (s.is7>0)) (sl (s.is7==0) z (k ⟨s.is7,Int.tmod s.is5 s.is7⟩)) (e 1))
noncomputable def Y0(p:ca5)(s:L8):Stp L8:=oa4 .next .exit .fail p s
noncomputable def jb9:Lo ca5 L8:=⟨En bc4,0,ze2,[1,1,1,0,1,4,4,1,0,4,1,1,4,4],[1,2,4,5,6,7],.p,[⟨sUq::sPq 0::sPq 1::sUq::sPq 2::sIq::sIq::sIq::ru2 38 [],[⟨0,3,true,some [kLq 3]⟩,⟨0,3,true,some [[.o (.lit .i64 0),.o (.lit .i64 0),.o (.lit .i64 0)]]⟩,⟨0,3,true,some [kLq 3]⟩],λa H=>(⟨aIq a 6,hIq H 0 0 0,hIq H 0 0 1,hIq H 0 0 2,hIq H 2 0 0,hIq H 2 0 1,hIq H 2 0 2⟩,⟨aIq a 5,aIq a 7⟩)⟩],Y0,[(some 2,λp s=>upq (Bb0 p s) [(23,i s.is7),(24,b (decide (s.is7>0)))])],Bb0⟩
theorem zc1:jb9.Ok:=Lo.ok [] (by kernel_rfl) .nil rfl (.cons (λa H=>by kernel_rfl) .nil) λp s=>(.of @oa4 (λF _ _ _ _ _=>by unfold oa4;(repeat' apply q8 (f:=F))<;>rfl) (by kernel_rfl))
noncomputable def Sa9(x:V3):Option (b7×List c8):=let t1:=(ga4 x.x);let t2:=(lp (Y0 (⟨0,x.x,x.y,x.z,x.x,x.y,x.z⟩:ca5)) (⟨0,t1⟩:L8));let t3:=(ga4 x.y);let t4:=(lp (Y0 (⟨1,x.x,x.y,x.z,x.x,x.y,x.z⟩:ca5)) (⟨t2.2.is5,t3⟩:L8));let t5:=(ga4 x.z);let t6:=(lp (Y0 (⟨2,x.x,x.y,x.z,x.x,x.y,x.z⟩:ca5)) (⟨t4.2.is5,t5⟩:L8));(sl (x.x==(-9223372036854775808)) (some (.tup [.agg [i 0,i 0,i 0],i 0],[])) (sl (ga5 x.x) (sl (Nat.beq t2.1 1) (sl (x.y==(-9223372036854775808)) (some (.tup [.agg [i 0,i 0,i 0],i 0],[])) (sl (ga5 x.y) (sl (Nat.beq t4.1 1) (sl (x.z==(-9223372036854775808)) (some (.tup [.agg [i 0,i 0,i 0],i 0],[])) (sl (ga5 x.z) (sl (Nat.beq t6.1 1) (sl (t6.2.is5==0) (some (.tup [.agg [i 0,i 0,i 0],i 0],[])) (sl (t6.2.is5==0) none (sl (t6.2.is5==0) none (sl (t6.2.is5==0) none (some (.tup [.agg [i (W (Int.tdiv x.x t6.2.is5)),i (W (Int.tdiv x.y t6.2.is5)),i (W (Int.tdiv x.z t6.2.is5))],i t6.2.is5],[])))))) none) none)) none) none)) none) none))
noncomputable def xa3(x:V3):V3×Int:=V1 (two r1V r1I) (Sa9 x)
noncomputable def Ta0(x:V3):Bool:=okO (two r1V r1I) (Sa9 x)
noncomputable def Gb7:Sum:=L4 (Z4 tV) (λx=>.guard (Ta0 x) (.ret ((two r1V r1I).enc (xa3 x),[])))
theorem bc5:i5 prog G 89 Gb7:=Ea5 (bd b89 Nc7) (two r1V r1I) (o:=Sa9) λx=>bb3 (.s .p (.s .p (.s .p (.s (.s .p (.b (.l (.s .p (.s (.b (.s .p (.s .p (.b (.u jb9.ls))))) .p))))) .p)))) [jb9.pr] (by kernel_rfl) (.cons zc1 .nil) (by kernel_rfl)
noncomputable def Nc8:List (Nat×Sum):=[(89,Gb7),(110,ra7)]
theorem zc2:k8 prog G Nc8:=⟨bc5,Aa4,trivial⟩
noncomputable def Ia6(x:Pln):Option (b7×List c8):=let t1:=(xa3 x.n);(sl (decide (x.n.x<(-4608))) (some (b false,[])) (sl (decide (x.n.x>4608)) (some (b false,[])) (sl (decide (x.n.y<(-4608))) (some (b false,[])) (sl (decide (x.n.y>4608)) (some (b false,[])) (sl (decide (x.n.z<(-4608))) (some (b false,[])) (sl (decide (x.n.z>4608)) (some (b false,[])) (sl (Ta0 x.n) (sl (t1.2==1) (sl (decide (x.b>=(-2097152))) (some (b (decide (x.b<=2097152)),[])) (some (b false,[]))) (some (b false,[]))) none)))))))
noncomputable def Za1(x:Pln):Bool:=V1 (one r1B) (Ia6 x)
noncomputable def Za2(x:Pln):Bool:=okO (one r1B) (Ia6 x)
noncomputable def bc6:Sum:=L4 (Z4 tP) (λx=>.guard (Za2 x) (.ret ((one r1B).enc (Za1 x),[])))
theorem Nc9:i5 prog G 84 bc6:=Ea5 (bd b84 zc2) (one r1B) (o:=Ia6) λx=>A6 (by kernel_rfl)
noncomputable def ld2:List (Nat×Sum):=[]
theorem Zc1:k8 prog G ld2:=trivial
noncomputable def eb9(x:Int)(y:Int):Option (b7×List c8):=(sl (decide (y<1)) (some (i 0,[])) (sl (y==0) none (sl (y==0) none (some (i (Int.tmod (W ((Int.tmod x y)+y)) y),[])))))
noncomputable def xb7(x:Int)(y:Int):Int:=V1 (one r1I) (eb9 x y)
noncomputable def xb8(x:Int)(y:Int):Bool:=okO (one r1I) (eb9 x y)
noncomputable def Gc1:Sum:=za1 cI cI (λx y=>.guard (xb8 x y) (.ret ((one r1I).enc (xb7 x y),[])))
theorem ld3:i5 prog G 28 Gc1:=Lb5 (bd b28 Zc1) (one r1I) (o:=eb9) λx y=>A6 (by kernel_rfl)
noncomputable def Oc0:List (Nat×Sum):=[]
theorem zc3:k8 prog G Oc0:=trivial
noncomputable def w9(x:V3)(y:V3):Int:=(W ((W ((W (x.x*y.x))+(W (x.y*y.y))))+(W (x.z*y.z))))
noncomputable def oa5:Sum:=za1 (Z4 tV) (Z4 tV) (λx y=>.ret ((one r1I).enc (w9 x y),[]))
theorem ra8:i5 prog G 35 oa5:=Ya7 (bd b35 zc3) λx y=>A6 (by kernel_rfl)
noncomputable def qc5:List (Nat×Sum):=[]
theorem ec0:k8 prog G qc5:=trivial
noncomputable def A3(x:V3)(y:V3):V3:=(⟨W ((W (x.y*y.z))-(W (x.z*y.y))),W ((W (x.z*y.x))-(W (x.x*y.z))),W ((W (x.x*y.y))-(W (x.y*y.x)))⟩:V3)
noncomputable def la8:Sum:=za1 (Z4 tV) (Z4 tV) (λx y=>.ret ((one r1V).enc (A3 x y),[]))
theorem oa6:i5 prog G 36 la8:=Ya7 (bd b36 ec0) λx y=>A6 (by kernel_rfl)
noncomputable def mb7:List (Nat×Sum):=[]
theorem Ub4:k8 prog G mb7:=trivial
structure ga6 where
 is0:Int
 vd5:List Int
 is8:Int
structure G7 where
 is9:Int
noncomputable def Za3(p:ga6)(s:G7):St:=⟨i p.is0::ra 6 (eL tI p.vd5::i p.is8::i s.is9::ra 13 []),[]⟩
noncomputable def Z5{α:Type}(k:G7->α)(e:Nat->α)(z:α)(p:ga6)(s:G7):α:=(sl (decide (s.is9<p.is8)) (sl (inB s.is9 (List.length p.vd5)) (sl (decide ((gL tI p.vd5 s.is9.toNat)<(W (0-p.is0)))) (e 1) (sl (decide ((gL tI p.vd5 s.is9.toNat)>p.is0)) (e 1) (k ⟨W (s.is9+1)⟩))) z) (e 2))
noncomputable def ca6(p:ga6)(s:G7):Stp G7:=Z5 .next .exit .fail p s
noncomputable def Ea7:Lo ga6 G7:=⟨En mb7,0,ye8,[1,0,1,4,4],[0,7,8,9],.p,[⟨sIq::ru2 6 (sLq tI::sIq::sIq::ru2 13 []),[],λa H=>(⟨aIq a 0,aLq tI a 7,aIq a 8⟩,⟨aIq a 9⟩)⟩],ca6,[(none,λp s=>⟨[b false],[]⟩),(some 0,λp s=>upq (Za3 p s) [(10,b (decide (s.is9<p.is8)))])],Za3⟩
theorem Mb8:Ea7.Ok:=Lo.ok [] (by kernel_rfl) .nil rfl (.cons (λa H=>by kernel_rfl) .nil) λp s=>(.of @Z5 (λF _ _ _ _ _=>by unfold Z5;(repeat' apply q8 (f:=F))<;>rfl) (by kernel_rfl))
noncomputable def oa7(x:Int)(y:List Int):Option (b7×List c8):=let t1:=(lp (ca6 (⟨x,rt tI y,(↑(List.length y):Int)⟩:ga6)) (⟨0⟩:G7));(sl ((cnE tI y)&&true) (sl (Nat.beq t1.1 1) (some (b false,[])) (sl (Nat.beq t1.1 2) (some (b true,[])) none)) none)
noncomputable def ga7(x:Int)(y:List Int):Bool:=V1 (one r1B) (oa7 x y)
noncomputable def ga8(x:Int)(y:List Int):Bool:=okO (one r1B) (oa7 x y)
noncomputable def Ta1:Sum:=za1 cI (xa0 tI) (λx y=>.guard (ga8 x y) (.ret ((one r1B).enc (ga7 x y),[])))
theorem mb8:i5 prog G 43 Ta1:=Lb5 (bd b43 Ub4) (one r1B) (o:=oa7) λx y=>bb3 (.s .p (.s (.s .p (.b (.u Ea7.ls))) .p)) [Ea7.pr] (by kernel_rfl) (.cons Mb8 .nil) (by kernel_rfl)
noncomputable def Mb9:List (Nat×Sum):=[]
theorem Gb8:k8 prog G Mb9:=trivial
noncomputable def ra9(x:Int):Int:=(if (W (0-x))>x then (W (0-x)) else x)
noncomputable def fb0:Sum:=L4 cI (λx=>.ret ((one r1I).enc (ra9 x),[]))
theorem Nb0:i5 prog G 109 fb0:=xb2 (bd He9 Gb8) λx=>A6 (by kernel_rfl)
noncomputable def Ea8:List (Nat×Sum):=[(109,fb0)]
theorem Nb1:k8 prog G Ea8:=⟨Nb0,trivial⟩
structure T0 where
 ab3:List Int
 (is7 is8:Int)
structure I9 where
 (is3 is5:Int)
noncomputable def Ta2(p:T0)(s:I9):St:=⟨ra 3 (i s.is3::.unk::i s.is5::eL tI p.ab3::i p.is7::i p.is8::ra 15 []),[]⟩
noncomputable def V9{α:Type}(k:I9->α)(e:Nat->α)(z:α)(p:T0)(s:I9):α:=(sl (decide (s.is5>0)) (sl (s.is5==0) z (k ⟨s.is5,Int.tmod s.is3 s.is5⟩)) (e 1))
noncomputable def P4(p:T0)(s:I9):Stp I9:=V9 .next .exit .fail p s
noncomputable def Aa5:Lo T0 I9:=⟨En Ea8,0,qe5,[1,1,0,1,4,4,1,1,0,4,1,1,1,4,4],[3,5,6,7,8],.p,[⟨ru2 3 (sIq::sUq::sIq::sLq tI::sIq::sIq::ru2 15 []),[],λa H=>(⟨aLq tI a 6,aIq a 7,aIq a 8⟩,⟨aIq a 3,aIq a 5⟩)⟩],P4,[(some 2,λp s=>upq (Ta2 p s) [(16,i s.is5),(17,b (decide (s.is5>0)))])],Ta2⟩
theorem Gb9:Aa5.Ok:=Lo.ok [] (by kernel_rfl) .nil rfl (.cons (λa H=>by kernel_rfl) .nil) λp s=>(.of @V9 (λF _ _ _ _ _=>by unfold V9;(repeat' apply q8 (f:=F))<;>rfl) (by kernel_rfl))
structure ca7 where
 is7:Int
structure C6 where
 is3:Int
 ab3:List Int
 is8:Int
noncomputable def Ta3(p:ca7)(s:C6):St:=⟨ra 3 (i s.is3::.unk::.unk::eL tI s.ab3::i p.is7::i s.is8::ra 15 []),[]⟩
noncomputable def W0{α:Type}(k:C6->α)(e:Nat->α)(z:α)(p:ca7)(s:C6):α:=let t1:=(ra9 (gL tI s.ab3 s.is8.toNat));let t2:=(lp (P4 (⟨rt tI s.ab3,p.is7,s.is8⟩:T0)) (⟨s.is3,t1⟩:I9));(sl (decide (s.is8<p.is7)) (sl (inB s.is8 (List.length s.ab3)) (sl ((gL tI s.ab3 s.is8.toNat)==(-9223372036854775808)) (e 1) (sl ((cnE tI s.ab3)&&true) (sl (Nat.beq t2.1 1) (k ⟨t2.2.is3,rt tI s.ab3,W (s.is8+1)⟩) z) z)) z) (e 2))
noncomputable def Z6(p:ca7)(s:C6):Stp C6:=W0 .next .exit .fail p s
noncomputable def Aa6:Lo ca7 C6:=⟨En Ea8,0,qe5,[1,1,0,1,4,4],[3,6,7,8],.s .p (.s .p (.s (.b (.s .p (.s .p (.s .p (.b (.u Aa5.ls)))))) .p)),[⟨ru2 3 (sIq::sUq::sUq::sLq tI::sIq::sIq::ru2 15 []),[],λa H=>(⟨aIq a 7⟩,⟨aIq a 3,aLq tI a 6,aIq a 8⟩)⟩],Z6,[(none,λp s=>⟨[i 0],[]⟩),(some 0,λp s=>upq (Ta3 p s) [(9,b (decide (s.is8<p.is7)))])],Ta3⟩
theorem Hb0:Aa6.Ok:=Lo.ok [Aa5.pr] (by kernel_rfl) (.cons Gb9 .nil) rfl (.cons (λa H=>by kernel_rfl) .nil) λp s=>(.of @W0 (λF _ _ _ _ _=>by unfold W0;(repeat' apply q8 (f:=F))<;>rfl) (by kernel_rfl))
noncomputable def ja7(x:List Int):Option (b7×List c8):=let t1:=(lp (Z6 (⟨(↑(List.length x):Int)⟩:ca7)) (⟨0,rt tI x,0⟩:C6));(sl ((cnE tI x)&&true) (sl (Nat.beq t1.1 1) (some (i 0,[])) (sl (Nat.beq t1.1 2) (some (i t1.2.is3,[])) none)) none)
noncomputable def V2(x:List Int):Int:=V1 (one r1I) (ja7 x)
noncomputable def V4(x:List Int):Bool:=okO (one r1I) (ja7 x)
noncomputable def Ka4:Sum:=L4 (xa0 tI) (λx=>.guard (V4 x) (.ret ((one r1I).enc (V2 x),[])))
theorem fb1:i5 prog G 83 Ka4:=Ea5 (bd b83 Nb1) (one r1I) (o:=ja7) λx=>bb3 (.s .p (.s .p (.s (.s .p (.b (.u Aa6.ls))) .p))) [Aa6.pr] (by kernel_rfl) (.cons Hb0 .nil) (by kernel_rfl)
noncomputable def qc6:List (Nat×Sum):=[(43,Ta1),(83,Ka4)]
theorem ec1:k8 prog G qc6:=⟨mb8,fb1,trivial⟩
noncomputable def ta8(x:Pln):Option (b7×List c8):=let t1:=(ga7 4608 [x.n.x,x.n.y,x.n.z]);let t2:=(V2 [x.n.x,x.n.y,x.n.z]);let t3:=(ga7 2097152 [x.b]);(sl (ga8 4608 [x.n.x,x.n.y,x.n.z]) (sl t1 (sl (V4 [x.n.x,x.n.y,x.n.z]) (sl (t2==1) (sl (ga8 2097152 [x.b]) (some (b t3,[])) none) (some (b false,[]))) none) (some (b false,[]))) none)
noncomputable def Ga6(x:Pln):Bool:=V1 (one r1B) (ta8 x)
noncomputable def Ga7(x:Pln):Bool:=okO (one r1B) (ta8 x)
noncomputable def Bb1:Sum:=L4 (Z4 tP) (λx=>.guard (Ga7 x) (.ret ((one r1B).enc (Ga6 x),[])))
theorem qc7:i5 prog G 52 Bb1:=Ea5 (bd b52 ec1) (one r1B) (o:=ta8) λx=>A6 (by kernel_rfl)
noncomputable def qc8:List (Nat×Sum):=[]
theorem ec2:k8 prog G qc8:=trivial
noncomputable def ta9(x:Int)(y:Int):Option (b7×List c8):=(sl (decide (x<y)) (some (i (-1),[])) (sl (decide (x>y)) (some (i 1,[])) (some (i 0,[]))))
noncomputable def Y1(x:Int)(y:Int):Int:=V1 (one r1I) (ta9 x y)
noncomputable def Y2(x:Int)(y:Int):Bool:=okO (one r1I) (ta9 x y)
noncomputable def bb4:Sum:=za1 cI cI (λx y=>.guard (Y2 x y) (.ret ((one r1I).enc (Y1 x y),[])))
theorem sb7:i5 prog G 53 bb4:=Lb5 (bd b53 ec2) (one r1I) (o:=ta9) λx y=>A6 (by kernel_rfl)
noncomputable def Ub5:List (Nat×Sum):=[(53,bb4)]
theorem Nb2:k8 prog G Ub5:=⟨sb7,trivial⟩
noncomputable def ja8(x:Pln)(y:Pln):Option (b7×List c8):=let t1:=(Y1 x.n.x y.n.x);let t2:=(Y1 x.n.y y.n.y);let t3:=(Y1 x.n.z y.n.z);let t4:=(Y1 x.b y.b);(sl (Y2 x.n.x y.n.x) (sl (t1==0) (sl (Y2 x.n.y y.n.y) (sl (t2==0) (sl (Y2 x.n.z y.n.z) (sl (t3==0) (sl (Y2 x.b y.b) (sl (t4==0) (some (i t4,[])) (some (i t4,[]))) none) (some (i t3,[]))) none) (some (i t2,[]))) none) (some (i t1,[]))) none)
noncomputable def va4(x:Pln)(y:Pln):Int:=V1 (one r1I) (ja8 x y)
noncomputable def va5(x:Pln)(y:Pln):Bool:=okO (one r1I) (ja8 x y)
noncomputable def Ka5:Sum:=za1 (Z4 tP) (Z4 tP) (λx y=>.guard (va5 x y) (.ret ((one r1I).enc (va4 x y),[])))
theorem Ub6:i5 prog G 49 Ka5:=Lb5 (bd b49 Nb2) (one r1I) (o:=ja8) λx y=>A6 (by kernel_rfl)
noncomputable def Zc2:List (Nat×Sum):=[(43,Ta1)]
theorem Oc1:k8 prog G Zc2:=⟨mb8,trivial⟩
noncomputable def Ta4(x:V3):Option (b7×List c8):=let t1:=(ga7 24 [x.x,x.y,x.z]);(sl (ga8 24 [x.x,x.y,x.z]) (some (b t1,[])) none)
noncomputable def ia2(x:V3):Bool:=V1 (one r1B) (Ta4 x)
noncomputable def ia3(x:V3):Bool:=okO (one r1B) (Ta4 x)
noncomputable def Ta5:Sum:=L4 (Z4 tV) (λx=>.guard (ia3 x) (.ret ((one r1B).enc (ia2 x),[])))
theorem Za4:i5 prog G 20 Ta5:=Ea5 (bd b20 Oc1) (one r1B) (o:=Ta4) λx=>A6 (by kernel_rfl)
end Go.Ev.Ce
namespace Go.Proofs
open Go.Shelf
set_option maxRecDepth 100000 in
def Ce.sortLay_ren:Go.Shelf.Ren:=⟨fun | 6=>48 | 15=>81 | 14=>80 | 28=>107 | 29=>108 | 20=>99 | 21=>100 | 22=>101 | 23=>102 | 24=>103 | 25=>104 | 26=>105 | 27=>106 | 46=>121 | 47=>122 | 48=>123 | 49=>124 | 50=>125 | 57=>129 | n=>n,fun | 22=>47 | 24=>60 | 25=>81 | 3=>3 | 39=>104 | 0=>0 | 53=>123 | 55=>125 | 4=>4 | 46=>116 | 45=>115 | 50=>120 | 5=>5 | 9=>9 | 66=>134 | 70=>138 | 76=>142 | 77=>143 | n=>n,fun | n=>n⟩
set_option maxRecDepth 100000 in
theorem Ce.sortLay:Go.Proofs.SlLaysF0.n6 Tryz.prog Ce.sortLay_ren:={
 mixed:=by kernel_rfl
 f6:=⟨Tryz.f48.name,by decide,Tryz.func48.trans (congrArg some (by kernel_rfl))⟩
 f14:=⟨Tryz.f80.name,by decide,Tryz.func80.trans (congrArg some (by kernel_rfl))⟩
 f15:=Tryz.func81.trans (congrArg some (by kernel_rfl))
 f20:=⟨Tryz.f99.name,by decide,Tryz.func99.trans (congrArg some (by kernel_rfl))⟩
 f21:=⟨Tryz.f100.name,by decide,Tryz.func100.trans (congrArg some (by kernel_rfl))⟩
 f22:=⟨Tryz.f101.name,by decide,Tryz.func101.trans (congrArg some (by kernel_rfl))⟩
 f23:=⟨Tryz.f102.name,by decide,Tryz.func102.trans (congrArg some (by kernel_rfl))⟩
 f24:=⟨Tryz.f103.name,by decide,Tryz.func103.trans (congrArg some (by kernel_rfl))⟩
 f25:=⟨Tryz.f104.name,by decide,Tryz.func104.trans (congrArg some (by kernel_rfl))⟩
 f26:=⟨Tryz.f105.name,by decide,Tryz.func105.trans (congrArg some (by kernel_rfl))⟩
 f27:=⟨Tryz.f106.name,by decide,Tryz.func106.trans (congrArg some (by kernel_rfl))⟩
 f28:=Tryz.func107.trans (congrArg some (by kernel_rfl))
 f29:=Tryz.func108.trans (congrArg some (by kernel_rfl))
 f46:=⟨Tryz.f121.name,by decide,Tryz.func121.trans (congrArg some (by kernel_rfl))⟩
 f47:=Tryz.func122.trans (congrArg some (by kernel_rfl))
 f48:=Tryz.func123.trans (congrArg some (by kernel_rfl))
 f49:=⟨Tryz.f124.name,by decide,Tryz.func124.trans (congrArg some (by kernel_rfl))⟩
 f50:=⟨Tryz.f125.name,by decide,Tryz.func125.trans (congrArg some (by kernel_rfl))⟩
 f57:=⟨Tryz.f129.name,by decide,Tryz.func129.trans (congrArg some (by kernel_rfl))⟩
 t0:=Tryz.underlying0
 a0:=Tryz.isAgg0
 z0:=Tryz.sizeOf0
 v0:=Tryz.zeroValue0
 t3:=Tryz.underlying3
 a3:=Tryz.isAgg3
 z3:=Tryz.sizeOf3
 v3:=Tryz.zeroValue3
 t4:=Tryz.underlying4
 a4:=Tryz.isAgg4
 z4:=Tryz.sizeOf4
 v4:=Tryz.zeroValue4
 t5:=Tryz.underlying5
 a5:=Tryz.isAgg5
 z5:=Tryz.sizeOf5
 v5:=Tryz.zeroValue5
 t9:=Tryz.underlying9
 a9:=Tryz.isAgg9
 z9:=Tryz.sizeOf9
 v9:=Tryz.zeroValue9
 t22:=Tryz.underlying47
 a22:=Tryz.isAgg47
 z22:=Tryz.sizeOf47
 v22:=Tryz.zeroValue47
 t25:=Tryz.underlying81
 a25:=Tryz.isAgg81
 z25:=Tryz.sizeOf81
 v25:=Tryz.zeroValue81
 t39:=Tryz.underlying104
 a39:=Tryz.isAgg104
 z39:=Tryz.sizeOf104
 v39:=Tryz.zeroValue104
 t45:=Tryz.underlying115
 a45:=Tryz.isAgg115
 z45:=Tryz.sizeOf115
 v45:=Tryz.zeroValue115
 t46:=Tryz.underlying116
 a46:=Tryz.isAgg116
 z46:=Tryz.sizeOf116
 v46:=Tryz.zeroValue116
 t50:=Tryz.underlying120
 a50:=Tryz.isAgg120
 z50:=Tryz.sizeOf120
 v50:=Tryz.zeroValue120
 t53:=Tryz.underlying123
 a53:=Tryz.isAgg123
 z53:=Tryz.sizeOf123
 v53:=Tryz.zeroValue123
 t55:=Tryz.underlying125
 a55:=Tryz.isAgg125
 z55:=Tryz.sizeOf125
 v55:=Tryz.zeroValue125
 t66:=Tryz.underlying134
 a66:=Tryz.isAgg134
 z66:=Tryz.sizeOf134
 v66:=Tryz.zeroValue134
 t70:=Tryz.underlying138
 a70:=Tryz.isAgg138
 z70:=Tryz.sizeOf138
 v70:=Tryz.zeroValue138
 t76:=Tryz.underlying142
 a76:=Tryz.isAgg142
 z76:=Tryz.sizeOf142
 v76:=Tryz.zeroValue142
 t77:=Tryz.underlying143
 a77:=Tryz.isAgg143
 z77:=Tryz.sizeOf143
 v77:=Tryz.zeroValue143 }
end Go.Proofs
namespace Go.Ev.Ce
open Go Go.Ev Go.Ev.L Go.Proofs Go.Sort
def bb5(x y:Int):Int:=if x<y then -1 else if x>y then 1 else 0
def bb6(x y:Pln):Int :=
 if bb5 x.n.x y.n.x=0 then if bb5 x.n.y y.n.y=0 then if bb5 x.n.z y.n.z=0 then bb5 x.b y.b else bb5 x.n.z y.n.z else bb5 x.n.y y.n.y else bb5 x.n.x y.n.x
theorem kb0(x y:Int):bb5 x y<0↔x<y:=by unfold bb5;split<;>(try split)<;>omega
theorem Nb3(x y:Int):bb5 x y=0↔x=y:=by unfold bb5;split<;>(try split)<;>omega
def LtP(x y:Pln):Prop:=x.n.x<y.n.x\/x.n.x=y.n.x/\(x.n.y<y.n.y\/x.n.y=y.n.y/\(x.n.z<y.n.z\/x.n.z=y.n.z/\x.b<y.b))
instance(x y:Pln):Decidable (LtP x y):=by unfold LtP;exact inferInstance
theorem Oc2(x y:Pln):bb6 x y<0↔LtP x y:=by
 have h1:=kb0 x.n.x y.n.x;have h2:=Nb3 x.n.x y.n.x;have h3:=kb0 x.n.y y.n.y;have h4:=Nb3 x.n.y y.n.y;have h5:=kb0 x.n.z y.n.z;have h6:=Nb3 x.n.z y.n.z;have h7:=kb0 x.b y.b;unfold bb6 LtP;split
 ·split
  ·split<;>omega
  ·omega
 ·omega
theorem Ea9(x y:Pln):ltOf bb6 x y=decide (LtP x y):=by
 unfold ltOf;rw[decide_eq_decide];exact Oc2 x y
theorem ze8:SWO (ltOf bb6) where
 irrefl x:=by rw[Ea9];simp[LtP]
 trans x y z h1 h2:=by rw[Ea9,decide_eq_true_eq] at *;unfold LtP at *;omega
 ntrans x y z h1 h2:=by rw[Ea9,decide_eq_false_iff_not] at *;unfold LtP at *;omega
theorem Ie3(x y:Pln)(h1:ltOf bb6 x y=false)(h2:ltOf bb6 y x=false):x=y:=by
 rw[Ea9,decide_eq_false_iff_not] at *
 unfold LtP at *
 obtain⟨⟨a,b,c⟩,d⟩:=x;obtain⟨⟨a',b',c'⟩,d'⟩:=y
 simp only at *
 have:a=a'/\b=b'/\c=c'/\d=d':=by omega
 obtain⟨rfl,rfl,rfl,rfl⟩:=this;rfl
theorem Zc3(x y:Int):ta9 x y=some (i (bb5 x y),[]):=by
 unfold ta9 bb5;simp only[Gb2,decide_eq_true_eq]
 split<;>(try split)<;>rfl
theorem rd8(x y:Int):Y1 x y=bb5 x y:=by unfold Y1;rw[Zc3];rfl
theorem rd9(x y:Int):Y2 x y=true:=by unfold Y2;rw[Zc3];rfl
theorem qc9(x y:Pln):ja8 x y=some (i (bb6 x y),[]):=by
 unfold ja8 bb6;simp only[rd8,rd9,Gb2,beq_iff_eq,if_true]
 repeat' (first | rfl | split)
theorem ze9(x y:Pln):va4 x y=bb6 x y:=by unfold va4;rw[qc9];rfl
theorem Ae0(x y:Pln):va5 x y=true:=by unfold va5;rw[qc9];rfl
theorem Ae1(x y:Pln):(Ka5 [.agg (tP.row x),.agg (tP.row y)] []).run=some (i (bb6 x y),[]):=by
 have:(Ka5 [.agg (tP.row x),.agg (tP.row y)] []).run=sel (va5 x y) (some (i (va4 x y),[])) none:=by kernel_rfl
 rw[this,Ae0,ze9]
def Ub0(p:Pln):List Value:=[.int .i64 p.n.x,.int .i64 p.n.y,.int .i64 p.n.z,.int .i64 p.b]
instance:Inhabited Pln:=⟨⟨⟨0,0,0⟩,0⟩⟩
def Bb2(l:List Pln):List Pln:=l.mergeSort λx y=>!ltOf bb6 y x
theorem xb9(l:List Pln):(Bb2 l).length=l.length:=Qhf l
noncomputable def ya2:Sum:=rd0 tP 49 60 Bb2
theorem Ld7:Ce.sortLay_ren.f 6=48:=by kernel_rfl
theorem Gc2:Ce.sortLay_ren.t 24=60:=by kernel_rfl
set_option maxRecDepth 100000 in
theorem bb7:i5 prog G 48 ya2:=by
 refine rd1 (enc:=Ub0) (cf:=bb6) ⟨_,Tryz.func48,by kernel_rfl,of_decide_eq_true (by kernel_rfl)⟩ (by decide) (λ_=>rfl) (λr h=>Qa6 (n:=4) h) (λx v hv=>?_) xb9
  (λblk off size w=>qd9 Ub6 Ae1 (λ_=>rfl) (λ_=>rfl) _ _ _ _ _) (λblk cap d w hcl hH hb hs=>?_)
 ·simp[Ub0] at hv
  rcases hv with rfl|rfl|rfl|rfl<;>rfl
 ·have eg:∀args w,(callFunc 49 args).run Tryz.prog w=.ok (.enter 49 args) w:=enters_of Tryz.func49 (by kernel_rfl) rfl
  have:=AnyQ.slices_SortFunc Ce.sortLay 4 (by rw[Gc2];exact Tryz.isAgg60) (by rw[Gc2];exact Tryz.sizeOf60) Ub0 (λ_=>rfl) (λx v hv=>by simp[Ub0] at hv;rcases hv with rfl | rfl | rfl | rfl<;>rfl) bb6 ze8 49 #[] blk 0 cap d w eg (hcl 0 d.size) hH hb hs
  rw[Ld7] at this;refine this.mono λe w' ⟨h1,d',n,os,h2,h3,h4⟩=>⟨h1,n,os,?_⟩
  have h5:=sorted_unique_holds ze8 Ie3 d d' h2 h3;rw[h4];show _=sortWorldK Ub0 4 w blk 0 n (d.toList.mergeSort λx y=>!ltOf bb6 y x).toArray os
  rw[<- h5]
end Go.Ev.Ce
namespace Go.Ev.Ce
open Go Go.Ev Go.Ev.L Go.Proofs
set_option maxRecDepth 100000
structure va6 where
 is1:Int
 A2:List Int
 d8:Int
noncomputable def Ub7:List (Nat×Sum):=[(28,Gc1)]
theorem Nb4:k8 prog G Ub7:=⟨ld3,trivial⟩
structure va7 where
 alt:Nat
 (is0 d8:Int)
noncomputable def ba8{α:Type}(kk:va7->α)(x:va6):α:=let t1:=(xb7 (gL tI x.A2 (W ((W (x.d8+1))-1)).toNat) x.is1);(sl (decide (x.d8>=(↑(List.length x.A2):Int))) (kk ⟨1,0,x.d8⟩) (sl (inB (W ((W (x.d8+1))-1)) (List.length x.A2)) (sl (xb8 (gL tI x.A2 (W ((W (x.d8+1))-1)).toNat) x.is1) (kk ⟨1,t1,W (x.d8+1)⟩) (kk ⟨0,0,0⟩)) (kk ⟨0,0,0⟩)))
noncomputable def y6(x:va6):va7:=ba8 (λr=>r) x
noncomputable def Fa0(x:va6)(r:va7):DT (b7×List c8):=(.ite (Nat.beq r.alt 1) (.ret (i r.is0,[⟨0,2,[[eL tI x.A2,i r.d8]],true,false,0⟩])) .fail)
theorem ec3{α β:Type}(F:α->β)(kk:va7->α)(x:va6):F (ba8 kk x)=ba8 (λr=>F (kk r)) x:=by unfold ba8;(repeat' apply q8 (f:=F))<;>rfl
noncomputable def mb9:Sum:=Wa9 ⟨[.s (.o (.ptr 0 0 0 0)),.s (.o (.int .i64))],[⟨0,2,true,some [[.c 1 (nL tI),.o (.int .i64)]]⟩],λa H=>(⟨toI (slT a 1),rL tI (slT (rwT (elT H 0) 0) 0),toI (slT (rwT (elT H 0) 0) 1)⟩,())⟩ (λx=>Fa0 x (y6 x))
theorem Ub8:i5 prog G 58 mb9:=R4 (enc:=λx=>⟨[.ptr 0 0 0 0,i x.is1],[⟨0,2,[[eL tI x.A2,i x.d8]],true,false,0⟩]⟩) (λa H=>by kernel_rfl) (bd b58 Nb4) λx=>A6 (Qhd (b:=ba8 (λr=>(Fa0 x r).run) x) (by kernel_rfl) (ec3 (λr=>(Fa0 x r).run) (λr=>r) x).symm)
noncomputable def ld4:List (Nat×Sum):=[]
theorem Zc4:k8 prog G ld4:=trivial
noncomputable def Fa1(x:V3)(y:V3):V3:=(⟨W (x.x-y.x),W (x.y-y.y),W (x.z-y.z)⟩:V3)
noncomputable def Gc3:Sum:=za1 (Z4 tV) (Z4 tV) (λx y=>.ret ((one r1V).enc (Fa1 x y),[]))
theorem ld5:i5 prog G 91 Gc3:=Ya7 (bd b91 Zc4) λx y=>A6 (by kernel_rfl)
noncomputable def Bd2:List (Nat×Sum):=[(110,ra7)]
theorem ld6:k8 prog G Bd2:=⟨Aa4,trivial⟩
noncomputable def sb8(x:V3):Option (b7×List c8):=(sl (decide (x.x<(-24))) (some (b false,[])) (sl (decide (x.x>24)) (some (b false,[])) (sl (decide (x.y<(-24))) (some (b false,[])) (sl (decide (x.y>24)) (some (b false,[])) (sl (decide (x.z<(-24))) (some (b false,[])) (sl (decide (x.z>24)) (some (b false,[])) (some (b true,[]))))))))
noncomputable def Ta6(x:V3):Bool:=V1 (one r1B) (sb8 x)
noncomputable def Ta7(x:V3):Bool:=okO (one r1B) (sb8 x)
noncomputable def rc0:Sum:=L4 (Z4 tV) (λx=>.guard (Ta7 x) (.ret ((one r1B).enc (Ta6 x),[])))
theorem Gc4:i5 prog G 85 rc0:=Ea5 (bd b85 ld6) (one r1B) (o:=sb8) λx=>A6 (by kernel_rfl)
noncomputable def rc1:List (Nat×Sum):=[(85,rc0),(91,Gc3),(90,bc3),(89,Gb7),(86,Ub2)]
theorem ec4:k8 prog G rc1:=⟨Gc4,ld5,Nc6,bc5,qc4,trivial⟩
noncomputable def ua0(x:V3)(y:V3)(z:V3):Option (b7×List c8):=let t1:=(Ta6 x);let t2:=(Ta6 y);let t3:=(Ta6 z);let t4:=(Fa1 y x);let t5:=(Fa1 z x);let t6:=(Ia5 t4 t5);let t7:=(xa3 t6);let t8:=(Ea6 t7.1 x);(sl (Ta7 x) (sl (!t1) (some (.tup [.agg [i 0,i 0,i 0,i 0],b false],[])) (sl (Ta7 y) (sl (!t2) (some (.tup [.agg [i 0,i 0,i 0,i 0],b false],[])) (sl (Ta7 z) (sl (!t3) (some (.tup [.agg [i 0,i 0,i 0,i 0],b false],[])) (sl (Ta0 t6) (sl (t7.2==0) (some (.tup [.agg [i 0,i 0,i 0,i 0],b false],[])) (some (.tup [.agg [i t7.1.x,i t7.1.y,i t7.1.z,i t8],b true],[]))) none)) none)) none)) none)
noncomputable def Ga8(x:V3)(y:V3)(z:V3):Pln×Bool:=V1 (two r1P r1B) (ua0 x y z)
noncomputable def Ga9(x:V3)(y:V3)(z:V3):Bool:=okO (two r1P r1B) (ua0 x y z)
noncomputable def Bb3:Sum:=oc2 (Z4 tV) (Z4 tV) (Z4 tV) (λx y z=>.guard (Ga9 x y z) (.ret ((two r1P r1B).enc (Ga8 x y z),[])))
theorem rc2:i5 prog G 61 Bb3:=oe2 (bd b61 ec4) (two r1P r1B) (o:=ua0) λx y z=>A6 (by kernel_rfl)
noncomputable def Zc5:List (Nat×Sum):=[(84,bc6),(85,rc0),(86,Ub2)]
theorem Oc3:k8 prog G Zc5:=⟨Nc9,Gc4,qc4,trivial⟩
noncomputable def xa4(x:Pln)(y:V3):Option (b7×List c8):=let t1:=(Za1 x);let t2:=(Ta6 y);let t3:=(Ea6 x.n y);(sl (Za2 x) (sl (!t1) (some (i 0,[])) (sl (Ta7 y) (sl (!t2) (some (i 0,[])) (sl (decide ((W (t3-x.b))<0)) (some (i (-1),[])) (sl (decide ((W (t3-x.b))>0)) (some (i 1,[])) (some (i 0,[]))))) none)) none)
noncomputable def oa8(x:Pln)(y:V3):Int:=V1 (one r1I) (xa4 x y)
noncomputable def Ta8(x:Pln)(y:V3):Bool:=okO (one r1I) (xa4 x y)
noncomputable def Hb1:Sum:=za1 (Z4 tP) (Z4 tV) (λx y=>.guard (Ta8 x y) (.ret ((one r1I).enc (oa8 x y),[])))
theorem bc7:i5 prog G 54 Hb1:=Lb5 (bd b54 Oc3) (one r1I) (o:=xa4) λx y=>A6 (by kernel_rfl)
structure Ed9 where
 (d9 d8 f7 j6 E3 E4 E5 Pa9:Int)
structure Fd0 where
 is7:Int
noncomputable def Ia7:List (Nat×Sum):=[(61,Bb3),(54,Hb1)]
theorem Oc4:k8 prog G Ia7:=⟨rc2,bc7,trivial⟩
structure ia4 where
 j5:List V3
 (is3 is4 is5:Int)
 bs7:Bool
 (d9 d8 f7 j6:Int)
structure W7 where
 is8:Int
noncomputable def bb8(p:ia4)(s:W7):St:=⟨eL tV p.j5::.unk::.unk::i p.is3::i p.is4::i p.is5::.ptr 0 0 0 0::b p.bs7::i s.is8::ra 48 [],[⟨0,4,[[i p.d9,i p.d8,i p.f7,i p.j6]],true,false,0⟩]⟩
noncomputable def S3{α:Type}(k:W7->α)(e:Nat->α)(z:α)(p:ia4)(s:W7):α:=let t1:=(oa8 (⟨(⟨p.d9,p.d8,p.f7⟩:V3),p.j6⟩:Pln) (gL tV p.j5 s.is8.toNat));(sl (decide (s.is8<(↑(List.length p.j5):Int))) (sl p.bs7 (sl (inB s.is8 (List.length p.j5)) (sl (Ta8 (⟨(⟨p.d9,p.d8,p.f7⟩:V3),p.j6⟩:Pln) (gL tV p.j5 s.is8.toNat)) (sl (t1 != 0) (e 1) (k ⟨W (s.is8+1)⟩)) z) z) (e 2)) (e 3))
noncomputable def v7(p:ia4)(s:W7):Stp W7:=S3 .next .exit .fail p s
noncomputable def kb1:Lo ia4 W7:=⟨En Ia7,0,Ld5,[1,0,1,4,4,1,0,4,1,4,4,1,0,4,1,4,4,1,0,4,1,1,4,4],[0,3,4,5,6,7,8],.p,[⟨sLq tV::sUq::sUq::sIq::sIq::sIq::sPq 0::sBq::sIq::ru2 48 [],[⟨0,4,true,some [kLq 4]⟩],λa H=>(⟨aLq tV a 0,aIq a 3,aIq a 4,aIq a 5,aBq a 7,hIq H 0 0 0,hIq H 0 0 1,hIq H 0 0 2,hIq H 0 0 3⟩,⟨aIq a 8⟩)⟩],v7,[(none,λp s=>⟨[b false],[]⟩),(some 6,λp s=>upq (bb8 p s) [(41,i s.is8),(42,eL tV p.j5),(43,i (↑(List.length p.j5):Int)),(44,b (decide (s.is8<(↑(List.length p.j5):Int)))),(45,b true),(46,b p.bs7),(47,b p.bs7)]),(some 6,λp s=>upq (bb8 p s) [(41,i s.is8),(42,eL tV p.j5),(43,i (↑(List.length p.j5):Int)),(44,b (decide (s.is8<(↑(List.length p.j5):Int)))),(45,b false),(46,u),(47,b false)])],bb8⟩
theorem zc4:kb1.Ok:=Lo.ok [] (by kernel_rfl) .nil rfl (.cons (λa H=>by kernel_rfl) .nil) λp s=>(.of @S3 (λF _ _ _ _ _=>by unfold S3;(repeat' apply q8 (f:=F))<;>rfl) (by kernel_rfl))
structure Aa7 where
 (is3 is4:Int)
structure W8 where
 j5:List V3
 is5:Int
noncomputable def Bb4(p:Aa7)(s:W8):St:=⟨eL tV s.j5::.unk::.unk::i p.is3::i p.is4::i s.is5::ra 51 [],[]⟩
noncomputable def Z7{α:Type}(k:W8->α)(e:Nat->α)(z:α)(p:Aa7)(s:W8):α:=let t1:=(Ga8 (gL tV s.j5 p.is3.toNat) (gL tV s.j5 p.is4.toNat) (gL tV s.j5 s.is5.toNat));let t2:=(lp (v7 (⟨rt tV s.j5,p.is3,p.is4,s.is5,t1.2,t1.1.n.x,t1.1.n.y,t1.1.n.z,t1.1.b⟩:ia4)) (⟨0⟩:W7));(sl (decide (s.is5<p.is4)) (sl (inB p.is3 (List.length s.j5)) (sl (inB p.is4 (List.length s.j5)) (sl (inB s.is5 (List.length s.j5)) (sl (Ga9 (gL tV s.j5 p.is3.toNat) (gL tV s.j5 p.is4.toNat) (gL tV s.j5 s.is5.toNat)) (sl ((cnE tV s.j5)&&true) (sl (Nat.beq t2.1 1) (e 1) (sl (Nat.beq t2.1 2) (k ⟨rt tV s.j5,W (s.is5+1)⟩) (sl (Nat.beq t2.1 3) (k ⟨rt tV s.j5,W (s.is5+1)⟩) z))) z) z) z) z) z) (e 2))
noncomputable def L5(p:Aa7)(s:W8):Stp W8:=Z7 .next .exit .fail p s
noncomputable def kb2:Lo Aa7 W8:=⟨En Ia7,0,Ld5,[1,0,1,4,4,1,0,4,1,4,4,1,0,4,1,4,4],[0,3,4,5],.s .p (.s (.b (.s .p (.s .p (.b (.u kb1.ls))))) .p),[⟨sLq tV::sUq::sUq::sIq::sIq::sIq::ru2 51 [],[],λa H=>(⟨aIq a 3,aIq a 4⟩,⟨aLq tV a 0,aIq a 5⟩)⟩],L5,[(none,λp s=>⟨[b false],[]⟩),(some 4,λp s=>upq (Bb4 p s) [(20,i s.is5),(21,i p.is4),(22,b (decide (s.is5<p.is4)))])],Bb4⟩
theorem zc5:kb2.Ok:=Lo.ok [kb1.pr] (by kernel_rfl) (.cons zc4 .nil) rfl (.cons (λa H=>by kernel_rfl) .nil) λp s=>(.of @Z7 (λF _ _ _ _ _=>by unfold Z7;(repeat' apply q8 (f:=F))<;>rfl) (by kernel_rfl))
structure Aa8 where
 is3:Int
structure W9 where
 j5:List V3
 is4:Int
noncomputable def Bb5(p:Aa8)(s:W9):St:=⟨eL tV s.j5::.unk::.unk::i p.is3::i s.is4::ra 52 [],[]⟩
noncomputable def Z8{α:Type}(k:W9->α)(e:Nat->α)(z:α)(p:Aa8)(s:W9):α:=let t1:=(lp (L5 (⟨p.is3,s.is4⟩:Aa7)) (⟨rt tV s.j5,0⟩:W8));(sl (decide (s.is4<p.is3)) (sl ((cnE tV s.j5)&&true) (sl (Nat.beq t1.1 1) (e 1) (sl (Nat.beq t1.1 2) (k ⟨t1.2.j5,W (s.is4+1)⟩) z)) z) (e 2))
noncomputable def L6(p:Aa8)(s:W9):Stp W9:=Z8 .next .exit .fail p s
noncomputable def kb3:Lo Aa8 W9:=⟨En Ia7,0,Ld5,[1,0,1,4,4,1,0,4,1,4,4],[0,3,4],.s .p (.s (.b (.s .p (.b (.u kb2.ls)))) .p),[⟨sLq tV::sUq::sUq::sIq::sIq::ru2 52 [],[],λa H=>(⟨aIq a 3⟩,⟨aLq tV a 0,aIq a 4⟩)⟩],L6,[(none,λp s=>⟨[b false],[]⟩),(some 2,λp s=>upq (Bb5 p s) [(15,i s.is4),(16,i p.is3),(17,b (decide (s.is4<p.is3)))])],Bb5⟩
theorem zc6:kb3.Ok:=Lo.ok [kb2.pr] (by kernel_rfl) (.cons zc5 .nil) rfl (.cons (λa H=>by kernel_rfl) .nil) λp s=>(.of @Z8 (λF _ _ _ _ _=>by unfold Z8;(repeat' apply q8 (f:=F))<;>rfl) (by kernel_rfl))
structure Aa9 where
structure X0 where
 j5:List V3
 is3:Int
noncomputable def Bb6(p:Aa9)(s:X0):St:=⟨eL tV s.j5::.unk::.unk::i s.is3::ra 53 [],[]⟩
noncomputable def Z9{α:Type}(k:X0->α)(e:Nat->α)(z:α)(p:Aa9)(s:X0):α:=let t1:=(lp (L6 (⟨s.is3⟩:Aa8)) (⟨rt tV s.j5,0⟩:W9));(sl (decide (s.is3<(↑(List.length s.j5):Int))) (sl ((cnE tV s.j5)&&true) (sl (Nat.beq t1.1 1) (e 1) (sl (Nat.beq t1.1 2) (k ⟨t1.2.j5,W (s.is3+1)⟩) z)) z) (e 2))
noncomputable def L7(p:Aa9)(s:X0):Stp X0:=Z9 .next .exit .fail p s
noncomputable def kb4:Lo Aa9 X0:=⟨En Ia7,0,Ld5,[1,0,1,4,4],[0,3],.s .p (.s (.b (.s .p (.b (.u kb3.ls)))) .p),[⟨sLq tV::sUq::sUq::sIq::ru2 53 [],[],λa H=>(⟨⟩,⟨aLq tV a 0,aIq a 3⟩)⟩],L7,[(none,λp s=>⟨[b false],[]⟩),(some 0,λp s=>upq (Bb6 p s) [(9,i s.is3),(10,eL tV s.j5),(11,i (↑(List.length s.j5):Int)),(12,b (decide (s.is3<(↑(List.length s.j5):Int))))])],Bb6⟩
theorem zc7:kb4.Ok:=Lo.ok [kb3.pr] (by kernel_rfl) (.cons zc6 .nil) rfl (.cons (λa H=>by kernel_rfl) .nil) λp s=>(.of @Z9 (λF _ _ _ _ _=>by unfold Z9;(repeat' apply q8 (f:=F))<;>rfl) (by kernel_rfl))
noncomputable def xa5(x:List V3):Option (b7×List c8):=let t1:=(lp (L7 (⟨⟩:Aa9)) (⟨rt tV x,0⟩:X0));(sl ((cnE tV x)&&true) (sl (Nat.beq t1.1 1) (some (b false,[])) (sl (Nat.beq t1.1 2) (some (b true,[])) none)) none)
noncomputable def Ta9(x:List V3):Bool:=V1 (one r1B) (xa5 x)
noncomputable def Fa2(x:List V3):Bool:=okO (one r1B) (xa5 x)
noncomputable def rc3:Sum:=L4 (xa0 tV) (λx=>.guard (Fa2 x) (.ret ((one r1B).enc (Ta9 x),[])))
theorem Zc6:i5 prog G 59 rc3:=Ea5 (bd b59 Oc4) (one r1B) (o:=xa5) λx=>bb3 (.s .p (.s (.s .p (.b (.u kb4.ls))) .p)) [kb4.pr] (by kernel_rfl) (.cons zc7 .nil) (by kernel_rfl)
structure Wd2 where
 j5:List V3
structure Wd3 where
 is3:Int
structure Wd4 where
 Y5:List V3
 (d9 d8 f7 j6:Int)
structure Wd5 where
 is5:Int
structure ke1 where
 J0:List Pln
 (d9 d8 f7 j6:Int)
structure ke2 where
 is5:Int
structure Wd6 where
 j5:List V3
 (is6 is7:Int)
structure Wd7 where
 ph:Nat
 is8:Int
 me0:List Pln
structure Wd8 where
 is6:Int
structure Wd9 where
 ph:Nat
 j5:List V3
 is7:Int
 me0:List Pln
structure Xd0 where
structure Xd1 where
 ph:Nat
 j5:List V3
 is6:Int
 me0:List Pln
noncomputable def Bb7:List (Nat×Sum):=[(58,mb9),(59,rc3)]
theorem rc4:k8 prog G Bb7:=⟨Ub8,Zc6,trivial⟩
structure S4 where
 is4:Int
structure o7 where
 ph:Nat
 is6:Int
 A2:List Int
 d8:Int
 ns5:Nat
 eh1:List (List b7)
noncomputable def fb2(p:S4)(s:o7):St:=⟨ra 3 (.ptr 0 0 0 0::i p.is4::.v (.slice none 0 0)::i s.is6::ra 127 []),[⟨0,2,[[eL tI s.A2,i s.d8]],true,false,0⟩]⟩
noncomputable def fb3(p:S4)(s:o7):St:=⟨ra 3 (.ptr 0 0 0 0::i p.is4::.sl 1 0 s.ns5 0::i s.is6::ra 127 []),[⟨0,2,[[eL tI s.A2,i s.d8]],true,false,0⟩,⟨25,3,s.eh1,true,false,0⟩]⟩
noncomputable def ec5(p:S4)(s:o7):St:=(sel (Nat.beq s.ph 1) (fb3 p s) (fb2 p s))
noncomputable def P5{α:Type}(k:o7->α)(e:Nat->α)(z:α)(p:S4)(s:o7):α:=let t1:=(y6 ⟨17,rt tI s.A2,s.d8⟩);let t2:=(y6 ⟨17,rt tI (rt tI s.A2),t1.d8⟩);let t3:=(y6 ⟨17,rt tI (rt tI (rt tI s.A2)),t2.d8⟩);let t4:=(y6 ⟨6,rt tI (rt tI (rt tI (rt tI s.A2))),t3.d8⟩);let w0:α:=(sl (t4.is0==3) (sl (decide (s.is6>2)) z (k ⟨1,W (s.is6+1),rt tI (rt tI (rt tI (rt tI s.A2))),t4.d8,1,[[i (W (t1.is0-8)),i (W (t2.is0-8)),i (W (t3.is0-8))]]⟩)) (k ⟨1,W (s.is6+1),rt tI (rt tI (rt tI (rt tI s.A2))),t4.d8,1,[[i (W (t1.is0-8)),i (W (t2.is0-8)),i (W (t3.is0-8))]]⟩));(sl (decide (s.is6<p.is4)) (sl ((cnE tI s.A2)&&true) (sl (Nat.beq t1.alt 1) (sl ((cnE tI (rt tI s.A2))&&true) (sl (Nat.beq t2.alt 1) (sl ((cnE tI (rt tI (rt tI s.A2)))&&true) (sl (Nat.beq t3.alt 1) (sl ((cnE tI (rt tI (rt tI (rt tI s.A2))))&&true) (sl (Nat.beq t4.alt 1) (sl (t4.is0==1) (sl (decide (s.is6>1)) z (sl (t4.is0==2) (sl (decide (s.is6>0)) z w0) w0)) (sl (t4.is0==2) (sl (decide (s.is6>0)) z w0) w0)) z) z) z) z) z) z) z) z) (e 1))
noncomputable def o3{α:Type}(k:o7->α)(e:Nat->α)(z:α)(p:S4)(s:o7):α:=let t1:=(y6 ⟨17,rt tI s.A2,s.d8⟩);let a0:=(i8 s.eh1 (0+(W (s.is6-1)).toNat));let a1:=(Nat.beq s.ns5 (len s.eh1)&&Nat.ble ((s.ns5+1)*24) room);let a3:=(i7 (i8 s.eh1 (0+(W (s.is6-2)).toNat)) 0);let a4:=((Nat.blt (0+(W (s.is6-1)).toNat) (len s.eh1))&&(Nat.ble (2+1) (len a0)));let a5:=(i (W (Int.tdiv (W ((toI (hdA (tlA (i7 a0 0))))+(toI (hdA (tlA a3))))) 2)));let a6:=(i (W (Int.tdiv (W ((toI (hdA (i7 a0 0)))+(toI (hdA a3)))) 2)));let a7:=(app s.eh1 [[a6,a5,i (W (Int.tdiv (W ((toI (hdA (tlA (tlA (i7 a0 0)))))+(toI (hdA (tlA (tlA a3)))))) 2))]]);let a8:=(inB (W (s.is6-1)) s.ns5);let a9:=(i (toI (hdA (tlA (i7 a0 0)))));let a10:=((Nat.blt (0+(W (s.is6-1)).toNat) (len s.eh1))&&(Nat.ble (0+3) (len a0)));let a11:=(i (toI (hdA (i7 a0 0))));let a12:=(app s.eh1 [[a11,a9,i (toI (hdA (tlA (tlA (i7 a0 0)))))]]);let a13:=(i (toI (hdA (i7 a0 2))));let a14:=(rt tI (rt tI s.A2));let t2:=(y6 ⟨17,a14,t1.d8⟩);let t3:=(y6 ⟨17,rt tI a14,t2.d8⟩);let a2:=(rt tI (rt tI a14));let t4:=(y6 ⟨6,a2,t3.d8⟩);let w0:α:=(sl (t4.is0==3) (sl (decide (s.is6>2)) (sl a8 (sl (a4&&(na5 [CK.int .i64] (i7 a0 2))) (sl a1 (k ⟨1,W (s.is6+1),a2,t4.d8,s.ns5+1,app s.eh1 [[i (W (t1.is0-8)),i (W (t2.is0-8)),a13]]⟩) z) z) z) (sl a1 (k ⟨1,W (s.is6+1),a2,t4.d8,s.ns5+1,app s.eh1 [[i (W (t1.is0-8)),i (W (t2.is0-8)),i (W (t3.is0-8))]]⟩) z)) (sl a1 (k ⟨1,W (s.is6+1),a2,t4.d8,s.ns5+1,app s.eh1 [[i (W (t1.is0-8)),i (W (t2.is0-8)),i (W (t3.is0-8))]]⟩) z));let w1:α:=(sl a8 (sl (a10&&(na5 [CK.int .i64,CK.int .i64,CK.int .i64] (i7 a0 0))) (sl (t4.is0==3) (sl (decide (s.is6>2)) (sl a8 (sl (a4&&(na5 [CK.int .i64] (i7 a0 2))) (sl a1 (k ⟨1,W (s.is6+1),a2,t4.d8,s.ns5+1,app s.eh1 [[a11,a9,a13]]⟩) z) z) z) (sl a1 (k ⟨1,W (s.is6+1),a2,t4.d8,s.ns5+1,a12⟩) z)) (sl a1 (k ⟨1,W (s.is6+1),a2,t4.d8,s.ns5+1,a12⟩) z)) z) z);let w2:α:=(sl (t4.is0==3) (sl (decide (s.is6>2)) (sl a8 (sl (a4&&(na5 [CK.int .i64] (i7 a0 2))) (sl a1 (k ⟨1,W (s.is6+1),a2,t4.d8,s.ns5+1,app s.eh1 [[a6,a5,a13]]⟩) z) z) z) (sl a1 (k ⟨1,W (s.is6+1),a2,t4.d8,s.ns5+1,a7⟩) z)) (sl a1 (k ⟨1,W (s.is6+1),a2,t4.d8,s.ns5+1,a7⟩) z));(sl (decide (s.is6<p.is4)) (sl ((cnE tI s.A2)&&true) (sl (Nat.beq t1.alt 1) (sl ((cnE tI (rt tI s.A2))&&true) (sl (Nat.beq t2.alt 1) (sl ((cnE tI a14)&&true) (sl (Nat.beq t3.alt 1) (sl ((cnE tI (rt tI a14))&&true) (sl (Nat.beq t4.alt 1) (sl (t4.is0==1) (sl (decide (s.is6>1)) (sl a8 (sl (a10&&(na5 [CK.int .i64,CK.int .i64,CK.int .i64] (i7 a0 0))) (sl (inB (W (s.is6-2)) s.ns5) (sl (((Nat.blt (0+(W (s.is6-2)).toNat) (len s.eh1))&&(Nat.ble (0+3) (len (i8 s.eh1 (0+(W (s.is6-2)).toNat)))))&&(na5 [CK.int .i64,CK.int .i64,CK.int .i64] a3)) (sl (t4.is0==2) (sl (decide (s.is6>0)) w1 w2) w2) z) z) z) z) (sl (t4.is0==2) (sl (decide (s.is6>0)) w1 w0) w0)) (sl (t4.is0==2) (sl (decide (s.is6>0)) w1 w0) w0)) z) z) z) z) z) z) z) z) (e 2))
noncomputable def ba9(p:S4)(s:o7):Stp o7:=(sel (Nat.beq s.ph 1) (o3 .next .exit .fail p s) (P5 .next .exit .fail p s))
noncomputable def Ua0:Lo S4 o7:=⟨En Bb7,0,ye4,[1,1,1,1,0,1,4,4],[3,4,5,6],.p,[⟨ru2 3 (sPq 0::sIq::.s (.o .nil)::sIq::ru2 127 []),[⟨0,2,true,some [[.c 1 (nL tI),.o (.int .i64)]]⟩],λa H=>(⟨aIq a 4⟩,⟨0,aIq a 6,hLq tI H 0 0 0,hIq H 0 0 1,0,[]⟩)⟩,⟨ru2 3 (sPq 0::sIq::.s (.o (.sl 1 0 (some 0) none))::sIq::ru2 127 []),[⟨0,2,true,some [[.c 1 (nL tI),.o (.int .i64)]]⟩,⟨25,3,true,none⟩],λa H=>(⟨aIq a 4⟩,⟨1,aIq a 6,hLq tI H 0 0 0,hIq H 0 0 1,slN (slT a 5),elT H 1⟩)⟩],ba9,[(some 0,λp s=>upq (fb2 p s) [(18,i s.is6),(19,i p.is4),(20,b (decide (s.is6<p.is4)))]),(some 0,λp s=>upq (fb3 p s) [(18,i s.is6),(19,i p.is4),(20,b (decide (s.is6<p.is4)))])],ec5⟩
theorem ec6:Ua0.Ok:=Lo.ok [] (by kernel_rfl) .nil rfl (.cons (λa H=>by kernel_rfl) (.cons (λa H=>by kernel_rfl) .nil)) λp s=>(.sel (Nat.beq s.ph 1) (.of @o3 (λF _ _ _ _ _=>by unfold o3;(repeat' apply q8 (f:=F))<;>rfl) (by kernel_rfl)) (.of @P5 (λF _ _ _ _ _=>by unfold P5;(repeat' apply q8 (f:=F))<;>rfl) (by kernel_rfl)))
noncomputable def ia5(x:List Int):Option (b7×List c8):=let t1:=(y6 ⟨5,rt tI x,0⟩);let t2:=(lp (ba9 (⟨W (4+t1.is0)⟩:S4)) (⟨0,0,rt tI (rt tI x),t1.d8,0,[]⟩:o7));let t3:=(Ta9 []);let t4:=(Ta9 (lsL tV t2.2.ns5 (λk=>i8 t2.2.eh1 (0+k))));let a0:=(i7 (i8 t2.2.eh1 0) 0);let a1:=(i (toI (hdA (tlA (tlA a0)))));let a2:=(i (W ((toI (hdA a0))-3)));let a3:=(setAt t2.2.eh1 1 (O2 (i8 t2.2.eh1 1) 0 [a2,i (toI (hdA (tlA a0))),a1]));let a4:=(i (W ((toI (hdA (tlA a0)))-2)));(sl ((cnE tI x)&&true) (sl (Nat.beq t1.alt 1) (sl ((cnE tI (rt tI x))&&true) (sl (Nat.beq t2.1 1) (sl (Fa2 []) (sl t3 none (some (.v (.slice none 0 0),[]))) none) (sl (Nat.beq t2.1 2) (sl (okL tV t2.2.ns5 (λk=>i8 t2.2.eh1 (0+k))) (sl (Fa2 (lsL tV t2.2.ns5 (λk=>i8 t2.2.eh1 (0+k)))) (sl t4 (sl (inB 0 t2.2.ns5) (sl (((Nat.blt 0 (len t2.2.eh1))&&(Nat.ble (0+3) (len (i8 t2.2.eh1 0))))&&(na5 [CK.int .i64,CK.int .i64,CK.int .i64] a0)) (sl (inB 1 t2.2.ns5) (sl ((Nat.blt 1 (len t2.2.eh1))&&(Nat.ble (0+3) (len (i8 t2.2.eh1 1)))) (sl (inB 2 t2.2.ns5) (sl ((Nat.blt 2 (len a3))&&(Nat.ble (0+3) (len (i8 a3 2)))) (sl (inB 3 t2.2.ns5) (sl ((Nat.blt 3 (len (setAt a3 2 (O2 (i8 a3 2) 0 [i (toI (hdA a0)),a4,a1]))))&&(Nat.ble (0+3) (len (i8 (setAt a3 2 (O2 (i8 a3 2) 0 [i (toI (hdA a0)),a4,a1])) 3)))) (some (.sl 0 0 t2.2.ns5 0,[⟨25,3,setAt (setAt a3 2 (O2 (i8 a3 2) 0 [i (toI (hdA a0)),a4,a1])) 3 (O2 (i8 (setAt a3 2 (O2 (i8 a3 2) 0 [i (toI (hdA a0)),a4,a1])) 3) 0 [i (toI (hdA a0)),i (toI (hdA (tlA a0))),i (W ((toI (hdA (tlA (tlA a0))))-1))]),true,false,0⟩])) none) none) none) none) none) none) none) none) (some (.sl 0 0 t2.2.ns5 0,[⟨25,3,t2.2.eh1,true,false,0⟩]))) none) none) none)) none) none) none)
noncomputable def p7(x:List Int):List V3:=V1 (one (r1L tV)) (ia5 x)
noncomputable def Na2(x:List Int):Bool:=okO (one (r1L tV)) (ia5 x)
noncomputable def Oc5:Sum:=L4 (xa0 tI) (λx=>.guard (Na2 x) (.ret ((one (r1L tV)).enc (p7 x),[])))
theorem zc8:i5 prog G 33 Oc5:=Ea5 (bd b33 rc4) (one (r1L tV)) (o:=ia5) λx=>bb3 (.s .p (.s .p (.s .p (.s .p (.s (.s .p (.b (.u Ua0.ls))) .p))))) [Ua0.pr] (by kernel_rfl) (.cons ec6 .nil) (by kernel_rfl)
noncomputable def Oc6:List (Nat×Sum):=[]
theorem zc9:k8 prog G Oc6:=trivial
noncomputable def K8(x:V3)(y:V3):V3:=(⟨W (x.x-y.x),W (x.y-y.y),W (x.z-y.z)⟩:V3)
noncomputable def Za5:Sum:=za1 (Z4 tV) (Z4 tV) (λx y=>.ret ((one r1V).enc (K8 x y),[]))
theorem kb5:i5 prog G 27 Za5:=Ya7 (bd b27 zc9) λx y=>A6 (by kernel_rfl)
noncomputable def Ac0:List (Nat×Sum):=[(27,Za5)]
theorem rc5:k8 prog G Ac0:=⟨kb5,trivial⟩
noncomputable def sa0(x:Pln):Pln:=let t1:=(K8 (⟨0,0,0⟩:V3) x.n);(⟨t1,W (0-x.b)⟩:Pln)
noncomputable def Nb5:Sum:=L4 (Z4 tP) (λx=>.ret ((one r1P).enc (sa0 x),[]))
theorem Ac1:i5 prog G 78 Nb5:=xb2 (bd b78 rc5) λx=>A6 (by kernel_rfl)
noncomputable def Ac2:List (Nat×Sum):=[(83,Ka4)]
theorem rc6:k8 prog G Ac2:=⟨fb1,trivial⟩
noncomputable def Ba0(x:V3):Option (b7×List c8):=let t1:=(V2 [x.x,x.y,x.z]);(sl (V4 [x.x,x.y,x.z]) (sl (t1==0) (some (.tup [.agg [i 0,i 0,i 0],i 0],[])) (sl (t1==0) none (sl (t1==0) none (sl (t1==0) none (some (.tup [.agg [i (W (Int.tdiv x.x t1)),i (W (Int.tdiv x.y t1)),i (W (Int.tdiv x.z t1))],i t1],[])))))) none)
noncomputable def sa1(x:V3):V3×Int:=V1 (two r1V r1I) (Ba0 x)
noncomputable def Na3(x:V3):Bool:=okO (two r1V r1I) (Ba0 x)
noncomputable def Nb6:Sum:=L4 (Z4 tV) (λx=>.guard (Na3 x) (.ret ((two r1V r1I).enc (sa1 x),[])))
theorem Ac3:i5 prog G 98 Nb6:=Ea5 (bd b98 rc6) (two r1V r1I) (o:=Ba0) λx=>A6 (by kernel_rfl)
noncomputable def Ub9:List (Nat×Sum):=[(20,Ta5),(27,Za5),(36,la8),(98,Nb6),(35,oa5)]
theorem Nb7:k8 prog G Ub9:=⟨Za4,kb5,oa6,Ac3,ra8,trivial⟩
noncomputable def ja9(x:V3)(y:V3)(z:V3):Option (b7×List c8):=let t1:=(ia2 x);let t2:=(ia2 y);let t3:=(ia2 z);let t4:=(K8 y x);let t5:=(K8 z x);let t6:=(A3 t4 t5);let t7:=(sa1 t6);let t8:=(w9 t7.1 x);(sl (ia3 x) (sl (!t1) (some (.tup [.agg [i 0,i 0,i 0,i 0],b false],[])) (sl (ia3 y) (sl (!t2) (some (.tup [.agg [i 0,i 0,i 0,i 0],b false],[])) (sl (ia3 z) (sl (!t3) (some (.tup [.agg [i 0,i 0,i 0,i 0],b false],[])) (sl (Na3 t6) (some (.tup [.agg [i t7.1.x,i t7.1.y,i t7.1.z,i t8],b (decide (t7.2>0))],[])) none)) none)) none)) none)
noncomputable def G3(x:V3)(y:V3)(z:V3):Pln×Bool:=V1 (two r1P r1B) (ja9 x y z)
noncomputable def ca0(x:V3)(y:V3)(z:V3):Bool:=okO (two r1P r1B) (ja9 x y z)
noncomputable def Ka6:Sum:=oc2 (Z4 tV) (Z4 tV) (Z4 tV) (λx y z=>.guard (ca0 x y z) (.ret ((two r1P r1B).enc (G3 x y z),[])))
theorem fb4:i5 prog G 77 Ka6:=oe2 (bd b77 Nb7) (two r1P r1B) (o:=ja9) λx y z=>A6 (by kernel_rfl)
noncomputable def Ac4:List (Nat×Sum):=[(52,Bb1),(20,Ta5),(35,oa5),(53,bb4)]
theorem rc7:k8 prog G Ac4:=⟨qc7,Za4,ra8,sb7,trivial⟩
noncomputable def Ba1(x:Pln)(y:V3):Option (b7×List c8):=let t1:=(Ga6 x);let t2:=(ia2 y);let t3:=(w9 x.n y);let t4:=(Y1 t3 x.b);(sl (Ga7 x) (sl (!t1) (some (i 0,[])) (sl (ia3 y) (sl (!t2) (some (i 0,[])) (sl (Y2 t3 x.b) (some (i t4,[])) none)) none)) none)
noncomputable def C7(x:Pln)(y:V3):Int:=V1 (one r1I) (Ba1 x y)
noncomputable def L9(x:Pln)(y:V3):Bool:=okO (one r1I) (Ba1 x y)
noncomputable def ia6:Sum:=za1 (Z4 tP) (Z4 tV) (λx y=>.guard (L9 x y) (.ret ((one r1I).enc (C7 x y),[])))
theorem la9:i5 prog G 30 ia6:=Lb5 (bd b30 rc7) (one r1I) (o:=Ba1) λx y=>A6 (by kernel_rfl)
structure Ha0 where
 (ea0 ea1 ea2 d9 d8 f7 j6:Int)
noncomputable def rc8:List (Nat×Sum):=[(30,ia6)]
theorem ec7:k8 prog G rc8:=⟨la9,trivial⟩
structure Ha1 where
 alt:Nat
 bs0:Bool
noncomputable def ma0{α:Type}(kk:Ha1->α)(x:Ha0):α:=let t1:=(C7 (⟨(⟨x.d9,x.d8,x.f7⟩:V3),x.j6⟩:Pln) (⟨x.ea0,x.ea1,x.ea2⟩:V3));(sl (L9 (⟨(⟨x.d9,x.d8,x.f7⟩:V3),x.j6⟩:Pln) (⟨x.ea0,x.ea1,x.ea2⟩:V3)) (kk ⟨1,t1 != 0⟩) (kk ⟨0,false⟩))
noncomputable def Ha2(x:Ha0):Ha1:=ma0 (λr=>r) x
noncomputable def Ua1(x:Ha0)(r:Ha1):DT (b7×List c8):=(.ite (Nat.beq r.alt 1) (.ret (b r.bs0,[⟨0,4,[[i x.d9,i x.d8,i x.f7,i x.j6]],true,false,0⟩])) .fail)
theorem Ac5{α β:Type}(F:α->β)(kk:Ha1->α)(x:Ha0):F (ma0 kk x)=ma0 (λr=>F (kk r)) x:=by unfold ma0;(repeat' apply q8 (f:=F))<;>rfl
noncomputable def Bb8:Sum:=Wa9 ⟨[.agg (kLq 3),sPq 0],[⟨0,4,true,some [kLq 4]⟩],λa H=>(⟨cIq a 0 0,cIq a 0 1,cIq a 0 2,hIq H 0 0 0,hIq H 0 0 1,hIq H 0 0 2,hIq H 0 0 3⟩,())⟩ (λx=>Ua1 x (Ha2 x))
theorem rc9:i5 prog G 94 Bb8:=R4 (enc:=λx=>⟨[.agg [i x.ea0,i x.ea1,i x.ea2],.ptr 0 0 0 0],[⟨0,4,[[i x.d9,i x.d8,i x.f7,i x.j6]],true,false,0⟩]⟩) (λa H=>by kernel_rfl) (bd b94 ec7) λx=>A6 (Qhd (b:=ma0 (λr=>(Ua1 x r).run) x) (by kernel_rfl) (Ac5 (λr=>(Ua1 x r).run) (λr=>r) x).symm)
structure T1 where
 j5:List V3
 (d9 d8 f7 j6:Int)
noncomputable def ua1:List (Nat×Sum):=[(94,Bb8)]
theorem Xa0:k8 prog G ua1:=⟨rc9,trivial⟩
structure H8 where
 j5:List V3
 (is7 d9 d8 f7 j6:Int)
structure n7 where
 is8:Int
noncomputable def oa9(p:H8)(s:n7):St:=⟨eL tV p.j5::.fn 94 [.ptr 0 0 0 0]::ra 5 (i p.is7::i s.is8::ra 10 []),[⟨0,4,[[i p.d9,i p.d8,i p.f7,i p.j6]],true,false,0⟩]⟩
noncomputable def C8{α:Type}(k:n7->α)(e:Nat->α)(z:α)(p:H8)(s:n7):α:=let t1:=(Ha2 ⟨(gL tV p.j5 s.is8.toNat).x,(gL tV p.j5 s.is8.toNat).y,(gL tV p.j5 s.is8.toNat).z,p.d9,p.d8,p.f7,p.j6⟩);(sl (decide (s.is8<p.is7)) (sl (inB s.is8 (List.length p.j5)) (sl (Nat.beq t1.alt 1) (sl t1.bs0 (e 1) (k ⟨W (s.is8+1)⟩)) z) z) (e 2))
noncomputable def E8(p:H8)(s:n7):Stp n7:=C8 .next .exit .fail p s
noncomputable def aa8:Lo H8 n7:=⟨En ua1,1,Ld6,[1,0,1,4,4],[0,1,7,8],.p,[⟨sLq tV::.fn 94 [.o (.ptr 0 0 0 0)]::ru2 5 (sIq::sIq::ru2 10 []),[⟨0,4,true,some [kLq 4]⟩],λa H=>(⟨aLq tV a 0,aIq a 7,hIq H 0 0 0,hIq H 0 0 1,hIq H 0 0 2,hIq H 0 0 3⟩,⟨aIq a 8⟩)⟩],E8,[(none,λp s=>⟨[i s.is8],[⟨0,4,[[i p.d9,i p.d8,i p.f7,i p.j6]],true,false,0⟩]⟩),(some 0,λp s=>upq (oa9 p s) [(9,b (decide (s.is8<p.is7)))])],oa9⟩
theorem Ua2:aa8.Ok:=Lo.ok [] (by kernel_rfl) .nil rfl (.cons (λa H=>by kernel_rfl) .nil) λp s=>(.of @C8 (λF _ _ _ _ _=>by unfold C8;(repeat' apply q8 (f:=F))<;>rfl) (by kernel_rfl))
structure T2 where
 alt:Nat
 is0:Int
noncomputable def D8{α:Type}(kk:T2->α)(x:T1):α:=let t1:=(lp (E8 (⟨rt tV x.j5,(↑(List.length x.j5):Int),x.d9,x.d8,x.f7,x.j6⟩:H8)) (⟨0⟩:n7));(sl ((cnE tV x.j5)&&true) (sl (Nat.beq t1.1 1) (kk ⟨1,t1.2.is8⟩) (sl (Nat.beq t1.1 2) (kk ⟨1,-1⟩) (kk ⟨0,0⟩))) (kk ⟨0,0⟩))
noncomputable def T3(x:T1):T2:=D8 (λr=>r) x
noncomputable def ea5(x:T1)(r:T2):DT (b7×List c8):=(.ite (Nat.beq r.alt 1) (.ret (i r.is0,[⟨0,4,[[i x.d9,i x.d8,i x.f7,i x.j6]],true,false,0⟩])) .fail)
theorem fb5{α β:Type}(F:α->β)(kk:T2->α)(x:T1):F (D8 kk x)=D8 (λr=>F (kk r)) x:=by unfold D8;(repeat' apply q8 (f:=F))<;>rfl
noncomputable def ya3:Sum:=Wa9 ⟨[sLq tV,.fn 94 [.o (.ptr 0 0 0 0)]],[⟨0,4,true,some [kLq 4]⟩],λa H=>(⟨aLq tV a 0,hIq H 0 0 0,hIq H 0 0 1,hIq H 0 0 2,hIq H 0 0 3⟩,())⟩ (λx=>ea5 x (T3 x))
theorem bb9:i5 prog G 88 ya3:=R4 (enc:=λx=>⟨[eL tV x.j5,.fn 94 [.ptr 0 0 0 0]],[⟨0,4,[[i x.d9,i x.d8,i x.f7,i x.j6]],true,false,0⟩]⟩) (λa H=>by kernel_rfl) (bd b88 Xa0) λx=>bb3 (.s .p (.s (.s .p (.b (.u aa8.ls))) .p)) [aa8.pr] (by kernel_rfl) (.cons Ua2 .nil) (Qhd (b:=D8 (λr=>(ea5 x r).run) x) (by kernel_rfl) (fb5 (λr=>(ea5 x r).run) (λr=>r) x).symm)
structure M0 where
 j5:List V3
 (d9 d8 f7 j6:Int)
noncomputable def Na4:List (Nat×Sum):=[(88,ya3)]
theorem Ka7:k8 prog G Na4:=⟨bb9,trivial⟩
structure M1 where
 alt:Nat
 bs0:Bool
noncomputable def y8{α:Type}(kk:M1->α)(x:M0):α:=let t1:=(T3 ⟨rt tV x.j5,x.d9,x.d8,x.f7,x.j6⟩);(sl ((cnE tV x.j5)&&true) (sl (Nat.beq t1.alt 1) (kk ⟨1,decide (t1.is0>=0)⟩) (kk ⟨0,false⟩)) (kk ⟨0,false⟩))
noncomputable def o8(x:M0):M1:=y8 (λr=>r) x
noncomputable def X1(x:M0)(r:M1):DT (b7×List c8):=(.ite (Nat.beq r.alt 1) (.ret (b r.bs0,[⟨0,4,[[i x.d9,i x.d8,i x.f7,i x.j6]],true,false,0⟩])) .fail)
theorem Ua3{α β:Type}(F:α->β)(kk:M1->α)(x:M0):F (y8 kk x)=y8 (λr=>F (kk r)) x:=by unfold y8;(repeat' apply q8 (f:=F))<;>rfl
noncomputable def pa0:Sum:=Wa9 ⟨[sLq tV,.fn 94 [.o (.ptr 0 0 0 0)]],[⟨0,4,true,some [kLq 4]⟩],λa H=>(⟨aLq tV a 0,hIq H 0 0 0,hIq H 0 0 1,hIq H 0 0 2,hIq H 0 0 3⟩,())⟩ (λx=>X1 x (o8 x))
theorem Na5:i5 prog G 70 pa0:=R4 (enc:=λx=>⟨[eL tV x.j5,.fn 94 [.ptr 0 0 0 0]],[⟨0,4,[[i x.d9,i x.d8,i x.f7,i x.j6]],true,false,0⟩]⟩) (λa H=>by kernel_rfl) (bd b70 Ka7) λx=>A6 (Qhd (b:=y8 (λr=>(X1 x r).run) x) (by kernel_rfl) (Ua3 (λr=>(X1 x r).run) (λr=>r) x).symm)
noncomputable def nb0:List (Nat×Sum):=[]
theorem Vb0:k8 prog G nb0:=trivial
@[reducible] noncomputable def ga9:Sum:=Ib9 (En nb0) ye9
theorem ka0:i5 prog G 46 ga9:=bd b46 Vb0
noncomputable def Na6:List (Nat×Sum):=[(77,Ka6),(70,pa0),(46,ga9)]
theorem Ac6:k8 prog G Na6:=⟨fb4,Na5,ka0,trivial⟩
structure Y3 where
 (is3 is4 is9 v8 Xa7 I5 jc2:Int)
 (c9 g7:List V3)
structure G4 where
 B1:Int
noncomputable def sb9(p:Y3)(s:G4):St:=⟨.unk::.ptr 0 0 0 0::.unk::i p.is3::i p.is4::ra 4 (i p.is9::i p.v8::ra 5 (i p.Xa7::i p.I5::ra 5 (i p.jc2::i s.B1::ra 35 (i 0::.unk::.ptr 1 0 0 0::.ptr 2 0 0 0::ra 8 [])))),[⟨0,1,[[eL tV p.c9]],true,false,0⟩,⟨0,1,[[eL tV p.g7]],true,false,0⟩,⟨0,1,[[b false]],true,false,0⟩]⟩
noncomputable def ka1{α:Type}(k:G4->α)(e:Nat->α)(z:α)(p:Y3)(s:G4):α:=let t1:=(G3 (gL tV p.c9 s.B1.toNat) (gL tV p.c9 p.is4.toNat) (gL tV p.c9 p.is3.toNat));let t2:=(o8 ⟨rt tV p.g7,t1.1.n.x,t1.1.n.y,t1.1.n.z,t1.1.b⟩);(sl (decide (s.B1<p.jc2)) (sl (inB s.B1 (List.length p.c9)) (sl (inB p.is4 (List.length p.c9)) (sl (inB p.is3 (List.length p.c9)) (sl (ca0 (gL tV p.c9 s.B1.toNat) (gL tV p.c9 p.is4.toNat) (gL tV p.c9 p.is3.toNat)) (sl t1.2 (sl t1.2 (sl ((cnE tV p.g7)&&true) (sl (Nat.beq t2.alt 1) (e 1) z) z) (k ⟨W (s.B1+1)⟩)) (sl t1.2 z (k ⟨W (s.B1+1)⟩))) z) z) z) z) (e 2))
noncomputable def M2(p:Y3)(s:G4):Stp G4:=ka1 .next .exit .fail p s
noncomputable def cb0:Lo Y3 G4:=⟨En Na6,0,be4,[1,0,1,4,4,1,4,4,1,1,0,4,1,1,4,4,1,1,0,4,1,1,4,4],[1,3,4,9,10,16,17,23,24,60,62,63],.p,[⟨sUq::sPq 0::sUq::sIq::sIq::ru2 4 (sIq::sIq::ru2 5 (sIq::sIq::ru2 5 (sIq::sIq::ru2 35 (.s (.o (.lit .i64 0))::sUq::sPq 1::sPq 2::ru2 8 [])))),[⟨0,1,true,some [[.c 3 (nL tV)]]⟩,⟨0,1,true,some [[.c 3 (nL tV)]]⟩,⟨0,1,true,some [[.o (.blit false)]]⟩],λa H=>(⟨aIq a 3,aIq a 4,aIq a 9,aIq a 10,aIq a 16,aIq a 17,aIq a 23,hLq tV H 0 0 0,hLq tV H 1 0 0⟩,⟨aIq a 24⟩)⟩],M2,[(none,λp s=>let t1:=(G3 (gL tV p.c9 s.B1.toNat) (gL tV p.c9 p.is4.toNat) (gL tV p.c9 p.is3.toNat));let t2:=(o8 ⟨rt tV p.g7,t1.1.n.x,t1.1.n.y,t1.1.n.z,t1.1.b⟩);⟨.unk::.ptr 0 0 0 0::.unk::i p.is3::i p.is4::i s.B1::.ptr 3 0 0 0::b t1.2::.unk::i p.is9::i p.v8::ra 5 (i p.Xa7::i p.I5::ra 5 (i p.jc2::i s.B1::b (decide (s.B1<p.jc2))::i s.B1::.tup [.agg [i t1.1.n.x,i t1.1.n.y,i t1.1.n.z,i t1.1.b],b t1.2]::eL tV p.c9::i s.B1::.tptr [i (gL tV p.c9 s.B1.toNat).x,i (gL tV p.c9 s.B1.toNat).y,i (gL tV p.c9 s.B1.toNat).z]::.agg [i (gL tV p.c9 s.B1.toNat).x,i (gL tV p.c9 s.B1.toNat).y,i (gL tV p.c9 s.B1.toNat).z]::eL tV p.c9::i p.is4::.tptr [i (gL tV p.c9 p.is4.toNat).x,i (gL tV p.c9 p.is4.toNat).y,i (gL tV p.c9 p.is4.toNat).z]::.agg [i (gL tV p.c9 p.is4.toNat).x,i (gL tV p.c9 p.is4.toNat).y,i (gL tV p.c9 p.is4.toNat).z]::eL tV p.c9::i p.is3::.tptr [i (gL tV p.c9 p.is3.toNat).x,i (gL tV p.c9 p.is3.toNat).y,i (gL tV p.c9 p.is3.toNat).z]::.agg [i (gL tV p.c9 p.is3.toNat).x,i (gL tV p.c9 p.is3.toNat).y,i (gL tV p.c9 p.is3.toNat).z]::.tup [.agg [i t1.1.n.x,i t1.1.n.y,i t1.1.n.z,i t1.1.b],b t1.2]::.agg [i t1.1.n.x,i t1.1.n.y,i t1.1.n.z,i t1.1.b]::b t1.2::b t1.2::b true::.unk::.agg [i t1.1.n.x,i t1.1.n.y,i t1.1.n.z,i t1.1.b]::b false::b true::b true::.unk::u::u::u::u::b true::b true::ra 3 (i 1::.unk::.ptr 1 0 0 0::.ptr 2 0 0 0::ra 8 []))),[⟨0,1,[[eL tV p.c9]],true,false,0⟩,⟨0,1,[[eL tV p.g7]],true,false,0⟩,⟨0,1,[[b (!t2.bs0)]],true,false,0⟩,⟨0,4,[[i t1.1.n.x,i t1.1.n.y,i t1.1.n.z,i t1.1.b]],true,false,0⟩,⟨0,4,[[i t1.1.n.x,i t1.1.n.y,i t1.1.n.z,i t1.1.b]],true,false,0⟩]⟩),(some 4,λp s=>upq (sb9 p s) [(25,b (decide (s.B1<p.jc2)))])],sb9⟩
theorem sc0:cb0.OkM:=Lo.okM [] (by kernel_rfl) .nil rfl (.cons (λa H=>by kernel_rfl) .nil) λp s=>(.of @ka1 (λF _ _ _ _ _=>by unfold ka1;(repeat' apply q8 (f:=F))<;>rfl) (by kernel_rfl))
structure ea6 where
 (is3 is9 v8 Xa7:Int)
structure J3 where
 I5:Int
 (c9 g7:List V3)
noncomputable def tb0(p:ea6)(s:J3):St:=⟨.unk::.ptr 0 0 0 0::.unk::i p.is3::ra 5 (i p.is9::i p.v8::ra 5 (i p.Xa7::i s.I5::ra 42 (i 0::.unk::.ptr 1 0 0 0::.ptr 2 0 0 0::ra 8 []))),[⟨0,1,[[eL tV s.c9]],true,false,0⟩,⟨0,1,[[eL tV s.g7]],true,false,0⟩,⟨0,1,[[b false]],true,false,0⟩]⟩
noncomputable def ka2{α:Type}(k:J3->α)(e:Nat->α)(z:α)(p:ea6)(s:J3):α:=let t1:=(lp (M2 (⟨p.is3,s.I5,p.is9,p.v8,p.Xa7,s.I5,(↑(s.I5.toNat-0):Int),rt tV s.c9,rt tV s.g7⟩:Y3)) (⟨0⟩:G4));(sl (decide (s.I5<p.Xa7)) (sl (inB s.I5 ((List.length s.c9)+1)) (sl ((cnE tV s.c9)&&((cnE tV s.g7)&&true)) (sl (Nat.beq t1.1 1) (e 1) (sl (Nat.beq t1.1 2) (k ⟨W (s.I5+1),rt tV s.c9,rt tV s.g7⟩) z)) z) z) (e 2))
noncomputable def S5(p:ea6)(s:J3):Stp J3:=ka2 .next .exit .fail p s
noncomputable def cb1:Lo ea6 J3:=⟨En Na6,0,be4,[1,0,1,4,4,1,4,4,1,1,0,4,1,1,4,4],[1,3,9,10,16,17,60,62,63],.s .p (.s .p (.s (.b (.s .p (.s .p (.b (.u cb0.lsM))))) .p)),[⟨sUq::sPq 0::sUq::sIq::ru2 5 (sIq::sIq::ru2 5 (sIq::sIq::ru2 42 (.s (.o (.lit .i64 0))::sUq::sPq 1::sPq 2::ru2 8 []))),[⟨0,1,true,some [[.c 3 (nL tV)]]⟩,⟨0,1,true,some [[.c 3 (nL tV)]]⟩,⟨0,1,true,some [[.o (.blit false)]]⟩],λa H=>(⟨aIq a 3,aIq a 9,aIq a 10,aIq a 16⟩,⟨aIq a 17,hLq tV H 0 0 0,hLq tV H 1 0 0⟩)⟩],S5,[(none,λp s=>let t1:=(lp (M2 (⟨p.is3,s.I5,p.is9,p.v8,p.Xa7,s.I5,(↑(s.I5.toNat-0):Int),rt tV s.c9,rt tV s.g7⟩:Y3)) (⟨0⟩:G4));let t2:=(G3 (gL tV (rt tV s.c9) t1.2.B1.toNat) (gL tV (rt tV s.c9) s.I5.toNat) (gL tV (rt tV s.c9) p.is3.toNat));let t3:=(o8 ⟨rt tV (rt tV s.g7),t2.1.n.x,t2.1.n.y,t2.1.n.z,t2.1.b⟩);⟨.unk::.ptr 0 0 0 0::.unk::i p.is3::i s.I5::i t1.2.B1::.ptr 3 0 0 0::b t2.2::.unk::i p.is9::i p.v8::ra 5 (i p.Xa7::i s.I5::ra 5 (i (↑(s.I5.toNat-0):Int)::i t1.2.B1::b (decide (t1.2.B1<(↑(s.I5.toNat-0):Int)))::i t1.2.B1::.tup [.agg [i t2.1.n.x,i t2.1.n.y,i t2.1.n.z,i t2.1.b],b t2.2]::eL tV (rt tV s.c9)::i t1.2.B1::.tptr [i (gL tV (rt tV s.c9) t1.2.B1.toNat).x,i (gL tV (rt tV s.c9) t1.2.B1.toNat).y,i (gL tV (rt tV s.c9) t1.2.B1.toNat).z]::.agg [i (gL tV (rt tV s.c9) t1.2.B1.toNat).x,i (gL tV (rt tV s.c9) t1.2.B1.toNat).y,i (gL tV (rt tV s.c9) t1.2.B1.toNat).z]::eL tV (rt tV s.c9)::i s.I5::.tptr [i (gL tV (rt tV s.c9) s.I5.toNat).x,i (gL tV (rt tV s.c9) s.I5.toNat).y,i (gL tV (rt tV s.c9) s.I5.toNat).z]::.agg [i (gL tV (rt tV s.c9) s.I5.toNat).x,i (gL tV (rt tV s.c9) s.I5.toNat).y,i (gL tV (rt tV s.c9) s.I5.toNat).z]::eL tV (rt tV s.c9)::i p.is3::.tptr [i (gL tV (rt tV s.c9) p.is3.toNat).x,i (gL tV (rt tV s.c9) p.is3.toNat).y,i (gL tV (rt tV s.c9) p.is3.toNat).z]::.agg [i (gL tV (rt tV s.c9) p.is3.toNat).x,i (gL tV (rt tV s.c9) p.is3.toNat).y,i (gL tV (rt tV s.c9) p.is3.toNat).z]::.tup [.agg [i t2.1.n.x,i t2.1.n.y,i t2.1.n.z,i t2.1.b],b t2.2]::.agg [i t2.1.n.x,i t2.1.n.y,i t2.1.n.z,i t2.1.b]::b t2.2::b t2.2::b true::.unk::.agg [i t2.1.n.x,i t2.1.n.y,i t2.1.n.z,i t2.1.b]::b false::b true::b true::.unk::u::u::u::u::b true::b true::ra 3 (i 1::.unk::.ptr 1 0 0 0::.ptr 2 0 0 0::ra 8 []))),[⟨0,1,[[eL tV (rt tV s.c9)]],true,false,0⟩,⟨0,1,[[eL tV (rt tV s.g7)]],true,false,0⟩,⟨0,1,[[b (!t3.bs0)]],true,false,0⟩,⟨0,4,[[i t2.1.n.x,i t2.1.n.y,i t2.1.n.z,i t2.1.b]],true,false,0⟩,⟨0,4,[[i t2.1.n.x,i t2.1.n.y,i t2.1.n.z,i t2.1.b]],true,false,0⟩]⟩),(some 2,λp s=>upq (tb0 p s) [(18,b (decide (s.I5<p.Xa7)))])],tb0⟩
theorem sc1:cb1.OkM:=Lo.okM [cb0.prM] (by kernel_rfl) (.cons sc0 .nil) rfl (.cons (λa H=>by kernel_rfl) .nil) λp s=>(.of @ka2 (λF _ _ _ _ _=>by unfold ka2;(repeat' apply q8 (f:=F))<;>rfl) (by kernel_rfl))
structure ua2 where
 is9:Int
structure R5 where
 v8:Int
 (c9 g7:List V3)
noncomputable def tb1(p:ua2)(s:R5):St:=⟨.unk::.ptr 0 0 0 0::ra 7 (i p.is9::i s.v8::ra 49 (i 0::.unk::.ptr 1 0 0 0::.ptr 2 0 0 0::ra 8 [])),[⟨0,1,[[eL tV s.c9]],true,false,0⟩,⟨0,1,[[eL tV s.g7]],true,false,0⟩,⟨0,1,[[b false]],true,false,0⟩]⟩
noncomputable def ka3{α:Type}(k:R5->α)(e:Nat->α)(z:α)(p:ua2)(s:R5):α:=let t1:=(lp (S5 (⟨s.v8,p.is9,s.v8,(↑(s.v8.toNat-0):Int)⟩:ea6)) (⟨0,rt tV s.c9,rt tV s.g7⟩:J3));(sl (decide (s.v8<p.is9)) (sl (inB s.v8 ((List.length s.c9)+1)) (sl ((cnE tV s.c9)&&((cnE tV s.g7)&&true)) (sl (Nat.beq t1.1 1) (e 1) (sl (Nat.beq t1.1 2) (k ⟨W (s.v8+1),t1.2.c9,t1.2.g7⟩) z)) z) z) (e 2))
noncomputable def ha0(p:ua2)(s:R5):Stp R5:=ka3 .next .exit .fail p s
noncomputable def cb2:Lo ua2 R5:=⟨En Na6,0,be4,[1,0,1,4,4,1,4,4],[1,9,10,60,62,63],.s .p (.s .p (.s (.b (.s .p (.s .p (.b (.u cb1.lsM))))) .p)),[⟨sUq::sPq 0::ru2 7 (sIq::sIq::ru2 49 (.s (.o (.lit .i64 0))::sUq::sPq 1::sPq 2::ru2 8 [])),[⟨0,1,true,some [[.c 3 (nL tV)]]⟩,⟨0,1,true,some [[.c 3 (nL tV)]]⟩,⟨0,1,true,some [[.o (.blit false)]]⟩],λa H=>(⟨aIq a 9⟩,⟨aIq a 10,hLq tV H 0 0 0,hLq tV H 1 0 0⟩)⟩],ha0,[(none,λp s=>let t1:=(lp (S5 (⟨s.v8,p.is9,s.v8,(↑(s.v8.toNat-0):Int)⟩:ea6)) (⟨0,rt tV s.c9,rt tV s.g7⟩:J3));let t2:=(lp (M2 (⟨s.v8,t1.2.I5,p.is9,s.v8,(↑(s.v8.toNat-0):Int),t1.2.I5,(↑(t1.2.I5.toNat-0):Int),rt tV t1.2.c9,rt tV t1.2.g7⟩:Y3)) (⟨0⟩:G4));let t3:=(G3 (gL tV (rt tV t1.2.c9) t2.2.B1.toNat) (gL tV (rt tV t1.2.c9) t1.2.I5.toNat) (gL tV (rt tV t1.2.c9) s.v8.toNat));let t4:=(o8 ⟨rt tV (rt tV t1.2.g7),t3.1.n.x,t3.1.n.y,t3.1.n.z,t3.1.b⟩);⟨.unk::.ptr 0 0 0 0::.unk::i s.v8::i t1.2.I5::i t2.2.B1::.ptr 3 0 0 0::b t3.2::.unk::i p.is9::i s.v8::ra 5 (i (↑(s.v8.toNat-0):Int)::i t1.2.I5::ra 5 (i (↑(t1.2.I5.toNat-0):Int)::i t2.2.B1::b (decide (t2.2.B1<(↑(t1.2.I5.toNat-0):Int)))::i t2.2.B1::.tup [.agg [i t3.1.n.x,i t3.1.n.y,i t3.1.n.z,i t3.1.b],b t3.2]::eL tV (rt tV t1.2.c9)::i t2.2.B1::.tptr [i (gL tV (rt tV t1.2.c9) t2.2.B1.toNat).x,i (gL tV (rt tV t1.2.c9) t2.2.B1.toNat).y,i (gL tV (rt tV t1.2.c9) t2.2.B1.toNat).z]::.agg [i (gL tV (rt tV t1.2.c9) t2.2.B1.toNat).x,i (gL tV (rt tV t1.2.c9) t2.2.B1.toNat).y,i (gL tV (rt tV t1.2.c9) t2.2.B1.toNat).z]::eL tV (rt tV t1.2.c9)::i t1.2.I5::.tptr [i (gL tV (rt tV t1.2.c9) t1.2.I5.toNat).x,i (gL tV (rt tV t1.2.c9) t1.2.I5.toNat).y,i (gL tV (rt tV t1.2.c9) t1.2.I5.toNat).z]::.agg [i (gL tV (rt tV t1.2.c9) t1.2.I5.toNat).x,i (gL tV (rt tV t1.2.c9) t1.2.I5.toNat).y,i (gL tV (rt tV t1.2.c9) t1.2.I5.toNat).z]::eL tV (rt tV t1.2.c9)::i s.v8::.tptr [i (gL tV (rt tV t1.2.c9) s.v8.toNat).x,i (gL tV (rt tV t1.2.c9) s.v8.toNat).y,i (gL tV (rt tV t1.2.c9) s.v8.toNat).z]::.agg [i (gL tV (rt tV t1.2.c9) s.v8.toNat).x,i (gL tV (rt tV t1.2.c9) s.v8.toNat).y,i (gL tV (rt tV t1.2.c9) s.v8.toNat).z]::.tup [.agg [i t3.1.n.x,i t3.1.n.y,i t3.1.n.z,i t3.1.b],b t3.2]::.agg [i t3.1.n.x,i t3.1.n.y,i t3.1.n.z,i t3.1.b]::b t3.2::b t3.2::b true::.unk::.agg [i t3.1.n.x,i t3.1.n.y,i t3.1.n.z,i t3.1.b]::b false::b true::b true::.unk::u::u::u::u::b true::b true::ra 3 (i 1::.unk::.ptr 1 0 0 0::.ptr 2 0 0 0::ra 8 []))),[⟨0,1,[[eL tV (rt tV t1.2.c9)]],true,false,0⟩,⟨0,1,[[eL tV (rt tV t1.2.g7)]],true,false,0⟩,⟨0,1,[[b (!t4.bs0)]],true,false,0⟩,⟨0,4,[[i t3.1.n.x,i t3.1.n.y,i t3.1.n.z,i t3.1.b]],true,false,0⟩,⟨0,4,[[i t3.1.n.x,i t3.1.n.y,i t3.1.n.z,i t3.1.b]],true,false,0⟩]⟩),(some 0,λp s=>upq (tb1 p s) [(11,b (decide (s.v8<p.is9)))])],tb1⟩
theorem sc2:cb2.OkM:=Lo.okM [cb1.prM] (by kernel_rfl) (.cons sc1 .nil) rfl (.cons (λa H=>by kernel_rfl) .nil) λp s=>(.of @ka3 (λF _ _ _ _ _=>by unfold ka3;(repeat' apply q8 (f:=F))<;>rfl) (by kernel_rfl))
noncomputable def Ia8(x:List V3):Option (b7×List c8):=let t1:=(lp (ha0 (⟨(↑(List.length x):Int)⟩:ua2)) (⟨0,rt tV x,rt tV x⟩:R5));let t2:=(lp (S5 (⟨t1.2.v8,(↑(List.length x):Int),t1.2.v8,(↑(t1.2.v8.toNat-0):Int)⟩:ea6)) (⟨0,rt tV t1.2.c9,rt tV t1.2.g7⟩:J3));let t3:=(lp (M2 (⟨t1.2.v8,t2.2.I5,(↑(List.length x):Int),t1.2.v8,(↑(t1.2.v8.toNat-0):Int),t2.2.I5,(↑(t2.2.I5.toNat-0):Int),rt tV t2.2.c9,rt tV t2.2.g7⟩:Y3)) (⟨0⟩:G4));let t4:=(G3 (gL tV (rt tV t2.2.c9) t3.2.B1.toNat) (gL tV (rt tV t2.2.c9) t2.2.I5.toNat) (gL tV (rt tV t2.2.c9) t1.2.v8.toNat));let t5:=(o8 ⟨rt tV (rt tV t2.2.g7),t4.1.n.x,t4.1.n.y,t4.1.n.z,t4.1.b⟩);(sl ((cnE tV x)&&((cnE tV x)&&true)) (sl (Nat.beq t1.1 1) (some (b (!t5.bs0),[])) (sl (Nat.beq t1.1 2) (some (b true,[])) none)) none)
noncomputable def Za6(x:List V3):Bool:=V1 (one r1B) (Ia8 x)
noncomputable def Za7(x:List V3):Bool:=okO (one r1B) (Ia8 x)
noncomputable def bc8:Sum:=L4 (xa0 tV) (λx=>.guard (Za7 x) (.ret ((one r1B).enc (Za6 x),[])))
theorem Oc7:i5 prog G 71 bc8:=Ea5 (bd b71 Ac6) (one r1B) (o:=Ia8) λx=>Gc0 (.s .p (.s (.s .p (.b (.i (.s .p (.b (.u cb2.lsM)))))) .p)) [cb2.prM] (by kernel_rfl) (.cons sc2 .nil) (by kernel_rfl)
structure va8 where
 (ea0 ea1 ea2 d9 d8 f7 j6:Int)
noncomputable def Vb1:List (Nat×Sum):=[(30,ia6)]
theorem Nb8:k8 prog G Vb1:=⟨la9,trivial⟩
structure va9 where
 alt:Nat
 bs0:Bool
noncomputable def ca1{α:Type}(kk:va9->α)(x:va8):α:=let t1:=(C7 (⟨(⟨x.d9,x.d8,x.f7⟩:V3),x.j6⟩:Pln) (⟨x.ea0,x.ea1,x.ea2⟩:V3));(sl (L9 (⟨(⟨x.d9,x.d8,x.f7⟩:V3),x.j6⟩:Pln) (⟨x.ea0,x.ea1,x.ea2⟩:V3)) (kk ⟨1,decide (t1>0)⟩) (kk ⟨0,false⟩))
noncomputable def wa0(x:va8):va9:=ca1 (λr=>r) x
noncomputable def Fa3(x:va8)(r:va9):DT (b7×List c8):=(.ite (Nat.beq r.alt 1) (.ret (b r.bs0,[⟨0,4,[[i x.d9,i x.d8,i x.f7,i x.j6]],true,false,0⟩])) .fail)
theorem ec8{α β:Type}(F:α->β)(kk:va9->α)(x:va8):F (ca1 kk x)=ca1 (λr=>F (kk r)) x:=by unfold ca1;(repeat' apply q8 (f:=F))<;>rfl
noncomputable def nb1:Sum:=Wa9 ⟨[.agg (kLq 3),sPq 0],[⟨0,4,true,some [kLq 4]⟩],λa H=>(⟨cIq a 0 0,cIq a 0 1,cIq a 0 2,hIq H 0 0 0,hIq H 0 0 1,hIq H 0 0 2,hIq H 0 0 3⟩,())⟩ (λx=>Fa3 x (wa0 x))
theorem Vb2:i5 prog G 79 nb1:=R4 (enc:=λx=>⟨[.agg [i x.ea0,i x.ea1,i x.ea2],.ptr 0 0 0 0],[⟨0,4,[[i x.d9,i x.d8,i x.f7,i x.j6]],true,false,0⟩]⟩) (λa H=>by kernel_rfl) (bd b79 Nb8) λx=>A6 (Qhd (b:=ca1 (λr=>(Fa3 x r).run) x) (by kernel_rfl) (ec8 (λr=>(Fa3 x r).run) (λr=>r) x).symm)
structure T4 where
 j5:List V3
 (d9 d8 f7 j6:Int)
noncomputable def ua3:List (Nat×Sum):=[(79,nb1)]
theorem Xa1:k8 prog G ua3:=⟨Vb2,trivial⟩
structure H9 where
 j5:List V3
 (is7 d9 d8 f7 j6:Int)
structure n8 where
 is8:Int
noncomputable def pa1(p:H9)(s:n8):St:=⟨eL tV p.j5::.fn 79 [.ptr 0 0 0 0]::ra 5 (i p.is7::i s.is8::ra 10 []),[⟨0,4,[[i p.d9,i p.d8,i p.f7,i p.j6]],true,false,0⟩]⟩
noncomputable def C9{α:Type}(k:n8->α)(e:Nat->α)(z:α)(p:H9)(s:n8):α:=let t1:=(wa0 ⟨(gL tV p.j5 s.is8.toNat).x,(gL tV p.j5 s.is8.toNat).y,(gL tV p.j5 s.is8.toNat).z,p.d9,p.d8,p.f7,p.j6⟩);(sl (decide (s.is8<p.is7)) (sl (inB s.is8 (List.length p.j5)) (sl (Nat.beq t1.alt 1) (sl t1.bs0 (e 1) (k ⟨W (s.is8+1)⟩)) z) z) (e 2))
noncomputable def E9(p:H9)(s:n8):Stp n8:=C9 .next .exit .fail p s
noncomputable def aa9:Lo H9 n8:=⟨En ua3,1,Ld6,[1,0,1,4,4],[0,1,7,8],.p,[⟨sLq tV::.fn 79 [.o (.ptr 0 0 0 0)]::ru2 5 (sIq::sIq::ru2 10 []),[⟨0,4,true,some [kLq 4]⟩],λa H=>(⟨aLq tV a 0,aIq a 7,hIq H 0 0 0,hIq H 0 0 1,hIq H 0 0 2,hIq H 0 0 3⟩,⟨aIq a 8⟩)⟩],E9,[(none,λp s=>⟨[i s.is8],[⟨0,4,[[i p.d9,i p.d8,i p.f7,i p.j6]],true,false,0⟩]⟩),(some 0,λp s=>upq (pa1 p s) [(9,b (decide (s.is8<p.is7)))])],pa1⟩
theorem Ua4:aa9.Ok:=Lo.ok [] (by kernel_rfl) .nil rfl (.cons (λa H=>by kernel_rfl) .nil) λp s=>(.of @C9 (λF _ _ _ _ _=>by unfold C9;(repeat' apply q8 (f:=F))<;>rfl) (by kernel_rfl))
structure T5 where
 alt:Nat
 is0:Int
noncomputable def D9{α:Type}(kk:T5->α)(x:T4):α:=let t1:=(lp (E9 (⟨rt tV x.j5,(↑(List.length x.j5):Int),x.d9,x.d8,x.f7,x.j6⟩:H9)) (⟨0⟩:n8));(sl ((cnE tV x.j5)&&true) (sl (Nat.beq t1.1 1) (kk ⟨1,t1.2.is8⟩) (sl (Nat.beq t1.1 2) (kk ⟨1,-1⟩) (kk ⟨0,0⟩))) (kk ⟨0,0⟩))
noncomputable def T6(x:T4):T5:=D9 (λr=>r) x
noncomputable def ea7(x:T4)(r:T5):DT (b7×List c8):=(.ite (Nat.beq r.alt 1) (.ret (i r.is0,[⟨0,4,[[i x.d9,i x.d8,i x.f7,i x.j6]],true,false,0⟩])) .fail)
theorem fb6{α β:Type}(F:α->β)(kk:T5->α)(x:T4):F (D9 kk x)=D9 (λr=>F (kk r)) x:=by unfold D9;(repeat' apply q8 (f:=F))<;>rfl
noncomputable def ya4:Sum:=Wa9 ⟨[sLq tV,.fn 79 [.o (.ptr 0 0 0 0)]],[⟨0,4,true,some [kLq 4]⟩],λa H=>(⟨aLq tV a 0,hIq H 0 0 0,hIq H 0 0 1,hIq H 0 0 2,hIq H 0 0 3⟩,())⟩ (λx=>ea7 x (T6 x))
theorem cb3:i5 prog G 88 ya4:=R4 (enc:=λx=>⟨[eL tV x.j5,.fn 79 [.ptr 0 0 0 0]],[⟨0,4,[[i x.d9,i x.d8,i x.f7,i x.j6]],true,false,0⟩]⟩) (λa H=>by kernel_rfl) (bd b88 Xa1) λx=>bb3 (.s .p (.s (.s .p (.b (.u aa9.ls))) .p)) [aa9.pr] (by kernel_rfl) (.cons Ua4 .nil) (Qhd (b:=D9 (λr=>(ea7 x r).run) x) (by kernel_rfl) (fb6 (λr=>(ea7 x r).run) (λr=>r) x).symm)
structure M3 where
 j5:List V3
 (d9 d8 f7 j6:Int)
noncomputable def Na7:List (Nat×Sum):=[(88,ya4)]
theorem Ka8:k8 prog G Na7:=⟨cb3,trivial⟩
structure M4 where
 alt:Nat
 bs0:Bool
noncomputable def y9{α:Type}(kk:M4->α)(x:M3):α:=let t1:=(T6 ⟨rt tV x.j5,x.d9,x.d8,x.f7,x.j6⟩);(sl ((cnE tV x.j5)&&true) (sl (Nat.beq t1.alt 1) (kk ⟨1,decide (t1.is0>=0)⟩) (kk ⟨0,false⟩)) (kk ⟨0,false⟩))
noncomputable def M5(x:M3):M4:=y9 (λr=>r) x
noncomputable def X2(x:M3)(r:M4):DT (b7×List c8):=(.ite (Nat.beq r.alt 1) (.ret (b r.bs0,[⟨0,4,[[i x.d9,i x.d8,i x.f7,i x.j6]],true,false,0⟩])) .fail)
theorem Ua5{α β:Type}(F:α->β)(kk:M4->α)(x:M3):F (y9 kk x)=y9 (λr=>F (kk r)) x:=by unfold y9;(repeat' apply q8 (f:=F))<;>rfl
noncomputable def pa2:Sum:=Wa9 ⟨[sLq tV,.fn 79 [.o (.ptr 0 0 0 0)]],[⟨0,4,true,some [kLq 4]⟩],λa H=>(⟨aLq tV a 0,hIq H 0 0 0,hIq H 0 0 1,hIq H 0 0 2,hIq H 0 0 3⟩,())⟩ (λx=>X2 x (M5 x))
theorem Na8:i5 prog G 70 pa2:=R4 (enc:=λx=>⟨[eL tV x.j5,.fn 79 [.ptr 0 0 0 0]],[⟨0,4,[[i x.d9,i x.d8,i x.f7,i x.j6]],true,false,0⟩]⟩) (λa H=>by kernel_rfl) (bd b70 Ka8) λx=>A6 (Qhd (b:=y9 (λr=>(X2 x r).run) x) (by kernel_rfl) (Ua5 (λr=>(X2 x r).run) (λr=>r) x).symm)
noncomputable def sc3:List (Nat×Sum):=[(70,pa2)]
theorem ec9:k8 prog G sc3:=⟨Na8,trivial⟩
noncomputable def ua4(x:List V3)(y:Pln):Option (b7×List c8):=let t1:=(M5 ⟨rt tV x,y.n.x,y.n.y,y.n.z,y.b⟩);(sl ((cnE tV x)&&true) (sl (Nat.beq t1.alt 1) (some (b t1.bs0,[])) none) none)
noncomputable def Y4(x:List V3)(y:Pln):Bool:=V1 (one r1B) (ua4 x y)
noncomputable def G5(x:List V3)(y:Pln):Bool:=okO (one r1B) (ua4 x y)
noncomputable def Bb9:Sum:=za1 (xa0 tV) (Z4 tP) (λx y=>.guard (G5 x y) (.ret ((one r1B).enc (Y4 x y),[])))
theorem sc4:i5 prog G 47 Bb9:=Lb5 (bd b47 ec9) (one r1B) (o:=ua4) λx y=>A6 (by kernel_rfl)
noncomputable def fc0:List (Nat×Sum):=[(20,Ta5)]
theorem Vb3:k8 prog G fc0:=⟨Za4,trivial⟩
noncomputable def pa3(x:V3):Option (b7×List c8):=let t1:=(ia2 x);(sl (ia3 x) (some (b (!t1),[])) none)
noncomputable def Ba2(x:V3):Bool:=V1 (one r1B) (pa3 x)
noncomputable def Ba3(x:V3):Bool:=okO (one r1B) (pa3 x)
noncomputable def tb2:Sum:=L4 (Z4 tV) (λx=>.guard (Ba3 x) (.ret ((one r1B).enc (Ba2 x),[])))
theorem fc1:i5 prog G 69 tb2:=Ea5 (bd b69 Vb3) (one r1B) (o:=pa3) λx=>A6 (by kernel_rfl)
structure T7 where
 j5:List V3
noncomputable def ua5:List (Nat×Sum):=[(69,tb2)]
theorem Xa2:k8 prog G ua5:=⟨fc1,trivial⟩
structure I0 where
 j5:List V3
 is7:Int
structure n9 where
 is8:Int
noncomputable def pa4(p:I0)(s:n9):St:=⟨eL tV p.j5::.fn 69 []::ra 5 (i p.is7::i s.is8::ra 10 []),[]⟩
noncomputable def D0{α:Type}(k:n9->α)(e:Nat->α)(z:α)(p:I0)(s:n9):α:=let t1:=(Ba2 (gL tV p.j5 s.is8.toNat));(sl (decide (s.is8<p.is7)) (sl (inB s.is8 (List.length p.j5)) (sl (Ba3 (gL tV p.j5 s.is8.toNat)) (sl t1 (e 1) (k ⟨W (s.is8+1)⟩)) z) z) (e 2))
noncomputable def F4(p:I0)(s:n9):Stp n9:=D0 .next .exit .fail p s
noncomputable def ba0:Lo I0 n9:=⟨En ua5,0,Ld6,[1,0,1,4,4],[0,1,7,8],.p,[⟨sLq tV::.s (.o (.fn 69))::ru2 5 (sIq::sIq::ru2 10 []),[],λa H=>(⟨aLq tV a 0,aIq a 7⟩,⟨aIq a 8⟩)⟩],F4,[(none,λp s=>⟨[i s.is8],[]⟩),(some 0,λp s=>upq (pa4 p s) [(9,b (decide (s.is8<p.is7)))])],pa4⟩
theorem Ua6:ba0.Ok:=Lo.ok [] (by kernel_rfl) .nil rfl (.cons (λa H=>by kernel_rfl) .nil) λp s=>(.of @D0 (λF _ _ _ _ _=>by unfold D0;(repeat' apply q8 (f:=F))<;>rfl) (by kernel_rfl))
structure T8 where
 alt:Nat
 is0:Int
noncomputable def E0{α:Type}(kk:T8->α)(x:T7):α:=let t1:=(lp (F4 (⟨rt tV x.j5,(↑(List.length x.j5):Int)⟩:I0)) (⟨0⟩:n9));(sl ((cnE tV x.j5)&&true) (sl (Nat.beq t1.1 1) (kk ⟨1,t1.2.is8⟩) (sl (Nat.beq t1.1 2) (kk ⟨1,-1⟩) (kk ⟨0,0⟩))) (kk ⟨0,0⟩))
noncomputable def T9(x:T7):T8:=E0 (λr=>r) x
noncomputable def ea8(x:T7)(r:T8):DT (b7×List c8):=(.ite (Nat.beq r.alt 1) (.ret (i r.is0,[])) .fail)
theorem fb7{α β:Type}(F:α->β)(kk:T8->α)(x:T7):F (E0 kk x)=E0 (λr=>F (kk r)) x:=by unfold E0;(repeat' apply q8 (f:=F))<;>rfl
noncomputable def ya5:Sum:=Wa9 ⟨[sLq tV,.s (.o (.fn 69))],[],λa H=>(⟨aLq tV a 0⟩,())⟩ (λx=>ea8 x (T9 x))
theorem cb4:i5 prog G 88 ya5:=R4 (enc:=λx=>⟨[eL tV x.j5,.fn 69 []],[]⟩) (λa H=>by kernel_rfl) (bd b88 Xa2) λx=>bb3 (.s .p (.s (.s .p (.b (.u ba0.ls))) .p)) [ba0.pr] (by kernel_rfl) (.cons Ua6 .nil) (Qhd (b:=E0 (λr=>(ea8 x r).run) x) (by kernel_rfl) (fb7 (λr=>(ea8 x r).run) (λr=>r) x).symm)
structure M6 where
 j5:List V3
noncomputable def Na9:List (Nat×Sum):=[(88,ya5)]
theorem Ka9:k8 prog G Na9:=⟨cb4,trivial⟩
structure M7 where
 alt:Nat
 bs0:Bool
noncomputable def z6{α:Type}(kk:M7->α)(x:M6):α:=let t1:=(T9 ⟨rt tV x.j5⟩);(sl ((cnE tV x.j5)&&true) (sl (Nat.beq t1.alt 1) (kk ⟨1,decide (t1.is0>=0)⟩) (kk ⟨0,false⟩)) (kk ⟨0,false⟩))
noncomputable def M8(x:M6):M7:=z6 (λr=>r) x
noncomputable def X3(x:M6)(r:M7):DT (b7×List c8):=(.ite (Nat.beq r.alt 1) (.ret (b r.bs0,[])) .fail)
theorem Ua7{α β:Type}(F:α->β)(kk:M7->α)(x:M6):F (z6 kk x)=z6 (λr=>F (kk r)) x:=by unfold z6;(repeat' apply q8 (f:=F))<;>rfl
noncomputable def pa5:Sum:=Wa9 ⟨[sLq tV,.s (.o (.fn 69))],[],λa H=>(⟨aLq tV a 0⟩,())⟩ (λx=>X3 x (M8 x))
theorem Oa0:i5 prog G 70 pa5:=R4 (enc:=λx=>⟨[eL tV x.j5,.fn 69 []],[]⟩) (λa H=>by kernel_rfl) (bd b70 Ka9) λx=>A6 (Qhd (b:=z6 (λr=>(X3 x r).run) x) (by kernel_rfl) (Ua7 (λr=>(X3 x r).run) (λr=>r) x).symm)
noncomputable def Ac7:List (Nat×Sum):=[(70,pa5),(71,bc8)]
theorem sc5:k8 prog G Ac7:=⟨Oa0,Oc7,trivial⟩
noncomputable def Ba4(x:List V3):Option (b7×List c8):=let t1:=(M8 ⟨rt tV x⟩);let t2:=(Za6 (rt tV x));(sl (decide ((↑(List.length x):Int)>48)) (some (i 2,[])) (sl ((cnE tV x)&&true) (sl (Nat.beq t1.alt 1) (sl t1.bs0 (some (i 3,[])) (sl (okE tV x) (sl (Za7 (rt tV x)) (sl t2 (some (i 11,[])) (some (i 0,[]))) none) none)) none) none))
noncomputable def sa2(x:List V3):Int:=V1 (one r1I) (Ba4 x)
noncomputable def sa3(x:List V3):Bool:=okO (one r1I) (Ba4 x)
noncomputable def Oa1:Sum:=L4 (xa0 tV) (λx=>.guard (sa3 x) (.ret ((one r1I).enc (sa2 x),[])))
theorem cb5:i5 prog G 44 Oa1:=Ea5 (bd b44 sc5) (one r1I) (o:=Ba4) λx=>A6 (by kernel_rfl)
noncomputable def Vb4:List (Nat×Sum):=[]
theorem Nb9:k8 prog G Vb4:=trivial
noncomputable def wa1(x:Int):Bool:=(x != x)
noncomputable def nb2:Sum:=L4 cI (λx=>.ret ((one r1B).enc (wa1 x),[]))
theorem Vb5:i5 prog G 120 nb2:=xb2 (bd Ie2 Nb9) λx=>A6 (by kernel_rfl)
noncomputable def Hb2:List (Nat×Sum):=[(120,nb2)]
theorem zb4:k8 prog G Hb2:=⟨Vb5,trivial⟩
noncomputable def ca8(x:Int)(y:Int):Option (b7×List c8):=let t1:=(wa1 x);let t2:=(wa1 y);(sl t1 (sl t2 (some (i 0,[])) (some (i (-1),[]))) (sl t2 (some (i 1,[])) (sl (decide (x<y)) (some (i (-1),[])) (sl (decide (x>y)) (some (i 1,[])) (some (i 0,[]))))))
noncomputable def U0(x:Int)(y:Int):Int:=V1 (one r1I) (ca8 x y)
noncomputable def U1(x:Int)(y:Int):Bool:=okO (one r1I) (ca8 x y)
noncomputable def Za8:Sum:=za1 cI cI (λx y=>.guard (U1 x y) (.ret ((one r1I).enc (U0 x y),[])))
theorem Hb3:i5 prog G 97 Za8:=Lb5 (bd b97 zb4) (one r1I) (o:=ca8) λx y=>A6 (by kernel_rfl)
noncomputable def Cb0:List (Nat×Sum):=[]
theorem sc6:k8 prog G Cb0:=trivial
structure pa6 where
 ab3:List Int
 is7:Int
structure J4 where
 is8:Int
noncomputable def nb3(p:pa6)(s:J4):St:=⟨ra 3 (i 0::.unk::.unk::eL tI p.ab3::i p.is7::i s.is8::ra 9 []),[]⟩
noncomputable def Fa4{α:Type}(k:J4->α)(e:Nat->α)(z:α)(p:pa6)(s:J4):α:=(sl (decide (s.is8<p.is7)) (sl (inB s.is8 (List.length p.ab3)) (sl ((gL tI p.ab3 s.is8.toNat) != 0) (e 1) (k ⟨W (s.is8+1)⟩)) z) (e 2))
noncomputable def V5(p:pa6)(s:J4):Stp J4:=Fa4 .next .exit .fail p s
noncomputable def Ua8:Lo pa6 J4:=⟨En Cb0,0,ze3,[1,1,0,1,4,4],[3,6,7,8],.p,[⟨ru2 3 (.s (.o (.lit .i64 0))::sUq::sUq::sLq tI::sIq::sIq::ru2 9 []),[],λa H=>(⟨aLq tI a 6,aIq a 7⟩,⟨aIq a 8⟩)⟩],V5,[(none,λp s=>⟨[i (gL tI p.ab3 s.is8.toNat)],[]⟩),(some 0,λp s=>upq (nb3 p s) [(9,b (decide (s.is8<p.is7)))])],nb3⟩
theorem fc2:Ua8.Ok:=Lo.ok [] (by kernel_rfl) .nil rfl (.cons (λa H=>by kernel_rfl) .nil) λp s=>(.of @Fa4 (λF _ _ _ _ _=>by unfold Fa4;(repeat' apply q8 (f:=F))<;>rfl) (by kernel_rfl))
noncomputable def Ba5(x:List Int):Option (b7×List c8):=let t1:=(lp (V5 (⟨rt tI x,(↑(List.length x):Int)⟩:pa6)) (⟨0⟩:J4));(sl ((cnE tI x)&&true) (sl (Nat.beq t1.1 1) (some (i (gL tI (rt tI x) t1.2.is8.toNat),[])) (sl (Nat.beq t1.1 2) (some (i 0,[])) none)) none)
noncomputable def Oa2(x:List Int):Int:=V1 (one r1I) (Ba5 x)
noncomputable def Oa3(x:List Int):Bool:=okO (one r1I) (Ba5 x)
noncomputable def Ob0:Sum:=L4 (xa0 tI) (λx=>.guard (Oa3 x) (.ret ((one r1I).enc (Oa2 x),[])))
theorem Ac8:i5 prog G 96 Ob0:=Ea5 (bd b96 sc6) (one r1I) (o:=Ba5) λx=>bb3 (.s .p (.s .p (.s (.s .p (.b (.u Ua8.ls))) .p))) [Ua8.pr] (by kernel_rfl) (.cons fc2 .nil) (by kernel_rfl)
noncomputable def fc3:List (Nat×Sum):=[(97,Za8),(96,Ob0)]
theorem Vb6:k8 prog G fc3:=⟨Hb3,Ac8,trivial⟩
noncomputable def pa7(x:V3)(y:V3):Option (b7×List c8):=let t1:=(U0 x.x y.x);let t2:=(U0 x.y y.y);let t3:=(U0 x.z y.z);let t4:=(Oa2 [t1,t2,t3]);(sl (U1 x.x y.x) (sl (U1 x.y y.y) (sl (U1 x.z y.z) (sl (Oa3 [t1,t2,t3]) (some (i t4,[])) none) none) none) none)
noncomputable def Ba6(x:V3)(y:V3):Int:=V1 (one r1I) (pa7 x y)
noncomputable def Ba7(x:V3)(y:V3):Bool:=okO (one r1I) (pa7 x y)
noncomputable def Ua9:Sum:=za1 (Z4 tV) (Z4 tV) (λx y=>.guard (Ba7 x y) (.ret ((one r1I).enc (Ba6 x y),[])))
theorem fc4:i5 prog G 74 Ua9:=Lb5 (bd b74 Vb6) (one r1I) (o:=pa7) λx y=>A6 (by kernel_rfl)
end Go.Ev.Ce
namespace Go.Ev.L
open Go Go.Ev
theorem be5(n:Int):W n=(n+9223372036854775808) % 18446744073709551616-9223372036854775808:=IntKind.wrap_i64 n
theorem aa0{n:Int}(h1:-9223372036854775808<=n)(h2:n<=9223372036854775807):W n=n:=by rw[be5];omega
theorem Ld8(n:Int):∃k,W n=n+18446744073709551616*k:=⟨-((n+9223372036854775808) / 18446744073709551616),by rw[be5];omega⟩
theorem Vb7(n k:Int):W (n+18446744073709551616*k)=W n:=by rw[be5,be5];omega
theorem Hb4(a b:Int):W (W a+b)=W (a+b):=by
 obtain⟨k,hk⟩:=Ld8 a;rw[hk,show a+18446744073709551616*k+b=a+b+18446744073709551616*k by omega,Vb7]
theorem Vb8(a b:Int):W (a+W b)=W (a+b):=by rw[Int.add_comm,Hb4,Int.add_comm]
theorem Oc8(a b:Int):W (W a-b)=W (a-b):=by
 obtain⟨k,hk⟩:=Ld8 a;rw[hk,show a+18446744073709551616*k-b=a-b+18446744073709551616*k by omega,Vb7]
theorem ld7(a b:Int):W (a-W b)=W (a-b):=by
 obtain⟨k,hk⟩:=Ld8 b;rw[hk,show a-(b+18446744073709551616*k)=a-b+18446744073709551616*(-k) by omega,Vb7]
theorem C0{j n:Nat}(h:j<n)(hn:n<=4611686018427387904):W ((j:Int)+1)=((j+1:Nat):Int):=by
 rw[aa0 (by omega) (by omega)];omega
theorem sc7{j n:Nat}(h:j<n):decide ((j:Int)<(n:Int))=true:=decide_eq_true (by omega)
theorem Ob1{j n:Nat}(h:¬ j<n):decide ((j:Int)<(n:Int))=false:=decide_eq_false (by omega)
theorem i6{j n:Nat}(h:j<n):inB (j:Int) n=true:=by
 show Nat.blt j n=true;rw[Nat.blt_eq];exact h
theorem be6(m:Int)(n:Nat):inB m n=decide (0<=m/\m<n):=by
 unfold inB;cases m with
 |ofNat k =>
  rw[Bool.eq_iff_iff,decide_eq_true_eq];show Nat.blt k n=true↔_;rw[Nat.blt_eq];constructor
  ·intro h;exact⟨Int.natCast_nonneg k,Int.ofNat_lt.2 h⟩
  ·intro h;exact Int.ofNat_lt.1 h.2
 |negSucc k=>exact (decide_eq_false (λh=>by omega)).symm
theorem bt{c:Bool}(h:c=true){α:Type}(t e:α):sl c t e=t:=by rw[h];rfl
theorem bf{c:Bool}(h:c=false){α:Type}(t e:α):sl c t e=e:=by rw[h];rfl
theorem be7{n:Nat}(h:n<=1000000000000):Nat.ble (n*32) room=true:=by
 rw[Nat.ble_eq];unfold room;omega
theorem Ld9 {σ : Type} {step : σ → Stp σ} {I : Nat → σ → Prop} {Q : Nat → σ → Prop} (h : ∀ m s, I m s → (∃ t, step s = .exit t ∧ Q t s) ∨ ∃ s' m', m = m' + 1 ∧ step s = .next s' ∧ I m' s') :
  ∀(m n:Nat) (s:σ),m<=n->I m s->Q (lp0 step n s).1 (lp0 step n s).2
 |m,n,s,hn,hi=>by
  rcases h m s hi with⟨t,h1,h2⟩|⟨s',m',rfl,h1,h2⟩
  ·rw[oc3 h1];exact h2
  ·cases n with
   |zero=>omega
   |succ n =>
    rw[Wc0 h1];exact Ld9 h m' n s' (by omega) h2
theorem Vb9 {σ : Type} {step : σ → Stp σ} {I : Nat → σ → Prop} {Q : Nat → σ → Prop} (h : ∀ m s, I m s → (∃ t, step s = .exit t ∧ Q t s) ∨ ∃ s' m', m = m' + 1 ∧ step s = .next s' ∧ I m' s')
  (m:Nat) (s:σ) (hm:m<=18446744073709551615) (hi:I m s):Q (lp step s).1 (lp step s).2:=by
 rw[Hd4];exact Ld9 h m rounds s (by unfold rounds;omega) hi
section
variable{σ τ α:Type}{step:σ->Stp σ}
theorem be8 {mk : Nat → τ → σ} {f : τ → α → τ} {fin : Nat} (t : Ty α) (l : List α) (I : Nat → τ → Prop) (hl : l.length ≤ 1000000000)
  (h:∀j a,j<l.length->I j a->step (mk j a)=.next (mk (j+1) (f a (gL t l j)))/\I (j+1) (f a (gL t l j)))
  (hf:∀a,I l.length a->step (mk l.length a)=.exit fin) (j0:Nat) (hj:j0<=l.length) (a:τ) (hi:I j0 a) :
  lp step (mk j0 a)=(fin,mk l.length ((l.drop j0).foldl f a))/\I l.length ((l.drop j0).foldl f a):=by
 have key:=Vb9 (step:=step) (I:=λm s=>∃j b,m=l.length-j/\j<=l.length/\s=mk j b/\I j b/\(l.drop j).foldl f b=(l.drop j0).foldl f a)
  (Q:=λu s=>u=fin/\s=mk l.length ((l.drop j0).foldl f a)/\I l.length ((l.drop j0).foldl f a)) (λm s ⟨j,b,hm,hj,hs,hb,he⟩=>by
   subst hs;by_cases hlt:j<l.length
   ·obtain⟨h1,h2⟩:=h j b hlt hb;refine .inr ⟨_,l.length-(j+1),by omega,h1,j+1,_,rfl,by omega,rfl,h2,?_⟩
    rw[<- he,Qhc hlt,List.foldl_cons];simp[gL,Qha,Qhb hlt]
   ·have:j=l.length:=by omega
    subst this;have he:b=(l.drop j0).foldl f a:=by rw[<- he];simp
    subst he;exact .inl ⟨fin,hf _ hb,rfl,rfl,hb⟩) (l.length-j0) (mk j0 a) (by omega) ⟨j0,a,rfl,hj,rfl,hi,rfl⟩
 exact⟨by rw[<- key.2.1,<- key.1],key.2.2⟩
theorem Md0 {mk : Nat → σ} {c : α → Bool} {u fin : Nat} (t : Ty α) (l : List α) (hl : l.length ≤ 1000000000)
  (h:∀j,j<l.length->step (mk j)=sl (c (gL t l j)) (.exit u) (.next (mk (j+1)))) (hf:step (mk l.length)=.exit fin) (j0:Nat) (hj:j0<=l.length) :
  (lp step (mk j0)).1=if (l.drop j0).any c then u else fin :=
 Vb9 (step:=step) (I:=λm s=>∃j,m=l.length-j/\j<=l.length/\s=mk j/\(l.drop j).any c=(l.drop j0).any c)
  (Q:=λv _=>v=if (l.drop j0).any c then u else fin) (λm s ⟨j,hm,hj,hs,he⟩=>by
   subst hs;by_cases hlt:j<l.length
   ·have h1:=h j hlt;have e:gL t l j=l[j]:=by simp[gL,Qha,Qhb hlt]
    have e2:(l.drop j).any c=(c l[j]||(l.drop (j+1)).any c):=by rw[Qhc hlt,List.any_cons]
    rw[e] at h1;cases hc:c l[j] with
    |true =>
     rw[hc] at h1;refine .inl ⟨u,h1,?_⟩;rw[<- he,e2,hc];rfl
    |false =>
     rw[hc] at h1;refine .inr ⟨_,l.length-(j+1),by omega,h1,j+1,rfl,by omega,rfl,?_⟩
     rw[<- he,e2,hc];rfl
   ·have:j=l.length:=by omega
    subst this;refine .inl ⟨fin,hf,?_⟩;rw[<- he];simp) (l.length-j0) (mk j0) (by omega) ⟨j0,rfl,hj,rfl,rfl⟩
theorem Oa4 {mk : Nat → σ} {c : α → Bool} {u fin : Nat} (t : Ty α) (l : List α) (hl : l.length ≤ 1000000000)
  (h:∀j,j<l.length->step (mk j)=sl (c (gL t l j)) (.exit u) (.next (mk (j+1)))) (hf:step (mk l.length)=.exit fin) (j0:Nat) (hj:j0<=l.length) :
  lp step (mk j0)=if (l.drop j0).any c then (u,mk (j0+(l.drop j0).findIdx c)) else (fin,mk l.length):=by
 have key:=Vb9 (step:=step) (I:=λm s=>∃j,m=l.length-j/\j<=l.length/\j0<=j/\s=mk j/\(l.drop j).any c=(l.drop j0).any c/\j+(l.drop j).findIdx c=j0+(l.drop j0).findIdx c)
  (Q:=λv s=>(v,s)=if (l.drop j0).any c then (u,mk (j0+(l.drop j0).findIdx c)) else (fin,mk l.length)) (λm s ⟨j,hm,hj,hj0,hs,he,hi⟩=>by
   subst hs;by_cases hlt:j<l.length
   ·have h1:=h j hlt;have e:gL t l j=l[j]:=by simp[gL,Qha,Qhb hlt]
    have e2:(l.drop j).any c=(c l[j]||(l.drop (j+1)).any c):=by rw[Qhc hlt,List.any_cons]
    have e3:(l.drop j).findIdx c=if c l[j] then 0 else (l.drop (j+1)).findIdx c+1:=by rw[Qhc hlt,List.findIdx_cons];cases c l[j]<;>rfl
    rw[e] at h1;cases hc:c l[j] with
    |true =>
     rw[hc] at h1;refine .inl ⟨u,h1,?_⟩;rw[<- he,e2,hc,<- hi,e3,hc];rfl
    |false =>
     rw[hc] at h1;refine .inr ⟨_,l.length-(j+1),by omega,h1,j+1,rfl,by omega,by omega,rfl,?_,?_⟩
     ·rw[<- he,e2,hc];rfl
     ·rw[<- hi,e3,hc];simp only[Qhg,if_false];omega
   ·have:j=l.length:=by omega
    subst this;refine .inl ⟨fin,hf,?_⟩;rw[<- he];simp) (l.length-j0) (mk j0) (by omega) ⟨j0,rfl,hj,Qhe _,rfl,rfl,rfl⟩
 exact key
end
theorem Ba8{α:Type}(t:Ty α){l:List α}{j:Nat}(h:j<l.length):gL t l j∈l:=by
 simp[gL,Qha,Qhb h]
theorem nb4{α:Type}(t:Ty α){l:List α}{j:Nat}(h:j<l.length):gL t l j=l[j]:=by
 simp[gL,Qha,Qhb h]
def euF:Nat->Int->Int->Int
 |0,g,_=>g
 |k+1,g,n=>if n=0 then g else euF k n (Int.tmod g n)
def eu(g n:Int):Int:=euF (n.natAbs+1) g n
theorem Qa5{g n:Int}(h:n≠0):(Int.tmod g n).natAbs<n.natAbs:=by
 rw[Int.natAbs_tmod];exact Nat.mod_lt _ (by omega)
theorem Zc7:∀(k m:Nat) {g n:Int},n.natAbs<k->n.natAbs<m->euF k g n=euF m g n
 |0,_,_,_,h,_=>by omega
 |_+1,0,_,_,_,h=>by omega
 |k+1,m+1,g,n,h1,h2=>by
  unfold euF;by_cases h:n=0
  ·rw[if_pos h,if_pos h]
  ·rw[if_neg h,if_neg h]
   have:=Qa5 (g:=g) h
   exact Zc7 k m (by omega) (by omega)
theorem Ob2(g:Int):eu g 0=g:=by simp[eu,euF]
theorem Oc9{g n:Int}(h:n≠0):eu g n=eu n (Int.tmod g n):=by
 have:=Qa5 (g:=g) h
 unfold eu
 conv=>lhs;unfold euF
 rw[if_neg h];exact Zc7 _ _ (by omega) (by omega)
theorem qe6:∀(k:Nat) (g n:Int),n.natAbs<=k->(eu g n).natAbs=Int.gcd g n:=by
 intro k
 induction k with
 |zero =>
  intro g n h
  have:n=0:=by omega
  subst this;rw[Ob2];simp
 |succ k ih =>
  intro g n h;by_cases h0:n=0
  ·subst h0;rw[Ob2];simp
  ·have:=Qa5 (g:=g) h0
   rw[Oc9 h0,ih n (Int.tmod g n) (by omega)]
   unfold Int.gcd;rw[Int.natAbs_tmod,Nat.gcd_comm g.natAbs,Nat.gcd_comm n.natAbs,<- Nat.gcd_rec]
theorem qe7(g n:Int):(eu g n).natAbs=Int.gcd g n:=qe6 _ g n (Qhe _)
theorem Bd3:∀(k:Nat) (g n:Int),n.natAbs<=k->0<=g->0<=n->0<=eu g n:=by
 intro k
 induction k with
 |zero =>
  intro g n h hg _
  have:n=0:=by omega
  subst this;rw[Ob2];exact hg
 |succ k ih =>
  intro g n h hg hn;by_cases h0:n=0
  ·subst h0;rw[Ob2];exact hg
  ·have:=Qa5 (g:=g) h0
   rw[Oc9 h0];exact ih n _ (by omega) hn (Int.tmod_nonneg _ hg)
theorem qe8{g n:Int}(hg:0<=g)(hn:0<=n):eu g n=(Int.gcd g n:Int):=by
 have h1:=Bd3 _ g n (Qhe _) hg hn;have h2:=qe7 g n;omega
section
variable{σ:Type}{step:σ->Stp σ}{mk:Int->Int->σ}
theorem bc9(h:∀g n,0<n->step (mk g n)=.next (mk n (Int.tmod g n)))(h0:∀g,step (mk g 0)=.exit 1)(g n:Int)(hg:0<=g)(h1:0<=n)(hn:n<=9223372036854775808):lp step (mk g n)=(1,mk (eu g n) 0):=by
 have:=Vb9 (step:=step) (I:=λm s=>∃a c,s=mk a c/\c.natAbs<=m/\0<=a/\0<=c/\eu a c=eu g n) (Q:=λu s=>(u,s)=(1,mk (eu g n) 0)) (λm s ⟨a,c,hs,hm,ha,hc0,he⟩=>by
  subst hs;by_cases hc:c=0
  ·subst hc;rw[Ob2] at he;subst he;exact .inl ⟨1,h0 _,rfl⟩
  ·have ht:=Qa5 (g:=a) hc;exact .inr ⟨_,m-1,by omega,h a c (by omega),c,_,rfl,by omega,hc0,Int.tmod_nonneg _ ha,by rw[<- he,Oc9 hc]⟩) n.natAbs (mk g n) (by omega) ⟨g,n,rfl,Qhe _,hg,h1,rfl⟩
 exact this
end
theorem mb{a c A C:Int}(h1:-A<=a)(h2:a<=A)(h3:-C<=c)(h4:c<=C):-(A*C)<=a*c/\a*c<=A*C:=by
 have hA:a.natAbs<=A.natAbs:=by omega
 have hC:c.natAbs<=C.natAbs:=by omega
 have h5:=Nat.mul_le_mul hA hC;rw[<- Int.natAbs_mul,<- Int.natAbs_mul] at h5;have h6:0<=A*C:=Int.mul_nonneg (by omega) (by omega)
 omega
end Go.Ev.L
namespace Go.Proofs
open Go.Shelf
set_option maxRecDepth 100000 in
def Ce.sortLayV_ren:Go.Shelf.Ren:=⟨fun | 6=>73 | 15=>81 | 14=>95 | 28=>107 | 29=>108 | 20=>112 | 21=>113 | 22=>114 | 23=>115 | 24=>116 | 25=>117 | 26=>118 | 27=>119 | 46=>126 | 47=>122 | 48=>123 | 49=>127 | 50=>128 | 57=>130 | n=>n,fun | 22=>23 | 24=>25 | 25=>36 | 3=>3 | 39=>104 | 0=>0 | 53=>123 | 55=>125 | 4=>4 | 46=>116 | 45=>115 | 50=>120 | 5=>5 | 9=>9 | 66=>134 | 70=>138 | 76=>142 | 77=>143 | n=>n,fun | n=>n⟩
set_option maxRecDepth 100000 in
theorem Ce.sortLayV:Go.Proofs.SlLaysF0.n6 Tryz.prog Ce.sortLayV_ren:={
 mixed:=by kernel_rfl
 f6:=⟨Tryz.f73.name,by decide,Tryz.func73.trans (congrArg some (by kernel_rfl))⟩
 f14:=⟨Tryz.f95.name,by decide,Tryz.func95.trans (congrArg some (by kernel_rfl))⟩
 f15:=Tryz.func81.trans (congrArg some (by kernel_rfl))
 f20:=⟨Tryz.f112.name,by decide,Tryz.func112.trans (congrArg some (by kernel_rfl))⟩
 f21:=⟨Tryz.f113.name,by decide,Tryz.func113.trans (congrArg some (by kernel_rfl))⟩
 f22:=⟨Tryz.f114.name,by decide,Tryz.func114.trans (congrArg some (by kernel_rfl))⟩
 f23:=⟨Tryz.f115.name,by decide,Tryz.func115.trans (congrArg some (by kernel_rfl))⟩
 f24:=⟨Tryz.f116.name,by decide,Tryz.func116.trans (congrArg some (by kernel_rfl))⟩
 f25:=⟨Tryz.f117.name,by decide,Tryz.func117.trans (congrArg some (by kernel_rfl))⟩
 f26:=⟨Tryz.f118.name,by decide,Tryz.func118.trans (congrArg some (by kernel_rfl))⟩
 f27:=⟨Tryz.f119.name,by decide,Tryz.func119.trans (congrArg some (by kernel_rfl))⟩
 f28:=Tryz.func107.trans (congrArg some (by kernel_rfl))
 f29:=Tryz.func108.trans (congrArg some (by kernel_rfl))
 f46:=⟨Tryz.f126.name,by decide,Tryz.func126.trans (congrArg some (by kernel_rfl))⟩
 f47:=Tryz.func122.trans (congrArg some (by kernel_rfl))
 f48:=Tryz.func123.trans (congrArg some (by kernel_rfl))
 f49:=⟨Tryz.f127.name,by decide,Tryz.func127.trans (congrArg some (by kernel_rfl))⟩
 f50:=⟨Tryz.f128.name,by decide,Tryz.func128.trans (congrArg some (by kernel_rfl))⟩
 f57:=⟨Tryz.f130.name,by decide,Tryz.func130.trans (congrArg some (by kernel_rfl))⟩
 t0:=Tryz.underlying0
 a0:=Tryz.isAgg0
 z0:=Tryz.sizeOf0
 v0:=Tryz.zeroValue0
 t3:=Tryz.underlying3
 a3:=Tryz.isAgg3
 z3:=Tryz.sizeOf3
 v3:=Tryz.zeroValue3
 t4:=Tryz.underlying4
 a4:=Tryz.isAgg4
 z4:=Tryz.sizeOf4
 v4:=Tryz.zeroValue4
 t5:=Tryz.underlying5
 a5:=Tryz.isAgg5
 z5:=Tryz.sizeOf5
 v5:=Tryz.zeroValue5
 t9:=Tryz.underlying9
 a9:=Tryz.isAgg9
 z9:=Tryz.sizeOf9
 v9:=Tryz.zeroValue9
 t22:=Tryz.underlying23
 a22:=Tryz.isAgg23
 z22:=Tryz.sizeOf23
 v22:=Tryz.zeroValue23
 t25:=Tryz.underlying36
 a25:=Tryz.isAgg36
 z25:=Tryz.sizeOf36
 v25:=Tryz.zeroValue36
 t39:=Tryz.underlying104
 a39:=Tryz.isAgg104
 z39:=Tryz.sizeOf104
 v39:=Tryz.zeroValue104
 t45:=Tryz.underlying115
 a45:=Tryz.isAgg115
 z45:=Tryz.sizeOf115
 v45:=Tryz.zeroValue115
 t46:=Tryz.underlying116
 a46:=Tryz.isAgg116
 z46:=Tryz.sizeOf116
 v46:=Tryz.zeroValue116
 t50:=Tryz.underlying120
 a50:=Tryz.isAgg120
 z50:=Tryz.sizeOf120
 v50:=Tryz.zeroValue120
 t53:=Tryz.underlying123
 a53:=Tryz.isAgg123
 z53:=Tryz.sizeOf123
 v53:=Tryz.zeroValue123
 t55:=Tryz.underlying125
 a55:=Tryz.isAgg125
 z55:=Tryz.sizeOf125
 v55:=Tryz.zeroValue125
 t66:=Tryz.underlying134
 a66:=Tryz.isAgg134
 z66:=Tryz.sizeOf134
 v66:=Tryz.zeroValue134
 t70:=Tryz.underlying138
 a70:=Tryz.isAgg138
 z70:=Tryz.sizeOf138
 v70:=Tryz.zeroValue138
 t76:=Tryz.underlying142
 a76:=Tryz.isAgg142
 z76:=Tryz.sizeOf142
 v76:=Tryz.zeroValue142
 t77:=Tryz.underlying143
 a77:=Tryz.isAgg143
 z77:=Tryz.sizeOf143
 v77:=Tryz.zeroValue143 }
end Go.Proofs
namespace Go.Ev.Ce
open Go Go.Ev Go.Ev.L Go.Proofs Go.Sort
theorem sd0(x y:Int):ca8 x y=some (i (bb5 x y),[]):=by
 unfold ca8 wa1 bb5;simp only[bne_self_eq_false,Gb2,decide_eq_true_eq,Qhg,if_false]
 split<;>(try split)<;>rfl
theorem qe9(x y:Int):U0 x y=bb5 x y:=by unfold U0;rw[sd0];rfl
theorem re0(x y:Int):U1 x y=true:=by unfold U1;rw[sd0];rfl
def orI(a c d:Int):Int:=if a=0 then if c=0 then d else c else a
theorem be9(a c d:Int):((lp (V5 ⟨[a,c,d],3⟩) ⟨0⟩).1=1/\gL tI [a,c,d] (lp (V5 ⟨[a,c,d],3⟩) ⟨0⟩).2.is8.toNat=orI a c d)\/((lp (V5 ⟨[a,c,d],3⟩) ⟨0⟩).1=2/\orI a c d=0):=by
 have g0:gL tI [a,c,d] 0=a:=rfl;have g1:gL tI [a,c,d] 1=c:=rfl;have g2:gL tI [a,c,d] 2=d:=rfl;refine Vb9 (step:=V5 ⟨[a,c,d],3⟩) (I:=λm s=>(m=3/\s=⟨0⟩)\/(m=2/\s=⟨1⟩/\a=0)\/(m=1/\s=⟨2⟩/\a=0/\c=0)\/(m=0/\s=⟨3⟩/\a=0/\c=0/\d=0))
  (Q:=λt s=>(t=1/\gL tI [a,c,d] s.is8.toNat=orI a c d)\/(t=2/\orI a c d=0)) (λm s hi=>?_) 3 ⟨0⟩ (by omega) (.inl ⟨rfl,rfl⟩)
 rcases hi with⟨rfl,rfl⟩|⟨rfl,rfl,ha⟩|⟨rfl,rfl,ha,hc⟩|⟨rfl,rfl,ha,hc,hd⟩
 ·by_cases h:a=0
  ·exact .inr ⟨⟨1⟩,2,rfl,by subst h;rfl,.inr (.inl ⟨rfl,rfl,h⟩)⟩
  ·refine .inl ⟨1,?_,.inl ⟨rfl,by unfold orI;rw[if_neg h];rfl⟩⟩
   show sl (a != 0) (Stp.exit 1) (Stp.next (⟨W (0+1)⟩:J4))=_;rw[bt (by simpa using h)]
 ·by_cases h:c=0
  ·exact .inr ⟨⟨2⟩,1,rfl,by subst h;rfl,.inr (.inr (.inl ⟨rfl,rfl,ha,h⟩))⟩
  ·refine .inl ⟨1,?_,.inl ⟨rfl,by unfold orI;rw[if_pos ha,if_neg h];rfl⟩⟩
   show sl (c != 0) (Stp.exit 1) (Stp.next (⟨W (1+1)⟩:J4))=_;rw[bt (by simpa using h)]
 ·by_cases h:d=0
  ·exact .inr ⟨⟨3⟩,0,rfl,by subst h;rfl,.inr (.inr (.inr ⟨rfl,rfl,ha,hc,h⟩))⟩
  ·refine .inl ⟨1,?_,.inl ⟨rfl,by unfold orI;rw[if_pos ha,if_pos hc];rfl⟩⟩
   show sl (d != 0) (Stp.exit 1) (Stp.next (⟨W (2+1)⟩:J4))=_;rw[bt (by simpa using h)]
 ·exact .inl ⟨2,rfl,.inr ⟨rfl,by unfold orI;rw[if_pos ha,if_pos hc];exact hd⟩⟩
theorem ke3(a c d:Int):Ba5 [a,c,d]=some (i (orI a c d),[]):=by
 have h:=be9 a c d;unfold Ba5;simp only[o6,l9];rw[show ((([a,c,d]:List Int).length:Nat):Int)=3 from rfl]
 generalize lp (V5 ⟨[a,c,d],3⟩) ⟨0⟩=r at *
 rcases h with⟨h1,h2⟩|⟨h1,h2⟩
 ·rw[h1,h2];rfl
 ·rw[h1,h2];rfl
theorem Ie4(a c d:Int):Oa2 [a,c,d]=orI a c d:=by unfold Oa2;rw[ke3];rfl
theorem Ie5(a c d:Int):Oa3 [a,c,d]=true:=by unfold Oa3;rw[ke3];rfl
def cb6(x y:V3):Int:=orI (bb5 x.x y.x) (bb5 x.y y.y) (bb5 x.z y.z)
def LtV(x y:V3):Prop:=x.x<y.x\/x.x=y.x/\(x.y<y.y\/x.y=y.y/\x.z<y.z)
instance(x y:V3):Decidable (LtV x y):=by unfold LtV;exact inferInstance
theorem ce0(x y:V3):cb6 x y<0↔LtV x y:=by
 have h1:=kb0 x.x y.x;have h2:=Nb3 x.x y.x;have h3:=kb0 x.y y.y;have h4:=Nb3 x.y y.y;have h5:=kb0 x.z y.z;unfold cb6 orI LtV;split
 ·split<;>omega
 ·omega
theorem ya6(x y:V3):ltOf cb6 x y=decide (LtV x y):=by
 unfold ltOf;rw[decide_eq_decide];exact ce0 x y
theorem Ae2:SWO (ltOf cb6) where
 irrefl x:=by rw[ya6];simp[LtV]
 trans x y z h1 h2:=by rw[ya6,decide_eq_true_eq] at *;unfold LtV at *;omega
 ntrans x y z h1 h2:=by rw[ya6,decide_eq_false_iff_not] at *;unfold LtV at *;omega
theorem Ie6(x y:V3)(h1:ltOf cb6 x y=false)(h2:ltOf cb6 y x=false):x=y:=by
 rw[ya6,decide_eq_false_iff_not] at *
 unfold LtV at *
 obtain⟨a,b,c⟩:=x;obtain⟨a',b',c'⟩:=y
 simp only at *
 have:a=a'/\b=b'/\c=c':=by omega
 obtain⟨rfl,rfl,rfl⟩:=this;rfl
theorem cc2(x y:V3):pa7 x y=some (i (cb6 x y),[]):=by
 unfold pa7 cb6;simp only[qe9,re0,Ie4,Ie5,w6]
theorem re1(x y:V3):Ba6 x y=cb6 x y:=by unfold Ba6;rw[cc2];rfl
theorem re2(x y:V3):Ba7 x y=true:=by unfold Ba7;rw[cc2];rfl
theorem re3(x y:V3):(Ua9 [.agg (tV.row x),.agg (tV.row y)] []).run=some (i (cb6 x y),[]):=by
 have:(Ua9 [.agg (tV.row x),.agg (tV.row y)] []).run=sel (Ba7 x y) (some (i (Ba6 x y),[])) none:=by kernel_rfl
 rw[this,re2,re1]
def Md1(p:V3):List Value:=[.int .i64 p.x,.int .i64 p.y,.int .i64 p.z]
instance:Inhabited V3:=⟨⟨0,0,0⟩⟩
def nb5(l:List V3):List V3:=l.mergeSort λx y=>!ltOf cb6 y x
theorem Gc5(l:List V3):(nb5 l).length=l.length:=Qhf l
noncomputable def ma9:Sum:=rd0 tV 74 25 nb5
theorem Bd4:Ce.sortLayV_ren.f 6=73:=by kernel_rfl
theorem sc8:Ce.sortLayV_ren.t 24=25:=by kernel_rfl
set_option maxRecDepth 100000 in
theorem Ba9:i5 prog G 73 ma9:=by
 refine rd1 (enc:=Md1) (cf:=cb6) ⟨_,Tryz.func73,by kernel_rfl,of_decide_eq_true (by kernel_rfl)⟩ (by decide) (λ_=>rfl) (λr h=>Qa6 (n:=3) h) (λx v hv=>?_) Gc5
  (λblk off size w=>qd9 fc4 re3 (λ_=>rfl) (λ_=>rfl) _ _ _ _ _) (λblk cap d w hcl hH hb hs=>?_)
 ·simp[Md1] at hv
  rcases hv with rfl|rfl|rfl<;>rfl
 ·have eg:∀args w,(callFunc 74 args).run Tryz.prog w=.ok (.enter 74 args) w:=enters_of Tryz.func74 (by kernel_rfl) rfl
  have:=AnyQ.slices_SortFunc Ce.sortLayV 3 (by rw[sc8];exact Tryz.isAgg25) (by rw[sc8];exact Tryz.sizeOf25) Md1 (λ_=>rfl) (λx v hv=>by simp[Md1] at hv;rcases hv with rfl | rfl | rfl<;>rfl) cb6 Ae2 74 #[] blk 0 cap d w eg (hcl 0 d.size) hH hb hs
  rw[Bd4] at this;refine this.mono λe w' ⟨h1,d',n,os,h2,h3,h4⟩=>⟨h1,n,os,?_⟩
  have h5:=sorted_unique_holds Ae2 Ie6 d d' h2 h3;rw[h4];show _=sortWorldK Md1 3 w blk 0 n (d.toList.mergeSort λx y=>!ltOf cb6 y x).toArray os
  rw[<- h5]
end Go.Ev.Ce
namespace Go.Ev.Ce
open Go Go.Ev Go.Ev.L Go.Proofs
set_option maxRecDepth 100000
noncomputable def zb5:List (Nat×Sum):=[]
theorem tb3:k8 prog G zb5:=trivial
structure ia7 where
 (alt ns0:Nat)
 eh0:List (List b7)
noncomputable def P6{α:Type}(kk:ia7->α)(x:V3×List V3):α:=(sl (Nat.beq 0 0&&Nat.ble ((0+(len (r5 (λk=>(tV).row (gL tV (x.1::x.2) k)) (List.range (List.length x.2+1)))))*24) room) (kk ⟨1,(0+(len (r5 (λk=>(tV).row (gL tV (x.1::x.2) k)) (List.range (List.length x.2+1))))),(app [] (r5 (λk=>(tV).row (gL tV (x.1::x.2) k)) (List.range (List.length x.2+1))))⟩) (kk ⟨0,0,[]⟩))
noncomputable def aa1(x:V3×List V3):ia7:=P6 (λr=>r) x
noncomputable def ta5(r:ia7):DT (b7×List c8):=(.ite (Nat.beq r.alt 1) (.ret (.sl 0 0 r.ns0 0,[⟨25,3,r.eh0,true,false,0⟩])) .fail)
theorem Hb5{α β:Type}(F:α->β)(kk:ia7->α)(x:V3×List V3):F (P6 kk x)=P6 (λr=>F (kk r)) x:=by unfold P6;(repeat' apply q8 (f:=F))<;>rfl
noncomputable def xa6:Sum:=L4 (Wc3 tV) (λx=>ta5 (aa1 x))
theorem Ma5:i5 prog G 72 xa6:=xb2 (bd b72 tb3) λx=>A6 (Qhd (b:=P6 (λr=>(ta5 r).run) x) (by kernel_rfl) (Hb5 (λr=>(ta5 r).run) (λr=>r) x).symm)
structure ca9 where
 ns0:Nat
 eh0:List (List b7)
noncomputable def na0:List (Nat×Sum):=[]
theorem kb6:k8 prog G na0:=trivial
structure B6 where
 (ns0 os4 ns4:Nat)
structure o4 where
 (is3 is5:Int)
 eh0:List (List b7)
noncomputable def ya7(p:B6)(s:o4):St:=⟨.sl 0 0 p.ns0 0::.unk::.unk::i s.is3::.sl 0 p.os4 p.ns4 0::i s.is5::ra 55 [],[⟨25,3,s.eh0,true,false,0⟩]⟩
noncomputable def J5{α:Type}(k:o4->α)(e:Nat->α)(z:α)(p:B6)(s:o4):α:=(sl (decide (s.is5<(↑p.ns4:Int))) (sl (inB s.is5 p.ns4) (sl (ldR tV s.eh0 (p.os4+s.is5.toNat)) (sl (inB (W (s.is5-1)) p.ns4) (sl (ldR tV s.eh0 (p.os4+(W (s.is5-1)).toNat)) (sl (!(((rdR tV s.eh0 (p.os4+s.is5.toNat)).x==(rdR tV s.eh0 (p.os4+(W (s.is5-1)).toNat)).x)&&(((rdR tV s.eh0 (p.os4+s.is5.toNat)).y==(rdR tV s.eh0 (p.os4+(W (s.is5-1)).toNat)).y)&&(((rdR tV s.eh0 (p.os4+s.is5.toNat)).z==(rdR tV s.eh0 (p.os4+(W (s.is5-1)).toNat)).z)&&true)))) (sl (inB s.is5 p.ns4) (sl (ldR tV s.eh0 (p.os4+s.is5.toNat)) (sl (inB s.is3 p.ns0) (sl ((Nat.blt (0+s.is3.toNat) (len s.eh0))&&(Nat.ble (0+3) (len (i8 s.eh0 (0+s.is3.toNat))))) (k ⟨W (s.is3+1),W (s.is5+1),setAt s.eh0 (0+s.is3.toNat) (O2 (i8 s.eh0 (0+s.is3.toNat)) 0 [i (rdR tV s.eh0 (p.os4+s.is5.toNat)).x,i (rdR tV s.eh0 (p.os4+s.is5.toNat)).y,i (rdR tV s.eh0 (p.os4+s.is5.toNat)).z])⟩) z) z) z) z) (k ⟨s.is3,W (s.is5+1),s.eh0⟩)) z) z) z) z) (e 1))
noncomputable def p8(p:B6)(s:o4):Stp o4:=J5 .next .exit .fail p s
noncomputable def ia8:Lo B6 o4:=⟨En na0,1,qe3,[1,1,0,1,4,4,1,0,4,1,2,1,0,1,4,4],[0,3,4,5],.p,[⟨.s (.o (.sl 0 0 (some 0) none))::sUq::sUq::sIq::.s (.o (.sl 0 0 none none))::sIq::ru2 55 [],[⟨25,3,true,none⟩],λa H=>(⟨slN (slT a 0),slO (slT a 4),slN (slT a 4)⟩,⟨aIq a 3,aIq a 5,elT H 0⟩)⟩],p8,[(some 2,λp s=>upq (ya7 p s) [(29,i s.is5),(30,.sl 0 p.os4 p.ns4 0),(31,i (↑p.ns4:Int)),(32,b (decide (s.is5<(↑p.ns4:Int))))])],ya7⟩
theorem fb8:ia8.Ok:=Lo.ok [] (by kernel_rfl) .nil rfl (.cons (λa H=>by kernel_rfl) .nil) λp s=>(.of @J5 (λF _ _ _ _ _=>by unfold J5;(repeat' apply q8 (f:=F))<;>rfl) (by kernel_rfl))
structure M9 where
 ns0:Nat
 eh0:List (List b7)
structure r4 where
 is3:Int
noncomputable def ya8(p:M9)(s:r4):St:=⟨.sl 0 0 p.ns0 0::.unk::.unk::i s.is3::ra 57 [],[⟨25,3,p.eh0,true,false,0⟩]⟩
noncomputable def J6{α:Type}(k:r4->α)(e:Nat->α)(z:α)(p:M9)(s:r4):α:=let t1:=(lp (p8 (⟨p.ns0,0+s.is3.toNat,p.ns0-s.is3.toNat⟩:B6)) (⟨s.is3,1,p.eh0⟩:o4));(sl (decide (s.is3<(↑p.ns0:Int))) (sl (inB s.is3 p.ns0) (sl (ldR tV p.eh0 (0+s.is3.toNat)) (sl (inB (W (s.is3-1)) p.ns0) (sl (ldR tV p.eh0 (0+(W (s.is3-1)).toNat)) (sl (((rdR tV p.eh0 (0+s.is3.toNat)).x==(rdR tV p.eh0 (0+(W (s.is3-1)).toNat)).x)&&(((rdR tV p.eh0 (0+s.is3.toNat)).y==(rdR tV p.eh0 (0+(W (s.is3-1)).toNat)).y)&&(((rdR tV p.eh0 (0+s.is3.toNat)).z==(rdR tV p.eh0 (0+(W (s.is3-1)).toNat)).z)&&true))) (sl (inB s.is3 (p.ns0+1)) (sl (Nat.beq t1.1 1) (sl (inB t1.2.is3 (p.ns0+1)) (sl (inB t1.2.is3 (p.ns0+1)) (e 1) z) z) z) z) (k ⟨W (s.is3+1)⟩)) z) z) z) z) (e 2))
noncomputable def K9(p:M9)(s:r4):Stp r4:=J6 .next .exit .fail p s
noncomputable def ia9:Lo M9 r4:=⟨En na0,1,qe3,[1,1,0,1,4,4],[0,3],.s .p (.s (.b (.s .p (.c (.s .p (.s (.s .p (.b (.u ia8.ls))) .p)) .p))) .p),[⟨.s (.o (.sl 0 0 (some 0) none))::sUq::sUq::sIq::ru2 57 [],[⟨25,3,true,none⟩],λa H=>(⟨slN (slT a 0),elT H 0⟩,⟨aIq a 3⟩)⟩],K9,[(none,λp s=>let t1:=(lp (p8 (⟨p.ns0,0+s.is3.toNat,p.ns0-s.is3.toNat⟩:B6)) (⟨s.is3,1,p.eh0⟩:o4));⟨[.sl 0 0 (t1.2.is3.toNat-0) 0],[⟨25,3,app (G6 t1.2.eh0 (0+t1.2.is3.toNat)) (app (List.replicate (p.ns0-t1.2.is3.toNat) [i 0,i 0,i 0]) (i7 t1.2.eh0 ((0+t1.2.is3.toNat)+(p.ns0-t1.2.is3.toNat)))),true,false,0⟩]⟩),(some 0,λp s=>upq (ya8 p s) [(10,i s.is3),(11,.sl 0 0 p.ns0 0),(12,i (↑p.ns0:Int)),(13,b (decide (s.is3<(↑p.ns0:Int))))])],ya8⟩
theorem fb9:ia9.Ok:=Lo.ok [ia8.pr] (by kernel_rfl) (.cons fb8 .nil) rfl (.cons (λa H=>by kernel_rfl) .nil) λp s=>(.of @J6 (λF _ _ _ _ _=>by unfold J6;(repeat' apply q8 (f:=F))<;>rfl) (by kernel_rfl))
structure da0 where
 (alt ns0:Nat)
 eh0:List (List b7)
noncomputable def L0{α:Type}(kk:da0->α)(x:ca9):α:=let t1:=(lp (K9 (⟨x.ns0,x.eh0⟩:M9)) (⟨1⟩:r4));let t2:=(lp (p8 (⟨x.ns0,0+t1.2.is3.toNat,x.ns0-t1.2.is3.toNat⟩:B6)) (⟨t1.2.is3,1,x.eh0⟩:o4));(sl (decide ((↑x.ns0:Int)<2)) (kk ⟨1,x.ns0,x.eh0⟩) (sl (Nat.beq t1.1 1) (kk ⟨1,t2.2.is3.toNat-0,app (G6 t2.2.eh0 (0+t2.2.is3.toNat)) (app (List.replicate (x.ns0-t2.2.is3.toNat) [i 0,i 0,i 0]) (i7 t2.2.eh0 ((0+t2.2.is3.toNat)+(x.ns0-t2.2.is3.toNat))))⟩) (sl (Nat.beq t1.1 2) (kk ⟨1,x.ns0,x.eh0⟩) (kk ⟨0,0,[]⟩))))
noncomputable def L1(x:ca9):da0:=L0 (λr=>r) x
noncomputable def na1(x:ca9)(r:da0):DT (b7×List c8):=(.ite (Nat.beq r.alt 1) (.ret (.sl 0 0 r.ns0 0,[⟨25,3,r.eh0,true,false,0⟩])) .fail)
theorem tb4{α β:Type}(F:α->β)(kk:da0->α)(x:ca9):F (L0 kk x)=L0 (λr=>F (kk r)) x:=by unfold L0;(repeat' apply q8 (f:=F))<;>rfl
noncomputable def pa8:Sum:=Wa9 ⟨[.s (.o (.sl 0 0 (some 0) none))],[⟨25,3,true,none⟩],λa H=>(⟨slN (slT a 0),elT H 0⟩,())⟩ (λx=>na1 x (L1 x))
theorem Da9:i5 prog G 75 pa8:=R4 (enc:=λx=>⟨[.sl 0 0 x.ns0 0],[⟨25,3,x.eh0,true,false,0⟩]⟩) (λa H=>by kernel_rfl) (bd b75 kb6) λx=>bb3 (.s .p (.s .p (.s (.s .p (.b (.u ia9.ls))) .p))) [ia9.pr] (by kernel_rfl) (.cons fb9 .nil) (Qhd (b:=L0 (λr=>(na1 x r).run) x) (by kernel_rfl) (tb4 (λr=>(na1 x r).run) (λr=>r) x).symm)
noncomputable def Wb0:List (Nat×Sum):=[(72,xa6),(73,ma9),(75,pa8)]
theorem Ob3:k8 prog G Wb0:=⟨Ma5,Ba9,Da9,trivial⟩
noncomputable def ka4(x:V3×List V3):Option (b7×List c8):=let t1:=(aa1 (hC tV (λk=>(tV).row (gL tV (x.1::x.2) k)),tC tV (List.length x.2) (λk=>(tV).row (gL tV (x.1::x.2) k))));let t2:=(L1 ⟨t1.ns0,app (bL tV (nb5 (slR tV t1.eh0 0 t1.ns0))) (i7 t1.eh0 t1.ns0)⟩);(sl (okL tV (List.length x.2+1) (λk=>(tV).row (gL tV (x.1::x.2) k))) (sl (Nat.beq t1.alt 1) (sl (Bool.and (Nat.ble t1.ns0 room) (Bool.and (Nat.ble t1.ns0 (len t1.eh0)) (okS tV t1.eh0 0 t1.ns0))) (sl (Nat.beq t2.alt 1) (some (.sl 0 0 t2.ns0 0,[⟨25,3,t2.eh0,true,false,0⟩])) none) none) none) none)
noncomputable def La0(x:V3×List V3):List V3:=V1 (one (r1L tV)) (ka4 x)
noncomputable def La1(x:V3×List V3):Bool:=okO (one (r1L tV)) (ka4 x)
noncomputable def nb6:Sum:=L4 (Wc3 tV) (λx=>.guard (La1 x) (.ret ((one (r1L tV)).enc (La0 x),[])))
theorem Wb1:i5 prog G 45 nb6:=Ea5 (bd b45 Ob3) (one (r1L tV)) (o:=ka4) λx=>A6 (by kernel_rfl)
noncomputable def Ha3:List (Nat×Sum):=[(44,Oa1),(45,nb6),(77,Ka6),(78,Nb5),(47,Bb9),(48,ya2),(46,ga9)]
theorem sc9:k8 prog G Ha3:=⟨cb5,Wb1,fb4,Ac1,sc4,bb7,ka0,trivial⟩
structure N0 where
 (is3 is4 is9 v8 Xa7 I5 jc2:Int)
 (c9 g7:List V3)
structure z7 where
 ph:Nat
 B1:Int
 eh4:List (List b7)
 A4:Nat
 eh5:List (List b7)
noncomputable def gb0(p:N0)(s:z7):St:=⟨.unk::.ptr 0 0 0 0::.unk::i p.is3::i p.is4::ra 4 (i p.is9::i p.v8::ra 5 (i p.Xa7::i p.I5::ra 5 (i p.jc2::i s.B1::ra 35 (i 0::.unk::.ptr 1 0 0 0::.v (.slice none 0 0)::i 0::.unk::.ptr 2 0 0 0::.ptr 3 0 0 0::ra 28 [])))),[⟨0,1,[[eL tV p.c9]],true,false,0⟩,⟨0,1,[[eL tV p.g7]],true,false,0⟩,⟨0,0,[[.ptr 4 0 0 0]],true,false,0⟩,⟨0,0,[[.v (.slice none 0 0)]],true,false,0⟩,⟨76,0,s.eh4,true,false,0⟩]⟩
noncomputable def gb1(p:N0)(s:z7):St:=⟨.unk::.ptr 0 0 0 0::.unk::i p.is3::i p.is4::ra 4 (i p.is9::i p.v8::ra 5 (i p.Xa7::i p.I5::ra 5 (i p.jc2::i s.B1::ra 35 (i 0::.unk::.ptr 1 0 0 0::.v (.slice none 0 0)::i 0::.unk::.ptr 2 0 0 0::.ptr 3 0 0 0::ra 28 [])))),[⟨0,1,[[eL tV p.c9]],true,false,0⟩,⟨0,1,[[eL tV p.g7]],true,false,0⟩,⟨0,0,[[.ptr 4 0 0 0]],true,false,0⟩,⟨0,0,[[.sl 5 0 s.A4 0]],true,false,0⟩,⟨76,0,s.eh4,true,false,0⟩,⟨60,4,s.eh5,true,false,0⟩]⟩
noncomputable def fc5(p:N0)(s:z7):St:=(sel (Nat.beq s.ph 1) (gb1 p s) (gb0 p s))
noncomputable def P7{α:Type}(k:z7->α)(e:Nat->α)(z:α)(p:N0)(s:z7):α:=let t1:=(G3 (gL tV p.c9 s.B1.toNat) (gL tV p.c9 p.is4.toNat) (gL tV p.c9 p.is3.toNat));let t2:=(sa0 t1.1);let t3:=(Y4 (rt tV p.g7) t2);let t4:=(Y4 (rt tV p.g7) t1.1);(sl (decide (s.B1<p.jc2)) (sl (inB s.B1 (List.length p.c9)) (sl (inB p.is4 (List.length p.c9)) (sl (inB p.is3 (List.length p.c9)) (sl (ca0 (gL tV p.c9 s.B1.toNat) (gL tV p.c9 p.is4.toNat) (gL tV p.c9 p.is3.toNat)) (sl t1.2 (sl t1.2 (sl (Ra0 4 [(0,.int .i64),(1,.int .i64),(2,.int .i64),(3,.int .i64)] [i t1.1.n.x,i t1.1.n.y,i t1.1.n.z,i t1.1.b] s.eh4) (sl (Ra0 4 [(0,.int .i64),(1,.int .i64),(2,.int .i64),(3,.int .i64)] [i t2.n.x,i t2.n.y,i t2.n.z,i t2.b] s.eh4) (k ⟨0,W (s.B1+1),s.eh4,0,[]⟩) (sl (okE tV p.g7) (sl (G5 (rt tV p.g7) t2) (sl (!t3) (k ⟨1,W (s.B1+1),Z3 [(0,.int .i64),(1,.int .i64),(2,.int .i64),(3,.int .i64)] [i t2.n.x,i t2.n.y,i t2.n.z,i t2.b] [i t2.n.x,i t2.n.y,i t2.n.z,i t2.b,b true] s.eh4,1,[[i t2.n.x,i t2.n.y,i t2.n.z,i t2.b]]⟩) (k ⟨0,W (s.B1+1),Z3 [(0,.int .i64),(1,.int .i64),(2,.int .i64),(3,.int .i64)] [i t2.n.x,i t2.n.y,i t2.n.z,i t2.b] [i t2.n.x,i t2.n.y,i t2.n.z,i t2.b,b true] s.eh4,0,[]⟩)) z) z)) (sl (okE tV p.g7) (sl (G5 (rt tV p.g7) t1.1) (sl (!t4) (sl (Ra0 4 [(0,.int .i64),(1,.int .i64),(2,.int .i64),(3,.int .i64)] [i t2.n.x,i t2.n.y,i t2.n.z,i t2.b] (Z3 [(0,.int .i64),(1,.int .i64),(2,.int .i64),(3,.int .i64)] [i t1.1.n.x,i t1.1.n.y,i t1.1.n.z,i t1.1.b] [i t1.1.n.x,i t1.1.n.y,i t1.1.n.z,i t1.1.b,b true] s.eh4)) (k ⟨1,W (s.B1+1),Z3 [(0,.int .i64),(1,.int .i64),(2,.int .i64),(3,.int .i64)] [i t1.1.n.x,i t1.1.n.y,i t1.1.n.z,i t1.1.b] [i t1.1.n.x,i t1.1.n.y,i t1.1.n.z,i t1.1.b,b true] s.eh4,1,[[i t1.1.n.x,i t1.1.n.y,i t1.1.n.z,i t1.1.b]]⟩) (sl (okE tV p.g7) (sl (G5 (rt tV p.g7) t2) (sl (!t3) (k ⟨1,W (s.B1+1),Z3 [(0,.int .i64),(1,.int .i64),(2,.int .i64),(3,.int .i64)] [i t2.n.x,i t2.n.y,i t2.n.z,i t2.b] [i t2.n.x,i t2.n.y,i t2.n.z,i t2.b,b true] (Z3 [(0,.int .i64),(1,.int .i64),(2,.int .i64),(3,.int .i64)] [i t1.1.n.x,i t1.1.n.y,i t1.1.n.z,i t1.1.b] [i t1.1.n.x,i t1.1.n.y,i t1.1.n.z,i t1.1.b,b true] s.eh4),2,[[i t1.1.n.x,i t1.1.n.y,i t1.1.n.z,i t1.1.b],[i t2.n.x,i t2.n.y,i t2.n.z,i t2.b]]⟩) (k ⟨1,W (s.B1+1),Z3 [(0,.int .i64),(1,.int .i64),(2,.int .i64),(3,.int .i64)] [i t2.n.x,i t2.n.y,i t2.n.z,i t2.b] [i t2.n.x,i t2.n.y,i t2.n.z,i t2.b,b true] (Z3 [(0,.int .i64),(1,.int .i64),(2,.int .i64),(3,.int .i64)] [i t1.1.n.x,i t1.1.n.y,i t1.1.n.z,i t1.1.b] [i t1.1.n.x,i t1.1.n.y,i t1.1.n.z,i t1.1.b,b true] s.eh4),1,[[i t1.1.n.x,i t1.1.n.y,i t1.1.n.z,i t1.1.b]]⟩)) z) z)) (sl (Ra0 4 [(0,.int .i64),(1,.int .i64),(2,.int .i64),(3,.int .i64)] [i t2.n.x,i t2.n.y,i t2.n.z,i t2.b] (Z3 [(0,.int .i64),(1,.int .i64),(2,.int .i64),(3,.int .i64)] [i t1.1.n.x,i t1.1.n.y,i t1.1.n.z,i t1.1.b] [i t1.1.n.x,i t1.1.n.y,i t1.1.n.z,i t1.1.b,b true] s.eh4)) (k ⟨0,W (s.B1+1),Z3 [(0,.int .i64),(1,.int .i64),(2,.int .i64),(3,.int .i64)] [i t1.1.n.x,i t1.1.n.y,i t1.1.n.z,i t1.1.b] [i t1.1.n.x,i t1.1.n.y,i t1.1.n.z,i t1.1.b,b true] s.eh4,0,[]⟩) (sl (okE tV p.g7) (sl (G5 (rt tV p.g7) t2) (sl (!t3) (k ⟨1,W (s.B1+1),Z3 [(0,.int .i64),(1,.int .i64),(2,.int .i64),(3,.int .i64)] [i t2.n.x,i t2.n.y,i t2.n.z,i t2.b] [i t2.n.x,i t2.n.y,i t2.n.z,i t2.b,b true] (Z3 [(0,.int .i64),(1,.int .i64),(2,.int .i64),(3,.int .i64)] [i t1.1.n.x,i t1.1.n.y,i t1.1.n.z,i t1.1.b] [i t1.1.n.x,i t1.1.n.y,i t1.1.n.z,i t1.1.b,b true] s.eh4),1,[[i t2.n.x,i t2.n.y,i t2.n.z,i t2.b]]⟩) (k ⟨0,W (s.B1+1),Z3 [(0,.int .i64),(1,.int .i64),(2,.int .i64),(3,.int .i64)] [i t2.n.x,i t2.n.y,i t2.n.z,i t2.b] [i t2.n.x,i t2.n.y,i t2.n.z,i t2.b,b true] (Z3 [(0,.int .i64),(1,.int .i64),(2,.int .i64),(3,.int .i64)] [i t1.1.n.x,i t1.1.n.y,i t1.1.n.z,i t1.1.b] [i t1.1.n.x,i t1.1.n.y,i t1.1.n.z,i t1.1.b,b true] s.eh4),0,[]⟩)) z) z))) z) z)) (k ⟨0,W (s.B1+1),s.eh4,0,[]⟩)) (sl t1.2 z (k ⟨0,W (s.B1+1),s.eh4,0,[]⟩))) z) z) z) z) (e 1))
noncomputable def P8{α:Type}(k:z7->α)(e:Nat->α)(z:α)(p:N0)(s:z7):α:=let t1:=(G3 (gL tV p.c9 s.B1.toNat) (gL tV p.c9 p.is4.toNat) (gL tV p.c9 p.is3.toNat));let t2:=(sa0 t1.1);let t3:=(Y4 (rt tV p.g7) t2);let t4:=(Y4 (rt tV p.g7) t1.1);let a0:=(Nat.beq s.A4 (len s.eh5)&&Nat.ble ((s.A4+1)*32) room);(sl (decide (s.B1<p.jc2)) (sl (inB s.B1 (List.length p.c9)) (sl (inB p.is4 (List.length p.c9)) (sl (inB p.is3 (List.length p.c9)) (sl (ca0 (gL tV p.c9 s.B1.toNat) (gL tV p.c9 p.is4.toNat) (gL tV p.c9 p.is3.toNat)) (sl t1.2 (sl t1.2 (sl (Ra0 4 [(0,.int .i64),(1,.int .i64),(2,.int .i64),(3,.int .i64)] [i t1.1.n.x,i t1.1.n.y,i t1.1.n.z,i t1.1.b] s.eh4) (sl (Ra0 4 [(0,.int .i64),(1,.int .i64),(2,.int .i64),(3,.int .i64)] [i t2.n.x,i t2.n.y,i t2.n.z,i t2.b] s.eh4) (k ⟨1,W (s.B1+1),s.eh4,s.A4,s.eh5⟩) (sl (okE tV p.g7) (sl (G5 (rt tV p.g7) t2) (sl (!t3) (sl a0 (k ⟨1,W (s.B1+1),Z3 [(0,.int .i64),(1,.int .i64),(2,.int .i64),(3,.int .i64)] [i t2.n.x,i t2.n.y,i t2.n.z,i t2.b] [i t2.n.x,i t2.n.y,i t2.n.z,i t2.b,b true] s.eh4,s.A4+1,app s.eh5 [[i t2.n.x,i t2.n.y,i t2.n.z,i t2.b]]⟩) z) (k ⟨1,W (s.B1+1),Z3 [(0,.int .i64),(1,.int .i64),(2,.int .i64),(3,.int .i64)] [i t2.n.x,i t2.n.y,i t2.n.z,i t2.b] [i t2.n.x,i t2.n.y,i t2.n.z,i t2.b,b true] s.eh4,s.A4,s.eh5⟩)) z) z)) (sl (okE tV p.g7) (sl (G5 (rt tV p.g7) t1.1) (sl (!t4) (sl a0 (sl (Ra0 4 [(0,.int .i64),(1,.int .i64),(2,.int .i64),(3,.int .i64)] [i t2.n.x,i t2.n.y,i t2.n.z,i t2.b] (Z3 [(0,.int .i64),(1,.int .i64),(2,.int .i64),(3,.int .i64)] [i t1.1.n.x,i t1.1.n.y,i t1.1.n.z,i t1.1.b] [i t1.1.n.x,i t1.1.n.y,i t1.1.n.z,i t1.1.b,b true] s.eh4)) (k ⟨1,W (s.B1+1),Z3 [(0,.int .i64),(1,.int .i64),(2,.int .i64),(3,.int .i64)] [i t1.1.n.x,i t1.1.n.y,i t1.1.n.z,i t1.1.b] [i t1.1.n.x,i t1.1.n.y,i t1.1.n.z,i t1.1.b,b true] s.eh4,s.A4+1,app s.eh5 [[i t1.1.n.x,i t1.1.n.y,i t1.1.n.z,i t1.1.b]]⟩) (sl (okE tV p.g7) (sl (G5 (rt tV p.g7) t2) (sl (!t3) (sl (Nat.beq (s.A4+1) (len (app s.eh5 [[i t1.1.n.x,i t1.1.n.y,i t1.1.n.z,i t1.1.b]]))&&Nat.ble (((s.A4+1)+1)*32) room) (k ⟨1,W (s.B1+1),Z3 [(0,.int .i64),(1,.int .i64),(2,.int .i64),(3,.int .i64)] [i t2.n.x,i t2.n.y,i t2.n.z,i t2.b] [i t2.n.x,i t2.n.y,i t2.n.z,i t2.b,b true] (Z3 [(0,.int .i64),(1,.int .i64),(2,.int .i64),(3,.int .i64)] [i t1.1.n.x,i t1.1.n.y,i t1.1.n.z,i t1.1.b] [i t1.1.n.x,i t1.1.n.y,i t1.1.n.z,i t1.1.b,b true] s.eh4),(s.A4+1)+1,app (app s.eh5 [[i t1.1.n.x,i t1.1.n.y,i t1.1.n.z,i t1.1.b]]) [[i t2.n.x,i t2.n.y,i t2.n.z,i t2.b]]⟩) z) (k ⟨1,W (s.B1+1),Z3 [(0,.int .i64),(1,.int .i64),(2,.int .i64),(3,.int .i64)] [i t2.n.x,i t2.n.y,i t2.n.z,i t2.b] [i t2.n.x,i t2.n.y,i t2.n.z,i t2.b,b true] (Z3 [(0,.int .i64),(1,.int .i64),(2,.int .i64),(3,.int .i64)] [i t1.1.n.x,i t1.1.n.y,i t1.1.n.z,i t1.1.b] [i t1.1.n.x,i t1.1.n.y,i t1.1.n.z,i t1.1.b,b true] s.eh4),s.A4+1,app s.eh5 [[i t1.1.n.x,i t1.1.n.y,i t1.1.n.z,i t1.1.b]]⟩)) z) z)) z) (sl (Ra0 4 [(0,.int .i64),(1,.int .i64),(2,.int .i64),(3,.int .i64)] [i t2.n.x,i t2.n.y,i t2.n.z,i t2.b] (Z3 [(0,.int .i64),(1,.int .i64),(2,.int .i64),(3,.int .i64)] [i t1.1.n.x,i t1.1.n.y,i t1.1.n.z,i t1.1.b] [i t1.1.n.x,i t1.1.n.y,i t1.1.n.z,i t1.1.b,b true] s.eh4)) (k ⟨1,W (s.B1+1),Z3 [(0,.int .i64),(1,.int .i64),(2,.int .i64),(3,.int .i64)] [i t1.1.n.x,i t1.1.n.y,i t1.1.n.z,i t1.1.b] [i t1.1.n.x,i t1.1.n.y,i t1.1.n.z,i t1.1.b,b true] s.eh4,s.A4,s.eh5⟩) (sl (okE tV p.g7) (sl (G5 (rt tV p.g7) t2) (sl (!t3) (sl a0 (k ⟨1,W (s.B1+1),Z3 [(0,.int .i64),(1,.int .i64),(2,.int .i64),(3,.int .i64)] [i t2.n.x,i t2.n.y,i t2.n.z,i t2.b] [i t2.n.x,i t2.n.y,i t2.n.z,i t2.b,b true] (Z3 [(0,.int .i64),(1,.int .i64),(2,.int .i64),(3,.int .i64)] [i t1.1.n.x,i t1.1.n.y,i t1.1.n.z,i t1.1.b] [i t1.1.n.x,i t1.1.n.y,i t1.1.n.z,i t1.1.b,b true] s.eh4),s.A4+1,app s.eh5 [[i t2.n.x,i t2.n.y,i t2.n.z,i t2.b]]⟩) z) (k ⟨1,W (s.B1+1),Z3 [(0,.int .i64),(1,.int .i64),(2,.int .i64),(3,.int .i64)] [i t2.n.x,i t2.n.y,i t2.n.z,i t2.b] [i t2.n.x,i t2.n.y,i t2.n.z,i t2.b,b true] (Z3 [(0,.int .i64),(1,.int .i64),(2,.int .i64),(3,.int .i64)] [i t1.1.n.x,i t1.1.n.y,i t1.1.n.z,i t1.1.b] [i t1.1.n.x,i t1.1.n.y,i t1.1.n.z,i t1.1.b,b true] s.eh4),s.A4,s.eh5⟩)) z) z))) z) z)) (k ⟨1,W (s.B1+1),s.eh4,s.A4,s.eh5⟩)) (sl t1.2 z (k ⟨1,W (s.B1+1),s.eh4,s.A4,s.eh5⟩))) z) z) z) z) (e 2))
noncomputable def N9(p:N0)(s:z7):Stp z7:=(sel (Nat.beq s.ph 1) (P8 .next .exit .fail p s) (P7 .next .exit .fail p s))
noncomputable def Va0:Lo N0 z7:=⟨En Ha3,0,be3,[1,1,1,1,1,0,1,4,4,1,4,4,1,1,0,4,1,1,4,4,1,1,0,4,1,1,4,4],[1,3,4,9,10,16,17,23,24,60,62,63,64,66,67],.p,[⟨sUq::sPq 0::sUq::sIq::sIq::ru2 4 (sIq::sIq::ru2 5 (sIq::sIq::ru2 5 (sIq::sIq::ru2 35 (.s (.o (.lit .i64 0))::sUq::sPq 1::.s (.o .nil)::.s (.o (.lit .i64 0))::sUq::sPq 2::sPq 3::ru2 28 [])))),[⟨0,1,true,some [[.c 3 (nL tV)]]⟩,⟨0,1,true,some [[.c 3 (nL tV)]]⟩,⟨0,0,true,some [[.o (.ptr 4 0 0 0)]]⟩,⟨0,0,true,some [[.o .nil]]⟩,⟨76,0,true,none⟩],λa H=>(⟨aIq a 3,aIq a 4,aIq a 9,aIq a 10,aIq a 16,aIq a 17,aIq a 23,hLq tV H 0 0 0,hLq tV H 1 0 0⟩,⟨0,aIq a 24,elT H 4,0,[]⟩)⟩,⟨sUq::sPq 0::sUq::sIq::sIq::ru2 4 (sIq::sIq::ru2 5 (sIq::sIq::ru2 5 (sIq::sIq::ru2 35 (.s (.o (.lit .i64 0))::sUq::sPq 1::.s (.o .nil)::.s (.o (.lit .i64 0))::sUq::sPq 2::sPq 3::ru2 28 [])))),[⟨0,1,true,some [[.c 3 (nL tV)]]⟩,⟨0,1,true,some [[.c 3 (nL tV)]]⟩,⟨0,0,true,some [[.o (.ptr 4 0 0 0)]]⟩,⟨0,0,true,some [[.o (.sl 5 0 (some 0) none)]]⟩,⟨76,0,true,none⟩,⟨60,4,true,none⟩],λa H=>(⟨aIq a 3,aIq a 4,aIq a 9,aIq a 10,aIq a 16,aIq a 17,aIq a 23,hLq tV H 0 0 0,hLq tV H 1 0 0⟩,⟨1,aIq a 24,elT H 4,slN (slT (rwT (elT H 3) 0) 0),elT H 5⟩)⟩],N9,[(some 4,λp s=>upq (gb0 p s) [(25,b (decide (s.B1<p.jc2)))]),(some 4,λp s=>upq (gb1 p s) [(25,b (decide (s.B1<p.jc2)))])],fc5⟩
theorem fc6:Va0.OkM:=Lo.okM [] (by kernel_rfl) .nil rfl (.cons (λa H=>by kernel_rfl) (.cons (λa H=>by kernel_rfl) .nil)) λp s=>(.sel (Nat.beq s.ph 1) (.of @P8 (λF _ _ _ _ _=>by unfold P8;(repeat' apply q8 (f:=F))<;>rfl) (by kernel_rfl)) (.of @P7 (λF _ _ _ _ _=>by unfold P7;(repeat' apply q8 (f:=F))<;>rfl) (by kernel_rfl)))
structure N1 where
 (is3 is9 v8 Xa7:Int)
structure u7 where
 ph:Nat
 I5:Int
 (c9 g7:List V3)
 eh4:List (List b7)
 A4:Nat
 eh5:List (List b7)
noncomputable def gb2(p:N1)(s:u7):St:=⟨.unk::.ptr 0 0 0 0::.unk::i p.is3::ra 5 (i p.is9::i p.v8::ra 5 (i p.Xa7::i s.I5::ra 42 (i 0::.unk::.ptr 1 0 0 0::.v (.slice none 0 0)::i 0::.unk::.ptr 2 0 0 0::.ptr 3 0 0 0::ra 28 []))),[⟨0,1,[[eL tV s.c9]],true,false,0⟩,⟨0,1,[[eL tV s.g7]],true,false,0⟩,⟨0,0,[[.ptr 4 0 0 0]],true,false,0⟩,⟨0,0,[[.v (.slice none 0 0)]],true,false,0⟩,⟨76,0,s.eh4,true,false,0⟩]⟩
noncomputable def gb3(p:N1)(s:u7):St:=⟨.unk::.ptr 0 0 0 0::.unk::i p.is3::ra 5 (i p.is9::i p.v8::ra 5 (i p.Xa7::i s.I5::ra 42 (i 0::.unk::.ptr 1 0 0 0::.v (.slice none 0 0)::i 0::.unk::.ptr 2 0 0 0::.ptr 3 0 0 0::ra 28 []))),[⟨0,1,[[eL tV s.c9]],true,false,0⟩,⟨0,1,[[eL tV s.g7]],true,false,0⟩,⟨0,0,[[.ptr 4 0 0 0]],true,false,0⟩,⟨0,0,[[.sl 5 0 s.A4 0]],true,false,0⟩,⟨76,0,s.eh4,true,false,0⟩,⟨60,4,s.eh5,true,false,0⟩]⟩
noncomputable def fc7(p:N1)(s:u7):St:=(sel (Nat.beq s.ph 1) (gb3 p s) (gb2 p s))
noncomputable def P9{α:Type}(k:u7->α)(e:Nat->α)(z:α)(p:N1)(s:u7):α:=let t1:=(lp (N9 (⟨p.is3,s.I5,p.is9,p.v8,p.Xa7,s.I5,(↑(s.I5.toNat-0):Int),rt tV s.c9,rt tV s.g7⟩:N0)) (⟨0,0,s.eh4,0,[]⟩:z7));(sl (decide (s.I5<p.Xa7)) (sl (inB s.I5 ((List.length s.c9)+1)) (sl ((cnE tV s.c9)&&((cnE tV s.g7)&&true)) (sl (Nat.beq t1.1 1) (k ⟨0,W (s.I5+1),rt tV s.c9,rt tV s.g7,t1.2.eh4,0,[]⟩) (sl (Nat.beq t1.1 2) (k ⟨1,W (s.I5+1),rt tV s.c9,rt tV s.g7,t1.2.eh4,t1.2.A4,t1.2.eh5⟩) z)) z) z) (e 1))
noncomputable def Q0{α:Type}(k:u7->α)(e:Nat->α)(z:α)(p:N1)(s:u7):α:=let t1:=(lp (N9 (⟨p.is3,s.I5,p.is9,p.v8,p.Xa7,s.I5,(↑(s.I5.toNat-0):Int),rt tV s.c9,rt tV s.g7⟩:N0)) (⟨1,0,s.eh4,s.A4,s.eh5⟩:z7));(sl (decide (s.I5<p.Xa7)) (sl (inB s.I5 ((List.length s.c9)+1)) (sl ((cnE tV s.c9)&&((cnE tV s.g7)&&true)) (sl (Nat.beq t1.1 1) (k ⟨0,W (s.I5+1),rt tV s.c9,rt tV s.g7,t1.2.eh4,0,[]⟩) (sl (Nat.beq t1.1 2) (k ⟨1,W (s.I5+1),rt tV s.c9,rt tV s.g7,t1.2.eh4,t1.2.A4,t1.2.eh5⟩) z)) z) z) (e 2))
noncomputable def V7(p:N1)(s:u7):Stp u7:=(sel (Nat.beq s.ph 1) (Q0 .next .exit .fail p s) (P9 .next .exit .fail p s))
noncomputable def Va1:Lo N1 u7:=⟨En Ha3,0,be3,[1,1,1,1,1,0,1,4,4,1,4,4,1,1,0,4,1,1,4,4],[1,3,9,10,16,17,60,62,63,64,66,67],.s .p (.s .p (.s (.b (.s .p (.s .p (.b (.u Va0.lsM))))) .p)),[⟨sUq::sPq 0::sUq::sIq::ru2 5 (sIq::sIq::ru2 5 (sIq::sIq::ru2 42 (.s (.o (.lit .i64 0))::sUq::sPq 1::.s (.o .nil)::.s (.o (.lit .i64 0))::sUq::sPq 2::sPq 3::ru2 28 []))),[⟨0,1,true,some [[.c 3 (nL tV)]]⟩,⟨0,1,true,some [[.c 3 (nL tV)]]⟩,⟨0,0,true,some [[.o (.ptr 4 0 0 0)]]⟩,⟨0,0,true,some [[.o .nil]]⟩,⟨76,0,true,none⟩],λa H=>(⟨aIq a 3,aIq a 9,aIq a 10,aIq a 16⟩,⟨0,aIq a 17,hLq tV H 0 0 0,hLq tV H 1 0 0,elT H 4,0,[]⟩)⟩,⟨sUq::sPq 0::sUq::sIq::ru2 5 (sIq::sIq::ru2 5 (sIq::sIq::ru2 42 (.s (.o (.lit .i64 0))::sUq::sPq 1::.s (.o .nil)::.s (.o (.lit .i64 0))::sUq::sPq 2::sPq 3::ru2 28 []))),[⟨0,1,true,some [[.c 3 (nL tV)]]⟩,⟨0,1,true,some [[.c 3 (nL tV)]]⟩,⟨0,0,true,some [[.o (.ptr 4 0 0 0)]]⟩,⟨0,0,true,some [[.o (.sl 5 0 (some 0) none)]]⟩,⟨76,0,true,none⟩,⟨60,4,true,none⟩],λa H=>(⟨aIq a 3,aIq a 9,aIq a 10,aIq a 16⟩,⟨1,aIq a 17,hLq tV H 0 0 0,hLq tV H 1 0 0,elT H 4,slN (slT (rwT (elT H 3) 0) 0),elT H 5⟩)⟩],V7,[(some 2,λp s=>upq (gb2 p s) [(18,b (decide (s.I5<p.Xa7)))]),(some 2,λp s=>upq (gb3 p s) [(18,b (decide (s.I5<p.Xa7)))])],fc7⟩
theorem fc8:Va1.OkM:=Lo.okM [Va0.prM] (by kernel_rfl) (.cons fc6 .nil) rfl (.cons (λa H=>by kernel_rfl) (.cons (λa H=>by kernel_rfl) .nil)) λp s=>(.sel (Nat.beq s.ph 1) (.of @Q0 (λF _ _ _ _ _=>by unfold Q0;(repeat' apply q8 (f:=F))<;>rfl) (by kernel_rfl)) (.of @P9 (λF _ _ _ _ _=>by unfold P9;(repeat' apply q8 (f:=F))<;>rfl) (by kernel_rfl)))
structure S6 where
 is9:Int
structure z8 where
 ph:Nat
 v8:Int
 (c9 g7:List V3)
 eh4:List (List b7)
 A4:Nat
 eh5:List (List b7)
noncomputable def gb4(p:S6)(s:z8):St:=⟨.unk::.ptr 0 0 0 0::ra 7 (i p.is9::i s.v8::ra 49 (i 0::.unk::.ptr 1 0 0 0::.v (.slice none 0 0)::i 0::.unk::.ptr 2 0 0 0::.ptr 3 0 0 0::ra 28 [])),[⟨0,1,[[eL tV s.c9]],true,false,0⟩,⟨0,1,[[eL tV s.g7]],true,false,0⟩,⟨0,0,[[.ptr 4 0 0 0]],true,false,0⟩,⟨0,0,[[.v (.slice none 0 0)]],true,false,0⟩,⟨76,0,s.eh4,true,false,0⟩]⟩
noncomputable def gb5(p:S6)(s:z8):St:=⟨.unk::.ptr 0 0 0 0::ra 7 (i p.is9::i s.v8::ra 49 (i 0::.unk::.ptr 1 0 0 0::.v (.slice none 0 0)::i 0::.unk::.ptr 2 0 0 0::.ptr 3 0 0 0::ra 28 [])),[⟨0,1,[[eL tV s.c9]],true,false,0⟩,⟨0,1,[[eL tV s.g7]],true,false,0⟩,⟨0,0,[[.ptr 4 0 0 0]],true,false,0⟩,⟨0,0,[[.sl 5 0 s.A4 0]],true,false,0⟩,⟨76,0,s.eh4,true,false,0⟩,⟨60,4,s.eh5,true,false,0⟩]⟩
noncomputable def fc9(p:S6)(s:z8):St:=(sel (Nat.beq s.ph 1) (gb5 p s) (gb4 p s))
noncomputable def Q1{α:Type}(k:z8->α)(e:Nat->α)(z:α)(p:S6)(s:z8):α:=let t1:=(lp (V7 (⟨s.v8,p.is9,s.v8,(↑(s.v8.toNat-0):Int)⟩:N1)) (⟨0,0,rt tV s.c9,rt tV s.g7,s.eh4,0,[]⟩:u7));(sl (decide (s.v8<p.is9)) (sl (inB s.v8 ((List.length s.c9)+1)) (sl ((cnE tV s.c9)&&((cnE tV s.g7)&&true)) (sl (Nat.beq t1.1 1) (k ⟨0,W (s.v8+1),t1.2.c9,t1.2.g7,t1.2.eh4,0,[]⟩) (sl (Nat.beq t1.1 2) (k ⟨1,W (s.v8+1),t1.2.c9,t1.2.g7,t1.2.eh4,t1.2.A4,t1.2.eh5⟩) z)) z) z) (e 1))
noncomputable def Q3{α:Type}(k:z8->α)(e:Nat->α)(z:α)(p:S6)(s:z8):α:=let t1:=(lp (V7 (⟨s.v8,p.is9,s.v8,(↑(s.v8.toNat-0):Int)⟩:N1)) (⟨1,0,rt tV s.c9,rt tV s.g7,s.eh4,s.A4,s.eh5⟩:u7));(sl (decide (s.v8<p.is9)) (sl (inB s.v8 ((List.length s.c9)+1)) (sl ((cnE tV s.c9)&&((cnE tV s.g7)&&true)) (sl (Nat.beq t1.1 1) (k ⟨0,W (s.v8+1),t1.2.c9,t1.2.g7,t1.2.eh4,0,[]⟩) (sl (Nat.beq t1.1 2) (k ⟨1,W (s.v8+1),t1.2.c9,t1.2.g7,t1.2.eh4,t1.2.A4,t1.2.eh5⟩) z)) z) z) (e 2))
noncomputable def wa2(p:S6)(s:z8):Stp z8:=(sel (Nat.beq s.ph 1) (Q3 .next .exit .fail p s) (Q1 .next .exit .fail p s))
noncomputable def Va2:Lo S6 z8:=⟨En Ha3,0,be3,[1,1,1,1,1,0,1,4,4,1,4,4],[1,9,10,60,62,63,64,66,67],.s .p (.s .p (.s (.b (.s .p (.s .p (.b (.u Va1.lsM))))) .p)),[⟨sUq::sPq 0::ru2 7 (sIq::sIq::ru2 49 (.s (.o (.lit .i64 0))::sUq::sPq 1::.s (.o .nil)::.s (.o (.lit .i64 0))::sUq::sPq 2::sPq 3::ru2 28 [])),[⟨0,1,true,some [[.c 3 (nL tV)]]⟩,⟨0,1,true,some [[.c 3 (nL tV)]]⟩,⟨0,0,true,some [[.o (.ptr 4 0 0 0)]]⟩,⟨0,0,true,some [[.o .nil]]⟩,⟨76,0,true,none⟩],λa H=>(⟨aIq a 9⟩,⟨0,aIq a 10,hLq tV H 0 0 0,hLq tV H 1 0 0,elT H 4,0,[]⟩)⟩,⟨sUq::sPq 0::ru2 7 (sIq::sIq::ru2 49 (.s (.o (.lit .i64 0))::sUq::sPq 1::.s (.o .nil)::.s (.o (.lit .i64 0))::sUq::sPq 2::sPq 3::ru2 28 [])),[⟨0,1,true,some [[.c 3 (nL tV)]]⟩,⟨0,1,true,some [[.c 3 (nL tV)]]⟩,⟨0,0,true,some [[.o (.ptr 4 0 0 0)]]⟩,⟨0,0,true,some [[.o (.sl 5 0 (some 0) none)]]⟩,⟨76,0,true,none⟩,⟨60,4,true,none⟩],λa H=>(⟨aIq a 9⟩,⟨1,aIq a 10,hLq tV H 0 0 0,hLq tV H 1 0 0,elT H 4,slN (slT (rwT (elT H 3) 0) 0),elT H 5⟩)⟩],wa2,[(some 0,λp s=>upq (gb4 p s) [(11,b (decide (s.v8<p.is9)))]),(some 0,λp s=>upq (gb5 p s) [(11,b (decide (s.v8<p.is9)))])],fc9⟩
theorem gc0:Va2.OkM:=Lo.okM [Va1.prM] (by kernel_rfl) (.cons fc8 .nil) rfl (.cons (λa H=>by kernel_rfl) (.cons (λa H=>by kernel_rfl) .nil)) λp s=>(.sel (Nat.beq s.ph 1) (.of @Q3 (λF _ _ _ _ _=>by unfold Q3;(repeat' apply q8 (f:=F))<;>rfl) (by kernel_rfl)) (.of @Q1 (λF _ _ _ _ _=>by unfold Q1;(repeat' apply q8 (f:=F))<;>rfl) (by kernel_rfl)))
noncomputable def ja0(x:V3×List V3):Option (b7×List c8):=let t1:=(sa2 (rt tV (x.1::x.2)));let t2:=(La0 (hC tV (λk=>(tV).row (gL tV (x.1::x.2) k)),tC tV (List.length x.2) (λk=>(tV).row (gL tV (x.1::x.2) k))));let t3:=(lp (wa2 (⟨(↑(List.length t2):Int)⟩:S6)) (⟨0,0,rt tV t2,rt tV t2,[],0,[]⟩:z8));(sl (okE tV (x.1::x.2)) (sl (sa3 (rt tV (x.1::x.2))) (sl (t1 != 0) (some (.tup [.v (.slice none 0 0),i t1],[])) (sl (okL tV (List.length x.2+1) (λk=>(tV).row (gL tV (x.1::x.2) k))) (sl (La1 (hC tV (λk=>(tV).row (gL tV (x.1::x.2) k)),tC tV (List.length x.2) (λk=>(tV).row (gL tV (x.1::x.2) k)))) (sl ((cnE tV t2)&&((cnE tV t2)&&true)) (sl (Nat.beq t3.1 1) none (sl (Nat.beq t3.1 2) (sl (Bool.and (Nat.ble t3.2.A4 room) (Bool.and (Nat.ble t3.2.A4 (len t3.2.eh5)) (okS tP t3.2.eh5 0 t3.2.A4))) (some (.tup [.sl 0 0 t3.2.A4 0,i 0],[⟨60,4,app (bL tP (Bb2 (slR tP t3.2.eh5 0 t3.2.A4))) (i7 t3.2.eh5 t3.2.A4),true,false,0⟩])) none) none)) none) none) none)) none) none)
noncomputable def Oa5(x:V3×List V3):List Pln×Int:=V1 (two (r1L tP) r1I) (ja0 x)
noncomputable def Oa6(x:V3×List V3):Bool:=okO (two (r1L tP) r1I) (ja0 x)
noncomputable def Ob4:Sum:=L4 (Wc3 tV) (λx=>.guard (Oa6 x) (.ret ((two (r1L tP) r1I).enc (Oa5 x),[])))
theorem Cb1:i5 prog G 22 Ob4:=Ea5 (bd b22 sc9) (two (r1L tP) r1I) (o:=ja0) λx=>Gc0 (.s .p (.s .p (.s .p (.s .p (.s .p (.s (.s .p (.b (.i (.s .p (.b (.u Va2.lsM)))))) .p)))))) [Va2.prM] (by kernel_rfl) (.cons gc0 .nil) (by kernel_rfl)
end Go.Ev.Ce
