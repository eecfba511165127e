/- Own work. -/
import Derived.Test.YtigadclidanicaaGreatChecked
import Derived.Test.YtigadclidanicaaGreatEvOaCePf
import Derived.KernelRfl
import Derived.Shelf.Spec.SlicesGrow
set_option linter.all false
noncomputable section
namespace Go.Ev.Ce
open Go Go.Ev Go.Proofs
set_option maxRecDepth 1000000
theorem mx:(Tryz.prog).follows .mixedOrders=true:=Checked.mixed Tryz.checked
abbrev Bdq(n:Nat)(pf:PFn):Prop:=gd2 Tryz.prog n λE=>ba9 E pf
theorem bdq{f:FuncId}{fn:Func}(hf:(Tryz.prog).funcs[f]?=some fn)(hn:decide (fn.name ≠ "runtime.NumGoroutine")=true:=by kernel_rfl)(hc:Option.isSome (Nc9 Tryz.prog fn)=true:=by kernel_rfl):Bdq f (got (Nc9 Tryz.prog fn)):=Eg1 mx hf hn (Sb1 hc)
theorem b3:gd2 Tryz.prog 3 λE=>Ca0 E pf3:=Uc8 (h:=h3) mx Tryz.func3 (by kernel_rfl) Tryz.func124 (by kernel_rfl) (Sb1 (by kernel_rfl))
theorem b4:Bdq 4 pf4:=bdq Tryz.func4
theorem b5:Bdq 5 pf5:=bdq Tryz.func5
theorem b6:Bdq 6 pf6:=bdq Tryz.func6
theorem b9:Bdq 9 pf9:=bdq Tryz.func9
theorem b10:Bdq 10 Eg2:=bdq Tryz.func10
theorem b11:gd2 Tryz.prog 11 λE=>Ca0 E sg5:=Uc8 (h:=h11) mx Tryz.func11 (by kernel_rfl) Tryz.func124 (by kernel_rfl) (Sb1 (by kernel_rfl))
theorem b12:Bdq 12 hg5:=bdq Tryz.func12
theorem b13:Bdq 13 Pf0:=bdq Tryz.func13
theorem b15:Bdq 15 sg6:=bdq Tryz.func15
theorem b16:Bdq 16 Eg3:=bdq Tryz.func16
theorem b17:Bdq 17 sg7:=bdq Tryz.func17
theorem b18:Bdq 18 Eg4:=bdq Tryz.func18
theorem b19:gd2 Tryz.prog 19 λE=>Ca0 E sg8:=Uc8 (h:=h19) mx Tryz.func19 (by kernel_rfl) Tryz.func124 (by kernel_rfl) (Sb1 (by kernel_rfl))
theorem b20:gd2 Tryz.prog 20 λE=>Ca0 E sg9:=Uc8 (h:=h20) mx Tryz.func20 (by kernel_rfl) Tryz.func124 (by kernel_rfl) (Sb1 (by kernel_rfl))
theorem b21:gd2 Tryz.prog 21 λE=>Ca0 E tg0:=Uc8 (h:=h21) mx Tryz.func21 (by kernel_rfl) Tryz.func124 (by kernel_rfl) (Sb1 (by kernel_rfl))
theorem b22:Bdq 22 Pf1:=bdq Tryz.func22
theorem b23:Bdq 23 Pf2:=bdq Tryz.func23
theorem b24:Bdq 24 hg6:=bdq Tryz.func24
theorem b25:Bdq 25 tg1:=bdq Tryz.func25
theorem b26:Bdq 26 tg2:=bdq Tryz.func26
theorem b27:Bdq 27 Eg5:=bdq Tryz.func27
theorem b28:Bdq 28 Eg6:=bdq Tryz.func28
theorem b29:Bdq 29 tg3:=bdq Tryz.func29
theorem b30:Bdq 30 tg4:=bdq Tryz.func30
theorem b31:gd2 Tryz.prog 31 λE=>Ca0 E hg7:=Uc8 (h:=h31) mx Tryz.func31 (by kernel_rfl) Tryz.func124 (by kernel_rfl) (Sb1 (by kernel_rfl))
theorem b32:Bdq 32 Eg7:=bdq Tryz.func32
theorem b33:Bdq 33 tg5:=bdq Tryz.func33
theorem b34:Bdq 34 Eg8:=bdq Tryz.func34
theorem b35:Bdq 35 tg6:=bdq Tryz.func35
theorem b36:Bdq 36 Eg9:=bdq Tryz.func36
theorem b37:Bdq 37 tg7:=bdq Tryz.func37
theorem b38:Bdq 38 tg8:=bdq Tryz.func38
theorem b39:Bdq 39 Fg0:=bdq Tryz.func39
theorem b40:Bdq 40 Fg1:=bdq Tryz.func40
theorem b41:Bdq 41 Fg2:=bdq Tryz.func41
theorem b43:Bdq 43 Fg3:=bdq Tryz.func43
theorem b44:Bdq 44 tg9:=bdq Tryz.func44
theorem b45:Bdq 45 hg8:=bdq Tryz.func45
theorem b46:gd2 Tryz.prog 46 λE=>Ca0 E ug0:=Uc8 (h:=h46) mx Tryz.func46 (by kernel_rfl) Tryz.func74 (by kernel_rfl) (Sb1 (by kernel_rfl))
theorem b47:Bdq 47 ug1:=bdq Tryz.func47
theorem b48:Bdq 48 hg9:=bdq Tryz.func48
theorem b49:Bdq 49 ig0:=bdq Tryz.func49
theorem b50:Bdq 50 ug2:=bdq Tryz.func50
theorem b51:Bdq 51 Fg4:=bdq Tryz.func51
theorem b52:Bdq 52 ug3:=bdq Tryz.func52
theorem b53:Bdq 53 ug4:=bdq Tryz.func53
theorem b54:Bdq 54 Fg5:=bdq Tryz.func54
theorem b55:Bdq 55 ug5:=bdq Tryz.func55
theorem b56:Bdq 56 ug6:=bdq Tryz.func56
theorem b57:Bdq 57 ug7:=bdq Tryz.func57
theorem b58:Bdq 58 ug8:=bdq Tryz.func58
theorem b59:Bdq 59 ig1:=bdq Tryz.func59
theorem b60:Bdq 60 ug9:=bdq Tryz.func60
theorem b61:Bdq 61 Fg6:=bdq Tryz.func61
theorem b62:Bdq 62 Fg7:=bdq Tryz.func62
theorem b63:Bdq 63 Fg8:=bdq Tryz.func63
theorem b64:Bdq 64 Fg9:=bdq Tryz.func64
theorem b65:Bdq 65 Gg0:=bdq Tryz.func65
theorem b66:Bdq 66 vg0:=bdq Tryz.func66
theorem b67:Bdq 67 Gg1:=bdq Tryz.func67
theorem b68:Bdq 68 Gg2:=bdq Tryz.func68
theorem b69:Bdq 69 ig2:=bdq Tryz.func69
theorem b70:Bdq 70 vg1:=bdq Tryz.func70
theorem b71:Bdq 71 ig3:=bdq Tryz.func71
theorem b72:Bdq 72 Gg3:=bdq Tryz.func72
theorem b73:Bdq 73 Gg4:=bdq Tryz.func73
theorem b75:Bdq 75 vg2:=bdq Tryz.func75
theorem b76:Bdq 76 vg3:=bdq Tryz.func76
theorem b77:Bdq 77 ig4:=bdq Tryz.func77
theorem b78:Bdq 78 Gg5:=bdq Tryz.func78
theorem b79:gd2 Tryz.prog 79 λE=>Ca0 E Pf3:=Uc8 (h:=h79) mx Tryz.func79 (by kernel_rfl) Tryz.func99 (by kernel_rfl) (Sb1 (by kernel_rfl))
theorem b80:gd2 Tryz.prog 80 λE=>Ca0 E Pf4:=Uc8 (h:=h80) mx Tryz.func80 (by kernel_rfl) Tryz.func124 (by kernel_rfl) (Sb1 (by kernel_rfl))
theorem b81:Bdq 81 Gg6:=bdq Tryz.func81
theorem b82:Bdq 82 Gg7:=bdq Tryz.func82
theorem b83:Bdq 83 Gg8:=bdq Tryz.func83
theorem b84:Bdq 84 Gg9:=bdq Tryz.func84
theorem b85:Bdq 85 Hg0:=bdq Tryz.func85
theorem b86:Bdq 86 vg4:=bdq Tryz.func86
theorem b87:Bdq 87 Hg1:=bdq Tryz.func87
theorem b88:gd2 Tryz.prog 88 λE=>Ca0 E vg5:=Uc8 (h:=h88) mx Tryz.func88 (by kernel_rfl) Tryz.func133 (by kernel_rfl) (Sb1 (by kernel_rfl))
theorem b89:Bdq 89 Hg2:=bdq Tryz.func89
theorem b90:Bdq 90 Hg3:=bdq Tryz.func90
theorem b91:Bdq 91 Pf5:=bdq Tryz.func91
theorem b92:Bdq 92 Hg4:=bdq Tryz.func92
theorem b93:Bdq 93 Hg5:=bdq Tryz.func93
theorem b94:Bdq 94 Hg6:=bdq Tryz.func94
theorem b95:Bdq 95 Hg7:=bdq Tryz.func95
theorem b96:Bdq 96 vg6:=bdq Tryz.func96
theorem b97:Bdq 97 ig5:=bdq Tryz.func97
theorem b98:Bdq 98 vg7:=bdq Tryz.func98
theorem Hg8:Bdq 100 Yf0:=bdq Tryz.func100
theorem Hg9:Bdq 101 vg8:=bdq Tryz.func101
theorem Ig0:Bdq 102 vg9:=bdq Tryz.func102
theorem Ig1:Bdq 103 Yf1:=bdq Tryz.func103
theorem Ig2:Bdq 104 Yf2:=bdq Tryz.func104
theorem Ig3:Bdq 105 wg0:=bdq Tryz.func105
theorem Ig4:Bdq 106 wg1:=bdq Tryz.func106
theorem yg0:Bdq 107 Yf3:=bdq Tryz.func107
theorem Ig5:Bdq 108 Yf4:=bdq Tryz.func108
theorem Ig6:Bdq 109 wg2:=bdq Tryz.func109
theorem Ig7:Bdq 110 wg3:=bdq Tryz.func110
theorem yg1:Bdq 111 zf8:=bdq Tryz.func111
theorem Ig8:Bdq 112 Yf5:=bdq Tryz.func112
theorem Ig9:Bdq 113 Yf6:=bdq Tryz.func113
theorem Jg0:Bdq 114 Yf7:=bdq Tryz.func114
theorem Jg1:Bdq 115 wg4:=bdq Tryz.func115
theorem Jg2:Bdq 116 Yf8:=bdq Tryz.func116
theorem Jg3:Bdq 117 Yf9:=bdq Tryz.func117
theorem Pf6:Bdq 118 Ee4:=bdq Tryz.func118
theorem Jg4:Bdq 119 Zf0:=bdq Tryz.func119
theorem Jg5:Bdq 120 zf9:=bdq Tryz.func120
theorem Jg6:Bdq 121 wg5:=bdq Tryz.func121
theorem Jg7:Bdq 122 Zf1:=bdq Tryz.func122
theorem Jg8:Bdq 123 Zf2:=bdq Tryz.func123
theorem Jg9:Bdq 124 Zf3:=bdq Tryz.func124
theorem Kg0:Bdq 125 wg6:=bdq Tryz.func125
theorem Kg1:Bdq 126 wg7:=bdq Tryz.func126
theorem Kg2:Bdq 127 wg8:=bdq Tryz.func127
theorem Kg3:Bdq 128 Af0:=bdq Tryz.func128
theorem Kg4:Bdq 129 wg9:=bdq Tryz.func129
theorem Kg5:Bdq 130 Zf4:=bdq Tryz.func130
theorem Kg6:Bdq 131 Zf5:=bdq Tryz.func131
theorem Kg7:Bdq 132 xg0:=bdq Tryz.func132
theorem Kg8:Bdq 134 xg1:=bdq Tryz.func134
theorem Kg9:Bdq 135 xg2:=bdq Tryz.func135
theorem Lg0:Bdq 136 xg3:=bdq Tryz.func136
theorem Lg1:Bdq 137 xg4:=bdq Tryz.func137
theorem Lg2:Bdq 138 xg5:=bdq Tryz.func138
theorem Lg3:Bdq 139 xg6:=bdq Tryz.func139
theorem Lg4:Bdq 140 Zf6:=bdq Tryz.func140
theorem Lg5:Bdq 141 xg7:=bdq Tryz.func141
theorem Lg6:Bdq 142 Zf7:=bdq Tryz.func142
theorem Lg7:Bdq 143 xg8:=bdq Tryz.func143
theorem Lg8:Bdq 144 Zf8:=bdq Tryz.func144
theorem Lg9:Bdq 152 Zf9:=bdq Tryz.func152
theorem Mg0:Bdq 153 ag0:=bdq Tryz.func153
theorem Mg1:Bdq 154 xg9:=bdq Tryz.func154
end Go.Ev.Ce
namespace Go.Ev.L
open Go Go.Ev
def wc7:RT->PC->PS2
 |.s a b,.seq x y=>.seq (wc7 a x) (wc7 b y)
 |.c a b,.cond g x y=>.cond g (wc7 a x) (wc7 b y)
 |.b a,.block id x=>.block id (wc7 a x)
 |.i a,.inner f x n c=>.inner f x n (wc7 a c)
 |.u S,_=>.sum S
 |_,c=>.pc c
theorem pe4{E:Env}{k:Nat}(rt:RT)(c:PC):db8 (λx=>∀s,fa2 (x.1 s) (M2 E k x.2 s)) (jc3 rt c)->ta5 E k (wc7 rt c) c:=by
 induction rt generalizing c with
 |p=>intro h;cases c<;>exact .pc _
 |s a b iha ihb =>
  intro h;cases c with
  |seq x y=>exact .seq (iha x (db8.app h).1) (ihb y (db8.app h).2)
  |_=>exact .pc _
 |c a b iha ihb =>
  intro h;cases c with
  |cond g x y=>exact .cond g (iha x (db8.app h).1) (ihb y (db8.app h).2)
  |_=>exact .pc _
 |b a iha =>
  intro h;cases c with
  |block id x=>exact .block id (iha x h)
  |_=>exact .pc _
 |l a iha=>intro h;cases c<;>exact .pc _
 |i a iha =>
  intro h;cases c with
  |inner f x n c=>exact .inner f x n (iha c h)
  |_=>exact .pc _
 |u S =>
  intro h
  have:jc3 (.u S) c=[(S,c)]:=by cases c<;>rfl
  rw[this] at h;cases h with
  |cons h t =>
   have e:wc7 (.u S) c=.sum S:=by cases c<;>rfl
   rw[e];exact .sum h
section
variable{π σ:Type}{E:Env}{k:Nat}{keep:List Nat}{alts:List (Al2 π σ)}{enc:π->σ->St}{step:π->σ->Stp σ}{xs:Xs π σ}{body:PS2}{c:PC}
theorem Ec5.belowM(hb:ta5 E k body c)(hN:E.N=rounds+1)(w:Ec5 Ee3 k keep (pd8 E k body) alts step xs enc)(s:St):fa2 (ee6 Ee3 k keep alts step xs s) (M2 E k (.loopM keep c) s):=λr hr=>by
 obtain⟨t,h1,h2⟩:=w.go hr;rw[Te2,hN];exact pc2 hb.le _ _ _ (Pc3 h1 h2)
theorem Ec5.belowML(hb:ta5 E k body c)(hN:E.N=rounds+1)(w:Ec5 Dc9 k keep (pd8 E k body) alts step xs enc)(s:St):fa2 (ee6 Dc9 k keep alts step xs s) (M2 E k (.loop keep c) s):=λr hr=>by
 obtain⟨t,h1,h2⟩:=w.go hr;rw[ee4,hN];exact pc2 hb.le _ _ _ (Pc3 h1 h2)
end
end Go.Ev.L
namespace Go.Ev.Ab
open Go Go.Ev
@[reducible] noncomputable def o(d:Nat)(x:PO):PI:=⟨some d,none,[],x⟩
@[reducible] noncomputable def s(x:PO):PI:=⟨none,none,[],x⟩
@[reducible] noncomputable def ci(n:Int):Arg:=.c (.v (.int .i64 n))
@[reducible] noncomputable def cb(b:Bool):Arg:=.c (.v (.bool b))
@[reducible] noncomputable def vi(n:Int):b7:=.v (.int .i64 n)
@[reducible] noncomputable def rep{α:Type}(n:Nat)(x:α):List α:=List.replicate n x
@[reducible] noncomputable def ki(n:Nat):List CK:=List.replicate n (.int .i64)
@[reducible] noncomputable def mv(d n:Nat):PI:=o d (.mv (.t n))
@[reducible] noncomputable def mb(d:Nat)(x:Bool):PI:=o d (.mv (cb x))
@[reducible] noncomputable def fd(d k n:Nat):PI:=o d (.fld k (.t n))
@[reducible] noncomputable def bx(d n:Nat):PI:=o d (.box (.t n))
@[reducible] noncomputable def bc(p:BinOp)(d x:Nat)(y:Int):PI:=o d (.bin p (.t x) (ci y))
@[reducible] noncomputable def ln(d x:Nat):PI:=o d (.len (.t x))
@[reducible] noncomputable def ex(d x k:Nat):PI:=o d (.ext (.t x) k)
@[reducible] noncomputable def ix(d k x y:Nat):PI:=o d (.idxS k (.t x) (.t y))
@[reducible] noncomputable def so(l:List PI)(x:PC):PC:=.seq (.ops l) x
@[reducible] noncomputable def ts(l:List Nat):List Arg:=l.map .t
@[reducible] noncomputable def cl(f:Nat)(l:List Nat):PO:=.call f (ts l)
@[reducible] noncomputable def wt(a b n:Nat):Nat×Nat×Arg:=(a,b,.t n)
@[reducible] noncomputable def pa(d c x:Nat):PI:=o d (.pick (.t c) (.t x) (cb false))
@[reducible] noncomputable def po(d c x:Nat):PI:=o d (.pick (.t c) (cb true) (.t x))
@[reducible] noncomputable def al(d k:Nat)(n:Int):PI:=o d (.alloc (rep k (vi n)))
@[reducible] noncomputable def ap(d et es n x y:Nat):PI:=o d (.append et es n (.t x) (.t y))
end Go.Ev.Ab
namespace Go.Ev.L
open Go Go.Ev
def Cps{π σ:Type}(u:∀{α:Type},(σ->α)->(Nat->α)->α->π->σ->α):Prop :=
 ∀{α β:Type} (F:α->β) (k:σ->α) (e:Nat->α) (z:α) (p:π) (s:σ),F (u k e z p s)=u (λx=>F (k x)) (λt=>F (e t)) (F z) p s
@[reducible] noncomputable def foL{π σ:Type}(en:π->σ->St)(xs:Xs π σ)(p:π)(s:σ):Stp σ->Option (l4×St):=Ec0 (λs'=>some (.normal,en p s')) (λt=>xOf xs p s t 1) none
structure Lo(π σ:Type) where
 E:Env
 k:Nat
 F:PFn
 at':List Nat
 kp:List Nat
 rt:RT
 al:List (Al2 π σ)
 st:π->σ->Stp σ
 xs:Xs π σ
 en:π->σ->St
namespace Lo
variable{π σ:Type}(L:Lo π σ)
def lc:PC:=Dg9 L.at' L.F.body
def ls:St->DT (l4×St):=ee6 Dc9 L.k L.kp L.al L.st L.xs
def lsM:St->DT (l4×St):=ee6 Ee3 L.k L.kp L.al L.st L.xs
def pr:(St->DT (l4×St))×PC:=(L.ls,.loop L.kp L.lc)
def prM:(St->DT (l4×St))×PC:=(L.lsM,.loopM L.kp L.lc)
def Ok:Prop:=∀s,ia6 L.k L.F.res (L.pr.1 s) (M2 L.E L.k L.pr.2 s)
def OkE:Prop:=∀s,fa2 (L.pr.1 s) (M2 L.E L.k L.pr.2 s)
def OkM:Prop:=∀s,fa2 (L.prM.1 s) (M2 L.E L.k L.prM.2 s)
def Rd(hd:St->DT St)(bd:St->DT (l4×St))(p:π)(s:σ)(a:St)(b:Stp σ):Prop:=(Zb1 hd bd a).run=foL L.en L.xs p s b
def H0:Prop:=∀p s,L.Rd (Dc9 L.k L.kp) (Ze6 L.E L.k L.F.res (Jd5 L.rt L.lc)) p s (L.en p s) (L.st p s)
def H1:Prop:=∀p s,L.Rd (Dc9 L.k L.kp) (pd8 L.E L.k (wc7 L.rt L.lc)) p s (L.en p s) (L.st p s)
def H2:Prop:=∀p s,L.Rd (Ee3 L.k L.kp) (pd8 L.E L.k (wc7 L.rt L.lc)) p s (L.en p s) (L.st p s)
def HA:Prop:=db8 (λx=>∀a H,(⟨lf4 x.sh a,lf5 x.bl H⟩:St)=L.en (x.rd a H).1 (x.rd a H).2) L.al
variable{L}
theorem Rd.of{hd:St->DT St}{bd:St->DT (l4×St)}{p:π}{s:σ}{a:St}(u:∀{α:Type},(σ->α)->(Nat->α)->α->π->σ->α)
  (q:Cps @u) (H:(Zb1 hd bd a).run=u (λx=>foL L.en L.xs p s (.next x)) (λt=>foL L.en L.xs p s (.exit t)) (foL L.en L.xs p s .fail) p s):L.Rd hd bd p s a (u .next .exit .fail p s) :=
 H.trans (q (foL L.en L.xs p s) Stp.next Stp.exit Stp.fail p s).symm
theorem Rd.sel{hd:St->DT St}{bd:St->DT (l4×St)}{p:π}{s:σ}{a1 a0:St}{b1 b0:Stp σ}(c:Bool)(h1:L.Rd hd bd p s a1 b1)(h0:L.Rd hd bd p s a0 b0):L.Rd hd bd p s (sel c a1 a0) (sel c b1 b0):=by
 cases c with
 |true=>exact h1
 |false=>exact h0
theorem ok(l:List ((St->DT (l4×St))×PC))(hs:jc3 L.rt L.lc=l)(hl:db8 (λx=>∀s,ia6 L.k L.F.res (x.1 s) (M2 L.E L.k x.2 s)) l)(hN:L.E.N=rounds+1)(ha:L.HA)(h:L.H0):L.Ok :=
 Ec5.belowC (af5 _ _ (by rw[hs];exact hl)) hN ⟨ha,h⟩
theorem okE(l:List ((St->DT (l4×St))×PC))(hs:jc3 L.rt L.lc=l)(hl:db8 (λx=>∀s,fa2 (x.1 s) (M2 L.E L.k x.2 s)) l)(hN:L.E.N=rounds+1)(ha:L.HA)(h:L.H1):L.OkE :=
 Ec5.belowML (pe4 _ _ (by rw[hs];exact hl)) hN ⟨ha,h⟩
theorem okM(l:List ((St->DT (l4×St))×PC))(hs:jc3 L.rt L.lc=l)(hl:db8 (λx=>∀s,fa2 (x.1 s) (M2 L.E L.k x.2 s)) l)(hN:L.E.N=rounds+1)(ha:L.HA)(h:L.H2):L.OkM :=
 Ec5.belowM (pe4 _ _ (by rw[hs];exact hl)) hN ⟨ha,h⟩
end Lo
theorem Mg2{E:Env}{F:PFn}{args:List b7}{blks:List c7}{o:Option (b7×List c7)}(rt:RT)(l:List ((St->DT (l4×St))×PC))(hs:jc3 rt F.body=l)
  (hl:db8 (λx=>∀s,ia6 (len blks) F.res (x.1 s) (M2 E (len blks) x.2 s)) l) (h:(eg9 E F (Jd5 rt F.body) args blks).run=o) (r:b7×List c7) (hr:o=some r):(ba9 E F args blks).run=some r :=
 Re1 (af5 rt _ (by rw[hs];exact hl)) r (h.trans hr)
theorem yg2{E:Env}{F:PFn}{args:List b7}{blks:List c7}{o:Option (b7×List c7)}(rt:RT)(l:List ((St->DT (l4×St))×PC))(hs:jc3 rt F.body=l)
  (hl:db8 (λx=>∀s,fa2 (x.1 s) (M2 E (len blks) x.2 s)) l) (h:(zf7 E F (wc7 rt F.body) args blks).run=o) (r:b7×List c7) (hr:o=some r):(Ca0 E F args blks).run=some r :=
 Ee2 (pe4 rt _ (by rw[hs];exact hl)) r (h.trans hr)
theorem Fa0{A o:Option (b7×List c7)}(h:A=o)(r:b7×List c7)(hr:o=some r):A=some r:=h.trans hr
def Cpa{π ρ:Type}(u:∀{α:Type},(ρ->α)->π->α):Prop:=∀{α β:Type} (F:α->β) (k:ρ->α) (p:π),F (u k p)=u (λx=>F (k x)) p
theorem Lo.Rd.ofq{π σ:Type}{L:Lo π σ}{hd:St->DT St}{bd:St->DT (l4×St)}{p:π}{s:σ}{a:St}(u:∀{α:Type},(σ->α)->(Nat->α)->α->π->σ->α)
  (q:Cps @u:=by intro _ _ F _ _ _ _ _;(repeat' apply uf6 (f:=F))<;>rfl) (H:(Zb1 hd bd a).run=u (λx=>foL L.en L.xs p s (.next x)) (λt=>foL L.en L.xs p s (.exit t)) (foL L.en L.xs p s .fail) p s:=by kernel_rfl):L.Rd hd bd p s a (u .next .exit .fail p s):=Lo.Rd.of @u q H
theorem Lo.okq {π σ : Type} {L : Lo π σ} (l : List ((St → DT (l4 × St)) × PC)) (hl : db8 (fun x => ∀ s, ia6 L.k L.F.res (x.1 s) (M2 L.E L.k x.2 s)) l) (h : L.H0) (hs : jc3 L.rt L.lc = l := by kernel_rfl) (hN : L.E.N = rounds + 1 := by rfl)
  (ha:L.HA:=by repeat' (first | exact .nil | refine .cons (λa H=>by kernel_rfl) ?_)):L.Ok:=Lo.ok l hs hl hN ha h
theorem Lo.okMq {π σ : Type} {L : Lo π σ} (l : List ((St → DT (l4 × St)) × PC)) (hl : db8 (fun x => ∀ s, fa2 (x.1 s) (M2 L.E L.k x.2 s)) l) (h : L.H2) (hs : jc3 L.rt L.lc = l := by kernel_rfl) (hN : L.E.N = rounds + 1 := by rfl)
  (ha:L.HA:=by repeat' (first | exact .nil | refine .cons (λa H=>by kernel_rfl) ?_)):L.OkM:=Lo.okM l hs hl hN ha h
theorem Q3{E:Env}{F:PFn}{args:List b7}{blks:List c7}{o:Option (b7×List c7)}(rt:RT)(l:List ((St->DT (l4×St))×PC))
  (hl:db8 (λx=>∀s,ia6 (len blks) F.res (x.1 s) (M2 E (len blks) x.2 s)) l) (h:(eg9 E F (Jd5 rt F.body) args blks).run=o:=by kernel_rfl) (hs:jc3 rt F.body=l:=by kernel_rfl) (r:b7×List c7) (hr:o=some r):(ba9 E F args blks).run=some r:=Mg2 rt l hs hl h r hr
theorem pd9{E:Env}{F:PFn}{args:List b7}{blks:List c7}{o:Option (b7×List c7)}(rt:RT)(l:List ((St->DT (l4×St))×PC))
  (hl:db8 (λx=>∀s,fa2 (x.1 s) (M2 E (len blks) x.2 s)) l) (h:(zf7 E F (wc7 rt F.body) args blks).run=o:=by kernel_rfl) (hs:jc3 rt F.body=l:=by kernel_rfl) (r:b7×List c7) (hr:o=some r):(Ca0 E F args blks).run=some r:=yg2 rt l hs hl h r hr
theorem mEq{π ρ β:Type}(u:∀{α:Type},(ρ->α)->π->α)(FO:ρ->β)(x:π){v:β}(h1:v=u FO x:=by kernel_rfl)(q:Cpa @u:=by intro _ _ F _ _;(repeat' apply uf6 (f:=F))<;>rfl):v=FO (u (λr=>r) x):=h1.trans (q FO (λr=>r) x).symm
abbrev nlq:b7:=.v (.slice none 0 0)
abbrev bq(et es:Nat)(el:List (List b7)):c7:=⟨et,es,el,true,false,0⟩
abbrev Ma1{α:Type}(a n:Nat)(x:α)(y:DT α):DT α:=.ite (Nat.beq a n) (.ret x) y
theorem Sa7{α ρ:Type}{P:Program}{G:Nat->List Value}{f:FuncId}{R0:Sum}{c0:Cod α}(hb:l8 P G f R0)(R:RR ρ){o:α->Option (b7×List c7)}(h:∀a0 r,o a0=some r->(R0 [c0.enc a0] []).run=some r:=by exact λ_=>Fa0 (by kernel_rfl)):l8 P G f (S7 c0 λa0=>rdO R (o a0)):=Sc3 hb R h
theorem Af1{α:Type}{P:Program}{G:Nat->List Value}{f:FuncId}{R:Sum}{c0:Cod α}{k:α->DT (b7×List c7)}(hb:l8 P G f R)(h:∀a0 r,(k a0).run=some r->(R [c0.enc a0] []).run=some r:=by exact λ_=>Fa0 (by kernel_rfl)):l8 P G f (S7 c0 k):=Zb2 hb h
theorem Sb2{α β ρ:Type}{P:Program}{G:Nat->List Value}{f:FuncId}{R0:Sum}{c0:Cod α}{c1:Cod β}(hb:l8 P G f R0)(R:RR ρ){o:α->β->Option (b7×List c7)}(h:∀a0 a1 r,o a0 a1=some r->(R0 [c0.enc a0,c1.enc a1] []).run=some r:=by exact λ_ _=>Fa0 (by kernel_rfl)):l8 P G f (Z7 c0 c1 λa0 a1=>rdO R (o a0 a1)):=dc7 hb R h
theorem wc8{α β:Type}{P:Program}{G:Nat->List Value}{f:FuncId}{R:Sum}{c0:Cod α}{c1:Cod β}{k:α->β->DT (b7×List c7)}(hb:l8 P G f R)(h:∀a0 a1 r,(k a0 a1).run=some r->(R [c0.enc a0,c1.enc a1] []).run=some r:=by exact λ_ _=>Fa0 (by kernel_rfl)):l8 P G f (Z7 c0 c1 k):=ne9 hb h
theorem yg3{α β γ ρ:Type}{P:Program}{G:Nat->List Value}{f:FuncId}{R0:Sum}{c0:Cod α}{c1:Cod β}{c2:Cod γ}(hb:l8 P G f R0)(R:RR ρ){o:α->β->γ->Option (b7×List c7)}(h:∀a0 a1 a2 r,o a0 a1 a2=some r->(R0 [c0.enc a0,c1.enc a1,c2.enc a2] []).run=some r:=by exact λ_ _ _=>Fa0 (by kernel_rfl)):l8 P G f (ne8 c0 c1 c2 λa0 a1 a2=>rdO R (o a0 a1 a2)):=Dg8 hb R h
def tbN:List (Nat×Sum):=[]
theorem ya0{P:Program}{G:Nat->List Value}:A4 P G tbN:=trivial
abbrev upq(x:St)(l:List (Nat×b7)):St:=⟨l.foldl (λa q=>a.set q.1 q.2) x.a,x.H⟩
abbrev Ee5(x:St)(l:List (Nat×b7))(n:Nat)(H:List c7):St:=⟨l.foldl (λa q=>a.set q.1 q.2) x.a,x.H.take n++H⟩
abbrev Mg3(x:St)(l:List (Nat×b7))(H:List (Nat×c7)):St:=⟨l.foldl (λa q=>a.set q.1 q.2) x.a,H.foldl (λa q=>a.set q.1 q.2) x.H⟩
abbrev sIq:S2:=.s (.o (.int .i64))
abbrev sUq:S2:=.s (.o .unk)
abbrev sBq:S2:=.s (.o .bool)
abbrev sPq(n:Nat):S2:=.s (.o (.ptr n 0 0 0))
abbrev sTq(n:Nat):S2:=.s (.o (.tree n))
abbrev sLq{α:Type}(t:Ty α):S2:=.s (.c t.es (nL t))
abbrev kLq(n:Nat):List K:=List.replicate n (.o (.int .i64))
abbrev aIq(a:List b7)(n:Nat):Int:=toI (slT a n)
abbrev aBq(a:List b7)(n:Nat):Bool:=toB (slT a n)
abbrev aNq(a:List b7)(n:Nat):Nat:=toN (slT a n)
abbrev aGq(a:List b7)(n:Nat):Nat->List b7:=toG (slT a n)
abbrev aLq{α:Type}(t:Ty α)(a:List b7)(n:Nat):List α:=rL t (slT a n)
abbrev hIq(H:List c7)(m r n:Nat):Int:=toI (slT (rwT (elT H m) r) n)
abbrev cIq(a:List b7)(m n:Nat):Int:=toI (slT (cellsOf (slT a m)) n)
abbrev hLq{α:Type}(t:Ty α)(H:List c7)(m r n:Nat):List α:=rL t (slT (rwT (elT H m) r) n)
abbrev wLq{α:Type}(t:Ty α)(H:List c7)(m r k n:Nat):List α:=rL t (slT (cellsOf (slT (rwT (elT H m) r) k)) n)
abbrev dLq{α:Type}(t:Ty α)(a:List b7)(m n:Nat):List α:=rL t (slT (cellsOf (slT a m)) n)
end Go.Ev.L
namespace Go.Ev.Ce
structure V3 where
 x:Int
 y:Int
 z:Int
structure Pln where
 n:V3
 b:Int
structure Pt where
 px:Int
 py:Int
 pz:Int
 pw:Int
def C8(a b:V3):V3:=⟨a.y*b.z-a.z*b.y,a.z*b.x-a.x*b.z,a.x*b.y-a.y*b.x⟩
def dot(a b:V3):Int:=a.x*b.x+a.y*b.y+a.z*b.z
def mw(p q r:Pln):Int:=dot p.n (C8 q.n r.n)
end Go.Ev.Ce
namespace Go.Ev.Ce
open Go Go.Ev Go.Ev.L Go.Proofs
@[reducible] noncomputable def prog:Program:=Tryz.prog
def G:Nat->List Value:=λ_=>[]
def En(l:List (Nat×Sum)):Env:={ P:=prog,G,fns:=λ_=>none,call:=eg6 l,own:=λf j=>Bool.and (Hb1 f [107,109,111,118]) (Nat.beq j 0),N:=18446744073709551616 }
@[reducible] noncomputable def u:b7:=.v (.tuple #[])
theorem yg4{l:List (Nat×Sum)}(h:A4 prog G l):∀f,l8 (En l).P (En l).G f ((En l).call f):=Ze4 h
theorem bd{l:List (Nat×Sum)}{f:FuncId}{R:Env->Sum}(b:gd2 prog f R)(h:A4 prog G l):l8 prog G f (R (En l)):=b rfl (yg4 h)
def tV:Ty V3 where
 es:=3
 row x:=[i x.x,i x.y,i x.z]
 rd r:=⟨toI (hdA r),toI (hdA (tlA r)),toI (hdA (tlA (tlA r)))⟩
 ok r:=db9 3 r
 cks:=List.replicate 3 (.int .i64)
 d:=⟨0,0,0⟩
 h0 _:=rfl
 h1 _:=rfl
 h2 _:=rfl
 h3 _ h:=.of (yb0 h)
 h4 _:=rfl
 h5 _:=rfl
def r1V:R1 V3:=r1A tV 3 λ_ h=>h
def tP:Ty Pln where
 es:=4
 row x:=[i x.n.x,i x.n.y,i x.n.z,i x.b]
 rd r:=⟨⟨toI (hdA r),toI (hdA (tlA r)),toI (hdA (tlA (tlA r)))⟩,toI (hdA (tlA (tlA (tlA r))))⟩
 ok r:=db9 4 r
 cks:=List.replicate 4 (.int .i64)
 d:=⟨⟨0,0,0⟩,0⟩
 h0 _:=rfl
 h1 _:=rfl
 h2 _:=rfl
 h3 _ h:=.of (yb0 h)
 h4 _:=rfl
 h5 _:=rfl
abbrev PLq:=List Pln
abbrev LPq:=List PLq
abbrev tLq:=tLs tP
abbrev tMq:=tLs tLq
abbrev ROq:=Option (b7×List c7)
def r1P:R1 Pln:=r1A tP 4 λ_ h=>h
def tX:Ty Pt where
 es:=4
 row x:=[i x.px,i x.py,i x.pz,i x.pw]
 rd r:=⟨toI (hdA r),toI (hdA (tlA r)),toI (hdA (tlA (tlA r))),toI (hdA (tlA (tlA (tlA r))))⟩
 ok r:=db9 4 r
 cks:=List.replicate 4 (.int .i64)
 d:=⟨0,0,0,0⟩
 h0 _:=rfl
 h1 _:=rfl
 h2 _:=rfl
 h3 _ h:=.of (yb0 h)
 h4 _:=rfl
 h5 _:=rfl
def r1X:R1 Pt:=r1A tX 4 λ_ h=>h
structure Tp where
 p:Pln
 q:Pln
 r:Pln
def tY:Ty Tp where
 es:=12
 row x:=[i x.p.n.x,i x.p.n.y,i x.p.n.z,i x.p.b,i x.q.n.x,i x.q.n.y,i x.q.n.z,i x.q.b,i x.r.n.x,i x.r.n.y,i x.r.n.z,i x.r.b]
 rd r:=⟨⟨⟨toI (hdA r),toI (hdA (tlA r)),toI (hdA (tlA (tlA r)))⟩,toI (hdA (tlA (tlA (tlA r))))⟩,⟨⟨toI (hdA (tlA (tlA (tlA (tlA r))))),toI (hdA (tlA (tlA (tlA (tlA (tlA r)))))),toI (hdA (tlA (tlA (tlA (tlA (tlA (tlA r)))))))⟩,toI (hdA (tlA (tlA (tlA (tlA (tlA (tlA (tlA r))))))))⟩,⟨⟨toI (hdA (tlA (tlA (tlA (tlA (tlA (tlA (tlA (tlA r))))))))),toI (hdA (tlA (tlA (tlA (tlA (tlA (tlA (tlA (tlA (tlA r)))))))))),toI (hdA (tlA (tlA (tlA (tlA (tlA (tlA (tlA (tlA (tlA (tlA r)))))))))))⟩,toI (hdA (tlA (tlA (tlA (tlA (tlA (tlA (tlA (tlA (tlA (tlA (tlA r))))))))))))⟩⟩
 ok r:=db9 12 r
 cks:=List.replicate 12 (.int .i64)
 d:=⟨⟨⟨0,0,0⟩,0⟩,⟨⟨0,0,0⟩,0⟩,⟨⟨0,0,0⟩,0⟩⟩
 h0 _:=rfl
 h1 _:=rfl
 h2 _:=rfl
 h3 _ h:=.of (yb0 h)
 h4 _:=rfl
 h5 _:=rfl
structure Q2 where
 a:V3
 b:V3
set_option maxRecDepth 100000
def lb8(x:Pln)(y:Pt):Int:=(W ((W ((W ((W (x.b*y.pw))-(W (x.n.x*y.px))))-(W (x.n.y*y.py))))-(W (x.n.z*y.pz))))
def qc2:Sum:=Z7 (na7 tP) (na7 tX) (λx y=>.ret ((one r1I).enc (lb8 x y),[]))
theorem Fc7:l8 prog G 92 qc2:=wc8 (bd b92 ya0)
def Pb9(x:V3)(y:V3):V3:=(⟨W (x.x+y.x),W (x.y+y.y),W (x.z+y.z)⟩:V3)
def ge1:Sum:=Z7 (na7 tV) (na7 tV) (λx y=>.ret ((one r1V).enc (Pb9 x y),[]))
theorem Te3:l8 prog G 139 ge1:=wc8 (bd Lg3 ya0)
def Pc9(x:V3)(y:V3):Int:=(W ((W ((W (x.x*y.x))+(W (x.y*y.y))))+(W (x.z*y.z))))
def ge2:Sum:=Z7 (na7 tV) (na7 tV) (λx y=>.ret ((one r1I).enc (Pc9 x y),[]))
theorem Te4:l8 prog G 136 ge2:=wc8 (bd Lg0 ya0)
def qa4(x:V3)(y:V3):V3:=(⟨W ((W (x.y*y.z))-(W (x.z*y.y))),W ((W (x.z*y.x))-(W (x.x*y.z))),W ((W (x.x*y.y))-(W (x.y*y.x)))⟩:V3)
def wd7:Sum:=Z7 (na7 tV) (na7 tV) (λx y=>.ret ((one r1V).enc (qa4 x y),[]))
theorem pe5:l8 prog G 137 wd7:=wc8 (bd Lg1 ya0)
def ca0(x:V3)(y:Int):V3:=(⟨W (x.x*y),W (x.y*y),W (x.z*y)⟩:V3)
def gd3:Sum:=Z7 (na7 tV) cI (λx y=>.ret ((one r1V).enc (ca0 x y),[]))
theorem Vd7:l8 prog G 138 gd3:=wc8 (bd Lg2 ya0)
structure Sa8 where
structure ia8 where
 (is0 is1:Int)
def wc9(p:Sa8)(s:ia8):St:=⟨i s.is0::i s.is1::ra 10 [],[]⟩
def ab2{α:Type}(k:ia8->α)(e:Nat->α)(z:α)(p:Sa8)(s:ia8):α:=(sl (s.is1 != 0) (sl (s.is1==0) z (k ⟨s.is1,Int.tmod s.is0 s.is1⟩)) (e 1))
def Ma2(p:Sa8)(s:ia8):Stp ia8:=ab2 .next .exit .fail p s
def Sb3:Lo Sa8 ia8:=⟨En tbN,0,Zf6,[1,0,4,4],[0,1],.p,[⟨sIq::sIq::ru2 10 [],[],λa H=>(⟨⟩,⟨aIq a 0,aIq a 1⟩)⟩],Ma2,[(some 0,λp s=>upq (wc9 p s) [(5,i s.is1),(6,b (s.is1 != 0))])],wc9⟩
theorem Ad8:Sb3.Ok:=Lo.okq [] .nil λp s=>(.ofq @ab2)
def pb9(x:Int)(y:Int):ROq:=let t1:=(lp (Ma2 (⟨⟩:Sa8)) (⟨x,y⟩:ia8));(sl (Nat.beq t1.1 1) (some (i t1.2.is0,[])) none)
def ca1(x:Int)(y:Int):Int:=L9 (one r1I) (pb9 x y)
def ca2(x:Int)(y:Int):Bool:=okO (one r1I) (pb9 x y)
def gd4:Sum:=Z7 cI cI (λx y=>.guard (ca2 x y) (.ret ((one r1I).enc (ca1 x y),[])))
theorem Vd8:l8 prog G 140 gd4:=dc7 (bd Lg4 ya0) (one r1I) (o:=pb9) λx y=>Q3 (.s .p (.s (.b (.u Sb3.ls)) .p)) [Sb3.pr] (.cons Ad8 .nil)
def Ee6:List (Nat×Sum):=[(137,wd7),(136,ge2),(138,gd3),(139,ge1),(140,gd4)]
theorem pe6:A4 prog G Ee6:=⟨pe5,Te4,Vd7,Te3,Vd8,trivial⟩
def Sb4(x:Pln)(y:Pln)(z:Pln):ROq:=let t1:=(qa4 y.n z.n);let t2:=(Pc9 x.n t1);let t3:=(ca0 t1 x.b);let t4:=(qa4 z.n x.n);let t5:=(ca0 t4 y.b);let t6:=(Pb9 t3 t5);let t7:=(qa4 x.n y.n);let t8:=(ca0 t7 z.b);let t9:=(Pb9 t6 t8);let t10:=(ca0 t9 (-1));let t11:=(ca1 (if (W (0-t10.x))>t10.x then (W (0-t10.x)) else t10.x) (if (W (0-t10.y))>t10.y then (W (0-t10.y)) else t10.y));let t12:=(ca1 (if (W (0-t10.z))>t10.z then (W (0-t10.z)) else t10.z) (W (0-t2)));let t13:=(ca1 t11 t12);let t14:=(ca1 (if (W (0-t9.x))>t9.x then (W (0-t9.x)) else t9.x) (if (W (0-t9.y))>t9.y then (W (0-t9.y)) else t9.y));let t15:=(ca1 (if (W (0-t9.z))>t9.z then (W (0-t9.z)) else t9.z) t2);let t16:=(ca1 t14 t15);(sl (t2==0) (some (.tup [.agg [i 0,i 0,i 0,i 0],b false],[])) (sl (decide (t2<0)) (sl (ca2 (if (W (0-t10.x))>t10.x then (W (0-t10.x)) else t10.x) (if (W (0-t10.y))>t10.y then (W (0-t10.y)) else t10.y)) (sl (ca2 (if (W (0-t10.z))>t10.z then (W (0-t10.z)) else t10.z) (W (0-t2))) (sl (ca2 t11 t12) (sl (t13==0) none (sl (t13==0) none (sl (t13==0) none (sl (t13==0) none (some (.tup [.agg [i (W (Int.tdiv t10.x t13)),i (W (Int.tdiv t10.y t13)),i (W (Int.tdiv t10.z t13)),i (W (Int.tdiv (W (0-t2)) t13))],b true],[])))))) none) none) none) (sl (ca2 (if (W (0-t9.x))>t9.x then (W (0-t9.x)) else t9.x) (if (W (0-t9.y))>t9.y then (W (0-t9.y)) else t9.y)) (sl (ca2 (if (W (0-t9.z))>t9.z then (W (0-t9.z)) else t9.z) t2) (sl (ca2 t14 t15) (sl (t16==0) none (sl (t16==0) none (sl (t16==0) none (sl (t16==0) none (some (.tup [.agg [i (W (Int.tdiv t9.x t16)),i (W (Int.tdiv t9.y t16)),i (W (Int.tdiv t9.z t16)),i (W (Int.tdiv t2 t16))],b true],[])))))) none) none) none)))
def Sb5(x:Pln)(y:Pln)(z:Pln):Pt×Bool:=L9 (two r1X r1B) (Sb4 x y z)
def Sb6(x:Pln)(y:Pln)(z:Pln):Bool:=okO (two r1X r1B) (Sb4 x y z)
def Ld4:Sum:=ne8 (na7 tP) (na7 tP) (na7 tP) (λx y z=>.guard (Sb6 x y z) (.ret ((two r1X r1B).enc (Sb5 x y z),[])))
theorem Ee7:l8 prog G 115 Ld4:=yg3 (bd Jg1 pe6) (two r1X r1B) (o:=Sb4)
def ge3:List (Nat×Sum):=[(92,qc2)]
theorem Te5:A4 prog G ge3:=⟨Fc7,trivial⟩
structure Sb7 where
 g9:PLq
 (B1 l5 A1 w9:Int)
structure Ja9 where
 is5:Int
def wd8(p:Sb7)(s:Ja9):St:=⟨eL tP p.g9::.unk::.unk::.ptr 0 0 0 0::.unk::i s.is5::ra 13 [],[bq 0 4 [[i p.B1,i p.l5,i p.A1,i p.w9]]]⟩
def Nb1{α:Type}(k:Ja9->α)(e:Nat->α)(z:α)(p:Sb7)(s:Ja9):α:=let t1:=(lb8 (gL tP p.g9 s.is5.toNat) (⟨p.B1,p.l5,p.A1,p.w9⟩:Pt));(sl (decide (s.is5<(↑(List.length p.g9):Int))) (sl (inB s.is5 (List.length p.g9)) (sl (decide (t1<0)) (e 1) (k ⟨W (s.is5+1)⟩)) z) (e 2))
def Cb6(p:Sb7)(s:Ja9):Stp Ja9:=Nb1 .next .exit .fail p s
def Zc1:Lo Sb7 Ja9:=⟨En ge3,0,Yf8,[1,0,1,4,4],[0,3,5],.p,[⟨sLq tP::sUq::sUq::sPq 0::sUq::sIq::ru2 13 [],[⟨0,4,true,some [kLq 4]⟩],λa H=>(⟨aLq tP a 0,hIq H 0 0 0,hIq H 0 0 1,hIq H 0 0 2,hIq H 0 0 3⟩,⟨aIq a 5⟩)⟩],Cb6,[(none,λp s=>⟨[b false],[]⟩),(some 0,λp s=>upq (wd8 p s) [(6,i s.is5),(7,eL tP p.g9),(8,i (↑(List.length p.g9):Int)),(9,b (decide (s.is5<(↑(List.length p.g9):Int))))])],wd8⟩
theorem Ee8:Zc1.Ok:=Lo.okq [] .nil λp s=>(.ofq @Nb1)
def Fc8(x:PLq)(y:Pt):ROq:=let t1:=(lp (Cb6 (⟨rt tP x,y.px,y.py,y.pz,y.pw⟩:Sb7)) (⟨0⟩:Ja9));(sl ((cnE tP x)&&true) (sl (Nat.beq t1.1 1) (some (b false,[])) (sl (Nat.beq t1.1 2) (some (b true,[])) none)) none)
def jc8(x:PLq)(y:Pt):Bool:=L9 (one r1B) (Fc8 x y)
def jc9(x:PLq)(y:Pt):Bool:=okO (one r1B) (Fc8 x y)
def Ee9:Sum:=Z7 (M3 tP) (na7 tX) (λx y=>.guard (jc9 x y) (.ret ((one r1B).enc (jc8 x y),[])))
theorem of0:l8 prog G 116 Ee9:=dc7 (bd Jg2 Te5) (one r1B) (o:=Fc8) λx y=>Q3 (.s .p (.s (.s .p (.b (.u Zc1.ls))) .p)) [Zc1.pr] (.cons Ee8 .nil)
structure eb8 where
 ob3:List Pt
 (B1 l5 A1 w9:Int)
def Fc9(p:eb8)(s:Ja9):St:=⟨eL tX p.ob3::.unk::.unk::.ptr 0 0 0 0::.unk::i s.is5::ra 12 [],[bq 0 4 [[i p.B1,i p.l5,i p.A1,i p.w9]]]⟩
def jb1{α:Type}(k:Ja9->α)(e:Nat->α)(z:α)(p:eb8)(s:Ja9):α:=let y0:=(gL tX p.ob3 s.is5.toNat);(sl (decide (s.is5<(↑(List.length p.ob3):Int))) (sl (inB s.is5 (List.length p.ob3)) (sl ((y0.px==p.B1)&&((y0.py==p.l5)&&((y0.pz==p.A1)&&((y0.pw==p.w9)&&true)))) (e 1) (k ⟨W (s.is5+1)⟩)) z) (e 2))
def Sa9(p:eb8)(s:Ja9):Stp Ja9:=jb1 .next .exit .fail p s
def dc8:Lo eb8 Ja9:=⟨En tbN,0,Yf9,[1,0,1,4,4],[0,3,5],.p,[⟨sLq tX::sUq::sUq::sPq 0::sUq::sIq::ru2 12 [],[⟨0,4,true,some [kLq 4]⟩],λa H=>(⟨aLq tX a 0,hIq H 0 0 0,hIq H 0 0 1,hIq H 0 0 2,hIq H 0 0 3⟩,⟨aIq a 5⟩)⟩],Sa9,[(none,λp s=>⟨[b true],[]⟩),(some 0,λp s=>upq (Fc9 p s) [(6,i s.is5),(7,eL tX p.ob3),(8,i (↑(List.length p.ob3):Int)),(9,b (decide (s.is5<(↑(List.length p.ob3):Int))))])],Fc9⟩
theorem Ld5:dc8.Ok:=Lo.okq [] .nil λp s=>(.ofq @jb1)
def Cb7(x:List Pt)(y:Pt):ROq:=let t1:=(lp (Sa9 (⟨rt tX x,y.px,y.py,y.pz,y.pw⟩:eb8)) (⟨0⟩:Ja9));(sl ((cnE tX x)&&true) (sl (Nat.beq t1.1 1) (some (b true,[])) (sl (Nat.beq t1.1 2) (some (b false,[])) none)) none)
def mb6(x:List Pt)(y:Pt):Bool:=L9 (one r1B) (Cb7 x y)
def mb7(x:List Pt)(y:Pt):Bool:=okO (one r1B) (Cb7 x y)
def wd9:Sum:=Z7 (M3 tX) (na7 tX) (λx y=>.guard (mb7 x y) (.ret ((one r1B).enc (mb6 x y),[])))
theorem pe7:l8 prog G 117 wd9:=dc7 (bd Jg3 ya0) (one r1B) (o:=Cb7) λx y=>Q3 (.s .p (.s (.s .p (.b (.u dc8.ls))) .p)) [dc8.pr] (.cons Ld5 .nil)
def qb0:List (Nat×Sum):=[(115,Ld4),(116,Ee9),(117,wd9)]
theorem Ad9:A4 prog G qb0:=⟨Ee7,of0,pe7,trivial⟩
structure Y4 where
 g9:PLq
 (is4 is5:Int)
structure E4 where
 ph:Nat
 is6:Int
 ns3:Nat
 eh0:List (List b7)
def Zb6(p:Y4)(s:E4):St:=⟨eL tP p.g9::.unk::.unk::nlq::i p.is4::i p.is5::i s.is6::ra 57 [],[]⟩
def Zb7(p:Y4)(s:E4):St:=⟨eL tP p.g9::.unk::.unk::.sl 0 0 s.ns3 0::i p.is4::i p.is5::i s.is6::ra 57 [],[bq 114 4 s.eh0]⟩
def qd0(p:Y4)(s:E4):St:=(sel (Nat.beq s.ph 1) (Zb7 p s) (Zb6 p s))
def ka3{α:Type}(k:E4->α)(e:Nat->α)(z:α)(p:Y4)(s:E4):α:=let y0:=(List.length p.g9);let t1:=(Sb5 (gL tP p.g9 p.is4.toNat) (gL tP p.g9 p.is5.toNat) (gL tP p.g9 s.is6.toNat));let t2:=(jc8 (rt tP p.g9) t1.1);let t3:=(mb6 [] t1.1);(sl (decide (s.is6<(↑y0:Int))) (sl (inB p.is4 y0) (sl (inB p.is5 y0) (sl (inB s.is6 y0) (sl (Sb6 (gL tP p.g9 p.is4.toNat) (gL tP p.g9 p.is5.toNat) (gL tP p.g9 s.is6.toNat)) (sl t1.2 (sl (okE tP p.g9) (sl (jc9 (rt tP p.g9) t1.1) (sl t2 (sl (mb7 [] t1.1) (sl (!t3) (k ⟨1,W (s.is6+1),1,[[i t1.1.px,i t1.1.py,i t1.1.pz,i t1.1.pw]]⟩) (k ⟨0,W (s.is6+1),0,[]⟩)) z) (k ⟨0,W (s.is6+1),0,[]⟩)) z) z) (k ⟨0,W (s.is6+1),0,[]⟩)) z) z) z) z) (e 1))
def ka4{α:Type}(k:E4->α)(e:Nat->α)(z:α)(p:Y4)(s:E4):α:=let y0:=(List.length p.g9);let t1:=(Sb5 (gL tP p.g9 p.is4.toNat) (gL tP p.g9 p.is5.toNat) (gL tP p.g9 s.is6.toNat));let t2:=(jc8 (rt tP p.g9) t1.1);let t3:=(mb6 (slR tX s.eh0 0 s.ns3) t1.1);(sl (decide (s.is6<(↑y0:Int))) (sl (inB p.is4 y0) (sl (inB p.is5 y0) (sl (inB s.is6 y0) (sl (Sb6 (gL tP p.g9 p.is4.toNat) (gL tP p.g9 p.is5.toNat) (gL tP p.g9 s.is6.toNat)) (sl t1.2 (sl (okE tP p.g9) (sl (jc9 (rt tP p.g9) t1.1) (sl t2 (sl (okS tX s.eh0 0 s.ns3) (sl (mb7 (slR tX s.eh0 0 s.ns3) t1.1) (sl (!t3) (sl (Nat.beq s.ns3 (len s.eh0)&&Nat.ble ((s.ns3+1)*32) room) (k ⟨1,W (s.is6+1),s.ns3+1,app s.eh0 [[i t1.1.px,i t1.1.py,i t1.1.pz,i t1.1.pw]]⟩) z) (k ⟨1,W (s.is6+1),s.ns3,s.eh0⟩)) z) z) (k ⟨1,W (s.is6+1),s.ns3,s.eh0⟩)) z) z) (k ⟨1,W (s.is6+1),s.ns3,s.eh0⟩)) z) z) z) z) (e 2))
def aa3(p:Y4)(s:E4):Stp E4:=(sel (Nat.beq s.ph 1) (ka4 .next .exit .fail p s) (ka3 .next .exit .fail p s))
def Hb8:Lo Y4 E4:=⟨En qb0,0,Pf5,[1,1,0,1,4,4,1,0,4,1,4,4,1,0,4,1,4,4],[0,3,4,5,6],.p,[⟨sLq tP::sUq::sUq::.s (.o .nil)::sIq::sIq::sIq::ru2 57 [],[],λa H=>(⟨aLq tP a 0,aIq a 4,aIq a 5⟩,⟨0,aIq a 6,0,[]⟩)⟩,⟨sLq tP::sUq::sUq::.s (.o (.sl 0 0 (some 0) none))::sIq::sIq::sIq::ru2 57 [],[⟨114,4,true,none⟩],λa H=>(⟨aLq tP a 0,aIq a 4,aIq a 5⟩,⟨1,aIq a 6,slN (slT a 3),elT H 0⟩)⟩],aa3,[(some 4,λp s=>upq (Zb6 p s) [(25,i s.is6),(26,eL tP p.g9),(27,i (↑(List.length p.g9):Int)),(28,b (decide (s.is6<(↑(List.length p.g9):Int))))]),(some 4,λp s=>upq (Zb7 p s) [(25,i s.is6),(26,eL tP p.g9),(27,i (↑(List.length p.g9):Int)),(28,b (decide (s.is6<(↑(List.length p.g9):Int))))])],qd0⟩
theorem qd1:Hb8.Ok:=Lo.okq [] .nil λp s=>(.sel (Nat.beq s.ph 1) (.ofq @ka4) (.ofq @ka3))
structure Y5 where
 is4:Int
structure G2 where
 ph:Nat
 g9:PLq
 is5:Int
 ns3:Nat
 eh0:List (List b7)
def Zb8(p:Y5)(s:G2):St:=⟨eL tP s.g9::.unk::.unk::nlq::i p.is4::i s.is5::ra 58 [],[]⟩
def Zb9(p:Y5)(s:G2):St:=⟨eL tP s.g9::.unk::.unk::.sl 0 0 s.ns3 0::i p.is4::i s.is5::ra 58 [],[bq 114 4 s.eh0]⟩
def qd2(p:Y5)(s:G2):St:=(sel (Nat.beq s.ph 1) (Zb9 p s) (Zb8 p s))
def ka5{α:Type}(k:G2->α)(e:Nat->α)(z:α)(p:Y5)(s:G2):α:=let t1:=(lp (aa3 (⟨rt tP s.g9,p.is4,s.is5⟩:Y4)) (⟨0,W (s.is5+1),0,[]⟩:E4));(sl (decide (s.is5<(↑(List.length s.g9):Int))) (sl ((cnE tP s.g9)&&true) (sl (Nat.beq t1.1 1) (k ⟨0,rt tP s.g9,W (s.is5+1),0,[]⟩) (sl (Nat.beq t1.1 2) (k ⟨1,rt tP s.g9,W (s.is5+1),t1.2.ns3,t1.2.eh0⟩) z)) z) (e 1))
def ka6{α:Type}(k:G2->α)(e:Nat->α)(z:α)(p:Y5)(s:G2):α:=let t1:=(lp (aa3 (⟨rt tP s.g9,p.is4,s.is5⟩:Y4)) (⟨1,W (s.is5+1),s.ns3,s.eh0⟩:E4));(sl (decide (s.is5<(↑(List.length s.g9):Int))) (sl ((cnE tP s.g9)&&true) (sl (Nat.beq t1.1 1) (k ⟨0,rt tP s.g9,W (s.is5+1),0,[]⟩) (sl (Nat.beq t1.1 2) (k ⟨1,rt tP s.g9,W (s.is5+1),t1.2.ns3,t1.2.eh0⟩) z)) z) (e 2))
def U6(p:Y5)(s:G2):Stp G2:=(sel (Nat.beq s.ph 1) (ka6 .next .exit .fail p s) (ka5 .next .exit .fail p s))
def Hb9:Lo Y5 G2:=⟨En qb0,0,Pf5,[1,1,0,1,4,4,1,0,4,1,4,4],[0,3,4,5],.s .p (.s (.b (.s .p (.b (.u Hb8.ls)))) .p),[⟨sLq tP::sUq::sUq::.s (.o .nil)::sIq::sIq::ru2 58 [],[],λa H=>(⟨aIq a 4⟩,⟨0,aLq tP a 0,aIq a 5,0,[]⟩)⟩,⟨sLq tP::sUq::sUq::.s (.o (.sl 0 0 (some 0) none))::sIq::sIq::ru2 58 [],[⟨114,4,true,none⟩],λa H=>(⟨aIq a 4⟩,⟨1,aLq tP a 0,aIq a 5,slN (slT a 3),elT H 0⟩)⟩],U6,[(some 2,λp s=>upq (Zb8 p s) [(17,i s.is5),(18,eL tP s.g9),(19,i (↑(List.length s.g9):Int)),(20,b (decide (s.is5<(↑(List.length s.g9):Int))))]),(some 2,λp s=>upq (Zb9 p s) [(17,i s.is5),(18,eL tP s.g9),(19,i (↑(List.length s.g9):Int)),(20,b (decide (s.is5<(↑(List.length s.g9):Int))))])],qd2⟩
theorem qd3:Hb9.Ok:=Lo.okq [Hb8.pr] (.cons qd1 .nil) λp s=>(.sel (Nat.beq s.ph 1) (.ofq @ka6) (.ofq @ka5))
structure J3 where
 ph:Nat
 g9:PLq
 is4:Int
 ns3:Nat
 eh0:List (List b7)
def ac0(p:Sa8)(s:J3):St:=⟨eL tP s.g9::.unk::.unk::nlq::i s.is4::ra 59 [],[]⟩
def ac4(p:Sa8)(s:J3):St:=⟨eL tP s.g9::.unk::.unk::.sl 0 0 s.ns3 0::i s.is4::ra 59 [],[bq 114 4 s.eh0]⟩
def qd4(p:Sa8)(s:J3):St:=(sel (Nat.beq s.ph 1) (ac4 p s) (ac0 p s))
def ka7{α:Type}(k:J3->α)(e:Nat->α)(z:α)(p:Sa8)(s:J3):α:=let t1:=(lp (U6 (⟨s.is4⟩:Y5)) (⟨0,rt tP s.g9,W (s.is4+1),0,[]⟩:G2));(sl (decide (s.is4<(↑(List.length s.g9):Int))) (sl ((cnE tP s.g9)&&true) (sl (Nat.beq t1.1 1) (k ⟨0,t1.2.g9,W (s.is4+1),0,[]⟩) (sl (Nat.beq t1.1 2) (k ⟨1,t1.2.g9,W (s.is4+1),t1.2.ns3,t1.2.eh0⟩) z)) z) (e 1))
def ka8{α:Type}(k:J3->α)(e:Nat->α)(z:α)(p:Sa8)(s:J3):α:=let t1:=(lp (U6 (⟨s.is4⟩:Y5)) (⟨1,rt tP s.g9,W (s.is4+1),s.ns3,s.eh0⟩:G2));(sl (decide (s.is4<(↑(List.length s.g9):Int))) (sl ((cnE tP s.g9)&&true) (sl (Nat.beq t1.1 1) (k ⟨0,t1.2.g9,W (s.is4+1),0,[]⟩) (sl (Nat.beq t1.1 2) (k ⟨1,t1.2.g9,W (s.is4+1),t1.2.ns3,t1.2.eh0⟩) z)) z) (e 2))
def aa4(p:Sa8)(s:J3):Stp J3:=(sel (Nat.beq s.ph 1) (ka8 .next .exit .fail p s) (ka7 .next .exit .fail p s))
def Ib0:Lo Sa8 J3:=⟨En qb0,0,Pf5,[1,1,0,1,4,4],[0,3,4],.s .p (.s (.b (.s .p (.b (.u Hb9.ls)))) .p),[⟨sLq tP::sUq::sUq::.s (.o .nil)::sIq::ru2 59 [],[],λa H=>(⟨⟩,⟨0,aLq tP a 0,aIq a 4,0,[]⟩)⟩,⟨sLq tP::sUq::sUq::.s (.o (.sl 0 0 (some 0) none))::sIq::ru2 59 [],[⟨114,4,true,none⟩],λa H=>(⟨⟩,⟨1,aLq tP a 0,aIq a 4,slN (slT a 3),elT H 0⟩)⟩],aa4,[(some 0,λp s=>upq (ac0 p s) [(9,i s.is4),(10,eL tP s.g9),(11,i (↑(List.length s.g9):Int)),(12,b (decide (s.is4<(↑(List.length s.g9):Int))))]),(some 0,λp s=>upq (ac4 p s) [(9,i s.is4),(10,eL tP s.g9),(11,i (↑(List.length s.g9):Int)),(12,b (decide (s.is4<(↑(List.length s.g9):Int))))])],qd4⟩
theorem qd5:Ib0.Ok:=Lo.okq [Hb9.pr] (.cons qd3 .nil) λp s=>(.sel (Nat.beq s.ph 1) (.ofq @ka8) (.ofq @ka7))
def eb9(x:PLq):ROq:=let t1:=(lp (aa4 (⟨⟩:Sa8)) (⟨0,rt tP x,0,0,[]⟩:J3));(sl ((cnE tP x)&&true) (sl (Nat.beq t1.1 1) (some (nlq,[])) (sl (Nat.beq t1.1 2) (some (.sl 0 0 t1.2.ns3 0,[bq 114 4 t1.2.eh0])) none)) none)
def fb0(x:PLq):List Pt:=L9 (one (r1L tX)) (eb9 x)
def fb1(x:PLq):Bool:=okO (one (r1L tX)) (eb9 x)
def dc9:Sum:=S7 (M3 tP) (λx=>.guard (fb1 x) (.ret ((one (r1L tX)).enc (fb0 x),[])))
theorem Gc0:l8 prog G 91 dc9:=Sc3 (bd b91 Ad9) (one (r1L tX)) (o:=eb9) λx=>Q3 (.s .p (.s .p (.s (.s .p (.b (.u Ib0.ls))) .p))) [Ib0.pr] (.cons qd5 .nil)
@[reducible] noncomputable def yb5:Sum:=ba9 (En tbN) Yf6
theorem ac5:l8 prog G 113 yb5:=bd Ig9 ya0
def Ta0(x:Int):ROq:=(sl (decide (x<0)) (some (i (W (0-x)),[])) (some (i x,[])))
def Fa1(x:Int):Int:=L9 (one r1I) (Ta0 x)
def Fa2(x:Int):Bool:=okO (one r1I) (Ta0 x)
def Gc1:Sum:=S7 cI (λx=>.guard (Fa2 x) (.ret ((one r1I).enc (Fa1 x),[])))
theorem Bd0:l8 prog G 135 Gc1:=Sa7 (bd Kg9 ya0) (one r1I) (o:=Ta0)
def xd0:List (Nat×Sum):=[(135,Gc1),(113,yb5)]
theorem pe8:A4 prog G xd0:=⟨Bd0,ac5,trivial⟩
structure ya1 where
 (is6 B1 l5 A1 vc0 X4 vc1:Int)
structure ca3 where
 (is5 is7:Int)
def Uc9(p:ya1)(s:ca3):St:=⟨.unk::.ptr 0 0 0 0::.ptr 1 0 0 0::.unk::.ptr 2 0 0 0::i s.is5::i p.is6::i s.is7::ra 38 [],[bq 0 3 [[i p.B1,i p.l5,i p.A1]],bq 0 3 [[i 0,i 0,i 0]],bq 0 3 [[i p.vc0,i p.X4,i p.vc1]]]⟩
def qb1{α:Type}(k:ca3->α)(e:Nat->α)(z:α)(p:ya1)(s:ca3):α:=(sl (decide (s.is7>0)) (sl (s.is7==0) z (k ⟨s.is7,Int.tmod s.is5 s.is7⟩)) (e 1))
def qa5(p:ya1)(s:ca3):Stp ca3:=qb1 .next .exit .fail p s
def qc3:Lo ya1 ca3:=⟨En xd0,0,Yf7,[1,1,1,0,1,4,4,1,0,4,1,1,4,4],[1,2,4,5,6,7],.p,[⟨sUq::sPq 0::sPq 1::sUq::sPq 2::sIq::sIq::sIq::ru2 38 [],[⟨0,3,true,some [kLq 3]⟩,⟨0,3,true,some [[.o (.lit .i64 0),.o (.lit .i64 0),.o (.lit .i64 0)]]⟩,⟨0,3,true,some [kLq 3]⟩],λa H=>(⟨aIq a 6,hIq H 0 0 0,hIq H 0 0 1,hIq H 0 0 2,hIq H 2 0 0,hIq H 2 0 1,hIq H 2 0 2⟩,⟨aIq a 5,aIq a 7⟩)⟩],qa5,[(some 2,λp s=>upq (Uc9 p s) [(23,i s.is7),(24,b (decide (s.is7>0)))])],Uc9⟩
theorem Vd9:qc3.Ok:=Lo.okq [] .nil λp s=>(.ofq @qb1)
def Sb8(x:V3):ROq:=let y0:=(.tup [.agg [i 0,i 0,i 0],i 0],[]);let t1:=(Fa1 x.x);let t2:=(lp (qa5 (⟨0,x.x,x.y,x.z,x.x,x.y,x.z⟩:ya1)) (⟨0,t1⟩:ca3));let t3:=(Fa1 x.y);let t4:=(lp (qa5 (⟨1,x.x,x.y,x.z,x.x,x.y,x.z⟩:ya1)) (⟨t2.2.is5,t3⟩:ca3));let t5:=(Fa1 x.z);let t6:=(lp (qa5 (⟨2,x.x,x.y,x.z,x.x,x.y,x.z⟩:ya1)) (⟨t4.2.is5,t5⟩:ca3));(sl (x.x==(-9223372036854775808)) (some y0) (sl (Fa2 x.x) (sl (Nat.beq t2.1 1) (sl (x.y==(-9223372036854775808)) (some y0) (sl (Fa2 x.y) (sl (Nat.beq t4.1 1) (sl (x.z==(-9223372036854775808)) (some y0) (sl (Fa2 x.z) (sl (Nat.beq t6.1 1) (sl (t6.2.is5==0) (some y0) (sl (t6.2.is5==0) none (sl (t6.2.is5==0) none (sl (t6.2.is5==0) none (some (.tup [.agg [i (W (Int.tdiv x.x t6.2.is5)),i (W (Int.tdiv x.y t6.2.is5)),i (W (Int.tdiv x.z t6.2.is5))],i t6.2.is5],[])))))) none) none)) none) none)) none) none))
def qc4(x:V3):V3×Int:=L9 (two r1V r1I) (Sb8 x)
def qc5(x:V3):Bool:=okO (two r1V r1I) (Sb8 x)
def Ld6:Sum:=S7 (na7 tV) (λx=>.guard (qc5 x) (.ret ((two r1V r1I).enc (qc4 x),[])))
theorem Fe0:l8 prog G 114 Ld6:=Sc3 (bd Jg0 pe8) (two r1V r1I) (o:=Sb8) λx=>Q3 (.s .p (.s .p (.s .p (.s (.s .p (.b (.l (.s .p (.s (.b (.s .p (.s .p (.b (.u qc3.ls))))) .p))))) .p)))) [qc3.pr] (.cons Vd9 .nil)
def pe9:List (Nat×Sum):=[(114,Ld6),(113,yb5)]
theorem Wd0:A4 prog G pe9:=⟨Fe0,ac5,trivial⟩
def Cb8(x:Pln):ROq:=let t1:=(qc4 x.n);(sl (decide (x.n.x<(-4608))) (some (b false,[])) (sl (decide (x.n.x>4608)) (some (b false,[])) (sl (decide (x.n.y<(-4608))) (some (b false,[])) (sl (decide (x.n.y>4608)) (some (b false,[])) (sl (decide (x.n.z<(-4608))) (some (b false,[])) (sl (decide (x.n.z>4608)) (some (b false,[])) (sl (qc5 x.n) (sl (t1.2==1) (sl (decide (x.b>=(-2097152))) (some (b (decide (x.b<=2097152)),[])) (some (b false,[]))) (some (b false,[]))) none)))))))
def ac6(x:Pln):Bool:=L9 (one r1B) (Cb8 x)
def ac7(x:Pln):Bool:=okO (one r1B) (Cb8 x)
def xd1:Sum:=S7 (na7 tP) (λx=>.guard (ac7 x) (.ret ((one r1B).enc (ac6 x),[])))
theorem qe0:l8 prog G 90 xd1:=Sa7 (bd b90 Wd0) (one r1B) (o:=Cb8)
def gd5:List (Nat×Sum):=[(90,xd1)]
theorem Wd1:A4 prog G gd5:=⟨qe0,trivial⟩
structure fb2 where
 g9:PLq
structure ha5 where
 is3:Int
def Gc2(p:fb2)(s:ha5):St:=⟨eL tP p.g9::.unk::.unk::i s.is3::ra 15 [],[]⟩
def jb2{α:Type}(k:ha5->α)(e:Nat->α)(z:α)(p:fb2)(s:ha5):α:=let t1:=(ac6 (gL tP p.g9 s.is3.toNat));(sl (decide (s.is3<(↑(List.length p.g9):Int))) (sl (inB s.is3 (List.length p.g9)) (sl (ac7 (gL tP p.g9 s.is3.toNat)) (sl (!t1) (e 1) (k ⟨W (s.is3+1)⟩)) z) z) (e 2))
def Ta1(p:fb2)(s:ha5):Stp ha5:=jb2 .next .exit .fail p s
def ec0:Lo fb2 ha5:=⟨En gd5,0,vg1,[1,1,0,1,4,4],[0,3],.p,[⟨sLq tP::sUq::sUq::sIq::ru2 15 [],[],λa H=>(⟨aLq tP a 0⟩,⟨aIq a 3⟩)⟩],Ta1,[(none,λp s=>⟨[i 12],[]⟩),(some 0,λp s=>upq (Gc2 p s) [(7,i s.is3),(8,eL tP p.g9),(9,i (↑(List.length p.g9):Int)),(10,b (decide (s.is3<(↑(List.length p.g9):Int))))])],Gc2⟩
theorem Ld7:ec0.Ok:=Lo.okq [] .nil λp s=>(.ofq @jb2)
def Cb9(x:PLq):ROq:=let t1:=(lp (Ta1 (⟨rt tP x⟩:fb2)) (⟨0⟩:ha5));(sl (decide ((↑(List.length x):Int)>48)) (some (i 2,[])) (sl ((cnE tP x)&&true) (sl (Nat.beq t1.1 1) (some (i 12,[])) (sl (Nat.beq t1.1 2) (some (i 0,[])) none)) none))
def W5(x:PLq):Int:=L9 (one r1I) (Cb9 x)
def qa6(x:PLq):Bool:=okO (one r1I) (Cb9 x)
def Ta2:Sum:=S7 (M3 tP) (λx=>.guard (qa6 x) (.ret ((one r1I).enc (W5 x),[])))
theorem ab3:l8 prog G 70 Ta2:=Sc3 (bd b70 Wd1) (one r1I) (o:=Cb9) λx=>Q3 (.s .p (.s .p (.s (.s .p (.b (.u ec0.ls))) .p))) [ec0.pr] (.cons Ld7 .nil)
def Qc0(x:V3)(y:V3):ROq:=(some (.sl 0 0 6 0,[bq 66 4 [[i 1,i 0,i 0,i y.x],[i (-1),i 0,i 0,i (W (0-x.x))],[i 0,i 1,i 0,i y.y],[i 0,i (-1),i 0,i (W (0-x.y))],[i 0,i 0,i 1,i y.z],[i 0,i 0,i (-1),i (W (0-x.z))]]]))
def Qc1(x:V3)(y:V3):PLq:=L9 (one (r1L tP)) (Qc0 x y)
def Qc2(x:V3)(y:V3):Bool:=okO (one (r1L tP)) (Qc0 x y)
def ge4:Sum:=Z7 (na7 tV) (na7 tV) (λx y=>.guard (Qc2 x y) (.ret ((one (r1L tP)).enc (Qc1 x y),[])))
theorem Te6:l8 prog G 36 ge4:=Sb2 (bd b36 ya0) (one (r1L tP)) (o:=Qc0)
def Te7:List (Nat×Sum):=[(36,ge4)]
theorem Fe1:A4 prog G Te7:=⟨Te6,trivial⟩
def kc0(x:PLq):ROq:=let y0:=(List.range (List.length x));let t1:=(Qc1 (⟨-24,-24,-24⟩:V3) (⟨24,24,24⟩:V3));let y1:=(List.range (List.length t1));(sl (Nat.beq 0 0&&Nat.ble ((0+(len (s5 (λk=>(tP).row (gL tP x k)) y0)))*32) room) (sl (Qc2 (⟨-24,-24,-24⟩:V3) (⟨24,24,24⟩:V3)) (sl (Nat.beq (0+(len (s5 (λk=>(tP).row (gL tP x k)) y0))) (len (app [] (s5 (λk=>(tP).row (gL tP x k)) y0)))&&Nat.ble (((0+(len (s5 (λk=>(tP).row (gL tP x k)) y0)))+(len (s5 (λk=>(tP).row (gL tP t1 k)) y1)))*32) room) (some ((.sl 0 0 ((0+(len (s5 (λk=>(tP).row (gL tP x k)) y0)))+(len (s5 (λk=>(tP).row (gL tP t1 k)) y1))) 0),[(bq 66 4 (app (app [] (s5 (λk=>(tP).row (gL tP x k)) y0)) (s5 (λk=>(tP).row (gL tP t1 k)) y1)))])) none) none) none)
def Qb0(x:PLq):PLq:=L9 (one (r1L tP)) (kc0 x)
def Qb1(x:PLq):Bool:=okO (one (r1L tP)) (kc0 x)
def Qc3:Sum:=S7 (M3 tP) (λx=>.guard (Qb1 x) (.ret ((one (r1L tP)).enc (Qb0 x),[])))
theorem Zc2:l8 prog G 72 Qc3:=Sa7 (bd b72 Fe1) (one (r1L tP)) (o:=kc0)
def Wd2:List (Nat×Sum):=[(70,Ta2),(72,Qc3),(91,dc9)]
theorem Ld8:A4 prog G Wd2:=⟨ab3,Zc2,Gc0,trivial⟩
def qb2(x:PLq):ROq:=let t1:=(W5 (rt tP x));let t2:=(Qb0 (rt tP x));let t3:=(fb0 (rt tP t2));(sl (okE tP x) (sl (qa6 (rt tP x)) (sl (t1 != 0) (some (nlq,[])) (sl (okE tP x) (sl (Qb1 (rt tP x)) (sl (okE tP t2) (sl (fb1 (rt tP t2)) (some (eL tX t3,[])) none) none) none) none)) none) none)
def Nb2(x:PLq):List Pt:=L9 (one (r1L tX)) (qb2 x)
def Nb3(x:PLq):Bool:=okO (one (r1L tX)) (qb2 x)
def gd6:Sum:=S7 (M3 tP) (λx=>.guard (Nb3 x) (.ret ((one (r1L tX)).enc (Nb2 x),[])))
theorem Wd3:l8 prog G 121 gd6:=Sa7 (bd Jg6 Ld8) (one (r1L tX)) (o:=qb2)
def Gc3:List (Nat×Sum):=[(91,dc9),(92,qc2)]
theorem qe1:A4 prog G Gc3:=⟨Gc0,Fc7,trivial⟩
structure qb3 where
 g9:PLq
 Z5:List Pt
 is4:Int
structure ya2 where
 bs5:Bool
 is6:Int
def Vc0(p:qb3)(s:ya2):St:=⟨eL tP p.g9::.unk::.unk::eL tX p.Z5::i p.is4::b s.bs5::i s.is6::ra 29 [],[]⟩
def qb4{α:Type}(k:ya2->α)(e:Nat->α)(z:α)(p:qb3)(s:ya2):α:=let t1:=(lb8 (gL tP p.g9 p.is4.toNat) (gL tX p.Z5 s.is6.toNat));(sl (decide (s.is6<(↑(List.length p.Z5):Int))) (sl s.bs5 (k ⟨true,W (s.is6+1)⟩) (sl (inB p.is4 (List.length p.g9)) (sl (inB s.is6 (List.length p.Z5)) (k ⟨decide (t1>0),W (s.is6+1)⟩) z) z)) (e 1))
def Oa8(p:qb3)(s:ya2):Stp ya2:=qb4 .next .exit .fail p s
def qc6:Lo qb3 ya2:=⟨En Gc3,0,ig3,[1,1,0,1,4,4,1,0,4,1,0,1,4,4],[0,3,4,5,6],.p,[⟨sLq tP::sUq::sUq::sLq tX::sIq::sBq::sIq::ru2 29 [],[],λa H=>(⟨aLq tP a 0,aLq tX a 3,aIq a 4⟩,⟨aBq a 5,aIq a 6⟩)⟩],Oa8,[(some 2,λp s=>upq (Vc0 p s) [(15,i s.is6),(16,eL tX p.Z5),(17,i (↑(List.length p.Z5):Int)),(18,b (decide (s.is6<(↑(List.length p.Z5):Int))))])],Vc0⟩
theorem Wd4:qc6.Ok:=Lo.okq [] .nil λp s=>(.ofq @qb4)
def Vc1(p:Sa8)(s:qb3):St:=⟨eL tP s.g9::.unk::.unk::eL tX s.Z5::i s.is4::ra 31 [],[]⟩
def qb6{α:Type}(k:qb3->α)(e:Nat->α)(z:α)(p:Sa8)(s:qb3):α:=let t1:=(lp (Oa8 (⟨rt tP s.g9,rt tX s.Z5,s.is4⟩:qb3)) (⟨false,0⟩:ya2));(sl (decide (s.is4<(↑(List.length s.g9):Int))) (sl ((cnE tP s.g9)&&((cnE tX s.Z5)&&true)) (sl (Nat.beq t1.1 1) (sl (!t1.2.bs5) (e 1) (k ⟨rt tP s.g9,rt tX s.Z5,W (s.is4+1)⟩)) z) z) (e 2))
def fb3(p:Sa8)(s:qb3):Stp qb3:=qb6 .next .exit .fail p s
def qc7:Lo Sa8 qb3:=⟨En Gc3,0,ig3,[1,1,0,1,4,4],[0,3,4],.s .p (.s (.b (.s .p (.s (.s .p (.b (.u qc6.ls))) .p))) .p),[⟨sLq tP::sUq::sUq::sLq tX::sIq::ru2 31 [],[],λa H=>(⟨⟩,⟨aLq tP a 0,aLq tX a 3,aIq a 4⟩)⟩],fb3,[(none,λp s=>⟨[b false],[]⟩),(some 0,λp s=>upq (Vc1 p s) [(9,i s.is4),(10,eL tP s.g9),(11,i (↑(List.length s.g9):Int)),(12,b (decide (s.is4<(↑(List.length s.g9):Int))))])],Vc1⟩
theorem Wd5:qc7.Ok:=Lo.okq [qc6.pr] (.cons Wd4 .nil) λp s=>(.ofq @qb6)
def Sb9(x:PLq):ROq:=let t1:=(fb0 (rt tP x));let t2:=(lp (fb3 (⟨⟩:Sa8)) (⟨rt tP x,rt tX t1,0⟩:qb3));(sl (okE tP x) (sl (fb1 (rt tP x)) (sl ((cnE tP x)&&((cnE tX t1)&&true)) (sl (Nat.beq t2.1 1) (some (b false,[])) (sl (Nat.beq t2.1 2) (some (b true,[])) none)) none) none) none)
def Tb0(x:PLq):Bool:=L9 (one r1B) (Sb9 x)
def Tb1(x:PLq):Bool:=okO (one r1B) (Sb9 x)
def Zc3:Sum:=S7 (M3 tP) (λx=>.guard (Tb1 x) (.ret ((one r1B).enc (Tb0 x),[])))
theorem xd2:l8 prog G 71 Zc3:=Sc3 (bd b71 qe1) (one r1B) (o:=Sb9) λx=>Q3 (.s .p (.s .p (.s (.s .p (.b (.u qc7.ls))) .p))) [qc7.pr] (.cons Wd5 .nil)
def Fe2:List (Nat×Sum):=[(70,Ta2),(72,Qc3),(71,Zc3)]
theorem qe2:A4 prog G Fe2:=⟨ab3,Zc2,xd2,trivial⟩
def Tb2(x:PLq):ROq:=let t1:=(W5 (rt tP x));let t2:=(Qb0 (rt tP x));let t3:=(Tb0 (rt tP t2));(sl (okE tP x) (sl (qa6 (rt tP x)) (sl (t1==0) (sl (okE tP x) (sl (Qb1 (rt tP x)) (sl (okE tP t2) (sl (Tb1 (rt tP t2)) (some (b t3,[])) none) none) none) none) (some (b false,[]))) none) none)
def Ka0(x:PLq):Bool:=L9 (one r1B) (Tb2 x)
def Ka1(x:PLq):Bool:=okO (one r1B) (Tb2 x)
def yb6:Sum:=S7 (M3 tP) (λx=>.guard (Ka1 x) (.ret ((one r1B).enc (Ka0 x),[])))
theorem Db0:l8 prog G 40 yb6:=Sa7 (bd b40 qe2) (one r1B) (o:=Tb2)
def kc1(x:Int)(y:Int):ROq:=(sl (decide (y<1)) (some (i 0,[])) (sl (y==0) none (sl (y==0) none (some (i (Int.tmod (W ((Int.tmod x y)+y)) y),[])))))
def B4(x:Int)(y:Int):Int:=L9 (one r1I) (kc1 x y)
def F4(x:Int)(y:Int):Bool:=okO (one r1I) (kc1 x y)
def Qb2:Sum:=Z7 cI cI (λx y=>.guard (F4 x y) (.ret ((one r1I).enc (B4 x y),[])))
theorem Tb3:l8 prog G 34 Qb2:=Sb2 (bd b34 ya0) (one r1I) (o:=kc1)
def mb8(x:V3)(y:V3):Int:=(W ((W ((W (x.x*y.x))+(W (x.y*y.y))))+(W (x.z*y.z))))
def Gc4:Sum:=Z7 (na7 tV) (na7 tV) (λx y=>.ret ((one r1I).enc (mb8 x y),[]))
theorem gd7:l8 prog G 105 Gc4:=wc8 (bd Ig3 ya0)
def Ia5(x:V3)(y:V3):V3:=(⟨W (x.x+y.x),W (x.y+y.y),W (x.z+y.z)⟩:V3)
def xd3:Sum:=Z7 (na7 tV) (na7 tV) (λx y=>.ret ((one r1V).enc (Ia5 x y),[]))
theorem qe3:l8 prog G 126 xd3:=wc8 (bd Kg1 ya0)
def ya3(x:V3)(y:Int):V3:=(⟨W (x.x*y),W (x.y*y),W (x.z*y)⟩:V3)
def gd8:Sum:=Z7 (na7 tV) cI (λx y=>.ret ((one r1V).enc (ya3 x y),[]))
theorem Wd6:l8 prog G 127 gd8:=wc8 (bd Kg2 ya0)
def ba5(x:V3)(y:V3):V3:=(⟨W ((W (x.y*y.z))-(W (x.z*y.y))),W ((W (x.z*y.x))-(W (x.x*y.z))),W ((W (x.x*y.y))-(W (x.y*y.x)))⟩:V3)
def Vc2:Sum:=Z7 (na7 tV) (na7 tV) (λx y=>.ret ((one r1V).enc (ba5 x y),[]))
theorem Ld9:l8 prog G 125 Vc2:=wc8 (bd Kg0 ya0)
def qe4:List (Nat×Sum):=[(105,Gc4)]
theorem Wd7:A4 prog G qe4:=⟨gd7,trivial⟩
def Ia6(x:Pln)(y:Pt):Int:=let t1:=(mb8 x.n (⟨y.px,y.py,y.pz⟩:V3));(W ((W (x.b*y.pw))-t1))
def ac8:Sum:=Z7 (na7 tP) (na7 tX) (λx y=>.ret ((one r1I).enc (Ia6 x y),[]))
theorem qc8:l8 prog G 85 ac8:=wc8 (bd b85 Wd7)
structure ab4 where
 xb2:List Int
 (is7 is8:Int)
structure ya4 where
 (is3 is5:Int)
def Vc3(p:ab4)(s:ya4):St:=⟨ra 3 (i s.is3::.unk::i s.is5::eL tI p.xb2::i p.is7::i p.is8::ra 14 []),[]⟩
def qb7{α:Type}(k:ya4->α)(e:Nat->α)(z:α)(p:ab4)(s:ya4):α:=(sl (s.is5 != 0) (sl (s.is5==0) z (k ⟨s.is5,Int.tmod s.is3 s.is5⟩)) (e 1))
def fb4(p:ab4)(s:ya4):Stp ya4:=qb7 .next .exit .fail p s
def qc9:Lo ab4 ya4:=⟨En tbN,0,Af0,[1,1,0,1,4,4,1,1,0,4,1,4,4],[3,5,6,7,8],.p,[⟨ru2 3 (sIq::sUq::sIq::sLq tI::sIq::sIq::ru2 14 []),[],λa H=>(⟨aLq tI a 6,aIq a 7,aIq a 8⟩,⟨aIq a 3,aIq a 5⟩)⟩],fb4,[(some 2,λp s=>upq (Vc3 p s) [(12,i s.is5),(13,b (s.is5 != 0))])],Vc3⟩
theorem Wd8:qc9.Ok:=Lo.okq [] .nil λp s=>(.ofq @qb7)
structure qb8 where
 is7:Int
structure ya5 where
 is3:Int
 xb2:List Int
 is8:Int
def Vc4(p:qb8)(s:ya5):St:=⟨ra 3 (i s.is3::.unk::.unk::eL tI s.xb2::i p.is7::i s.is8::ra 14 []),[]⟩
def qb9{α:Type}(k:ya5->α)(e:Nat->α)(z:α)(p:qb8)(s:ya5):α:=let t1:=(lp (fb4 (⟨rt tI s.xb2,p.is7,s.is8⟩:ab4)) (⟨s.is3,gL tI s.xb2 s.is8.toNat⟩:ya4));(sl (decide (s.is8<p.is7)) (sl (inB s.is8 (List.length s.xb2)) (sl ((cnE tI s.xb2)&&true) (sl (Nat.beq t1.1 1) (k ⟨t1.2.is3,rt tI s.xb2,W (s.is8+1)⟩) z) z) z) (e 1))
def Oa9(p:qb8)(s:ya5):Stp ya5:=qb9 .next .exit .fail p s
def rc0:Lo qb8 ya5:=⟨En tbN,0,Af0,[1,1,0,1,4,4],[3,6,7,8],.s .p (.s .p (.s (.b (.s .p (.b (.u qc9.ls)))) .p)),[⟨ru2 3 (sIq::sUq::sUq::sLq tI::sIq::sIq::ru2 14 []),[],λa H=>(⟨aIq a 7⟩,⟨aIq a 3,aLq tI a 6,aIq a 8⟩)⟩],Oa9,[(some 0,λp s=>upq (Vc4 p s) [(9,b (decide (s.is8<p.is7)))])],Vc4⟩
theorem Wd9:rc0.Ok:=Lo.okq [qc9.pr] (.cons Wd8 .nil) λp s=>(.ofq @qb9)
def Tb4(x:List Int):ROq:=let t1:=(lp (Oa9 (⟨(↑(List.length x):Int)⟩:qb8)) (⟨0,rt tI x,0⟩:ya5));(sl ((cnE tI x)&&true) (sl (Nat.beq t1.1 1) (some ((i (if (W (0-t1.2.is3))>t1.2.is3 then (W (0-t1.2.is3)) else t1.2.is3)),[])) none) none)
def rc1(x:List Int):Int:=L9 (one r1I) (Tb4 x)
def rc2(x:List Int):Bool:=okO (one r1I) (Tb4 x)
def Md0:Sum:=S7 (M3 tI) (λx=>.guard (rc2 x) (.ret ((one r1I).enc (rc1 x),[])))
theorem Fe3:l8 prog G 128 Md0:=Sc3 (bd Kg3 ya0) (one r1I) (o:=Tb4) λx=>Q3 (.s .p (.s .p (.s (.s .p (.b (.u rc0.ls))) .p))) [rc0.pr] (.cons Wd9 .nil)
def qe5:List (Nat×Sum):=[(125,Vc2),(105,Gc4),(127,gd8),(126,xd3),(128,Md0)]
theorem Xd0:A4 prog G qe5:=⟨Ld9,gd7,Wd6,qe3,Fe3,trivial⟩
def Db1(x:Tp):ROq:=let t1:=(ba5 x.q.n x.r.n);let t3:=(ya3 t1 x.p.b);let t4:=(Ia5 (⟨0,0,0⟩:V3) t3);let t5:=(ba5 x.r.n x.p.n);let t7:=(ya3 t5 x.q.b);let t8:=(Ia5 t4 t7);let t9:=(ba5 x.p.n x.q.n);let t10:=(mb8 x.r.n t9);let t11:=(ya3 t9 x.r.b);let t12:=(Ia5 t8 t11);let t13:=(rc1 [t12.x,t12.y,t12.z,t10]);let y0:=((W (0-t13))==0);(sl (t10==0) (some (.tup [.agg [i 0,i 0,i 0,i 0],b false],[])) (sl (rc2 [t12.x,t12.y,t12.z,t10]) (sl (decide (t10<0)) (sl y0 none (sl y0 none (sl y0 none (sl y0 none (some (.tup [.agg [i (W (Int.tdiv t12.x (W (0-t13)))),i (W (Int.tdiv t12.y (W (0-t13)))),i (W (Int.tdiv t12.z (W (0-t13)))),i (W (Int.tdiv t10 (W (0-t13))))],b true],[])))))) (sl (t13==0) none (sl (t13==0) none (sl (t13==0) none (sl (t13==0) none (some (.tup [.agg [i (W (Int.tdiv t12.x t13)),i (W (Int.tdiv t12.y t13)),i (W (Int.tdiv t12.z t13)),i (W (Int.tdiv t10 t13))],b true],[]))))))) none))
def Db2(x:Tp):Pt×Bool:=L9 (two r1X r1B) (Db1 x)
def Db3(x:Tp):Bool:=okO (two r1X r1B) (Db1 x)
def xd4:Sum:=S7 (na7 tY) (λx=>.guard (Db3 x) (.ret ((two r1X r1B).enc (Db2 x),[])))
theorem qe6:l8 prog G 101 xd4:=Sa7 (bd Hg9 Xd0) (two r1X r1B) (o:=Db1)
structure Ib1 where
 (Nc4 Nc5 Nc6 Nc7 B1 l5 A1 w9:Int)
def qd6:List (Nat×Sum):=[(85,ac8)]
theorem gd9:A4 prog G qd6:=⟨qc8,trivial⟩
structure jb3 where
 bs0:Bool
def xc0{α:Type}(kk:jb3->α)(x:Ib1):α:=let t1:=(Ia6 (⟨(⟨x.Nc4,x.Nc5,x.Nc6⟩:V3),x.Nc7⟩:Pln) (⟨x.B1,x.l5,x.A1,x.w9⟩:Pt));(kk ⟨decide (t1<0)⟩)
def Ib2(x:Ib1):jb3:=xc0 (λr=>r) x
def kc2(x:Ib1)(r:jb3):DT (b7×List c7):=.ret (b r.bs0,[bq 0 4 [[i x.B1,i x.l5,i x.A1,i x.w9]]])
def xc1:Sum:=Sa6 ⟨[.agg (kLq 4),sPq 0],[⟨0,4,true,some [kLq 4]⟩],λa H=>(⟨cIq a 0 0,cIq a 0 1,cIq a 0 2,cIq a 0 3,hIq H 0 0 0,hIq H 0 0 1,hIq H 0 0 2,hIq H 0 0 3⟩,())⟩ (λx=>kc2 x (Ib2 x))
theorem qd7:l8 prog G 129 xc1:=K3 (enc:=λx=>⟨[.agg [i x.Nc4,i x.Nc5,i x.Nc6,i x.Nc7],.ptr 0 0 0 0],[bq 0 4 [[i x.B1,i x.l5,i x.A1,i x.w9]]]⟩) (λa H=>by kernel_rfl) (bd Kg4 gd9) λx=>Fa0 (mEq @xc0 (λr=>(kc2 x r).run) x)
structure ta7 where
 g9:PLq
 (B1 l5 A1 w9:Int)
def Ta3:List (Nat×Sum):=[(129,xc1)]
theorem Nb4:A4 prog G Ta3:=⟨qd7,trivial⟩
structure Q4 where
 g9:PLq
 (is7 B1 l5 A1 w9:Int)
structure B8 where
 is8:Int
def Ma3(p:Q4)(s:B8):St:=⟨eL tP p.g9::.fn 129 [.ptr 0 0 0 0]::ra 5 (i p.is7::i s.is8::ra 10 []),[bq 0 4 [[i p.B1,i p.l5,i p.A1,i p.w9]]]⟩
def W6{α:Type}(k:B8->α)(e:Nat->α)(z:α)(p:Q4)(s:B8):α:=let y0:=(gL tP p.g9 s.is8.toNat);let t1:=(Ib2 ⟨y0.n.x,y0.n.y,y0.n.z,y0.b,p.B1,p.l5,p.A1,p.w9⟩);(sl (decide (s.is8<p.is7)) (sl (inB s.is8 (List.length p.g9)) (sl t1.bs0 (e 1) (k ⟨W (s.is8+1)⟩)) z) (e 2))
def O4(p:Q4)(s:B8):Stp B8:=W6 .next .exit .fail p s
def oa2:Lo Q4 B8:=⟨En Ta3,1,Ee4,[1,0,1,4,4],[0,1,7,8],.p,[⟨sLq tP::.fn 129 [.o (.ptr 0 0 0 0)]::ru2 5 (sIq::sIq::ru2 10 []),[⟨0,4,true,some [kLq 4]⟩],λa H=>(⟨aLq tP a 0,aIq a 7,hIq H 0 0 0,hIq H 0 0 1,hIq H 0 0 2,hIq H 0 0 3⟩,⟨aIq a 8⟩)⟩],O4,[(none,λp s=>⟨[i s.is8],[bq 0 4 [[i p.B1,i p.l5,i p.A1,i p.w9]]]⟩),(some 0,λp s=>upq (Ma3 p s) [(9,b (decide (s.is8<p.is7)))])],Ma3⟩
theorem Ib3:oa2.Ok:=Lo.okq [] .nil λp s=>(.ofq @W6)
structure ta8 where
 alt:Nat
 is0:Int
def ta9{α:Type}(kk:ta8->α)(x:ta7):α:=let t1:=(lp (O4 (⟨rt tP x.g9,(↑(List.length x.g9):Int),x.B1,x.l5,x.A1,x.w9⟩:Q4)) (⟨0⟩:B8));(sl ((cnE tP x.g9)&&true) (sl (Nat.beq t1.1 1) (kk ⟨1,t1.2.is8⟩) (sl (Nat.beq t1.1 2) (kk ⟨1,-1⟩) (kk ⟨0,0⟩))) (kk ⟨0,0⟩))
def fa5(x:ta7):ta8:=ta9 (λr=>r) x
def Ta4(x:ta7)(r:ta8):DT (b7×List c7):=(Ma1 r.alt 1 (i r.is0,[bq 0 4 [[i x.B1,i x.l5,i x.A1,i x.w9]]]) .fail)
def bb7:Sum:=Sa6 ⟨[sLq tP,.fn 129 [.o (.ptr 0 0 0 0)]],[⟨0,4,true,some [kLq 4]⟩],λa H=>(⟨aLq tP a 0,hIq H 0 0 0,hIq H 0 0 1,hIq H 0 0 2,hIq H 0 0 3⟩,())⟩ (λx=>Ta4 x (fa5 x))
theorem Tb5:l8 prog G 118 bb7:=K3 (enc:=λx=>⟨[eL tP x.g9,.fn 129 [.ptr 0 0 0 0]],[bq 0 4 [[i x.B1,i x.l5,i x.A1,i x.w9]]]⟩) (λa H=>by kernel_rfl) (bd Pf6 Nb4) λx=>Q3 (.s .p (.s (.s .p (.b (.u oa2.ls))) .p)) [oa2.pr] (.cons Ib3 .nil) (mEq @ta9 (λr=>(Ta4 x r).run) x)
def Db4:List (Nat×Sum):=[(118,bb7)]
theorem yb7:A4 prog G Db4:=⟨Tb5,trivial⟩
structure la8 where
 alt:Nat
 bs0:Bool
def la9{α:Type}(kk:la8->α)(x:ta7):α:=let t1:=(fa5 ⟨rt tP x.g9,x.B1,x.l5,x.A1,x.w9⟩);(sl ((cnE tP x.g9)&&true) (sl (Nat.beq t1.alt 1) (kk ⟨1,decide (t1.is0>=0)⟩) (kk ⟨0,false⟩)) (kk ⟨0,false⟩))
def ma0(x:ta7):la8:=la9 (λr=>r) x
def Ia7(x:ta7)(r:la8):DT (b7×List c7):=(Ma1 r.alt 1 (b r.bs0,[bq 0 4 [[i x.B1,i x.l5,i x.A1,i x.w9]]]) .fail)
def Ma4:Sum:=Sa6 ⟨[sLq tP,.fn 129 [.o (.ptr 0 0 0 0)]],[⟨0,4,true,some [kLq 4]⟩],λa H=>(⟨aLq tP a 0,hIq H 0 0 0,hIq H 0 0 1,hIq H 0 0 2,hIq H 0 0 3⟩,())⟩ (λx=>Ia7 x (ma0 x))
theorem Db5:l8 prog G 93 Ma4:=K3 (enc:=λx=>⟨[eL tP x.g9,.fn 129 [.ptr 0 0 0 0]],[bq 0 4 [[i x.B1,i x.l5,i x.A1,i x.w9]]]⟩) (λa H=>by kernel_rfl) (bd b93 yb7) λx=>Fa0 (mEq @la9 (λr=>(Ia7 x r).run) x)
def Md1:List (Nat×Sum):=[(93,Ma4)]
theorem Bd1:A4 prog G Md1:=⟨Db5,trivial⟩
def fb5(x:PLq)(y:Pt):ROq:=let t1:=(ma0 ⟨rt tP x,y.px,y.py,y.pz,y.pw⟩);(sl ((cnE tP x)&&true) (sl (Nat.beq t1.alt 1) (some (b (!t1.bs0),[])) none) none)
def Pa0(x:PLq)(y:Pt):Bool:=L9 (one r1B) (fb5 x y)
def Pa1(x:PLq)(y:Pt):Bool:=okO (one r1B) (fb5 x y)
def Vc5:Sum:=Z7 (M3 tP) (na7 tX) (λx y=>.guard (Pa1 x y) (.ret ((one r1B).enc (Pa0 x y),[])))
theorem Md2:l8 prog G 102 Vc5:=Sb2 (bd Ig0 Bd1) (one r1B) (o:=fb5)
@[reducible] noncomputable def mb9:Sum:=ba9 (En tbN) Zf3
theorem ec1:l8 prog G 124 mb9:=bd Jg9 ya0
def rb0:List (Nat×Sum):=[(124,mb9)]
theorem kc3:A4 prog G rb0:=⟨ec1,trivial⟩
@[reducible] noncomputable def vb9:Sum:=ba9 (En rb0) Yf0
theorem rc3:l8 prog G 100 vb9:=bd Hg8 kc3
def oa3:List (Nat×Sum):=[(101,xd4),(102,Vc5),(100,vb9)]
theorem kc4:A4 prog G oa3:=⟨qe6,Md2,rc3,trivial⟩
structure o8 where
 is3:Int
 Aa9:PLq
 (ka0 na5:Int)
 be7:Nat
 be8:Nat->List b7
 (Dd6 ic0:Int)
 Jf9:Nat
 Kf0:Nat->List b7
 Tc6:Int
 m8:PLq
 (Ba0 Ba1 Ba2 Ba3 vc0 X4 vc1 md9:Int)
 bb5:PLq
structure s6 where
 ph:Nat
 Dd7:Int
 Pb4:Nat
 (eh6 eh7:List (List b7))
def bb8(p:o8)(s:s6):St:=⟨.unk::.ptr 0 0 0 0::.unk::i p.is3::.ptr 1 0 0 0::.unk::.ptr 2 0 0 0::.unk::.unk::eL tP p.Aa9::i p.ka0::i p.na5::ra 7 (.tree 4 p.be7 p.be8::i p.Dd6::i p.ic0::ra 9 (.tree 4 p.Jf9 p.Kf0::i p.Tc6::i s.Dd7::ra 13 (i 0::.unk::.ptr 3 0 0 0::nlq::.ptr 4 0 0 0::.ptr 5 0 0 0::ra 31 []))),[bq 0 1 [[eL tP p.m8]],bq 0 4 [[i p.Ba0,i p.Ba1,i p.Ba2,i p.Ba3]],bq 0 4 [[i p.vc0,i p.X4,i p.vc1,i p.md9]],bq 0 1 [[eL tP p.bb5]],bq 0 0 [[nlq]],bq 0 0 [[.ptr 6 0 0 0]],bq 124 0 []]⟩
def bb9(p:o8)(s:s6):St:=⟨.unk::.ptr 0 0 0 0::.unk::i p.is3::.ptr 1 0 0 0::.unk::.ptr 2 0 0 0::.unk::.unk::eL tP p.Aa9::i p.ka0::i p.na5::ra 7 (.tree 4 p.be7 p.be8::i p.Dd6::i p.ic0::ra 9 (.tree 4 p.Jf9 p.Kf0::i p.Tc6::i s.Dd7::ra 13 (i 0::.unk::.ptr 3 0 0 0::nlq::.ptr 4 0 0 0::.ptr 5 0 0 0::ra 31 []))),[bq 0 1 [[eL tP p.m8]],bq 0 4 [[i p.Ba0,i p.Ba1,i p.Ba2,i p.Ba3]],bq 0 4 [[i p.vc0,i p.X4,i p.vc1,i p.md9]],bq 0 1 [[eL tP p.bb5]],bq 0 0 [[.sl 6 0 s.Pb4 0]],bq 0 0 [[.ptr 7 0 0 0]],bq 114 4 s.eh6,bq 124 0 s.eh7]⟩
def ec2(p:o8)(s:s6):St:=(sel (Nat.beq s.ph 1) (bb9 p s) (bb8 p s))
def M8{α:Type}(k:s6->α)(e:Nat->α)(z:α)(p:o8)(s:s6):α:=let y2:=(W (s.Dd7+1));let y1:=(p.Kf0 s.Dd7.toNat);let y0:=(⟨(⟨(⟨p.Ba0,p.Ba1,p.Ba2⟩:V3),p.Ba3⟩:Pln),(⟨(⟨p.vc0,p.X4,p.vc1⟩:V3),p.md9⟩:Pln),(⟨(⟨toI (hdA y1),toI (hdA (tlA y1)),toI (hdA (tlA (tlA y1)))⟩:V3),toI (hdA (tlA (tlA (tlA y1))))⟩:Pln)⟩:Tp);let t1:=(Db2 y0);let t2:=(Pa0 (rt tP p.bb5) t1.1);(sl (decide (s.Dd7<p.Tc6)) (sl (inB s.Dd7 p.Jf9) (sl ((Nat.ble 4 (len y1))&&(ka1 [CK.int .i64,CK.int .i64,CK.int .i64,CK.int .i64] y1)) (sl (Db3 y0) (sl t1.2 (sl (!(cd6 4 [(0,.int .i64),(1,.int .i64),(2,.int .i64),(3,.int .i64)] [i t1.1.px,i t1.1.py,i t1.1.pz,i t1.1.pw] [])) (sl (okE tP p.bb5) (sl (Pa1 (rt tP p.bb5) t1.1) (sl t2 (k ⟨1,y2,1,[[i t1.1.px,i t1.1.py,i t1.1.pz,i t1.1.pw]],dc1 [(0,.int .i64),(1,.int .i64),(2,.int .i64),(3,.int .i64)] [i t1.1.px,i t1.1.py,i t1.1.pz,i t1.1.pw] [i t1.1.px,i t1.1.py,i t1.1.pz,i t1.1.pw,b true] []⟩) (k ⟨0,y2,0,[],[]⟩)) z) z) (k ⟨0,y2,0,[],[]⟩)) (k ⟨0,y2,0,[],[]⟩)) z) z) z) (e 1))
def M9{α:Type}(k:s6->α)(e:Nat->α)(z:α)(p:o8)(s:s6):α:=let y2:=(W (s.Dd7+1));let y1:=(p.Kf0 s.Dd7.toNat);let y0:=(⟨(⟨(⟨p.Ba0,p.Ba1,p.Ba2⟩:V3),p.Ba3⟩:Pln),(⟨(⟨p.vc0,p.X4,p.vc1⟩:V3),p.md9⟩:Pln),(⟨(⟨toI (hdA y1),toI (hdA (tlA y1)),toI (hdA (tlA (tlA y1)))⟩:V3),toI (hdA (tlA (tlA (tlA y1))))⟩:Pln)⟩:Tp);let t1:=(Db2 y0);let t2:=(Pa0 (rt tP p.bb5) t1.1);(sl (decide (s.Dd7<p.Tc6)) (sl (inB s.Dd7 p.Jf9) (sl ((Nat.ble 4 (len y1))&&(ka1 [CK.int .i64,CK.int .i64,CK.int .i64,CK.int .i64] y1)) (sl (Db3 y0) (sl t1.2 (sl (!(cd6 4 [(0,.int .i64),(1,.int .i64),(2,.int .i64),(3,.int .i64)] [i t1.1.px,i t1.1.py,i t1.1.pz,i t1.1.pw] s.eh7)) (sl (okE tP p.bb5) (sl (Pa1 (rt tP p.bb5) t1.1) (sl t2 (sl (Nat.beq s.Pb4 (len s.eh6)&&Nat.ble ((s.Pb4+1)*32) room) (k ⟨1,y2,s.Pb4+1,app s.eh6 [[i t1.1.px,i t1.1.py,i t1.1.pz,i t1.1.pw]],dc1 [(0,.int .i64),(1,.int .i64),(2,.int .i64),(3,.int .i64)] [i t1.1.px,i t1.1.py,i t1.1.pz,i t1.1.pw] [i t1.1.px,i t1.1.py,i t1.1.pz,i t1.1.pw,b true] s.eh7⟩) z) (k ⟨1,y2,s.Pb4,s.eh6,s.eh7⟩)) z) z) (k ⟨1,y2,s.Pb4,s.eh6,s.eh7⟩)) (k ⟨1,y2,s.Pb4,s.eh6,s.eh7⟩)) z) z) z) (e 2))
def H7(p:o8)(s:s6):Stp s6:=(sel (Nat.beq s.ph 1) (M9 .next .exit .fail p s) (M8 .next .exit .fail p s))
abbrev ca4:B2:=⟨0,1,true,some [[.c 4 (nL tP)]]⟩
abbrev ca5:B2:=⟨0,4,true,some [[.o (.int .i64),.o (.int .i64),.o (.int .i64),.o (.int .i64)]]⟩
def Ta5(a:List b7)(H:List c7):o8:=⟨aIq a 3,aLq tP a 9,aIq a 10,aIq a 11,aNq a 19,aGq a 19,aIq a 20,aIq a 21,aNq a 31,aGq a 31,aIq a 32,hLq tP H 0 0 0,hIq H 1 0 0,hIq H 1 0 1,hIq H 1 0 2,hIq H 1 0 3,hIq H 2 0 0,hIq H 2 0 1,hIq H 2 0 2,hIq H 2 0 3,hLq tP H 3 0 0⟩
def Fa3:Lo o8 s6:=⟨En oa3,0,Pf4,[1,1,1,0,1,4,4,1,4,4,1,1,0,4,1,1,4,4,1,1,0,4,1,1,4,4],[1,3,4,6,9,10,11,19,20,21,31,32,33,47,49,50,51,52],.p,[⟨sUq::sPq 0::sUq::sIq::sPq 1::sUq::sPq 2::sUq::sUq::sLq tP::sIq::sIq::ru2 7 (sTq 4::sIq::sIq::ru2 9 (sTq 4::sIq::sIq::ru2 13 (.s (.o (.lit .i64 0))::sUq::sPq 3::.s (.o .nil)::sPq 4::sPq 5::ru2 31 []))),[ca4,ca5,ca5,ca4,⟨0,0,true,some [[.o .nil]]⟩,⟨0,0,true,some [[.o (.ptr 6 0 0 0)]]⟩,⟨124,0,true,some []⟩],λa H=>(Ta5 a H,⟨0,aIq a 33,0,[],[]⟩)⟩,⟨sUq::sPq 0::sUq::sIq::sPq 1::sUq::sPq 2::sUq::sUq::sLq tP::sIq::sIq::ru2 7 (sTq 4::sIq::sIq::ru2 9 (sTq 4::sIq::sIq::ru2 13 (.s (.o (.lit .i64 0))::sUq::sPq 3::.s (.o .nil)::sPq 4::sPq 5::ru2 31 []))),[ca4,ca5,ca5,ca4,⟨0,0,true,some [[.o (.sl 6 0 (some 0) none)]]⟩,⟨0,0,true,some [[.o (.ptr 7 0 0 0)]]⟩,⟨114,4,true,none⟩,⟨124,0,true,none⟩],λa H=>(Ta5 a H,⟨1,aIq a 33,slN (slT (rwT (elT H 4) 0) 0),elT H 6,elT H 7⟩)⟩],H7,[(some 4,λp s=>upq (bb8 p s) [(34,b (decide (s.Dd7<p.Tc6)))]),(some 4,λp s=>upq (bb9 p s) [(34,b (decide (s.Dd7<p.Tc6)))])],ec2⟩
theorem ec3:Fa3.OkM:=Lo.okMq [] .nil λp s=>(.sel (Nat.beq s.ph 1) (.ofq @M9) (.ofq @M8))
structure o9 where
 (is3 ka0 na5:Int)
 be7:Nat
 be8:Nat->List b7
 (Dd6 Ba0 Ba1 Ba2 Ba3:Int)
structure w7 where
 ph:Nat
 Aa9:PLq
 ic0:Int
 (m8 Pa7:PLq)
 G8:Nat
 (eh5 eh6:List (List b7))
def cb0(p:o9)(s:w7):St:=⟨.unk::.ptr 0 0 0 0::.unk::i p.is3::.ptr 1 0 0 0::ra 4 (eL tP s.Aa9::i p.ka0::i p.na5::ra 7 (.tree 4 p.be7 p.be8::i p.Dd6::i s.ic0::ra 25 (i 0::.unk::.ptr 2 0 0 0::nlq::.ptr 3 0 0 0::.ptr 4 0 0 0::ra 31 []))),[bq 0 1 [[eL tP s.m8]],bq 0 4 [[i p.Ba0,i p.Ba1,i p.Ba2,i p.Ba3]],bq 0 1 [[eL tP s.Pa7]],bq 0 0 [[nlq]],bq 0 0 [[.ptr 5 0 0 0]],bq 124 0 []]⟩
def cb1(p:o9)(s:w7):St:=⟨.unk::.ptr 0 0 0 0::.unk::i p.is3::.ptr 1 0 0 0::ra 4 (eL tP s.Aa9::i p.ka0::i p.na5::ra 7 (.tree 4 p.be7 p.be8::i p.Dd6::i s.ic0::ra 25 (i 0::.unk::.ptr 2 0 0 0::nlq::.ptr 3 0 0 0::.ptr 4 0 0 0::ra 31 []))),[bq 0 1 [[eL tP s.m8]],bq 0 4 [[i p.Ba0,i p.Ba1,i p.Ba2,i p.Ba3]],bq 0 1 [[eL tP s.Pa7]],bq 0 0 [[.sl 5 0 s.G8 0]],bq 0 0 [[.ptr 6 0 0 0]],bq 114 4 s.eh5,bq 124 0 s.eh6]⟩
def ec4(p:o9)(s:w7):St:=(sel (Nat.beq s.ph 1) (cb1 p s) (cb0 p s))
def N0{α:Type}(k:w7->α)(e:Nat->α)(z:α)(p:o9)(s:w7):α:=let y4:=(rt tP s.Pa7);let y3:=(rt tP s.m8);let y2:=(List.length s.m8);let y1:=(W ((W (p.is3+s.ic0))+2));let y0:=(p.be8 s.ic0.toNat);let t1:=(lp (H7 (⟨p.is3,rt tP s.Aa9,p.ka0,p.na5,p.be7,p.be8,p.Dd6,s.ic0,y2-y1.toNat,(λk=>(λk=>(tP).row (gL tP s.m8 k)) (y1.toNat+k)),(↑(y2-y1.toNat):Int),y3,p.Ba0,p.Ba1,p.Ba2,p.Ba3,toI (hdA y0),toI (hdA (tlA y0)),toI (hdA (tlA (tlA y0))),toI (hdA (tlA (tlA (tlA y0)))),y4⟩:o8)) (⟨0,0,0,[],[]⟩:s6));(sl (decide (s.ic0<p.Dd6)) (sl (inB s.ic0 p.be7) (sl ((Nat.ble 4 (len y0))&&(ka1 [CK.int .i64,CK.int .i64,CK.int .i64,CK.int .i64] y0)) (sl (inB y1 (y2+1)) (sl ((cnE tP s.Aa9)&&((cnE tP s.m8)&&((cnE tP s.Pa7)&&true))) (sl (Nat.beq t1.1 1) (k ⟨0,rt tP s.Aa9,W (s.ic0+1),y3,y4,0,[],[]⟩) (sl (Nat.beq t1.1 2) (k ⟨1,rt tP s.Aa9,W (s.ic0+1),y3,y4,t1.2.Pb4,t1.2.eh6,t1.2.eh7⟩) z)) z) z) z) z) (e 1))
def N1{α:Type}(k:w7->α)(e:Nat->α)(z:α)(p:o9)(s:w7):α:=let y4:=(rt tP s.Pa7);let y3:=(rt tP s.m8);let y2:=(List.length s.m8);let y1:=(W ((W (p.is3+s.ic0))+2));let y0:=(p.be8 s.ic0.toNat);let t1:=(lp (H7 (⟨p.is3,rt tP s.Aa9,p.ka0,p.na5,p.be7,p.be8,p.Dd6,s.ic0,y2-y1.toNat,(λk=>(λk=>(tP).row (gL tP s.m8 k)) (y1.toNat+k)),(↑(y2-y1.toNat):Int),y3,p.Ba0,p.Ba1,p.Ba2,p.Ba3,toI (hdA y0),toI (hdA (tlA y0)),toI (hdA (tlA (tlA y0))),toI (hdA (tlA (tlA (tlA y0)))),y4⟩:o8)) (⟨1,0,s.G8,s.eh5,s.eh6⟩:s6));(sl (decide (s.ic0<p.Dd6)) (sl (inB s.ic0 p.be7) (sl ((Nat.ble 4 (len y0))&&(ka1 [CK.int .i64,CK.int .i64,CK.int .i64,CK.int .i64] y0)) (sl (inB y1 (y2+1)) (sl ((cnE tP s.Aa9)&&((cnE tP s.m8)&&((cnE tP s.Pa7)&&true))) (sl (Nat.beq t1.1 1) (k ⟨0,rt tP s.Aa9,W (s.ic0+1),y3,y4,0,[],[]⟩) (sl (Nat.beq t1.1 2) (k ⟨1,rt tP s.Aa9,W (s.ic0+1),y3,y4,t1.2.Pb4,t1.2.eh6,t1.2.eh7⟩) z)) z) z) z) z) (e 2))
def H8(p:o9)(s:w7):Stp w7:=(sel (Nat.beq s.ph 1) (N1 .next .exit .fail p s) (N0 .next .exit .fail p s))
abbrev ca6:B2:=⟨0,1,true,some [[.c 4 (nL tP)]]⟩
abbrev Ta6:B2:=⟨0,4,true,some [[.o (.int .i64),.o (.int .i64),.o (.int .i64),.o (.int .i64)]]⟩
def Ta7(a:List b7)(H:List c7):o9:=⟨aIq a 3,aIq a 10,aIq a 11,aNq a 19,aGq a 19,aIq a 20,hIq H 1 0 0,hIq H 1 0 1,hIq H 1 0 2,hIq H 1 0 3⟩
def Fa4:Lo o9 w7:=⟨En oa3,0,Pf4,[1,1,1,0,1,4,4,1,4,4,1,1,0,4,1,1,4,4],[1,3,4,9,10,11,19,20,21,47,49,50,51,52],.s .p (.s .p (.s (.b (.s .p (.s .p (.b (.u Fa3.lsM))))) .p)),[⟨sUq::sPq 0::sUq::sIq::sPq 1::ru2 4 (sLq tP::sIq::sIq::ru2 7 (sTq 4::sIq::sIq::ru2 25 (.s (.o (.lit .i64 0))::sUq::sPq 2::.s (.o .nil)::sPq 3::sPq 4::ru2 31 []))),[ca6,Ta6,ca6,⟨0,0,true,some [[.o .nil]]⟩,⟨0,0,true,some [[.o (.ptr 5 0 0 0)]]⟩,⟨124,0,true,some []⟩],λa H=>(Ta7 a H,⟨0,aLq tP a 9,aIq a 21,hLq tP H 0 0 0,hLq tP H 2 0 0,0,[],[]⟩)⟩,⟨sUq::sPq 0::sUq::sIq::sPq 1::ru2 4 (sLq tP::sIq::sIq::ru2 7 (sTq 4::sIq::sIq::ru2 25 (.s (.o (.lit .i64 0))::sUq::sPq 2::.s (.o .nil)::sPq 3::sPq 4::ru2 31 []))),[ca6,Ta6,ca6,⟨0,0,true,some [[.o (.sl 5 0 (some 0) none)]]⟩,⟨0,0,true,some [[.o (.ptr 6 0 0 0)]]⟩,⟨114,4,true,none⟩,⟨124,0,true,none⟩],λa H=>(Ta7 a H,⟨1,aLq tP a 9,aIq a 21,hLq tP H 0 0 0,hLq tP H 2 0 0,slN (slT (rwT (elT H 3) 0) 0),elT H 5,elT H 6⟩)⟩],H8,[(some 2,λp s=>upq (cb0 p s) [(22,b (decide (s.ic0<p.Dd6)))]),(some 2,λp s=>upq (cb1 p s) [(22,b (decide (s.ic0<p.Dd6)))])],ec4⟩
theorem ec5:Fa4.OkM:=Lo.okMq [Fa3.prM] (.cons ec3 .nil) λp s=>(.sel (Nat.beq s.ph 1) (.ofq @N1) (.ofq @N0))
structure D5 where
 ka0:Int
structure A8 where
 ph:Nat
 Aa9:PLq
 na5:Int
 (m8 Qb6:PLq)
 vb1:Nat
 (eh4 eh5:List (List b7))
def cb2(p:D5)(s:A8):St:=⟨.unk::.ptr 0 0 0 0::ra 7 (eL tP s.Aa9::i p.ka0::i s.na5::ra 35 (i 0::.unk::.ptr 1 0 0 0::nlq::.ptr 2 0 0 0::.ptr 3 0 0 0::ra 31 [])),[bq 0 1 [[eL tP s.m8]],bq 0 1 [[eL tP s.Qb6]],bq 0 0 [[nlq]],bq 0 0 [[.ptr 4 0 0 0]],bq 124 0 []]⟩
def cb3(p:D5)(s:A8):St:=⟨.unk::.ptr 0 0 0 0::ra 7 (eL tP s.Aa9::i p.ka0::i s.na5::ra 35 (i 0::.unk::.ptr 1 0 0 0::nlq::.ptr 2 0 0 0::.ptr 3 0 0 0::ra 31 [])),[bq 0 1 [[eL tP s.m8]],bq 0 1 [[eL tP s.Qb6]],bq 0 0 [[.sl 4 0 s.vb1 0]],bq 0 0 [[.ptr 5 0 0 0]],bq 114 4 s.eh4,bq 124 0 s.eh5]⟩
def ec6(p:D5)(s:A8):St:=(sel (Nat.beq s.ph 1) (cb3 p s) (cb2 p s))
def N2{α:Type}(k:A8->α)(e:Nat->α)(z:α)(p:D5)(s:A8):α:=let y2:=(List.length s.m8);let y1:=(W (s.na5+1));let y0:=(gL tP s.Aa9 s.na5.toNat);let t1:=(lp (H8 (⟨s.na5,p.ka0,s.na5,y2-y1.toNat,(λk=>(λk=>(tP).row (gL tP s.m8 k)) (y1.toNat+k)),(↑(y2-y1.toNat):Int),y0.n.x,y0.n.y,y0.n.z,y0.b⟩:o9)) (⟨0,rt tP s.Aa9,0,rt tP s.m8,rt tP s.Qb6,0,[],[]⟩:w7));(sl (decide (s.na5<p.ka0)) (sl (inB s.na5 (List.length s.Aa9)) (sl (inB y1 (y2+1)) (sl ((cnE tP s.Aa9)&&((cnE tP s.m8)&&((cnE tP s.Qb6)&&true))) (sl (Nat.beq t1.1 1) (k ⟨0,t1.2.Aa9,y1,t1.2.m8,t1.2.Pa7,0,[],[]⟩) (sl (Nat.beq t1.1 2) (k ⟨1,t1.2.Aa9,y1,t1.2.m8,t1.2.Pa7,t1.2.G8,t1.2.eh5,t1.2.eh6⟩) z)) z) z) z) (e 1))
def N4{α:Type}(k:A8->α)(e:Nat->α)(z:α)(p:D5)(s:A8):α:=let y2:=(List.length s.m8);let y1:=(W (s.na5+1));let y0:=(gL tP s.Aa9 s.na5.toNat);let t1:=(lp (H8 (⟨s.na5,p.ka0,s.na5,y2-y1.toNat,(λk=>(λk=>(tP).row (gL tP s.m8 k)) (y1.toNat+k)),(↑(y2-y1.toNat):Int),y0.n.x,y0.n.y,y0.n.z,y0.b⟩:o9)) (⟨1,rt tP s.Aa9,0,rt tP s.m8,rt tP s.Qb6,s.vb1,s.eh4,s.eh5⟩:w7));(sl (decide (s.na5<p.ka0)) (sl (inB s.na5 (List.length s.Aa9)) (sl (inB y1 (y2+1)) (sl ((cnE tP s.Aa9)&&((cnE tP s.m8)&&((cnE tP s.Qb6)&&true))) (sl (Nat.beq t1.1 1) (k ⟨0,t1.2.Aa9,y1,t1.2.m8,t1.2.Pa7,0,[],[]⟩) (sl (Nat.beq t1.1 2) (k ⟨1,t1.2.Aa9,y1,t1.2.m8,t1.2.Pa7,t1.2.G8,t1.2.eh5,t1.2.eh6⟩) z)) z) z) z) (e 2))
def H9(p:D5)(s:A8):Stp A8:=(sel (Nat.beq s.ph 1) (N4 .next .exit .fail p s) (N2 .next .exit .fail p s))
def Fa5:Lo D5 A8:=⟨En oa3,0,Pf4,[1,1,1,0,1,4,4,1,4,4],[1,9,10,11,47,49,50,51,52],.s .p (.s .p (.s (.b (.s .p (.s .p (.b (.u Fa4.lsM))))) .p)),[⟨sUq::sPq 0::ru2 7 (sLq tP::sIq::sIq::ru2 35 (.s (.o (.lit .i64 0))::sUq::sPq 1::.s (.o .nil)::sPq 2::sPq 3::ru2 31 [])),[⟨0,1,true,some [[.c 4 (nL tP)]]⟩,⟨0,1,true,some [[.c 4 (nL tP)]]⟩,⟨0,0,true,some [[.o .nil]]⟩,⟨0,0,true,some [[.o (.ptr 4 0 0 0)]]⟩,⟨124,0,true,some []⟩],λa H=>(⟨aIq a 10⟩,⟨0,aLq tP a 9,aIq a 11,hLq tP H 0 0 0,hLq tP H 1 0 0,0,[],[]⟩)⟩,⟨sUq::sPq 0::ru2 7 (sLq tP::sIq::sIq::ru2 35 (.s (.o (.lit .i64 0))::sUq::sPq 1::.s (.o .nil)::sPq 2::sPq 3::ru2 31 [])),[⟨0,1,true,some [[.c 4 (nL tP)]]⟩,⟨0,1,true,some [[.c 4 (nL tP)]]⟩,⟨0,0,true,some [[.o (.sl 4 0 (some 0) none)]]⟩,⟨0,0,true,some [[.o (.ptr 5 0 0 0)]]⟩,⟨114,4,true,none⟩,⟨124,0,true,none⟩],λa H=>(⟨aIq a 10⟩,⟨1,aLq tP a 9,aIq a 11,hLq tP H 0 0 0,hLq tP H 1 0 0,slN (slT (rwT (elT H 2) 0) 0),elT H 4,elT H 5⟩)⟩],H9,[(some 0,λp s=>upq (cb2 p s) [(12,b (decide (s.na5<p.ka0)))]),(some 0,λp s=>upq (cb3 p s) [(12,b (decide (s.na5<p.ka0)))])],ec6⟩
theorem ec7:Fa5.OkM:=Lo.okMq [Fa4.prM] (.cons ec5 .nil) λp s=>(.sel (Nat.beq s.ph 1) (.ofq @N4) (.ofq @N2))
def fa9(x:PLq):ROq:=let t1:=(lp (H9 (⟨(↑(List.length x):Int)⟩:D5)) (⟨0,rt tP x,0,rt tP x,rt tP x,0,[],[]⟩:A8));(sl ((cnE tP x)&&((cnE tP x)&&((cnE tP x)&&true))) (sl (Nat.beq t1.1 1) (some (nlq,[])) (sl (Nat.beq t1.1 2) (some (.sl 0 0 t1.2.vb1 0,[bq 114 4 t1.2.eh4])) none)) none)
def ga0(x:PLq):List Pt:=L9 (one (r1L tX)) (fa9 x)
def ga1(x:PLq):Bool:=okO (one (r1L tX)) (fa9 x)
def Qa1:Sum:=S7 (M3 tP) (λx=>.guard (ga1 x) (.ret ((one (r1L tX)).enc (ga0 x),[])))
theorem rb1:l8 prog G 80 Qa1:=Sc3 (bd b80 kc4) (one (r1L tX)) (o:=fa9) λx=>pd9 (.s .p (.s .p (.s .p (.s (.s .p (.b (.i (.s .p (.b (.u Fa5.lsM)))))) .p)))) [Fa5.prM] (.cons ec7 .nil)
structure Fa6 where
 is0:Int
 if4:List Int
 is8:Int
structure U7 where
 is9:Int
def ac9(p:Fa6)(s:U7):St:=⟨i p.is0::ra 6 (eL tI p.if4::i p.is8::i s.is9::ra 13 []),[]⟩
def Ka2{α:Type}(k:U7->α)(e:Nat->α)(z:α)(p:Fa6)(s:U7):α:=(sl (decide (s.is9<p.is8)) (sl (inB s.is9 (List.length p.if4)) (sl (decide ((gL tI p.if4 s.is9.toNat)<(W (0-p.is0)))) (e 1) (sl (decide ((gL tI p.if4 s.is9.toNat)>p.is0)) (e 1) (k ⟨W (s.is9+1)⟩))) z) (e 2))
def ya6(p:Fa6)(s:U7):Stp U7:=Ka2 .next .exit .fail p s
def yb8:Lo Fa6 U7:=⟨En tbN,0,Zf0,[1,0,1,4,4],[0,7,8,9],.p,[⟨sIq::ru2 6 (sLq tI::sIq::sIq::ru2 13 []),[],λa H=>(⟨aIq a 0,aLq tI a 7,aIq a 8⟩,⟨aIq a 9⟩)⟩],ya6,[(none,λp s=>⟨[b false],[]⟩),(some 0,λp s=>upq (ac9 p s) [(10,b (decide (s.is9<p.is8)))])],ac9⟩
theorem hd4:yb8.Ok:=Lo.okq [] .nil λp s=>(.ofq @Ka2)
def Ta8(x:Int)(y:List Int):ROq:=let t1:=(lp (ya6 (⟨x,rt tI y,(↑(List.length y):Int)⟩:Fa6)) (⟨0⟩:U7));(sl ((cnE tI y)&&true) (sl (Nat.beq t1.1 1) (some (b false,[])) (sl (Nat.beq t1.1 2) (some (b true,[])) none)) none)
def Ta9(x:Int)(y:List Int):Bool:=L9 (one r1B) (Ta8 x y)
def Ua0(x:Int)(y:List Int):Bool:=okO (one r1B) (Ta8 x y)
def Gc5:Sum:=Z7 cI (M3 tI) (λx y=>.guard (Ua0 x y) (.ret ((one r1B).enc (Ta9 x y),[])))
theorem Bd2:l8 prog G 119 Gc5:=dc7 (bd Jg4 ya0) (one r1B) (o:=Ta8) λx y=>Q3 (.s .p (.s (.s .p (.b (.u yb8.ls))) .p)) [yb8.pr] (.cons hd4 .nil)
def ab5(x:Int):Int:=(if (W (0-x))>x then (W (0-x)) else x)
def kc5:Sum:=S7 cI (λx=>.ret ((one r1I).enc (ab5 x),[]))
theorem hd5:l8 prog G 141 kc5:=Af1 (bd Lg5 ya0)
def yb9:List (Nat×Sum):=[(141,kc5)]
theorem hd6:A4 prog G yb9:=⟨hd5,trivial⟩
def Tb6(p:ab4)(s:ya4):St:=⟨ra 3 (i s.is3::.unk::i s.is5::eL tI p.xb2::i p.is7::i p.is8::ra 15 []),[]⟩
def Da8{α:Type}(k:ya4->α)(e:Nat->α)(z:α)(p:ab4)(s:ya4):α:=(sl (decide (s.is5>0)) (sl (s.is5==0) z (k ⟨s.is5,Int.tmod s.is3 s.is5⟩)) (e 1))
def ga6(p:ab4)(s:ya4):Stp ya4:=Da8 .next .exit .fail p s
def rb2:Lo ab4 ya4:=⟨En yb9,0,zf9,[1,1,0,1,4,4,1,1,0,4,1,1,1,4,4],[3,5,6,7,8],.p,[⟨ru2 3 (sIq::sUq::sIq::sLq tI::sIq::sIq::ru2 15 []),[],λa H=>(⟨aLq tI a 6,aIq a 7,aIq a 8⟩,⟨aIq a 3,aIq a 5⟩)⟩],ga6,[(some 2,λp s=>upq (Tb6 p s) [(16,i s.is5),(17,b (decide (s.is5>0)))])],Tb6⟩
theorem Zc4:rb2.Ok:=Lo.okq [] .nil λp s=>(.ofq @Da8)
def Tb7(p:qb8)(s:ya5):St:=⟨ra 3 (i s.is3::.unk::.unk::eL tI s.xb2::i p.is7::i s.is8::ra 15 []),[]⟩
def Da9{α:Type}(k:ya5->α)(e:Nat->α)(z:α)(p:qb8)(s:ya5):α:=let t1:=(ab5 (gL tI s.xb2 s.is8.toNat));let t2:=(lp (ga6 (⟨rt tI s.xb2,p.is7,s.is8⟩:ab4)) (⟨s.is3,t1⟩:ya4));(sl (decide (s.is8<p.is7)) (sl (inB s.is8 (List.length s.xb2)) (sl ((gL tI s.xb2 s.is8.toNat)==(-9223372036854775808)) (e 1) (sl ((cnE tI s.xb2)&&true) (sl (Nat.beq t2.1 1) (k ⟨t2.2.is3,rt tI s.xb2,W (s.is8+1)⟩) z) z)) z) (e 2))
def ra6(p:qb8)(s:ya5):Stp ya5:=Da9 .next .exit .fail p s
def rb3:Lo qb8 ya5:=⟨En yb9,0,zf9,[1,1,0,1,4,4],[3,6,7,8],.s .p (.s .p (.s (.b (.s .p (.s .p (.s .p (.b (.u rb2.ls)))))) .p)),[⟨ru2 3 (sIq::sUq::sUq::sLq tI::sIq::sIq::ru2 15 []),[],λa H=>(⟨aIq a 7⟩,⟨aIq a 3,aLq tI a 6,aIq a 8⟩)⟩],ra6,[(none,λp s=>⟨[i 0],[]⟩),(some 0,λp s=>upq (Tb7 p s) [(9,b (decide (s.is8<p.is7)))])],Tb7⟩
theorem Zc5:rb3.Ok:=Lo.okq [rb2.pr] (.cons Zc4 .nil) λp s=>(.ofq @Da9)
def Ma5(x:List Int):ROq:=let t1:=(lp (ra6 (⟨(↑(List.length x):Int)⟩:qb8)) (⟨0,rt tI x,0⟩:ya5));(sl ((cnE tI x)&&true) (sl (Nat.beq t1.1 1) (some (i 0,[])) (sl (Nat.beq t1.1 2) (some (i t1.2.is3,[])) none)) none)
def jb4(x:List Int):Int:=L9 (one r1I) (Ma5 x)
def jb5(x:List Int):Bool:=okO (one r1I) (Ma5 x)
def xc2:Sum:=S7 (M3 tI) (λx=>.guard (jb5 x) (.ret ((one r1I).enc (jb4 x),[])))
theorem qd8:l8 prog G 120 xc2:=Sc3 (bd Jg5 hd6) (one r1I) (o:=Ma5) λx=>Q3 (.s .p (.s .p (.s (.s .p (.b (.u rb3.ls))) .p))) [rb3.pr] (.cons Zc5 .nil)
def Md3:List (Nat×Sum):=[(119,Gc5),(120,xc2)]
theorem Bd3:A4 prog G Md3:=⟨Bd2,qd8,trivial⟩
def fb6(x:Pln):ROq:=let t1:=(Ta9 4608 [x.n.x,x.n.y,x.n.z]);let t2:=(jb4 [x.n.x,x.n.y,x.n.z]);let t3:=(Ta9 2097152 [x.b]);(sl (Ua0 4608 [x.n.x,x.n.y,x.n.z]) (sl t1 (sl (jb5 [x.n.x,x.n.y,x.n.z]) (sl (t2==1) (sl (Ua0 2097152 [x.b]) (some (b t3,[])) none) (some (b false,[]))) none) (some (b false,[]))) none)
def Bb6(x:Pln):Bool:=L9 (one r1B) (fb6 x)
def Bb7(x:Pln):Bool:=okO (one r1B) (fb6 x)
def Vc6:Sum:=S7 (na7 tP) (λx=>.guard (Bb7 x) (.ret ((one r1B).enc (Bb6 x),[])))
theorem Md4:l8 prog G 95 Vc6:=Sa7 (bd b95 Bd3) (one r1B) (o:=fb6)
def Bd4:List (Nat×Sum):=[(95,Vc6)]
theorem qd9:A4 prog G Bd4:=⟨Md4,trivial⟩
def Ua1(x:Pln):ROq:=let t1:=(Bb6 x);(sl (Bb7 x) (some (b (!t1),[])) none)
def rb4(x:Pln):Bool:=L9 (one r1B) (Ua1 x)
def rb5(x:Pln):Bool:=okO (one r1B) (Ua1 x)
def Gc6:Sum:=S7 (na7 tP) (λx=>.guard (rb5 x) (.ret ((one r1B).enc (rb4 x),[])))
theorem Bd5:l8 prog G 94 Gc6:=Sa7 (bd b94 qd9) (one r1B) (o:=Ua1)
structure ua0 where
 g9:PLq
def Ua2:List (Nat×Sum):=[(94,Gc6)]
theorem Nb5:A4 prog G Ua2:=⟨Bd5,trivial⟩
structure Q6 where
 g9:PLq
 is7:Int
def Ma6(p:Q6)(s:B8):St:=⟨eL tP p.g9::.fn 94 []::ra 5 (i p.is7::i s.is8::ra 10 []),[]⟩
def W8{α:Type}(k:B8->α)(e:Nat->α)(z:α)(p:Q6)(s:B8):α:=let t1:=(rb4 (gL tP p.g9 s.is8.toNat));(sl (decide (s.is8<p.is7)) (sl (inB s.is8 (List.length p.g9)) (sl (rb5 (gL tP p.g9 s.is8.toNat)) (sl t1 (e 1) (k ⟨W (s.is8+1)⟩)) z) z) (e 2))
def O5(p:Q6)(s:B8):Stp B8:=W8 .next .exit .fail p s
def oa4:Lo Q6 B8:=⟨En Ua2,0,Ee4,[1,0,1,4,4],[0,1,7,8],.p,[⟨sLq tP::.s (.o (.fn 94))::ru2 5 (sIq::sIq::ru2 10 []),[],λa H=>(⟨aLq tP a 0,aIq a 7⟩,⟨aIq a 8⟩)⟩],O5,[(none,λp s=>⟨[i s.is8],[]⟩),(some 0,λp s=>upq (Ma6 p s) [(9,b (decide (s.is8<p.is7)))])],Ma6⟩
theorem Ib4:oa4.Ok:=Lo.okq [] .nil λp s=>(.ofq @W8)
def ua2{α:Type}(kk:ta8->α)(x:ua0):α:=let t1:=(lp (O5 (⟨rt tP x.g9,(↑(List.length x.g9):Int)⟩:Q6)) (⟨0⟩:B8));(sl ((cnE tP x.g9)&&true) (sl (Nat.beq t1.1 1) (kk ⟨1,t1.2.is8⟩) (sl (Nat.beq t1.1 2) (kk ⟨1,-1⟩) (kk ⟨0,0⟩))) (kk ⟨0,0⟩))
def ua3(x:ua0):ta8:=ua2 (λr=>r) x
def Ua3(x:ua0)(r:ta8):DT (b7×List c7):=(Ma1 r.alt 1 (i r.is0,[]) .fail)
def cb4:Sum:=Sa6 ⟨[sLq tP,.s (.o (.fn 94))],[],λa H=>(⟨aLq tP a 0⟩,())⟩ (λx=>Ua3 x (ua3 x))
theorem Tb8:l8 prog G 118 cb4:=K3 (enc:=λx=>⟨[eL tP x.g9,.fn 94 []],[]⟩) (λa H=>by kernel_rfl) (bd Pf6 Nb5) λx=>Q3 (.s .p (.s (.s .p (.b (.u oa4.ls))) .p)) [oa4.pr] (.cons Ib4 .nil) (mEq @ua2 (λr=>(Ua3 x r).run) x)
def Db6:List (Nat×Sum):=[(118,cb4)]
theorem zb0:A4 prog G Db6:=⟨Tb8,trivial⟩
def ma3{α:Type}(kk:la8->α)(x:ua0):α:=let t1:=(ua3 ⟨rt tP x.g9⟩);(sl ((cnE tP x.g9)&&true) (sl (Nat.beq t1.alt 1) (kk ⟨1,decide (t1.is0>=0)⟩) (kk ⟨0,false⟩)) (kk ⟨0,false⟩))
def ma4(x:ua0):la8:=ma3 (λr=>r) x
def Ia8(x:ua0)(r:la8):DT (b7×List c7):=(Ma1 r.alt 1 (b r.bs0,[]) .fail)
def Ma7:Sum:=Sa6 ⟨[sLq tP,.s (.o (.fn 94))],[],λa H=>(⟨aLq tP a 0⟩,())⟩ (λx=>Ia8 x (ma4 x))
theorem Db7:l8 prog G 93 Ma7:=K3 (enc:=λx=>⟨[eL tP x.g9,.fn 94 []],[]⟩) (λa H=>by kernel_rfl) (bd b93 zb0) λx=>Fa0 (mEq @ma3 (λr=>(Ia8 x r).run) x)
def Xd1:List (Nat×Sum):=[(93,Ma7)]
theorem Md5:A4 prog G Xd1:=⟨Db7,trivial⟩
def rb6(x:PLq):ROq:=let t1:=(ma4 ⟨rt tP x⟩);(sl (decide ((↑(List.length x):Int)>48)) (some (i 2,[])) (sl ((cnE tP x)&&true) (sl (Nat.beq t1.alt 1) (sl t1.bs0 (some (i 12,[])) (some (i 0,[]))) none) none))
def Ka3(x:PLq):Int:=L9 (one r1I) (rb6 x)
def rb7(x:PLq):Bool:=okO (one r1I) (rb6 x)
def rc4:Sum:=S7 (M3 tP) (λx=>.guard (rb7 x) (.ret ((one r1I).enc (Ka3 x),[])))
theorem ec8:l8 prog G 73 rc4:=Sa7 (bd b73 Md5) (one r1I) (o:=rb6)
def Bd6:List (Nat×Sum):=[(73,rc4)]
theorem rd0:A4 prog G Bd6:=⟨ec8,trivial⟩
def Ua4(x:PLq):ROq:=let t1:=(Ka3 (rt tP x));(sl (okE tP x) (sl (rb7 (rt tP x)) (some (b (t1 != 0),[])) none) none)
def rb8(x:PLq):Bool:=L9 (one r1B) (Ua4 x)
def rb9(x:PLq):Bool:=okO (one r1B) (Ua4 x)
def Gc7:Sum:=S7 (M3 tP) (λx=>.guard (rb9 x) (.ret ((one r1B).enc (rb8 x),[])))
theorem Bd7:l8 prog G 78 Gc7:=Sa7 (bd b78 rd0) (one r1B) (o:=Ua4)
end Go.Ev.Ce
namespace Go.Proofs
open Go.Shelf
set_option maxRecDepth 100000 in
def Ce.growP_ren:Go.Shelf.Ren:=⟨fun | 4=>99 | n=>n,fun | 22=>35 | 25=>66 | 3=>3 | 4=>4 | 9=>9 | 20=>20 | 0=>0 | n=>n,fun | n=>n⟩
set_option maxRecDepth 100000 in
theorem Ce.growP:Go.Proofs.Lays8.n4 Tryz.prog Ce.growP_ren:={
 mixed:=by kernel_rfl
 f4:=⟨Tryz.f99.name,by decide,Tryz.func99.trans (congrArg some (by kernel_rfl))⟩
 t0:=Tryz.underlying0
 a0:=Tryz.isAgg0
 z0:=Tryz.sizeOf0
 v0:=Tryz.zeroValue0
 t3:=Tryz.underlying3
 a3:=Tryz.isAgg3
 z3:=Tryz.sizeOf3
 v3:=Tryz.zeroValue3
 t4:=Tryz.underlying4
 a4:=Tryz.isAgg4
 z4:=Tryz.sizeOf4
 v4:=Tryz.zeroValue4
 t9:=Tryz.underlying9
 a9:=Tryz.isAgg9
 z9:=Tryz.sizeOf9
 v9:=Tryz.zeroValue9
 t20:=Tryz.underlying20
 a20:=Tryz.isAgg20
 z20:=Tryz.sizeOf20
 v20:=Tryz.zeroValue20
 t22:=Tryz.underlying35
 a22:=Tryz.isAgg35
 z22:=Tryz.sizeOf35
 v22:=Tryz.zeroValue35 }
end Go.Proofs
namespace Go.Ev.Ce
open Go Go.Ev Go.Proofs
def qe7:List b7:=[i 0,i 0,i 0,i 0]
def eb0:Sum:=λargs blks=>match args,blks with
 | [.v (.slice none 0 0), .v (.int .i64 n)], [] => .ite (n == 0) (.ret (.v (.slice none 0 0), []))
   (.guard (Bool.and (decide (0<n)) (Nat.ble (n.toNat*32) room)) (.ret (.sl 0 0 0 0,[⟨66,4,List.replicate n.toNat qe7,true,false,0⟩])))
 |_,_=>.fail
theorem z66:zeT Tryz.prog 66=some qe7:=by kernel_rfl
theorem s66:szT Tryz.prog 66=4:=by kernel_rfl
theorem y66:byT Tryz.prog 66=32:=by kernel_rfl
theorem t25:Ce.growP_ren.t 25=66:=by kernel_rfl
theorem f4:Ce.growP_ren.f 4=99:=by kernel_rfl
set_option maxRecDepth 100000 in
theorem Gc8:l8 prog G 99 eb0:=by
 intro args blks r out he W ρ F w args' hH hlen hargs hG;refine⟨⟨_,Tryz.func99,by kernel_rfl,of_decide_eq_true (by kernel_rfl)⟩,?_⟩
 unfold eb0 at he
 split at he
 case h_2=>cases he
 rename_i n
 match args',hlen with
 |[v0,v1],_ =>
 have e0:=fa0 (hargs 0 _ _ rfl rfl);have e1:=fa0 (hargs 1 _ _ rfl rfl);subst e0 e1
 rcases DT.run_ite_some he with⟨h0,he⟩|⟨h0,he⟩
 ·have h0:n=0:=by simpa using h0
  subst h0;injection he with he;injection he with q1 q2;subst q1 q2
  have:=Any8.slices_Grow_room Ce.growP none 0 0 0 w (Qaf _) (by omega) (by omega) (by omega)
  rw[f4] at this;refine this.mono λe w' ⟨h1,h2⟩=>?_
  subst h1 h2;exact⟨_,rfl,ρ,F,.refl,hH,.ofv _⟩
 ·obtain⟨hg,he⟩:=DT.run_guard_some he;rw[Qas,decide_eq_true_eq] at hg;obtain⟨hpos,hroom⟩:=hg;have hroom:=Qae hroom;unfold room at hroom;obtain⟨m,rfl⟩:=Int.eq_ofNat_of_zero_le (Int.le_of_lt hpos);have hm:0<m:=by omega
  have he:some (b7.sl 0 0 0 0,[(⟨66,4,List.replicate m qe7,true,false,0⟩:c7)])=some (r,out):=he;injection he with he;injection he with q1 q2;subst q1 q2
  obtain⟨ti,zv,hi,hzz,hzr,hone⟩:=lb5 (E:=En []) z66;have hi:Tryz.prog.info? 66=some ti:=hi;have hts:ti.size=4:=by have:=s66;simp only[szT,hi] at this;exact this
  have hby:ti.bytes=32:=by have:=y66;simp only[byT,hi] at this;exact this
  have hzs:zv.cells.size=4:=by
   have:=congrArg List.length hzr
   simpa [qe7] using this.symm
  have hroom':m*32<=140737488355328:=hroom
  have:=Any8.slices_Grow_grow Ce.growP ti zv (by rw[t25];exact hi) hzz (by omega) none 0 0 m [] w (Qaf _) (by omega) (by rw[hby];omega) (by omega) (by simp) (λ_=>rfl) (λa ha=>by cases ha)
  rw[f4,t25] at this;refine this.mono λe w' ⟨h1,h2⟩=>?_
  have hcap:=grownCap_ge w (0+m) 0 66;have hcap2:=grownCap_le_maxLen w (0+m) 0 66 (by unfold maxLen;omega)
  subst h1;generalize grownCap w (0+m) 0 66=G' at *
  have hsz:∀q,(Builtin.zeroCells zv.cells q).size=q*4:=λq=>by simp[Builtin.zeroCells,hzs]
  have hcc:(#[]++Builtin.zeroCells zv.cells (0+m-0)++Builtin.zeroCells zv.cells (G'-(0+m))).size=G'*4:=by
   rw[Array.size_append,Array.size_append,hsz,hsz];simp;omega
  have hobj:w'.heap[w.heap.size]?=some (.cells (#[]++Builtin.zeroCells zv.cells (0+m-0)++Builtin.zeroCells zv.cells (G'-(0+m))) 66 (0,0)):=by
   rw[h2];exact World.alloc_heap_new w.drew _
  have hold:∀k,k<w.heap.size->w'.heap[k]?=w.heap[k]?:=λk hk=>by
   rw[h2];simp only[World.alloc,Qau,World.drew];rw[if_neg (by omega)]
  have hws:w'.heap.size=w.heap.size+1:=by rw[h2];exact Array.size_push ..
  obtain⟨h6,h7⟩:=hH.newAt (w':=w') (by rw[h2];rfl) (by rw[h2];rfl) (by rw[h2];rfl) (by rw[h2];exact Nat.le_succ _) (by omega) hold w.heap.size (Qaf _) 66 4 (List.replicate m qe7) _ 66 hobj
   (λj r hr=>by rw[Qbt] at hr;split at hr<;>cases hr;rfl) (by rw[Qbn,hcc];omega)
   (λj r c x hr hx=>by
    have hjm:j<m:=by
     have:=(Qab.1 hr).1
     simpa using this
    rw[Qbt,if_pos hjm] at hr;injection hr with hr;subst hr;have hc4:c<4:=(Qab.1 hx).1;rw[hzr,Qbe] at hx;have hcz:c<zv.cells.size:=by omega
    have hq:zv.cells.toList[c]?=some zv.cells[c]:=by simp[hcz]
    rw[hq] at hx;injection hx with hx;subst hx;refine⟨zv.cells[c],?_,.v _ (hone _ (by simp))⟩
    have hlt:j*4+c<m*4:=by omega
    rw[Array.append_assoc,Array.empty_append,Qdb (by rw[hsz];omega)]
    have hm4:(j*4+c) % 4=c:=by omega
    simp only[Builtin.zeroCells,hzs];rw[Array.getElem?_map,Array.getElem?_range];rw[if_pos (by omega)]
    simp[hm4,hcz])
   (λ_=>rfl)
  refine⟨_,rfl,_,F,h6,h7,.val (.cell ?_)⟩;refine .sl 0 0 0 0 _ _ { et:=66,es:=4,elems:=List.replicate m qe7,own:=true,dead:=false,g:=0 } rfl rfl (Qaf _) (Qbv _) rfl hcap2 λ_=>⟨.inr ?_,?_,by simp⟩
  ·simp[ρnew]
  ·simp only[ρnew,List.length_nil,if_true];rw[hcc,Qar]
end Go.Ev.Ce
namespace Go.Ev.Ce
open Go Go.Ev Go.Ev.L Go.Proofs
set_option maxRecDepth 100000
def oa5:List (Nat×Sum):=[(99,eb0)]
theorem nb0:A4 prog G oa5:=⟨Gc8,trivial⟩
structure aa5 where
 (n7 xe2:LPq)
 ka0:Int
structure F9 where
 (is3 na5:Int)
def fb7(p:aa5)(s:F9):St:=⟨eL tLq p.n7::.unk::.unk::i s.is3::ra 5 (eL tLq p.xe2::i p.ka0::i s.na5::ra 24 []),[]⟩
def fa6{α:Type}(k:F9->α)(e:Nat->α)(z:α)(p:aa5)(s:F9):α:=let y0:=(↑(List.length (gL tLq p.xe2 s.na5.toNat)):Int);(sl (decide (s.na5<p.ka0)) (sl (inB s.na5 (List.length p.xe2)) (sl (decide ((W (s.is3+y0))<0)) z (k ⟨W (s.is3+y0),W (s.na5+1)⟩)) z) (e 1))
def P5(p:aa5)(s:F9):Stp F9:=fa6 .next .exit .fail p s
def Fa7:Lo aa5 F9:=⟨En oa5,0,Pf3,[1,1,0,1,4,4],[0,3,9,10,11],.p,[⟨sLq tLq::sUq::sUq::sIq::ru2 5 (sLq tLq::sIq::sIq::ru2 24 []),[],λa H=>(⟨aLq tLq a 0,aLq tLq a 9,aIq a 10⟩,⟨aIq a 3,aIq a 11⟩)⟩],P5,[(some 0,λp s=>upq (fb7 p s) [(12,b (decide (s.na5<p.ka0)))])],fb7⟩
theorem ec9:Fa7.OkM:=Lo.okMq [] .nil λp s=>(.ofq @fa6)
structure I5 where
 vc2:LPq
 Ye2:Int
structure A0 where
 ph:Nat
 nd0:Int
 ns6:Nat
 eh0:List (List b7)
def cb5(p:I5)(s:A0):St:=⟨ra 6 (nlq::ra 18 (eL tLq p.vc2::i p.Ye2::i s.nd0::ra 8 [])),[]⟩
def cb6(p:I5)(s:A0):St:=⟨ra 6 (.sl 0 0 s.ns6 0::ra 18 (eL tLq p.vc2::i p.Ye2::i s.nd0::ra 8 [])),[bq 66 4 s.eh0]⟩
def fc0(p:I5)(s:A0):St:=(sel (Nat.beq s.ph 1) (cb6 p s) (cb5 p s))
def N5{α:Type}(k:A0->α)(e:Nat->α)(z:α)(p:I5)(s:A0):α:=(sl (decide (s.nd0<p.Ye2)) (sl (inB s.nd0 (List.length p.vc2)) (sl (Nat.beq (len (s5 (λk=>(tP).row (gL tP (gL tLq p.vc2 s.nd0.toNat) k)) (List.range (List.length (gL tLq p.vc2 s.nd0.toNat))))) 0) (k ⟨0,W (s.nd0+1),0,[]⟩) z) z) (e 1))
def N6{α:Type}(k:A0->α)(e:Nat->α)(z:α)(p:I5)(s:A0):α:=let y0:=(gL tLq p.vc2 s.nd0.toNat);let y1:=(List.range (List.length y0));(sl (decide (s.nd0<p.Ye2)) (sl (inB s.nd0 (List.length p.vc2)) (sl (Nat.ble (s.ns6+(len (s5 (λk=>(tP).row (gL tP y0 k)) y1))) (len s.eh0)) (k ⟨1,W (s.nd0+1),(s.ns6+(len (s5 (λk=>(tP).row (gL tP y0 k)) y1))),(app (J6 s.eh0 s.ns6) (app (s5 (λk=>(tP).row (gL tP y0 k)) y1) (s9 s.eh0 (s.ns6+(len (s5 (λk=>(tP).row (gL tP y0 k)) y1))))))⟩) z) z) (e 2))
def K0(p:I5)(s:A0):Stp A0:=(sel (Nat.beq s.ph 1) (N6 .next .exit .fail p s) (N5 .next .exit .fail p s))
def Fa8:Lo I5 A0:=⟨En oa5,0,Pf3,[1,1,1,1,0,1,4,4],[6,25,26,27],.p,[⟨ru2 6 (.s (.o .nil)::ru2 18 (sLq tLq::sIq::sIq::ru2 8 [])),[],λa H=>(⟨aLq tLq a 25,aIq a 26⟩,⟨0,aIq a 27,0,[]⟩)⟩,⟨ru2 6 (.s (.o (.sl 0 0 (some 0) none))::ru2 18 (sLq tLq::sIq::sIq::ru2 8 [])),[⟨66,4,true,none⟩],λa H=>(⟨aLq tLq a 25,aIq a 26⟩,⟨1,aIq a 27,slN (slT a 6),elT H 0⟩)⟩],K0,[(some 2,λp s=>upq (cb5 p s) [(28,b (decide (s.nd0<p.Ye2)))]),(some 2,λp s=>upq (cb6 p s) [(28,b (decide (s.nd0<p.Ye2)))])],fc0⟩
theorem fc1:Fa8.OkM:=Lo.okMq [] .nil λp s=>(.sel (Nat.beq s.ph 1) (.ofq @N6) (.ofq @N5))
structure Qa2 where
 (alt ns0:Nat)
 eh0:List (List b7)
def Qa3{α:Type}(kk:Qa2->α)(x:LPq):α:=let y0:=(⟨rt tLq (rt tLq x),(↑(List.length (rt tLq x)):Int)⟩:I5);let t1:=(lp (P5 (⟨rt tLq x,rt tLq x,(↑(List.length x):Int)⟩:aa5)) (⟨0,0⟩:F9));let t2:=(lp (K0 y0) (⟨0,0,0,[]⟩:A0));let t3:=(lp (K0 y0) (⟨1,0,0,List.replicate t1.2.is3.toNat qe7⟩:A0));(sl ((cnE tLq x)&&((cnE tLq x)&&true)) (sl (Nat.beq t1.1 1) (sl (t1.2.is3==0) (sl ((cnE tLq (rt tLq x))&&true) (sl (Nat.beq t2.1 1) (kk ⟨1,0,[]⟩) (sl (Nat.beq t2.1 2) (kk ⟨2,t2.2.ns6,t2.2.eh0⟩) (kk ⟨0,0,[]⟩))) (kk ⟨0,0,[]⟩)) (sl (Bool.and (decide (0<t1.2.is3)) (Nat.ble (t1.2.is3.toNat*32) room)) (sl ((cnE tLq (rt tLq x))&&true) (sl (Nat.beq t3.1 1) (kk ⟨1,0,[]⟩) (sl (Nat.beq t3.1 2) (kk ⟨2,t3.2.ns6,t3.2.eh0⟩) (kk ⟨0,0,[]⟩))) (kk ⟨0,0,[]⟩)) (kk ⟨0,0,[]⟩))) (kk ⟨0,0,[]⟩)) (kk ⟨0,0,[]⟩))
def ta6(x:LPq):Qa2:=Qa3 (λr=>r) x
def sb0(r:Qa2):DT (b7×List c7):=(Ma1 r.alt 1 (nlq,[]) (Ma1 r.alt 2 (.sl 0 0 r.ns0 0,[bq 66 4 r.eh0]) .fail))
def wb0:Sum:=S7 (M3 tLq) (λx=>sb0 (ta6 x))
theorem rc5:l8 prog G 79 wb0:=Zb2 (bd b79 nb0) λx=>pd9 (.s .p (.s .p (.s (.s .p (.b (.u Fa7.lsM))) (.s .p (.s (.s .p (.b (.u Fa8.lsM))) .p))))) [Fa7.prM,Fa8.prM] (.cons ec9 (.cons fc1 .nil)) (mEq @Qa3 (λr=>(sb0 r).run) x)
def Te8:List (Nat×Sum):=[(79,wb0)]
theorem Fe4:A4 prog G Te8:=⟨rc5,trivial⟩
def kc6(x:LPq):ROq:=let t1:=(ta6 (rt tLq x));let y6:=((t1.ns0+1)+1);let y2:=(app t1.eh0 [[i 1,i 0,i 0,i 24]]);let y4:=(app y2 [[i (-1),i 0,i 0,i 24]]);let y1:=(y6+1);let y0:=(app y4 [[i 0,i 1,i 0,i 24]]);let y3:=(app y0 [[i 0,i (-1),i 0,i 24]]);let y5:=(app y3 [[i 0,i 0,i 1,i 24]]);(sl (okE tLq x) (sl (Nat.beq t1.alt 1) (some (.sl 0 0 6 0,[bq 66 4 [[i 1,i 0,i 0,i 24],[i (-1),i 0,i 0,i 24],[i 0,i 1,i 0,i 24],[i 0,i (-1),i 0,i 24],[i 0,i 0,i 1,i 24],[i 0,i 0,i (-1),i 24]]])) (sl (Nat.beq t1.alt 2) (sl (Nat.beq t1.ns0 (len t1.eh0)&&Nat.ble ((t1.ns0+1)*32) room) (sl (Nat.beq (t1.ns0+1) (len y2)&&Nat.ble (y6*32) room) (sl (Nat.beq y6 (len y4)&&Nat.ble (y1*32) room) (sl (Nat.beq y1 (len y0)&&Nat.ble ((y1+1)*32) room) (sl (Nat.beq (y1+1) (len y3)&&Nat.ble (((y1+1)+1)*32) room) (sl (Nat.beq ((y1+1)+1) (len y5)&&Nat.ble ((((y1+1)+1)+1)*32) room) (some (.sl 0 0 (((y1+1)+1)+1) 0,[bq 66 4 (app y5 [[i 0,i 0,i (-1),i 24]])])) none) none) none) none) none) none) none)) none)
def zb1(x:LPq):PLq:=L9 (one (r1L tP)) (kc6 x)
def zb2(x:LPq):Bool:=okO (one (r1L tP)) (kc6 x)
def Qc4:Sum:=S7 (M3 tLq) (λx=>.guard (zb2 x) (.ret ((one (r1L tP)).enc (zb1 x),[])))
theorem Zc6:l8 prog G 64 Qc4:=Sa7 (bd b64 Fe4) (one (r1L tP)) (o:=kc6)
structure ua4 where
 n7:LPq
def Ua5:List (Nat×Sum):=[(78,Gc7)]
theorem Nb6:A4 prog G Ua5:=⟨Bd7,trivial⟩
structure Q7 where
 n7:LPq
 is7:Int
def Ma8(p:Q7)(s:B8):St:=⟨eL tLq p.n7::.fn 78 []::ra 5 (i p.is7::i s.is8::ra 10 []),[]⟩
def W9{α:Type}(k:B8->α)(e:Nat->α)(z:α)(p:Q7)(s:B8):α:=let y0:=(gL tLq p.n7 s.is8.toNat);let t1:=(rb8 (rt tP y0));(sl (decide (s.is8<p.is7)) (sl (inB s.is8 (List.length p.n7)) (sl (okE tP y0) (sl (rb9 (rt tP y0)) (sl t1 (e 1) (k ⟨W (s.is8+1)⟩)) z) z) z) (e 2))
def O6(p:Q7)(s:B8):Stp B8:=W9 .next .exit .fail p s
def oa6:Lo Q7 B8:=⟨En Ua5,0,ig4,[1,0,1,4,4],[0,1,7,8],.p,[⟨sLq tLq::.s (.o (.fn 78))::ru2 5 (sIq::sIq::ru2 10 []),[],λa H=>(⟨aLq tLq a 0,aIq a 7⟩,⟨aIq a 8⟩)⟩],O6,[(none,λp s=>⟨[i s.is8],[]⟩),(some 0,λp s=>upq (Ma8 p s) [(9,b (decide (s.is8<p.is7)))])],Ma8⟩
theorem Ib5:oa6.Ok:=Lo.okq [] .nil λp s=>(.ofq @W9)
def ua6{α:Type}(kk:ta8->α)(x:ua4):α:=let t1:=(lp (O6 (⟨rt tLq x.n7,(↑(List.length x.n7):Int)⟩:Q7)) (⟨0⟩:B8));(sl ((cnE tLq x.n7)&&true) (sl (Nat.beq t1.1 1) (kk ⟨1,t1.2.is8⟩) (sl (Nat.beq t1.1 2) (kk ⟨1,-1⟩) (kk ⟨0,0⟩))) (kk ⟨0,0⟩))
def ua7(x:ua4):ta8:=ua6 (λr=>r) x
def Ua6(x:ua4)(r:ta8):DT (b7×List c7):=(Ma1 r.alt 1 (i r.is0,[]) .fail)
def cb7:Sum:=Sa6 ⟨[sLq tLq,.s (.o (.fn 78))],[],λa H=>(⟨aLq tLq a 0⟩,())⟩ (λx=>Ua6 x (ua7 x))
theorem Tb9:l8 prog G 77 cb7:=K3 (enc:=λx=>⟨[eL tLq x.n7,.fn 78 []],[]⟩) (λa H=>by kernel_rfl) (bd b77 Nb6) λx=>Q3 (.s .p (.s (.s .p (.b (.u oa6.ls))) .p)) [oa6.pr] (.cons Ib5 .nil) (mEq @ua6 (λr=>(Ua6 x r).run) x)
def Db8:List (Nat×Sum):=[(77,cb7)]
theorem zb3:A4 prog G Db8:=⟨Tb9,trivial⟩
def ma7{α:Type}(kk:la8->α)(x:ua4):α:=let t1:=(ua7 ⟨rt tLq x.n7⟩);(sl ((cnE tLq x.n7)&&true) (sl (Nat.beq t1.alt 1) (kk ⟨1,decide (t1.is0>=0)⟩) (kk ⟨0,false⟩)) (kk ⟨0,false⟩))
def ma8(x:ua4):la8:=ma7 (λr=>r) x
def Ia9(x:ua4)(r:la8):DT (b7×List c7):=(Ma1 r.alt 1 (b r.bs0,[]) .fail)
def Ma9:Sum:=Sa6 ⟨[sLq tLq,.s (.o (.fn 78))],[],λa H=>(⟨aLq tLq a 0⟩,())⟩ (λx=>Ia9 x (ma8 x))
theorem Db9:l8 prog G 61 Ma9:=K3 (enc:=λx=>⟨[eL tLq x.n7,.fn 78 []],[]⟩) (λa H=>by kernel_rfl) (bd b61 zb3) λx=>Fa0 (mEq @ma7 (λr=>(Ia9 x r).run) x)
def Xd2:List (Nat×Sum):=[(61,Ma9)]
theorem Md6:A4 prog G Xd2:=⟨Db9,trivial⟩
def sb1(x:LPq):ROq:=let t1:=(ma8 ⟨rt tLq x⟩);(sl ((cnE tLq x)&&true) (sl (Nat.beq t1.alt 1) (some (b (!t1.bs0),[])) none) none)
def Ka4(x:LPq):Bool:=L9 (one r1B) (sb1 x)
def Ka5(x:LPq):Bool:=okO (one r1B) (sb1 x)
def Nb7:Sum:=S7 (M3 tLq) (λx=>.guard (Ka5 x) (.ret ((one r1B).enc (Ka4 x),[])))
theorem fc2:l8 prog G 63 Nb7:=Sa7 (bd b63 Md6) (one r1B) (o:=sb1)
def kc7:List (Nat×Sum):=[(85,ac8)]
theorem fc3:A4 prog G kc7:=⟨qc8,trivial⟩
def sb2{α:Type}(kk:jb3->α)(x:Ib1):α:=let t1:=(Ia6 (⟨(⟨x.B1,x.l5,x.A1⟩:V3),x.w9⟩:Pln) (⟨x.Nc4,x.Nc5,x.Nc6,x.Nc7⟩:Pt));(kk ⟨decide (t1>0)⟩)
def Ka7(x:Ib1):jb3:=sb2 (λr=>r) x
def nb1(x:Ib1)(r:jb3):DT (b7×List c7):=.ret (b r.bs0,[bq 0 4 [[i x.B1,i x.l5,i x.A1,i x.w9]]])
def sb3:Sum:=Sa6 ⟨[.agg (kLq 4),sPq 0],[⟨0,4,true,some [kLq 4]⟩],λa H=>(⟨cIq a 0 0,cIq a 0 1,cIq a 0 2,cIq a 0 3,hIq H 0 0 0,hIq H 0 0 1,hIq H 0 0 2,hIq H 0 0 3⟩,())⟩ (λx=>nb1 x (Ka7 x))
theorem kc8:l8 prog G 84 sb3:=K3 (enc:=λx=>⟨[.agg [i x.Nc4,i x.Nc5,i x.Nc6,i x.Nc7],.ptr 0 0 0 0],[bq 0 4 [[i x.B1,i x.l5,i x.A1,i x.w9]]]⟩) (λa H=>by kernel_rfl) (bd b84 fc3) λx=>Fa0 (mEq @sb2 (λr=>(nb1 x r).run) x)
structure Ca1 where
 ob3:List Pt
 (B1 l5 A1 w9:Int)
def cb8:List (Nat×Sum):=[(84,sb3)]
theorem Ub0:A4 prog G cb8:=⟨kc8,trivial⟩
structure S8 where
 ob3:List Pt
 (is7 B1 l5 A1 w9:Int)
def Ra0(p:S8)(s:B8):St:=⟨eL tX p.ob3::.fn 84 [.ptr 0 0 0 0]::ra 5 (i p.is7::i s.is8::ra 10 []),[bq 0 4 [[i p.B1,i p.l5,i p.A1,i p.w9]]]⟩
def Y6{α:Type}(k:B8->α)(e:Nat->α)(z:α)(p:S8)(s:B8):α:=let y0:=(gL tX p.ob3 s.is8.toNat);let t1:=(Ka7 ⟨y0.px,y0.py,y0.pz,y0.pw,p.B1,p.l5,p.A1,p.w9⟩);(sl (decide (s.is8<p.is7)) (sl (inB s.is8 (List.length p.ob3)) (sl t1.bs0 (e 1) (k ⟨W (s.is8+1)⟩)) z) (e 2))
def Q8(p:S8)(s:B8):Stp B8:=Y6 .next .exit .fail p s
def ra7:Lo S8 B8:=⟨En cb8,1,Yf2,[1,0,1,4,4],[0,1,7,8],.p,[⟨sLq tX::.fn 84 [.o (.ptr 0 0 0 0)]::ru2 5 (sIq::sIq::ru2 10 []),[⟨0,4,true,some [kLq 4]⟩],λa H=>(⟨aLq tX a 0,aIq a 7,hIq H 0 0 0,hIq H 0 0 1,hIq H 0 0 2,hIq H 0 0 3⟩,⟨aIq a 8⟩)⟩],Q8,[(none,λp s=>⟨[i s.is8],[bq 0 4 [[i p.B1,i p.l5,i p.A1,i p.w9]]]⟩),(some 0,λp s=>upq (Ra0 p s) [(9,b (decide (s.is8<p.is7)))])],Ra0⟩
theorem Nb8:ra7.Ok:=Lo.okq [] .nil λp s=>(.ofq @Y6)
def Ca3{α:Type}(kk:ta8->α)(x:Ca1):α:=let t1:=(lp (Q8 (⟨rt tX x.ob3,(↑(List.length x.ob3):Int),x.B1,x.l5,x.A1,x.w9⟩:S8)) (⟨0⟩:B8));(sl ((cnE tX x.ob3)&&true) (sl (Nat.beq t1.1 1) (kk ⟨1,t1.2.is8⟩) (sl (Nat.beq t1.1 2) (kk ⟨1,-1⟩) (kk ⟨0,0⟩))) (kk ⟨0,0⟩))
def Ca4(x:Ca1):ta8:=Ca3 (λr=>r) x
def cb9(x:Ca1)(r:ta8):DT (b7×List c7):=(Ma1 r.alt 1 (i r.is0,[bq 0 4 [[i x.B1,i x.l5,i x.A1,i x.w9]]]) .fail)
def fb8:Sum:=Sa6 ⟨[sLq tX,.fn 84 [.o (.ptr 0 0 0 0)]],[⟨0,4,true,some [kLq 4]⟩],λa H=>(⟨aLq tX a 0,hIq H 0 0 0,hIq H 0 0 1,hIq H 0 0 2,hIq H 0 0 3⟩,())⟩ (λx=>cb9 x (Ca4 x))
theorem Xb6:l8 prog G 104 fb8:=K3 (enc:=λx=>⟨[eL tX x.ob3,.fn 84 [.ptr 0 0 0 0]],[bq 0 4 [[i x.B1,i x.l5,i x.A1,i x.w9]]]⟩) (λa H=>by kernel_rfl) (bd Ig2 Ub0) λx=>Q3 (.s .p (.s (.s .p (.b (.u ra7.ls))) .p)) [ra7.pr] (.cons Nb8 .nil) (mEq @Ca3 (λr=>(cb9 x r).run) x)
def Ib6:List (Nat×Sum):=[(104,fb8)]
theorem Eb0:A4 prog G Ib6:=⟨Xb6,trivial⟩
def pa0{α:Type}(kk:la8->α)(x:Ca1):α:=let t1:=(Ca4 ⟨rt tX x.ob3,x.B1,x.l5,x.A1,x.w9⟩);(sl ((cnE tX x.ob3)&&true) (sl (Nat.beq t1.alt 1) (kk ⟨1,decide (t1.is0>=0)⟩) (kk ⟨0,false⟩)) (kk ⟨0,false⟩))
def pa1(x:Ca1):la8:=pa0 (λr=>r) x
def Na0(x:Ca1)(r:la8):DT (b7×List c7):=(Ma1 r.alt 1 (b r.bs0,[bq 0 4 [[i x.B1,i x.l5,i x.A1,i x.w9]]]) .fail)
def Ra1:Sum:=Sa6 ⟨[sLq tX,.fn 84 [.o (.ptr 0 0 0 0)]],[⟨0,4,true,some [kLq 4]⟩],λa H=>(⟨aLq tX a 0,hIq H 0 0 0,hIq H 0 0 1,hIq H 0 0 2,hIq H 0 0 3⟩,())⟩ (λx=>Na0 x (pa1 x))
theorem Ib7:l8 prog G 83 Ra1:=K3 (enc:=λx=>⟨[eL tX x.ob3,.fn 84 [.ptr 0 0 0 0]],[bq 0 4 [[i x.B1,i x.l5,i x.A1,i x.w9]]]⟩) (λa H=>by kernel_rfl) (bd b83 Eb0) λx=>Fa0 (mEq @pa0 (λr=>(Na0 x r).run) x)
structure Ua7 where
 (Nc4 Nc5 Nc6 Nc7:Int)
 n9:List Pt
def Ac5:List (Nat×Sum):=[(83,Ra1)]
theorem rc6:A4 prog G Ac5:=⟨Ib7,trivial⟩
def Ua8{α:Type}(kk:la8->α)(x:Ua7):α:=let t1:=(pa1 ⟨rt tX x.n9,x.Nc4,x.Nc5,x.Nc6,x.Nc7⟩);(sl ((cnE tX x.n9)&&true) (sl (Nat.beq t1.alt 1) (kk ⟨1,!t1.bs0⟩) (kk ⟨0,false⟩)) (kk ⟨0,false⟩))
def ya9(x:Ua7):la8:=Ua8 (λr=>r) x
def wb1(x:Ua7)(r:la8):DT (b7×List c7):=(Ma1 r.alt 1 (b r.bs0,[bq 0 1 [[eL tX x.n9]]]) .fail)
def Eb1:Sum:=Sa6 ⟨[.agg (kLq 4),sPq 0],[⟨0,1,true,some [[.c 4 (nL tX)]]⟩],λa H=>(⟨cIq a 0 0,cIq a 0 1,cIq a 0 2,cIq a 0 3,hLq tX H 0 0 0⟩,())⟩ (λx=>wb1 x (ya9 x))
theorem Ac6:l8 prog G 82 Eb1:=K3 (enc:=λx=>⟨[.agg [i x.Nc4,i x.Nc5,i x.Nc6,i x.Nc7],.ptr 0 0 0 0],[bq 0 1 [[eL tX x.n9]]]⟩) (λa H=>by kernel_rfl) (bd b82 rc6) λx=>Fa0 (mEq @Ua8 (λr=>(wb1 x r).run) x)
structure ua8 where
 g9:PLq
 n9:List Pt
def Ua9:List (Nat×Sum):=[(82,Eb1)]
theorem Nb9:A4 prog G Ua9:=⟨Ac6,trivial⟩
structure C4 where
 is8:Int
 n9:List Pt
def Na1(p:Q6)(s:C4):St:=⟨eL tP p.g9::.fn 82 [.ptr 0 0 0 0]::ra 5 (i p.is7::i s.is8::ra 10 []),[bq 0 1 [[eL tX s.n9]]]⟩
def X0{α:Type}(k:C4->α)(e:Nat->α)(z:α)(p:Q6)(s:C4):α:=let y0:=(gL tP p.g9 s.is8.toNat);let t1:=(ya9 ⟨y0.n.x,y0.n.y,y0.n.z,y0.b,rt tX s.n9⟩);(sl (decide (s.is8<p.is7)) (sl (inB s.is8 (List.length p.g9)) (sl ((cnE tX s.n9)&&true) (sl (Nat.beq t1.alt 1) (sl t1.bs0 (e 1) (k ⟨W (s.is8+1),rt tX s.n9⟩)) z) z) z) (e 2))
def O7(p:Q6)(s:C4):Stp C4:=X0 .next .exit .fail p s
def pa2:Lo Q6 C4:=⟨En Ua9,1,Yf1,[1,0,1,4,4],[0,1,7,8],.p,[⟨sLq tP::.fn 82 [.o (.ptr 0 0 0 0)]::ru2 5 (sIq::sIq::ru2 10 []),[⟨0,1,true,some [[.c 4 (nL tX)]]⟩],λa H=>(⟨aLq tP a 0,aIq a 7⟩,⟨aIq a 8,hLq tX H 0 0 0⟩)⟩],O7,[(none,λp s=>⟨[i s.is8],[bq 0 1 [[eL tX (rt tX s.n9)]]]⟩),(some 0,λp s=>upq (Na1 p s) [(9,b (decide (s.is8<p.is7)))])],Na1⟩
theorem Ib8:pa2.Ok:=Lo.okq [] .nil λp s=>(.ofq @X0)
structure ua9 where
 alt:Nat
 is0:Int
 n9:List Pt
def va0{α:Type}(kk:ua9->α)(x:ua8):α:=let t1:=(lp (O7 (⟨rt tP x.g9,(↑(List.length x.g9):Int)⟩:Q6)) (⟨0,rt tX x.n9⟩:C4));(sl ((cnE tP x.g9)&&((cnE tX x.n9)&&true)) (sl (Nat.beq t1.1 1) (kk ⟨1,t1.2.is8,rt tX t1.2.n9⟩) (sl (Nat.beq t1.1 2) (kk ⟨1,-1,t1.2.n9⟩) (kk ⟨0,0,[]⟩))) (kk ⟨0,0,[]⟩))
def va1(x:ua8):ua9:=va0 (λr=>r) x
def Va0(x:ua8)(r:ua9):DT (b7×List c7):=(Ma1 r.alt 1 (i r.is0,[bq 0 1 [[eL tX r.n9]]]) .fail)
def db0:Sum:=Sa6 ⟨[sLq tP,.fn 82 [.o (.ptr 0 0 0 0)]],[⟨0,1,true,some [[.c 4 (nL tX)]]⟩],λa H=>(⟨aLq tP a 0,hLq tX H 0 0 0⟩,())⟩ (λx=>Va0 x (va1 x))
theorem Ub1:l8 prog G 103 db0:=K3 (enc:=λx=>⟨[eL tP x.g9,.fn 82 [.ptr 0 0 0 0]],[bq 0 1 [[eL tX x.n9]]]⟩) (λa H=>by kernel_rfl) (bd Ig1 Nb9) λx=>Q3 (.s .p (.s (.s .p (.b (.u pa2.ls))) .p)) [pa2.pr] (.cons Ib8 .nil) (mEq @va0 (λr=>(Va0 x r).run) x)
def Eb2:List (Nat×Sum):=[(103,db0)]
theorem zb4:A4 prog G Eb2:=⟨Ub1,trivial⟩
structure na0 where
 alt:Nat
 bs0:Bool
 n9:List Pt
def na1{α:Type}(kk:na0->α)(x:ua8):α:=let t1:=(va1 ⟨rt tP x.g9,rt tX x.n9⟩);(sl ((cnE tP x.g9)&&((cnE tX x.n9)&&true)) (sl (Nat.beq t1.alt 1) (kk ⟨1,decide (t1.is0>=0),t1.n9⟩) (kk ⟨0,false,[]⟩)) (kk ⟨0,false,[]⟩))
def na2(x:ua8):na0:=na1 (λr=>r) x
def Ja0(x:ua8)(r:na0):DT (b7×List c7):=(Ma1 r.alt 1 (b r.bs0,[bq 0 1 [[eL tX r.n9]]]) .fail)
def Na2:Sum:=Sa6 ⟨[sLq tP,.fn 82 [.o (.ptr 0 0 0 0)]],[⟨0,1,true,some [[.c 4 (nL tX)]]⟩],λa H=>(⟨aLq tP a 0,hLq tX H 0 0 0⟩,())⟩ (λx=>Ja0 x (na2 x))
theorem Eb3:l8 prog G 81 Na2:=K3 (enc:=λx=>⟨[eL tP x.g9,.fn 82 [.ptr 0 0 0 0]],[bq 0 1 [[eL tX x.n9]]]⟩) (λa H=>by kernel_rfl) (bd b81 zb4) λx=>Fa0 (mEq @na1 (λr=>(Ja0 x r).run) x)
def Sc4:List (Nat×Sum):=[(80,Qa1),(81,Na2)]
theorem Gc9:A4 prog G Sc4:=⟨rb1,Eb3,trivial⟩
def ra8(x:PLq):ROq:=let t1:=(ga0 (rt tP x));let t2:=(na2 ⟨rt tP x,rt tX t1⟩);(sl (okE tP x) (sl (ga1 (rt tP x)) (sl ((cnE tP x)&&((cnE tX t1)&&true)) (sl (Nat.beq t2.alt 1) (some (b (!t2.bs0),[])) none) none) none) none)
def ra9(x:PLq):Bool:=L9 (one r1B) (ra8 x)
def sa0(x:PLq):Bool:=okO (one r1B) (ra8 x)
def lb9:Sum:=S7 (M3 tP) (λx=>.guard (sa0 x) (.ret ((one r1B).enc (ra9 x),[])))
theorem Lb7:l8 prog G 65 lb9:=Sa7 (bd b65 Gc9) (one r1B) (o:=ra8)
def Md7:List (Nat×Sum):=[(63,Nb7),(64,Qc4),(80,Qa1)]
theorem Bd8:A4 prog G Md7:=⟨fc2,Zc6,rb1,trivial⟩
def fb9(x:PLq):ROq:=let t1:=(Ka4 [rt tP x]);let t2:=(zb1 [rt tP x]);let t3:=(ga0 (rt tP t2));(sl ((okE tP x)&&true) (sl (Ka5 [rt tP x]) (sl (!t1) (some (nlq,[])) (sl ((okE tP x)&&true) (sl (zb2 [rt tP x]) (sl (okE tP t2) (sl (ga1 (rt tP t2)) (some (eL tX t3,[])) none) none) none) none)) none) none)
def Pa2(x:PLq):List Pt:=L9 (one (r1L tX)) (fb9 x)
def Pa3(x:PLq):Bool:=okO (one (r1L tX)) (fb9 x)
def Bb8:Sum:=S7 (M3 tP) (λx=>.guard (Pa3 x) (.ret ((one (r1L tX)).enc (Pa2 x),[])))
theorem Ub2:l8 prog G 106 Bb8:=Sa7 (bd Ig4 Bd8) (one (r1L tX)) (o:=fb9)
def qe8:List (Nat×Sum):=[(63,Nb7),(64,Qc4),(65,lb9)]
theorem Xd3:A4 prog G qe8:=⟨fc2,Zc6,Lb7,trivial⟩
def Eb4(x:PLq):ROq:=let t1:=(Ka4 [rt tP x]);let t2:=(zb1 [rt tP x]);let t3:=(ra9 (rt tP t2));(sl ((okE tP x)&&true) (sl (Ka5 [rt tP x]) (sl t1 (sl ((okE tP x)&&true) (sl (zb2 [rt tP x]) (sl (okE tP t2) (sl (sa0 (rt tP t2)) (some (b t3,[])) none) none) none) none) (some (b false,[]))) none) none)
def Va1(x:PLq):Bool:=L9 (one r1B) (Eb4 x)
def Va2(x:PLq):Bool:=okO (one r1B) (Eb4 x)
def Eb5:Sum:=S7 (M3 tP) (λx=>.guard (Va2 x) (.ret ((one r1B).enc (Va1 x),[])))
theorem sb4:l8 prog G 39 Eb5:=Sa7 (bd b39 Xd3) (one r1B) (o:=Eb4)
def Hc0:List (Nat×Sum):=[(85,ac8)]
theorem Bd9:A4 prog G Hc0:=⟨qc8,trivial⟩
structure Na3 where
 Kf1:List Pt
 is8:Int
 n9:List Pt
 (Ba0 Ba1 Ba2 Ba3:Int)
structure Y7 where
 (is4 is9:Int)
def kc9(p:Na3)(s:Y7):St:=⟨.unk::.unk::.ptr 1 0 0 0::.unk::i s.is4::.unk::.unk::eL tX p.Kf1::i p.is8::i s.is9::ra 12 [],[bq 0 1 [[eL tX p.n9]],bq 0 4 [[i p.Ba0,i p.Ba1,i p.Ba2,i p.Ba3]]]⟩
def Ra2{α:Type}(k:Y7->α)(e:Nat->α)(z:α)(p:Na3)(s:Y7):α:=let t1:=(Ia6 (⟨(⟨p.Ba0,p.Ba1,p.Ba2⟩:V3),p.Ba3⟩:Pln) (gL tX p.Kf1 s.is9.toNat));(sl (decide (s.is9<p.is8)) (sl (inB s.is9 (List.length p.Kf1)) (sl (t1==0) (k ⟨W (s.is4+1),W (s.is9+1)⟩) (k ⟨s.is4,W (s.is9+1)⟩)) z) (e 1))
def Fa9(p:Na3)(s:Y7):Stp Y7:=Ra2 .next .exit .fail p s
def Ib9:Lo Na3 Y7:=⟨En Hc0,1,Yf4,[1,1,0,1,4,4],[2,4,7,8,9],.p,[⟨sUq::sUq::sPq 1::sUq::sIq::sUq::sUq::sLq tX::sIq::sIq::ru2 12 [],[⟨0,1,true,some [[.c 4 (nL tX)]]⟩,⟨0,4,true,some [kLq 4]⟩],λa H=>(⟨aLq tX a 7,aIq a 8,hLq tX H 0 0 0,hIq H 1 0 0,hIq H 1 0 1,hIq H 1 0 2,hIq H 1 0 3⟩,⟨aIq a 4,aIq a 9⟩)⟩],Fa9,[(some 0,λp s=>upq (kc9 p s) [(10,b (decide (s.is9<p.is8)))])],kc9⟩
theorem rd1:Ib9.Ok:=Lo.okq [] .nil λp s=>(.ofq @Ra2)
def fc5{α:Type}(kk:na0->α)(x:Ua7):α:=let y0:=(rt tX x.n9);let t1:=(lp (Fa9 (⟨y0,(↑(List.length x.n9):Int),y0,x.Nc4,x.Nc5,x.Nc6,x.Nc7⟩:Na3)) (⟨0,0⟩:Y7));(sl ((cnE tX x.n9)&&((cnE tX x.n9)&&true)) (sl (Nat.beq t1.1 1) (kk ⟨1,decide (t1.2.is4<3),y0⟩) (kk ⟨0,false,[]⟩)) (kk ⟨0,false,[]⟩))
def Ca5(x:Ua7):na0:=fc5 (λr=>r) x
def Hc1(x:Ua7)(r:na0):DT (b7×List c7):=(Ma1 r.alt 1 (b r.bs0,[bq 0 1 [[eL tX r.n9]]]) .fail)
def fc6:Sum:=Sa6 ⟨[.agg (kLq 4),sPq 0],[⟨0,1,true,some [[.c 4 (nL tX)]]⟩],λa H=>(⟨cIq a 0 0,cIq a 0 1,cIq a 0 2,cIq a 0 3,hLq tX H 0 0 0⟩,())⟩ (λx=>Hc1 x (Ca5 x))
theorem Hc2:l8 prog G 108 fc6:=K3 (enc:=λx=>⟨[.agg [i x.Nc4,i x.Nc5,i x.Nc6,i x.Nc7],.ptr 0 0 0 0],[bq 0 1 [[eL tX x.n9]]]⟩) (λa H=>by kernel_rfl) (bd Ig5 Bd9) λx=>Q3 (.s .p (.s .p (.s (.s .p (.b (.u Ib9.ls))) .p))) [Ib9.pr] (.cons rd1 .nil) (mEq @fc5 (λr=>(Hc1 x r).run) x)
structure va2 where
 ns0:Nat
 eh0:List (List b7)
 I7:List Pt
def Va3:List (Nat×Sum):=[(108,fc6)]
theorem Ob0:A4 prog G Va3:=⟨Hc2,trivial⟩
structure R2 where
 ns0:Nat
 is7:Int
 eh0:List (List b7)
structure C6 where
 is8:Int
 I7:List Pt
def Na4(p:R2)(s:C6):St:=⟨.sl 0 0 p.ns0 0::.fn 108 [.ptr 1 0 0 0]::ra 5 (i p.is7::i s.is8::ra 10 []),[bq 66 4 p.eh0,bq 0 1 [[eL tX s.I7]]]⟩
def X1{α:Type}(k:C6->α)(e:Nat->α)(z:α)(p:R2)(s:C6):α:=let y0:=(rdR tP p.eh0 (0+s.is8.toNat));let t1:=(Ca5 ⟨y0.n.x,y0.n.y,y0.n.z,y0.b,rt tX s.I7⟩);(sl (decide (s.is8<p.is7)) (sl (inB s.is8 p.ns0) (sl (ldR tP p.eh0 (0+s.is8.toNat)) (sl ((cnE tX s.I7)&&true) (sl (Nat.beq t1.alt 1) (sl t1.bs0 (e 1) (k ⟨W (s.is8+1),t1.n9⟩)) z) z) z) z) (e 2))
def O8(p:R2)(s:C6):Stp C6:=X1 .next .exit .fail p s
def pa3:Lo R2 C6:=⟨En Va3,2,Ee4,[1,0,1,4,4],[0,1,7,8],.p,[⟨.s (.o (.sl 0 0 (some 0) none))::.fn 108 [.o (.ptr 1 0 0 0)]::ru2 5 (sIq::sIq::ru2 10 []),[⟨66,4,true,none⟩,⟨0,1,true,some [[.c 4 (nL tX)]]⟩],λa H=>(⟨slN (slT a 0),aIq a 7,elT H 0⟩,⟨aIq a 8,hLq tX H 1 0 0⟩)⟩],O8,[(none,λp s=>let t1:=(Ca5 ⟨(rdR tP p.eh0 (0+s.is8.toNat)).n.x,(rdR tP p.eh0 (0+s.is8.toNat)).n.y,(rdR tP p.eh0 (0+s.is8.toNat)).n.z,(rdR tP p.eh0 (0+s.is8.toNat)).b,rt tX s.I7⟩);⟨[i s.is8],[bq 66 4 p.eh0,bq 0 1 [[eL tX t1.n9]]]⟩),(some 0,λp s=>upq (Na4 p s) [(9,b (decide (s.is8<p.is7)))])],Na4⟩
theorem Jb0:pa3.Ok:=Lo.okq [] .nil λp s=>(.ofq @X1)
structure va3 where
 alt:Nat
 is0:Int
 I7:List Pt
def va4{α:Type}(kk:va3->α)(x:va2):α:=let t1:=(lp (O8 (⟨x.ns0,(↑x.ns0:Int),x.eh0⟩:R2)) (⟨0,rt tX x.I7⟩:C6));let y0:=(rdR tP x.eh0 (0+t1.2.is8.toNat));let t2:=(Ca5 ⟨y0.n.x,y0.n.y,y0.n.z,y0.b,rt tX t1.2.I7⟩);(sl ((cnE tX x.I7)&&true) (sl (Nat.beq t1.1 1) (kk ⟨1,t1.2.is8,t2.n9⟩) (sl (Nat.beq t1.1 2) (kk ⟨1,-1,t1.2.I7⟩) (kk ⟨0,0,[]⟩))) (kk ⟨0,0,[]⟩))
def fa7(x:va2):va3:=va4 (λr=>r) x
def Va4(x:va2)(r:va3):DT (b7×List c7):=(Ma1 r.alt 1 (i r.is0,[bq 66 4 x.eh0,bq 0 1 [[eL tX r.I7]]]) .fail)
def db1:Sum:=Sa6 ⟨[.s (.o (.sl 0 0 (some 0) none)),.fn 108 [.o (.ptr 1 0 0 0)]],[⟨66,4,true,none⟩,⟨0,1,true,some [[.c 4 (nL tX)]]⟩],λa H=>(⟨slN (slT a 0),elT H 0,hLq tX H 1 0 0⟩,())⟩ (λx=>Va4 x (fa7 x))
theorem Ub3:l8 prog G 118 db1:=K3 (enc:=λx=>⟨[.sl 0 0 x.ns0 0,.fn 108 [.ptr 1 0 0 0]],[bq 66 4 x.eh0,bq 0 1 [[eL tX x.I7]]]⟩) (λa H=>by kernel_rfl) (bd Pf6 Ob0) λx=>Q3 (.s .p (.s (.s .p (.b (.u pa3.ls))) .p)) [pa3.pr] (.cons Jb0 .nil) (mEq @va4 (λr=>(Va4 x r).run) x)
def Va5:List (Nat×Sum):=[(118,db1),(108,fc6)]
theorem Ob1:A4 prog G Va5:=⟨Ub3,Hc2,trivial⟩
structure R3 where
 ns0:Nat
structure E0 where
 (is5 is6:Int)
 eh0:List (List b7)
 I7:List Pt
def Na5(p:R3)(s:E0):St:=⟨.sl 0 0 p.ns0 0::.fn 108 [.ptr 1 0 0 0]::ra 3 (i s.is5::i s.is6::ra 35 []),[bq 66 4 s.eh0,bq 0 1 [[eL tX s.I7]]]⟩
def X2{α:Type}(k:E0->α)(e:Nat->α)(z:α)(p:R3)(s:E0):α:=let y0:=(rdR tP s.eh0 (0+s.is6.toNat));let t1:=(Ca5 ⟨y0.n.x,y0.n.y,y0.n.z,y0.b,rt tX s.I7⟩);(sl (decide (s.is6<(↑p.ns0:Int))) (sl (inB s.is6 p.ns0) (sl (ldR tP s.eh0 (0+s.is6.toNat)) (sl ((cnE tX s.I7)&&true) (sl (Nat.beq t1.alt 1) (sl (!t1.bs0) (sl (inB s.is5 p.ns0) (sl ((Nat.blt (0+s.is5.toNat) (len s.eh0))&&(Nat.ble (0+4) (len (c8 s.eh0 (0+s.is5.toNat))))) (k ⟨W (s.is5+1),W (s.is6+1),setAt s.eh0 (0+s.is5.toNat) (Q0 (c8 s.eh0 (0+s.is5.toNat)) 0 [i y0.n.x,i y0.n.y,i y0.n.z,i y0.b]),t1.n9⟩) z) z) (k ⟨s.is5,W (s.is6+1),s.eh0,t1.n9⟩)) z) z) z) z) (e 1))
def J4(p:R3)(s:E0):Stp E0:=X2 .next .exit .fail p s
def pa4:Lo R3 E0:=⟨En Va5,2,Yf3,[1,1,1,0,1,4,4],[0,1,5,6],.p,[⟨.s (.o (.sl 0 0 (some 0) none))::.fn 108 [.o (.ptr 1 0 0 0)]::ru2 3 (sIq::sIq::ru2 35 []),[⟨66,4,true,none⟩,⟨0,1,true,some [[.c 4 (nL tX)]]⟩],λa H=>(⟨slN (slT a 0)⟩,⟨aIq a 5,aIq a 6,elT H 0,hLq tX H 1 0 0⟩)⟩],J4,[(some 0,λp s=>upq (Na5 p s) [(16,i s.is6),(17,.sl 0 0 p.ns0 0),(18,i (↑p.ns0:Int)),(19,b (decide (s.is6<(↑p.ns0:Int))))])],Na5⟩
theorem Jb1:pa4.Ok:=Lo.okq [] .nil λp s=>(.ofq @X2)
structure va6 where
 (alt ns0:Nat)
 eh0:List (List b7)
 I7:List Pt
def va7{α:Type}(kk:va6->α)(x:va2):α:=let t1:=(fa7 ⟨x.ns0,x.eh0,rt tX x.I7⟩);let t2:=(lp (J4 (⟨x.ns0⟩:R3)) (⟨t1.is0,W (t1.is0+1),x.eh0,rt tX t1.I7⟩:E0));(sl ((cnE tX x.I7)&&true) (sl (Nat.beq t1.alt 1) (sl (t1.is0==(-1)) (kk ⟨1,x.ns0,x.eh0,t1.I7⟩) (sl ((cnE tX t1.I7)&&true) (sl (Nat.beq t2.1 1) (sl (inB t2.2.is5 (x.ns0+1)) (sl (inB t2.2.is5 (x.ns0+1)) (kk ⟨1,t2.2.is5.toNat-0,app (J6 t2.2.eh0 (0+t2.2.is5.toNat)) (app (List.replicate (x.ns0-t2.2.is5.toNat) [i 0,i 0,i 0,i 0]) (s9 t2.2.eh0 ((0+t2.2.is5.toNat)+(x.ns0-t2.2.is5.toNat)))),t2.2.I7⟩) (kk ⟨0,0,[],[]⟩)) (kk ⟨0,0,[],[]⟩)) (kk ⟨0,0,[],[]⟩)) (kk ⟨0,0,[],[]⟩))) (kk ⟨0,0,[],[]⟩)) (kk ⟨0,0,[],[]⟩))
def N7(x:va2):va6:=va7 (λr=>r) x
def Va6(x:va2)(r:va6):DT (b7×List c7):=(Ma1 r.alt 1 (.sl 0 0 r.ns0 0,[bq 66 4 r.eh0,bq 0 1 [[eL tX r.I7]]]) .fail)
def va8:Sum:=Sa6 ⟨[.s (.o (.sl 0 0 (some 0) none)),.fn 108 [.o (.ptr 1 0 0 0)]],[⟨66,4,true,none⟩,⟨0,1,true,some [[.c 4 (nL tX)]]⟩],λa H=>(⟨slN (slT a 0),elT H 0,hLq tX H 1 0 0⟩,())⟩ (λx=>Va6 x (N7 x))
theorem Va7:l8 prog G 107 va8:=K3 (enc:=λx=>⟨[.sl 0 0 x.ns0 0,.fn 108 [.ptr 1 0 0 0]],[bq 66 4 x.eh0,bq 0 1 [[eL tX x.I7]]]⟩) (λa H=>by kernel_rfl) (bd yg0 Ob1) λx=>Q3 (.s .p (.s .p (.s .p (.s (.s .p (.b (.u pa4.ls))) .p)))) [pa4.pr] (.cons Jb1 .nil) (mEq @va7 (λr=>(Va6 x r).run) x)
structure Ka8 where
 ns0:Nat
 eh0:List (List b7)
structure K1 where
 (ns0 os4 ns4:Nat)
structure C9 where
 (is3 is5:Int)
 eh0:List (List b7)
def db2(p:K1)(s:C9):St:=⟨.sl 0 0 p.ns0 0::.unk::.unk::i s.is3::.sl 0 p.os4 p.ns4 0::i s.is5::ra 55 [],[bq 66 4 s.eh0]⟩
def ca7{α:Type}(k:C9->α)(e:Nat->α)(z:α)(p:K1)(s:C9):α:=let y2:=(p.os4+s.is5.toNat);let y1:=(rdR tP s.eh0 (p.os4+(W (s.is5-1)).toNat));let y0:=(rdR tP s.eh0 y2);(sl (decide (s.is5<(↑p.ns4:Int))) (sl (inB s.is5 p.ns4) (sl (ldR tP s.eh0 y2) (sl (inB (W (s.is5-1)) p.ns4) (sl (ldR tP s.eh0 (p.os4+(W (s.is5-1)).toNat)) (sl (!((y0.n.x==y1.n.x)&&((y0.n.y==y1.n.y)&&((y0.n.z==y1.n.z)&&((y0.b==y1.b)&&true))))) (sl (inB s.is5 p.ns4) (sl (ldR tP s.eh0 y2) (sl (inB s.is3 p.ns0) (sl ((Nat.blt (0+s.is3.toNat) (len s.eh0))&&(Nat.ble (0+4) (len (c8 s.eh0 (0+s.is3.toNat))))) (k ⟨W (s.is3+1),W (s.is5+1),setAt s.eh0 (0+s.is3.toNat) (Q0 (c8 s.eh0 (0+s.is3.toNat)) 0 [i y0.n.x,i y0.n.y,i y0.n.z,i y0.b])⟩) z) z) z) z) (k ⟨s.is3,W (s.is5+1),s.eh0⟩)) z) z) z) z) (e 1))
def D7(p:K1)(s:C9):Stp C9:=ca7 .next .exit .fail p s
def Ca6:Lo K1 C9:=⟨En tbN,1,zf8,[1,1,0,1,4,4,1,0,4,1,2,1,0,1,4,4],[0,3,4,5],.p,[⟨.s (.o (.sl 0 0 (some 0) none))::sUq::sUq::sIq::.s (.o (.sl 0 0 none none))::sIq::ru2 55 [],[⟨66,4,true,none⟩],λa H=>(⟨slN (slT a 0),slO (slT a 4),slN (slT a 4)⟩,⟨aIq a 3,aIq a 5,elT H 0⟩)⟩],D7,[(some 2,λp s=>upq (db2 p s) [(29,i s.is5),(30,.sl 0 p.os4 p.ns4 0),(31,i (↑p.ns4:Int)),(32,b (decide (s.is5<(↑p.ns4:Int))))])],db2⟩
theorem Xb7:Ca6.Ok:=Lo.okq [] .nil λp s=>(.ofq @ca7)
def db3(p:Ka8)(s:ha5):St:=⟨.sl 0 0 p.ns0 0::.unk::.unk::i s.is3::ra 57 [],[bq 66 4 p.eh0]⟩
def ca8{α:Type}(k:ha5->α)(e:Nat->α)(z:α)(p:Ka8)(s:ha5):α:=let y1:=(rdR tP p.eh0 (0+s.is3.toNat));let y0:=(rdR tP p.eh0 (0+(W (s.is3-1)).toNat));let t1:=(lp (D7 (⟨p.ns0,0+s.is3.toNat,p.ns0-s.is3.toNat⟩:K1)) (⟨s.is3,1,p.eh0⟩:C9));(sl (decide (s.is3<(↑p.ns0:Int))) (sl (inB s.is3 p.ns0) (sl (ldR tP p.eh0 (0+s.is3.toNat)) (sl (inB (W (s.is3-1)) p.ns0) (sl (ldR tP p.eh0 (0+(W (s.is3-1)).toNat)) (sl ((y1.n.x==y0.n.x)&&((y1.n.y==y0.n.y)&&((y1.n.z==y0.n.z)&&((y1.b==y0.b)&&true)))) (sl (inB s.is3 (p.ns0+1)) (sl (Nat.beq t1.1 1) (sl (inB t1.2.is3 (p.ns0+1)) (sl (inB t1.2.is3 (p.ns0+1)) (e 1) z) z) z) z) (k ⟨W (s.is3+1)⟩)) z) z) z) z) (e 2))
def V4(p:Ka8)(s:ha5):Stp ha5:=ca8 .next .exit .fail p s
def Ca7:Lo Ka8 ha5:=⟨En tbN,1,zf8,[1,1,0,1,4,4],[0,3],.s .p (.s (.b (.s .p (.c (.s .p (.s (.s .p (.b (.u Ca6.ls))) .p)) .p))) .p),[⟨.s (.o (.sl 0 0 (some 0) none))::sUq::sUq::sIq::ru2 57 [],[⟨66,4,true,none⟩],λa H=>(⟨slN (slT a 0),elT H 0⟩,⟨aIq a 3⟩)⟩],V4,[(none,λp s=>let t1:=(lp (D7 (⟨p.ns0,0+s.is3.toNat,p.ns0-s.is3.toNat⟩:K1)) (⟨s.is3,1,p.eh0⟩:C9));⟨[.sl 0 0 (t1.2.is3.toNat-0) 0],[bq 66 4 (app (J6 t1.2.eh0 (0+t1.2.is3.toNat)) (app (List.replicate (p.ns0-t1.2.is3.toNat) [i 0,i 0,i 0,i 0]) (s9 t1.2.eh0 ((0+t1.2.is3.toNat)+(p.ns0-t1.2.is3.toNat)))))]⟩),(some 0,λp s=>upq (db3 p s) [(10,i s.is3),(11,.sl 0 0 p.ns0 0),(12,i (↑p.ns0:Int)),(13,b (decide (s.is3<(↑p.ns0:Int))))])],db3⟩
theorem Xb8:Ca7.Ok:=Lo.okq [Ca6.pr] (.cons Xb7 .nil) λp s=>(.ofq @ca8)
def La0{α:Type}(kk:Qa2->α)(x:Ka8):α:=let t1:=(lp (V4 (⟨x.ns0,x.eh0⟩:Ka8)) (⟨1⟩:ha5));let t2:=(lp (D7 (⟨x.ns0,0+t1.2.is3.toNat,x.ns0-t1.2.is3.toNat⟩:K1)) (⟨t1.2.is3,1,x.eh0⟩:C9));(sl (decide ((↑x.ns0:Int)<2)) (kk ⟨1,x.ns0,x.eh0⟩) (sl (Nat.beq t1.1 1) (kk ⟨1,t2.2.is3.toNat-0,app (J6 t2.2.eh0 (0+t2.2.is3.toNat)) (app (List.replicate (x.ns0-t2.2.is3.toNat) [i 0,i 0,i 0,i 0]) (s9 t2.2.eh0 ((0+t2.2.is3.toNat)+(x.ns0-t2.2.is3.toNat))))⟩) (sl (Nat.beq t1.1 2) (kk ⟨1,x.ns0,x.eh0⟩) (kk ⟨0,0,[]⟩))))
def ca9(x:Ka8):Qa2:=La0 (λr=>r) x
def nb2(x:Ka8)(r:Qa2):DT (b7×List c7):=(Ma1 r.alt 1 (.sl 0 0 r.ns0 0,[bq 66 4 r.eh0]) .fail)
def La1:Sum:=Sa6 ⟨[.s (.o (.sl 0 0 (some 0) none))],[⟨66,4,true,none⟩],λa H=>(⟨slN (slT a 0),elT H 0⟩,())⟩ (λx=>nb2 x (ca9 x))
theorem nb3:l8 prog G 111 La1:=K3 (enc:=λx=>⟨[.sl 0 0 x.ns0 0],[bq 66 4 x.eh0]⟩) (λa H=>by kernel_rfl) (bd yg1 ya0) λx=>Q3 (.s .p (.s .p (.s (.s .p (.b (.u Ca7.ls))) .p))) [Ca7.pr] (.cons Xb8 .nil) (mEq @La0 (λr=>(nb2 x r).run) x)
def gb1(x:Int)(y:Int):ROq:=(sl (decide (x<y)) (some (i (-1),[])) (sl (decide (x>y)) (some (i 1,[])) (some (i 0,[]))))
def Ca8(x:Int)(y:Int):Int:=L9 (one r1I) (gb1 x y)
def Ca9(x:Int)(y:Int):Bool:=okO (one r1I) (gb1 x y)
def Vc7:Sum:=Z7 cI cI (λx y=>.guard (Ca9 x y) (.ret ((one r1I).enc (Ca8 x y),[])))
theorem Md8:l8 prog G 132 Vc7:=Sb2 (bd Kg7 ya0) (one r1I) (o:=gb1)
def rd2:List (Nat×Sum):=[(132,Vc7)]
theorem hd7:A4 prog G rd2:=⟨Md8,trivial⟩
def Na6(x:Pln)(y:Pln):ROq:=let t1:=(Ca8 x.n.x y.n.x);let t2:=(Ca8 x.n.y y.n.y);let t3:=(Ca8 x.n.z y.n.z);let t4:=(Ca8 x.b y.b);(sl (Ca9 x.n.x y.n.x) (sl (t1==0) (sl (Ca9 x.n.y y.n.y) (sl (t2==0) (sl (Ca9 x.n.z y.n.z) (sl (t3==0) (sl (Ca9 x.b y.b) (sl (t4==0) (some (i t4,[])) (some (i t4,[]))) none) (some (i t3,[]))) none) (some (i t2,[]))) none) (some (i t1,[]))) none)
def jb6(x:Pln)(y:Pln):Int:=L9 (one r1I) (Na6 x y)
def jb7(x:Pln)(y:Pln):Bool:=okO (one r1I) (Na6 x y)
def Jb2:Sum:=Z7 (na7 tP) (na7 tP) (λx y=>.guard (jb7 x y) (.ret ((one r1I).enc (jb6 x y),[])))
theorem rd3:l8 prog G 110 Jb2:=Sb2 (bd Ig7 hd7) (one r1I) (o:=Na6)
def Xd4:List (Nat×Sum):=[(63,Nb7),(64,Qc4),(65,lb9)]
theorem Md9:A4 prog G Xd4:=⟨fc2,Zc6,Lb7,trivial⟩
def sb5(x:PLq)(y:PLq):ROq:=let y0:=((okE tP x)&&((okE tP y)&&true));let t1:=(Ka4 [rt tP x,rt tP y]);let t2:=(zb1 [rt tP x,rt tP y]);let t3:=(ra9 (rt tP t2));(sl y0 (sl (Ka5 [rt tP x,rt tP y]) (sl (!t1) (some (b true,[])) (sl y0 (sl (zb2 [rt tP x,rt tP y]) (sl (okE tP t2) (sl (sa0 (rt tP t2)) (some (b (!t3),[])) none) none) none) none)) none) none)
def Ob2(x:PLq)(y:PLq):Bool:=L9 (one r1B) (sb5 x y)
def Ob3(x:PLq)(y:PLq):Bool:=okO (one r1B) (sb5 x y)
def hd8:Sum:=Z7 (M3 tP) (M3 tP) (λx y=>.guard (Ob3 x y) (.ret ((one r1B).enc (Ob2 x y),[])))
theorem Vc8:l8 prog G 28 hd8:=Sb2 (bd b28 Md9) (one r1B) (o:=sb5)
structure rc7 where
 (w9 Ba4 Ba5 Ba6 Ba7 Ba8:Int)
def Ub4{α:Type}(kk:rc7->α)(x:V3)(y:V3):α:=(kk ⟨y.x,W (0-x.x),y.y,W (0-x.y),y.z,W (0-x.z)⟩)
def Z8(x:V3)(y:V3):rc7:=Ub4 (λr=>r) x y
def Hc3(r:rc7):DT (b7×List c7):=.ret (.sl 0 0 6 0,[bq 66 4 [[i 1,i 0,i 0,i r.w9],[i (-1),i 0,i 0,i r.Ba4],[i 0,i 1,i 0,i r.Ba5],[i 0,i (-1),i 0,i r.Ba6],[i 0,i 0,i 1,i r.Ba7],[i 0,i 0,i (-1),i r.Ba8]]])
theorem Te9{α β:Type}(F:α->β)(kk:rc7->α)(x:V3)(y:V3):F (Ub4 kk x y)=Ub4 (λr=>F (kk r)) x y:=by unfold Ub4;(repeat' apply uf6 (f:=F))<;>rfl
def zb5:Sum:=Z7 (na7 tV) (na7 tV) (λx y=>Hc3 (Z8 x y))
theorem Eb6:l8 prog G 36 zb5:=ne9 (bd b36 ya0) λx y=>Fa0 (Eq.trans (b:=Ub4 (λr=>(Hc3 r).run) x y) (by kernel_rfl) (Te9 (λr=>(Hc3 r).run) (λr=>r) x y).symm)
end Go.Ev.Ce
namespace Go.Proofs
open Go.Shelf
set_option maxRecDepth 100000 in
def Ce.sortLay_ren:Go.Shelf.Ren:=⟨fun | 6=>109 | 15=>131 | 14=>130 | 28=>152 | 29=>153 | 20=>144 | 21=>145 | 22=>146 | 23=>147 | 24=>148 | 25=>149 | 26=>150 | 27=>151 | 46=>155 | 47=>156 | 48=>157 | 49=>158 | 50=>159 | 57=>160 | n=>n,fun | 22=>35 | 24=>66 | 25=>136 | 3=>3 | 39=>154 | 0=>0 | 53=>166 | 55=>168 | 4=>4 | 46=>159 | 45=>158 | 50=>163 | 5=>5 | 9=>9 | 66=>170 | 70=>174 | 76=>176 | 77=>177 | n=>n,fun | n=>n⟩
set_option maxRecDepth 100000 in
theorem Ce.sortLay:Go.Proofs.SlLaysF0.n6 Tryz.prog Ce.sortLay_ren:={
 mixed:=by kernel_rfl
 f6:=⟨Tryz.f109.name,by decide,Tryz.func109.trans (congrArg some (by kernel_rfl))⟩
 f14:=⟨Tryz.f130.name,by decide,Tryz.func130.trans (congrArg some (by kernel_rfl))⟩
 f15:=Tryz.func131.trans (congrArg some (by kernel_rfl))
 f20:=⟨Tryz.f144.name,by decide,Tryz.func144.trans (congrArg some (by kernel_rfl))⟩
 f21:=⟨Tryz.f145.name,by decide,Tryz.func145.trans (congrArg some (by kernel_rfl))⟩
 f22:=⟨Tryz.f146.name,by decide,Tryz.func146.trans (congrArg some (by kernel_rfl))⟩
 f23:=⟨Tryz.f147.name,by decide,Tryz.func147.trans (congrArg some (by kernel_rfl))⟩
 f24:=⟨Tryz.f148.name,by decide,Tryz.func148.trans (congrArg some (by kernel_rfl))⟩
 f25:=⟨Tryz.f149.name,by decide,Tryz.func149.trans (congrArg some (by kernel_rfl))⟩
 f26:=⟨Tryz.f150.name,by decide,Tryz.func150.trans (congrArg some (by kernel_rfl))⟩
 f27:=⟨Tryz.f151.name,by decide,Tryz.func151.trans (congrArg some (by kernel_rfl))⟩
 f28:=Tryz.func152.trans (congrArg some (by kernel_rfl))
 f29:=Tryz.func153.trans (congrArg some (by kernel_rfl))
 f46:=⟨Tryz.f155.name,by decide,Tryz.func155.trans (congrArg some (by kernel_rfl))⟩
 f47:=Tryz.func156.trans (congrArg some (by kernel_rfl))
 f48:=Tryz.func157.trans (congrArg some (by kernel_rfl))
 f49:=⟨Tryz.f158.name,by decide,Tryz.func158.trans (congrArg some (by kernel_rfl))⟩
 f50:=⟨Tryz.f159.name,by decide,Tryz.func159.trans (congrArg some (by kernel_rfl))⟩
 f57:=⟨Tryz.f160.name,by decide,Tryz.func160.trans (congrArg some (by kernel_rfl))⟩
 t0:=Tryz.underlying0
 a0:=Tryz.isAgg0
 z0:=Tryz.sizeOf0
 v0:=Tryz.zeroValue0
 t3:=Tryz.underlying3
 a3:=Tryz.isAgg3
 z3:=Tryz.sizeOf3
 v3:=Tryz.zeroValue3
 t4:=Tryz.underlying4
 a4:=Tryz.isAgg4
 z4:=Tryz.sizeOf4
 v4:=Tryz.zeroValue4
 t5:=Tryz.underlying5
 a5:=Tryz.isAgg5
 z5:=Tryz.sizeOf5
 v5:=Tryz.zeroValue5
 t9:=Tryz.underlying9
 a9:=Tryz.isAgg9
 z9:=Tryz.sizeOf9
 v9:=Tryz.zeroValue9
 t22:=Tryz.underlying35
 a22:=Tryz.isAgg35
 z22:=Tryz.sizeOf35
 v22:=Tryz.zeroValue35
 t25:=Tryz.underlying136
 a25:=Tryz.isAgg136
 z25:=Tryz.sizeOf136
 v25:=Tryz.zeroValue136
 t39:=Tryz.underlying154
 a39:=Tryz.isAgg154
 z39:=Tryz.sizeOf154
 v39:=Tryz.zeroValue154
 t45:=Tryz.underlying158
 a45:=Tryz.isAgg158
 z45:=Tryz.sizeOf158
 v45:=Tryz.zeroValue158
 t46:=Tryz.underlying159
 a46:=Tryz.isAgg159
 z46:=Tryz.sizeOf159
 v46:=Tryz.zeroValue159
 t50:=Tryz.underlying163
 a50:=Tryz.isAgg163
 z50:=Tryz.sizeOf163
 v50:=Tryz.zeroValue163
 t53:=Tryz.underlying166
 a53:=Tryz.isAgg166
 z53:=Tryz.sizeOf166
 v53:=Tryz.zeroValue166
 t55:=Tryz.underlying168
 a55:=Tryz.isAgg168
 z55:=Tryz.sizeOf168
 v55:=Tryz.zeroValue168
 t66:=Tryz.underlying170
 a66:=Tryz.isAgg170
 z66:=Tryz.sizeOf170
 v66:=Tryz.zeroValue170
 t70:=Tryz.underlying174
 a70:=Tryz.isAgg174
 z70:=Tryz.sizeOf174
 v70:=Tryz.zeroValue174
 t76:=Tryz.underlying176
 a76:=Tryz.isAgg176
 z76:=Tryz.sizeOf176
 v76:=Tryz.zeroValue176
 t77:=Tryz.underlying177
 a77:=Tryz.isAgg177
 z77:=Tryz.sizeOf177
 v77:=Tryz.zeroValue177 }
end Go.Proofs
namespace Go.Ev.Ce
open Go Go.Ev Go.Ev.L Go.Proofs Go.Sort
def Ub5(x y:Int):Int:=if x<y then -1 else if x>y then 1 else 0
def va9(x y:Pln):Int :=
 if Ub5 x.n.x y.n.x=0 then if Ub5 x.n.y y.n.y=0 then if Ub5 x.n.z y.n.z=0 then Ub5 x.b y.b else Ub5 x.n.z y.n.z else Ub5 x.n.y y.n.y else Ub5 x.n.x y.n.x
theorem Fd1(x y:Int):Ub5 x y<0↔x<y:=by unfold Ub5;split<;>(try split)<;>omega
theorem qe9(x y:Int):Ub5 x y=0↔x=y:=by unfold Ub5;split<;>(try split)<;>omega
def LtP(x y:Pln):Prop:=x.n.x<y.n.x\/x.n.x=y.n.x/\(x.n.y<y.n.y\/x.n.y=y.n.y/\(x.n.z<y.n.z\/x.n.z=y.n.z/\x.b<y.b))
instance(x y:Pln):Decidable (LtP x y):=by unfold LtP;exact inferInstance
theorem re0(x y:Pln):va9 x y<0↔LtP x y:=by
 have h1:=Fd1 x.n.x y.n.x;have h2:=qe9 x.n.x y.n.x;have h3:=Fd1 x.n.y y.n.y;have h4:=qe9 x.n.y y.n.y;have h5:=Fd1 x.n.z y.n.z;have h6:=qe9 x.n.z y.n.z;have h7:=Fd1 x.b y.b;unfold va9 LtP;split
 ·split
  ·split<;>omega
  ·omega
 ·omega
theorem zb6(x y:Pln):ltOf va9 x y=decide (LtP x y):=by
 unfold ltOf;rw[decide_eq_decide];exact re0 x y
theorem yg5:SWO (ltOf va9) where
 irrefl x:=by rw[zb6];simp[LtP]
 trans x y z h1 h2:=by rw[zb6,decide_eq_true_eq] at *;unfold LtP at *;omega
 ntrans x y z h1 h2:=by rw[zb6,decide_eq_false_iff_not] at *;unfold LtP at *;omega
theorem Mg4(x y:Pln)(h1:ltOf va9 x y=false)(h2:ltOf va9 y x=false):x=y:=by
 rw[zb6,decide_eq_false_iff_not] at *
 unfold LtP at *
 obtain⟨⟨a,b,c⟩,d⟩:=x;obtain⟨⟨a',b',c'⟩,d'⟩:=y
 simp only at *
 have:a=a'/\b=b'/\c=c'/\d=d':=by omega
 obtain⟨rfl,rfl,rfl,rfl⟩:=this;rfl
theorem Fe5(x y:Int):gb1 x y=some (i (Ub5 x y),[]):=by
 unfold gb1 Ub5;simp only[Rb8,decide_eq_true_eq]
 split<;>(try split)<;>rfl
theorem Pf7(x y:Int):Ca8 x y=Ub5 x y:=by unfold Ca8;rw[Fe5];rfl
theorem Pf8(x y:Int):Ca9 x y=true:=by unfold Ca9;rw[Fe5];rfl
theorem Nd0(x y:Pln):Na6 x y=some (i (va9 x y),[]):=by
 unfold Na6 va9;simp only[Pf7,Pf8,Rb8,beq_iff_eq,if_true]
 repeat' (first | rfl | split)
theorem yg6(x y:Pln):jb6 x y=va9 x y:=by unfold jb6;rw[Nd0];rfl
theorem yg7(x y:Pln):jb7 x y=true:=by unfold jb7;rw[Nd0];rfl
theorem yg8(x y:Pln):(Jb2 [.agg (tP.row x),.agg (tP.row y)] []).run=some (i (va9 x y),[]):=by
 have:(Jb2 [.agg (tP.row x),.agg (tP.row y)] []).run=sel (jb7 x y) (some (i (jb6 x y),[])) none:=by kernel_rfl
 rw[this,yg7,yg6]
def pd7(p:Pln):List Value:=[.int .i64 p.n.x,.int .i64 p.n.y,.int .i64 p.n.z,.int .i64 p.b]
instance:Inhabited Pln:=⟨⟨⟨0,0,0⟩,0⟩⟩
def nb4(l:PLq):PLq:=l.mergeSort λx y=>!ltOf va9 y x
theorem Qc5(l:PLq):(nb4 l).length=l.length:=List.length_mergeSort l
def Ga0:Sum:=vf6 tP 110 66 nb4
theorem Af2:Ce.sortLay_ren.f 6=109:=by kernel_rfl
theorem ge5:Ce.sortLay_ren.t 24=66:=by kernel_rfl
set_option maxRecDepth 100000 in
theorem gb2:l8 prog G 109 Ga0:=by
 refine Mf9 (enc:=pd7) (cf:=va9) ⟨_,Tryz.func109,by kernel_rfl,of_decide_eq_true (by kernel_rfl)⟩ (by decide) (λ_=>rfl) (λr h=>yb0 (n:=4) h) (λx v hv=>?_) Qc5
  (λblk off size w=>Mf8 rd3 yg8 (λ_=>rfl) (λ_=>rfl) _ _ _ _ _) (λblk cap d w hcl hH hb hs=>?_)
 ·simp[pd7] at hv
  rcases hv with rfl|rfl|rfl|rfl<;>rfl
 ·have eg:∀args w,(callFunc 110 args).run Tryz.prog w=.ok (.enter 110 args) w:=enters_of Tryz.func110 (by kernel_rfl) rfl
  have:=AnyQ.slices_SortFunc Ce.sortLay 4 (by rw[ge5];exact Tryz.isAgg66) (by rw[ge5];exact Tryz.sizeOf66) pd7 (λ_=>rfl) (λx v hv=>by simp[pd7] at hv;rcases hv with rfl | rfl | rfl | rfl<;>rfl) va9 yg5 110 #[] blk 0 cap d w eg (hcl 0 d.size) hH hb hs
  rw[Af2] at this;refine this.mono λe w' ⟨h1,d',n,os,h2,h3,h4⟩=>⟨h1,n,os,?_⟩
  have h5:=sorted_unique_holds yg5 Mg4 d d' h2 h3;rw[h4];show _=sortWorldK pd7 4 w blk 0 n (d.toList.mergeSort λx y=>!ltOf va9 y x).toArray os
  rw[<- h5]
end Go.Ev.Ce
namespace Go.Ev.Ce
open Go Go.Ev Go.Ev.L Go.Proofs
set_option maxRecDepth 100000
structure Jb3 where
 is1:Int
 Bb1:List Int
 l5:Int
def rd4:List (Nat×Sum):=[(34,Qb2)]
theorem hd9:A4 prog G rd4:=⟨Tb3,trivial⟩
structure Jb4 where
 alt:Nat
 (is0 l5:Int)
def Jb5{α:Type}(kk:Jb4->α)(x:Jb3):α:=let y0:=(W ((W (x.l5+1))-1));let t1:=(B4 (gL tI x.Bb1 y0.toNat) x.is1);(sl (decide (x.l5>=(↑(List.length x.Bb1):Int))) (kk ⟨1,0,x.l5⟩) (sl (inB y0 (List.length x.Bb1)) (sl (F4 (gL tI x.Bb1 y0.toNat) x.is1) (kk ⟨1,t1,W (x.l5+1)⟩) (kk ⟨0,0,0⟩)) (kk ⟨0,0,0⟩)))
def g8(x:Jb3):Jb4:=Jb5 (λr=>r) x
def lc0(x:Jb3)(r:Jb4):DT (b7×List c7):=(Ma1 r.alt 1 (i r.is0,[bq 0 2 [[eL tI x.Bb1,i r.l5]]]) .fail)
def Jb6:Sum:=Sa6 ⟨[sPq 0,sIq],[⟨0,2,true,some [[.c 1 (nL tI),.o (.int .i64)]]⟩],λa H=>(⟨aIq a 1,hLq tI H 0 0 0,hIq H 0 0 1⟩,())⟩ (λx=>lc0 x (g8 x))
theorem lc1:l8 prog G 43 Jb6:=K3 (enc:=λx=>⟨[.ptr 0 0 0 0,i x.is1],[bq 0 2 [[eL tI x.Bb1,i x.l5]]]⟩) (λa H=>by kernel_rfl) (bd b43 hd9) λx=>Fa0 (mEq @Jb5 (λr=>(lc0 x r).run) x)
def rd5(x:V3)(y:V3):V3:=(⟨W (x.x-y.x),W (x.y-y.y),W (x.z-y.z)⟩:V3)
def ge6:Sum:=Z7 (na7 tV) (na7 tV) (λx y=>.ret ((one r1V).enc (rd5 x y),[]))
theorem Ue0:l8 prog G 89 ge6:=wc8 (bd b89 ya0)
def Fe6:List (Nat×Sum):=[(89,ge6)]
theorem re1:A4 prog G Fe6:=⟨Ue0,trivial⟩
def Va8(x:Pln):Pln:=let t1:=(rd5 (⟨0,0,0⟩:V3) x.n);(⟨t1,W (0-x.b)⟩:Pln)
def rc8:Sum:=S7 (na7 tP) (λx=>.ret ((one r1P).enc (Va8 x),[]))
theorem Hc4:l8 prog G 67 rc8:=Af1 (bd b67 re1)
structure Na7 where
 (B1 l5 A1 w9 Ba0 Ba1 Ba2 Ba3:Int)
structure Y8 where
 is7:Int
def lc2(p:Na7)(s:Y8):St:=⟨ra 5 (.ptr 0 0 0 0::.ptr 1 0 0 0::i s.is7::ra 42 []),[bq 0 4 [[i p.B1,i p.l5,i p.A1,i p.w9]],bq 0 4 [[i p.Ba0,i p.Ba1,i p.Ba2,i p.Ba3]]]⟩
def la0{α:Type}(k:Y8->α)(e:Nat->α)(z:α)(p:Na7)(s:Y8):α:=let y2:=(Nat.ble ((0+(s.is7.toNat*1))+1) 4);let y1:=(s9 [i p.Ba0,i p.Ba1,i p.Ba2,i p.Ba3] (0+(s.is7.toNat*1)));let y4:=(y2&&(ka1 [CK.int .i64] y1));let y0:=(s9 [i p.B1,i p.l5,i p.A1,i p.w9] (0+(s.is7.toNat*1)));let y3:=(y2&&(ka1 [CK.int .i64] y0));(sl (decide (s.is7<4)) (sl (inB s.is7 4) (sl y3 (sl (inB s.is7 4) (sl y4 (sl (decide ((toI (hdA y0))<(toI (hdA y1)))) (e 1) (sl (inB s.is7 4) (sl y3 (sl (inB s.is7 4) (sl y4 (sl (decide ((toI (hdA y0))>(toI (hdA y1)))) (e 2) (k ⟨W (s.is7+1)⟩)) z) z) z) z)) z) z) z) z) (e 3))
def P6(p:Na7)(s:Y8):Stp Y8:=la0 .next .exit .fail p s
abbrev Ub6:B2:=⟨0,4,true,some [[.o (.int .i64),.o (.int .i64),.o (.int .i64),.o (.int .i64)]]⟩
def Jb7:Lo Na7 Y8:=⟨En tbN,0,Zf7,[1,1,1,0,1,4,4],[5,6,7],.p,[⟨ru2 5 (sPq 0::sPq 1::sIq::ru2 42 []),[Ub6,Ub6],λa H=>(⟨hIq H 0 0 0,hIq H 0 0 1,hIq H 0 0 2,hIq H 0 0 3,hIq H 1 0 0,hIq H 1 0 1,hIq H 1 0 2,hIq H 1 0 3⟩,⟨aIq a 7⟩)⟩],P6,[(none,λp s=>⟨[i (-1)],[]⟩),(none,λp s=>⟨[i 1],[]⟩),(some 0,λp s=>upq (lc2 p s) [(32,i s.is7),(33,b (decide (s.is7<4)))])],lc2⟩
theorem rd6:Jb7.Ok:=Lo.okq [] .nil λp s=>(.ofq @la0)
def Da0(x:Pln)(y:Pln):ROq:=let t1:=(lp (P6 (⟨x.n.x,x.n.y,x.n.z,x.b,y.n.x,y.n.y,y.n.z,y.b⟩:Na7)) (⟨0⟩:Y8));(sl (Nat.beq t1.1 1) (some (i (-1),[])) (sl (Nat.beq t1.1 2) (some (i 1,[])) (sl (Nat.beq t1.1 3) (some (i 0,[])) none)))
def gb3(x:Pln)(y:Pln):Int:=L9 (one r1I) (Da0 x y)
def fc7(x:Pln)(y:Pln):Bool:=okO (one r1I) (Da0 x y)
def Vc9:Sum:=Z7 (na7 tP) (na7 tP) (λx y=>.guard (fc7 x y) (.ret ((one r1I).enc (gb3 x y),[])))
theorem Nd1:l8 prog G 142 Vc9:=dc7 (bd Lg6 ya0) (one r1I) (o:=Da0) λx y=>Q3 (.s .p (.s .p (.s .p (.s (.s .p (.b (.u Jb7.ls))) .p)))) [Jb7.pr] (.cons rd6 .nil)
def Ue1:List (Nat×Sum):=[(34,Qb2)]
theorem Fe7:A4 prog G Ue1:=⟨Tb3,trivial⟩
def lc3(x:Pln)(y:V3):ROq:=let t1:=(B4 y.z 9);let y0:=(c8 [[i y.y],[i 0],[i 4608],[i 4609],[i (-4609)],[i (W (2*x.n.x))],[i 2097152],[i 2097153],[i (-2097152)]] (0+t1.toNat));let y1:=(i (toI (hdA y0)));let t2:=(B4 y.x 5);(sl (F4 y.z 9) (sl (inB t1 9) (sl ((Nat.ble 1 (len y0))&&(ka1 [CK.int .i64] y0)) (sl (F4 y.x 5) (sl (t2==0) (some (.agg [y1,i x.n.y,i x.n.z,i x.b],[])) (sl (t2==1) (some (.agg [i x.n.x,y1,i x.n.z,i x.b],[])) (sl (t2==2) (some (.agg [i x.n.x,i x.n.y,y1,i x.b],[])) (sl (t2==3) (some (.agg [i x.n.x,i x.n.y,i x.n.z,y1],[])) (sl (t2==4) (some (.agg [i (W (2*x.n.x)),i (W (2*x.n.y)),i (W (2*x.n.z)),i x.b],[])) (some (.agg [i x.n.x,i x.n.y,i x.n.z,i x.b],[]))))))) none) none) none) none)
def ge7(x:Pln)(y:V3):Pln:=L9 (one r1P) (lc3 x y)
def rd7(x:Pln)(y:V3):Bool:=okO (one r1P) (lc3 x y)
def ge8:Sum:=Z7 (na7 tP) (na7 tV) (λx y=>.guard (rd7 x y) (.ret ((one r1P).enc (ge7 x y),[])))
theorem Ue2:l8 prog G 68 ge8:=Sb2 (bd b68 Fe7) (one r1P) (o:=lc3)
structure sb6 where
 (g9 T7:PLq)
def Wc0(p:sb6)(s:Ja9):St:=⟨eL tP p.g9::eL tP p.T7::ra 3 (i s.is5::ra 20 []),[]⟩
def sb7{α:Type}(k:Ja9->α)(e:Nat->α)(z:α)(p:sb6)(s:Ja9):α:=let y1:=(gL tP p.T7 s.is5.toNat);let y0:=(gL tP p.g9 s.is5.toNat);(sl (decide (s.is5<(↑(List.length p.g9):Int))) (sl (inB s.is5 (List.length p.g9)) (sl (inB s.is5 (List.length p.T7)) (sl (!((y0.n.x==y1.n.x)&&((y0.n.y==y1.n.y)&&((y0.n.z==y1.n.z)&&((y0.b==y1.b)&&true))))) (e 1) (k ⟨W (s.is5+1)⟩)) z) z) (e 2))
def gb4(p:sb6)(s:Ja9):Stp Ja9:=sb7 .next .exit .fail p s
def rc9:Lo sb6 Ja9:=⟨En tbN,0,ig1,[1,1,0,1,4,4],[0,1,5],.p,[⟨sLq tP::sLq tP::ru2 3 (sIq::ru2 20 []),[],λa H=>(⟨aLq tP a 0,aLq tP a 1⟩,⟨aIq a 5⟩)⟩],gb4,[(none,λp s=>⟨[b false],[]⟩),(some 0,λp s=>upq (Wc0 p s) [(11,i s.is5),(12,eL tP p.g9),(13,i (↑(List.length p.g9):Int)),(14,b (decide (s.is5<(↑(List.length p.g9):Int))))])],Wc0⟩
theorem Xd5:rc9.Ok:=Lo.okq [] .nil λp s=>(.ofq @sb7)
def Ub7(x:PLq)(y:PLq):ROq:=let t1:=(lp (gb4 (⟨rt tP x,rt tP y⟩:sb6)) (⟨0⟩:Ja9));(sl ((↑(List.length x):Int) != (↑(List.length y):Int)) (some (b false,[])) (sl ((cnE tP x)&&((cnE tP y)&&true)) (sl (Nat.beq t1.1 1) (some (b false,[])) (sl (Nat.beq t1.1 2) (some (b true,[])) none)) none))
def sc0(x:PLq)(y:PLq):Bool:=L9 (one r1B) (Ub7 x y)
def sc1(x:PLq)(y:PLq):Bool:=okO (one r1B) (Ub7 x y)
def Nd2:Sum:=Z7 (M3 tP) (M3 tP) (λx y=>.guard (sc1 x y) (.ret ((one r1B).enc (sc0 x y),[])))
theorem Fe8:l8 prog G 59 Nd2:=dc7 (bd b59 ya0) (one r1B) (o:=Ub7) λx y=>Q3 (.s .p (.s .p (.s (.s .p (.b (.u rc9.ls))) .p))) [rc9.pr] (.cons Xd5 .nil)
def Nd3:List (Nat×Sum):=[(34,Qb2),(68,ge8),(67,rc8)]
theorem Fe9:A4 prog G Nd3:=⟨Tb3,Ue2,Hc4,trivial⟩
structure Eb7 where
 is6:Int
structure Ja1 where
 ns5:Nat
 eh0:List (List b7)
def id3(p:Eb7)(s:Ja1):St:=⟨ra 5 (.sl 0 0 s.ns5 0::i p.is6::ra 91 []),[bq 66 4 s.eh0]⟩
def fc8{α:Type}(k:Ja1->α)(e:Nat->α)(z:α)(p:Eb7)(s:Ja1):α:=let y0:=(rdR tP s.eh0 (0+p.is6.toNat));(sl (decide ((↑s.ns5:Int)<=48)) (sl (inB p.is6 s.ns5) (sl (ldR tP s.eh0 (0+p.is6.toNat)) (sl (Nat.beq s.ns5 (len s.eh0)&&Nat.ble ((s.ns5+1)*32) room) (k ⟨s.ns5+1,app s.eh0 [[i y0.n.x,i y0.n.y,i y0.n.z,i y0.b]]⟩) z) z) z) (e 1))
def sb8(p:Eb7)(s:Ja1):Stp Ja1:=fc8 .next .exit .fail p s
def Hc5:Lo Eb7 Ja1:=⟨En Nd3,0,tg6,[1,1,1,1,0,1,4,1,3,1,3,1,3,1,3,1,3,1,2,4,4],[5,6],.p,[⟨ru2 5 (.s (.o (.sl 0 0 (some 0) none))::sIq::ru2 91 []),[⟨66,4,true,none⟩],λa H=>(⟨aIq a 6⟩,⟨slN (slT a 5),elT H 0⟩)⟩],sb8,[(some 1,λp s=>upq (id3 p s) [(87,.sl 0 0 s.ns5 0),(88,i (↑s.ns5:Int)),(89,b (decide ((↑s.ns5:Int)<=48)))])],id3⟩
theorem re2:Hc5.Ok:=Lo.okq [] .nil λp s=>(.ofq @fc8)
def lc4(x:PLq)(y:V3):ROq:=let t2:=(B4 y.x 6);let t5:=(B4 y.z 9);let a0:=(s5 (λk=>(tP).row (gL tP x k)) (List.range (List.length x)));let y4:=(↑(0+(len a0)):Int);let y2:=((0+(len a0))+1);let t1:=(B4 y.y y4);let y1:=(ldR tP (app [] a0) (0+t1.toNat));let y0:=(inB t1 (0+(len a0)));let t6:=(lp (sb8 (⟨t1⟩:Eb7)) (⟨0+(len a0),app [] a0⟩:Ja1));let a1:=(J6 (s9 (app [] a0) (0+(W (t1+1)).toNat)) ((0+(len a0))-(W (t1+1)).toNat));let y3:=((t1.toNat-0)+(len a1));let a2:=(c8 (app [] a0) (0+t1.toNat));let a3:=(rdR tP (app [] a0) (0+t1.toNat));let t3:=(ge7 a3 (⟨y.z,y.y,y.x⟩:V3));let t4:=(Va8 a3);let a4:=(Nat.blt (0+t1.toNat) (len (app [] a0)));let y6:=(a4&&(Nat.ble (3+1) (len a2)));let y5:=(a4&&(Nat.ble (0+4) (len a2)));(sl (Nat.beq 0 0&&Nat.ble ((0+(len a0))*32) room) (sl (y4==0) (some (.sl 0 0 1 0,[bq 66 4 [[i 0,i 0,i 0,i 0]]])) (sl (F4 y.y y4) (sl (F4 y.x 6) (sl (t2==0) (sl y0 (sl y1 (sl (rd7 a3 (⟨y.z,y.y,y.x⟩:V3)) (sl y0 (sl y5 (some (.sl 0 0 (0+(len a0)) 0,[bq 66 4 (setAt (app [] a0) (0+t1.toNat) (Q0 a2 0 [i t3.n.x,i t3.n.y,i t3.n.z,i t3.b]))])) none) none) none) none) none) (sl (t2==1) (sl (inB t1 y2) (sl (inB (W (t1+1)) y2) (sl (Nat.ble y3 (len (app [] a0))) (some (.sl 0 0 y3 0,[bq 66 4 (app (J6 (app [] a0) (t1.toNat-0)) (app a1 (s9 (app [] a0) y3)))])) none) none) none) (sl (t2==2) (sl y0 (sl y1 (sl y0 (sl y5 (some (.sl 0 0 (0+(len a0)) 0,[bq 66 4 (setAt (app [] a0) (0+t1.toNat) (Q0 a2 0 [i t4.n.x,i t4.n.y,i t4.n.z,i t4.b]))])) none) none) none) none) (sl (t2==3) (sl y0 (sl y1 (sl (Nat.beq (0+(len a0)) (len (app [] a0))&&Nat.ble (y2*32) room) (some (.sl 0 0 y2 0,[bq 66 4 (app (app [] a0) [[i a3.n.x,i a3.n.y,i a3.n.z,i a3.b]])])) none) none) none) (sl (t2==4) (sl y0 (sl (y6&&(ka1 [CK.int .i64] (s9 a2 3))) (sl (F4 y.z 9) (sl y0 (sl y6 (some (.sl 0 0 (0+(len a0)) 0,[bq 66 4 (setAt (app [] a0) (0+t1.toNat) (Q0 a2 3 [i (W ((W ((toI (hdA (s9 a2 3)))+t5))-4))]))])) none) none) none) none) none) (sl (t2==5) (sl (Nat.beq t6.1 1) (some (.sl 0 0 t6.2.ns5 0,[bq 66 4 t6.2.eh0])) none) (some (.sl 0 0 (0+(len a0)) 0,[bq 66 4 (app [] a0)])))))))) none) none)) none)
def Qc6(x:PLq)(y:V3):PLq:=L9 (one (r1L tP)) (lc4 x y)
def rd8(x:PLq)(y:V3):Bool:=okO (one (r1L tP)) (lc4 x y)
def ge9:Sum:=Z7 (M3 tP) (na7 tV) (λx y=>.guard (rd8 x y) (.ret ((one (r1L tP)).enc (Qc6 x y),[])))
theorem Ue3:l8 prog G 35 ge9:=dc7 (bd b35 Fe9) (one (r1L tP)) (o:=lc4) λx y=>Q3 (.s .p (.s .p (.s .p (.s .p (.s (.s .p (.b (.s .p (.c .p (.s .p (.c .p (.s .p (.c .p (.s .p (.c .p (.s .p (.c .p (.s .p (.c (.b (.u Hc5.ls)) .p)))))))))))))) .p))))) [Hc5.pr] (.cons re2 .nil)
end Go.Ev.Ce
