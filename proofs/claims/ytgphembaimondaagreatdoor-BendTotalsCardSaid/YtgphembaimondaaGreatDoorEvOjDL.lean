/- Own work. -/
import Derived.Test.YtgphembaimondaaGreatDoorChecked
import Derived.Test.YtgphembaimondaaGreatDoorEvOjCePf
import Derived.KernelRfl
set_option linter.all false
noncomputable section
namespace Go.Ev.Ce
open Go Go.Ev Go.Proofs
set_option maxRecDepth 1000000
theorem mx:(Tryz.prog).follows .mixedOrders=true:=Checked.mixed Tryz.checked
abbrev Bdq(n:Nat)(pf:PFn):Prop:=cd1 Tryz.prog n λE=>m9 E pf
theorem bdq{f:FuncId}{fn:Func}(hf:(Tryz.prog).funcs[f]?=some fn)(hn:decide (fn.name ≠ "runtime.NumGoroutine")=true:=by kernel_rfl)(hc:Option.isSome (Eb9 Tryz.prog fn)=true:=by kernel_rfl):Bdq f (got (Eb9 Tryz.prog fn)):=Cf7 mx hf hn (ec7 hc)
theorem b3:Bdq 3 pf3:=bdq Tryz.func3
theorem b4:Bdq 4 pf4:=bdq Tryz.func4
theorem b5:Bdq 5 pf5:=bdq Tryz.func5
theorem b6:Bdq 6 pf6:=bdq Tryz.func6
theorem b7:Bdq 7 pf7:=bdq Tryz.func7
theorem b8:Bdq 8 pf8:=bdq Tryz.func8
theorem b10:Bdq 10 lf2:=bdq Tryz.func10
theorem b11:Bdq 11 lf3:=bdq Tryz.func11
theorem b13:Bdq 13 Cf8:=bdq Tryz.func13
theorem b14:Bdq 14 Cf9:=bdq Tryz.func14
theorem b15:Bdq 15 Df0:=bdq Tryz.func15
theorem b16:Bdq 16 lf4:=bdq Tryz.func16
theorem b17:Bdq 17 lf5:=bdq Tryz.func17
theorem b18:Bdq 18 lf6:=bdq Tryz.func18
theorem b19:Bdq 19 lf7:=bdq Tryz.func19
theorem b20:Bdq 20 lf8:=bdq Tryz.func20
theorem b21:Bdq 21 lf9:=bdq Tryz.func21
theorem b22:Bdq 22 mf0:=bdq Tryz.func22
theorem b23:Bdq 23 Df1:=bdq Tryz.func23
theorem b24:Bdq 24 Df2:=bdq Tryz.func24
theorem b25:Bdq 25 Df3:=bdq Tryz.func25
theorem b26:Bdq 26 Df4:=bdq Tryz.func26
theorem b27:Bdq 27 Df5:=bdq Tryz.func27
theorem b28:Bdq 28 Df6:=bdq Tryz.func28
theorem b29:Bdq 29 Ae8:=bdq Tryz.func29
theorem b30:Bdq 30 mf1:=bdq Tryz.func30
theorem b31:Bdq 31 mf2:=bdq Tryz.func31
theorem b32:Bdq 32 Df7:=bdq Tryz.func32
theorem b33:Bdq 33 mf3:=bdq Tryz.func33
theorem b34:Bdq 34 mf4:=bdq Tryz.func34
theorem b35:cd1 Tryz.prog 35 λE=>xa3 E mf5:=qd2 (h:=h35) mx Tryz.func35 (by kernel_rfl) Tryz.func142 (by kernel_rfl) (ec7 (by kernel_rfl))
theorem b36:Bdq 36 mf6:=bdq Tryz.func36
theorem b37:Bdq 37 mf7:=bdq Tryz.func37
theorem b38:Bdq 38 mf8:=bdq Tryz.func38
theorem b39:Bdq 39 mf9:=bdq Tryz.func39
theorem b40:Bdq 40 nf3:=bdq Tryz.func40
theorem b41:Bdq 41 nf4:=bdq Tryz.func41
theorem b42:Bdq 42 nf5:=bdq Tryz.func42
theorem b43:Bdq 43 nf6:=bdq Tryz.func43
theorem b44:Bdq 44 nf7:=bdq Tryz.func44
theorem b45:Bdq 45 nf8:=bdq Tryz.func45
theorem b46:Bdq 46 nf9:=bdq Tryz.func46
theorem b47:Bdq 47 of0:=bdq Tryz.func47
theorem b48:Bdq 48 of1:=bdq Tryz.func48
theorem b49:Bdq 49 Df8:=bdq Tryz.func49
theorem b50:Bdq 50 of2:=bdq Tryz.func50
theorem b51:Bdq 51 Xe9:=bdq Tryz.func51
theorem b52:Bdq 52 Df9:=bdq Tryz.func52
theorem b53:Bdq 53 of3:=bdq Tryz.func53
theorem b54:Bdq 54 of4:=bdq Tryz.func54
theorem b55:Bdq 55 of5:=bdq Tryz.func55
theorem b56:Bdq 56 Ef0:=bdq Tryz.func56
theorem b57:Bdq 57 he8:=bdq Tryz.func57
theorem b58:Bdq 58 of6:=bdq Tryz.func58
theorem b59:Bdq 59 Ef1:=bdq Tryz.func59
theorem b60:Bdq 60 Ef2:=bdq Tryz.func60
theorem b61:Bdq 61 of7:=bdq Tryz.func61
theorem b62:Bdq 62 of8:=bdq Tryz.func62
theorem b63:Bdq 63 of9:=bdq Tryz.func63
theorem b64:Bdq 64 pf0:=bdq Tryz.func64
theorem b65:Bdq 65 pf1:=bdq Tryz.func65
theorem b66:Bdq 66 pf2:=bdq Tryz.func66
theorem b67:Bdq 67 pf9:=bdq Tryz.func67
theorem b68:Bdq 68 qf0:=bdq Tryz.func68
theorem b69:Bdq 69 Ef3:=bdq Tryz.func69
theorem b70:cd1 Tryz.prog 70 λE=>xa3 E Ae9:=qd2 (h:=h70) mx Tryz.func70 (by kernel_rfl) Tryz.func142 (by kernel_rfl) (ec7 (by kernel_rfl))
theorem b71:Bdq 71 qf1:=bdq Tryz.func71
theorem b72:Bdq 72 qf2:=bdq Tryz.func72
theorem b73:Bdq 73 qf3:=bdq Tryz.func73
theorem b74:Bdq 74 qf4:=bdq Tryz.func74
theorem b75:Bdq 75 qf5:=bdq Tryz.func75
theorem b76:Bdq 76 qf6:=bdq Tryz.func76
theorem b77:Bdq 77 qf7:=bdq Tryz.func77
theorem b78:Bdq 78 qf8:=bdq Tryz.func78
theorem b79:cd1 Tryz.prog 79 λE=>xa3 E qf9:=qd2 (h:=h79) mx Tryz.func79 (by kernel_rfl) Tryz.func142 (by kernel_rfl) (ec7 (by kernel_rfl))
theorem b80:Bdq 80 Ef4:=bdq Tryz.func80
theorem b81:Bdq 81 rf0:=bdq Tryz.func81
theorem b82:Bdq 82 Ef5:=bdq Tryz.func82
theorem b83:Bdq 83 Ef6:=bdq Tryz.func83
theorem b84:Bdq 84 Ef7:=bdq Tryz.func84
theorem b85:Bdq 85 Ef8:=bdq Tryz.func85
theorem b86:Bdq 86 Be0:=bdq Tryz.func86
theorem b87:Bdq 87 Ef9:=bdq Tryz.func87
theorem b88:Bdq 88 Ff0:=bdq Tryz.func88
theorem b89:Bdq 89 rf1:=bdq Tryz.func89
theorem b90:Bdq 90 rf2:=bdq Tryz.func90
theorem b91:Bdq 91 Ye0:=bdq Tryz.func91
theorem b92:Bdq 92 rf3:=bdq Tryz.func92
theorem b94:Bdq 94 rf4:=bdq Tryz.func94
theorem b95:Bdq 95 rf5:=bdq Tryz.func95
theorem b96:Bdq 96 rf6:=bdq Tryz.func96
theorem b97:Bdq 97 rf7:=bdq Tryz.func97
theorem b98:Bdq 98 rf8:=bdq Tryz.func98
theorem b99:Bdq 99 rf9:=bdq Tryz.func99
theorem Ff1:Bdq 100 Me9:=bdq Tryz.func100
theorem Be1:Bdq 101 Ne0:=bdq Tryz.func101
theorem Ff2:Bdq 102 Ne1:=bdq Tryz.func102
theorem Ff3:Bdq 103 Ne2:=bdq Tryz.func103
theorem Ff4:Bdq 104 sf0:=bdq Tryz.func104
theorem Ff5:Bdq 105 Ne3:=bdq Tryz.func105
theorem Ff6:Bdq 106 Ne4:=bdq Tryz.func106
theorem Ff7:Bdq 107 Ne5:=bdq Tryz.func107
theorem Ff8:Bdq 108 he9:=bdq Tryz.func108
theorem Ff9:Bdq 109 Ne6:=bdq Tryz.func109
theorem tf7:Bdq 110 sf1:=bdq Tryz.func110
theorem Gf0:Bdq 111 Ne7:=bdq Tryz.func111
theorem Gf1:Bdq 112 sf2:=bdq Tryz.func112
theorem Gf2:Bdq 114 sf3:=bdq Tryz.func114
theorem tf8:Bdq 115 Ne8:=bdq Tryz.func115
theorem Gf3:Bdq 116 Ne9:=bdq Tryz.func116
theorem Gf4:Bdq 117 Oe0:=bdq Tryz.func117
theorem Gf5:Bdq 118 sf4:=bdq Tryz.func118
theorem Gf6:Bdq 119 sf5:=bdq Tryz.func119
theorem Gf7:Bdq 120 Oe1:=bdq Tryz.func120
theorem Gf8:Bdq 121 Oe2:=bdq Tryz.func121
theorem tf9:Bdq 122 Ld7:=bdq Tryz.func122
theorem Gf9:Bdq 130 Oe3:=bdq Tryz.func130
theorem ie2:Bdq 131 Uc2:=bdq Tryz.func131
theorem Hf0:Bdq 132 Oe4:=bdq Tryz.func132
theorem Hf1:Bdq 133 sf6:=bdq Tryz.func133
theorem Hf2:cd1 Tryz.prog 134 λE=>xa3 E Ld8:=qd2 (h:=lf0) mx Tryz.func134 (by kernel_rfl) Tryz.func142 (by kernel_rfl) (ec7 (by kernel_rfl))
theorem uf0:Bdq 135 Oe5:=bdq Tryz.func135
theorem Hf3:Bdq 136 Oe6:=bdq Tryz.func136
theorem Hf4:Bdq 137 sf7:=bdq Tryz.func137
theorem Hf5:Bdq 138 sf8:=bdq Tryz.func138
theorem Hf6:Bdq 140 sf9:=bdq Tryz.func140
theorem Hf7:Bdq 141 ie0:=bdq Tryz.func141
theorem Hf8:Bdq 143 tf0:=bdq Tryz.func143
theorem Hf9:Bdq 144 tf1:=bdq Tryz.func144
theorem If0:Bdq 145 tf2:=bdq Tryz.func145
theorem If1:cd1 Tryz.prog 148 λE=>xa3 E Oe7:=qd2 (h:=lf1) mx Tryz.func148 (by kernel_rfl) Tryz.func218 (by kernel_rfl) (ec7 (by kernel_rfl))
theorem If2:Bdq 149 tf3:=bdq Tryz.func149
theorem If3:Bdq 150 Oe8:=bdq Tryz.func150
theorem If4:Bdq 155 tf4:=bdq Tryz.func155
theorem uf1:Bdq 156 ie1:=bdq Tryz.func156
theorem If5:Bdq 158 Oe9:=bdq Tryz.func158
theorem If6:Bdq 159 tf5:=bdq Tryz.func159
theorem uf2:Bdq 160 Pe0:=bdq Tryz.func160
theorem If7:Bdq 182 tf6:=bdq Tryz.func182
theorem If8:Bdq 214 Pe1:=bdq Tryz.func214
theorem If9:Bdq 216 Pe2:=bdq Tryz.func216
theorem Jf0:Bdq 217 Pe3:=bdq Tryz.func217
theorem Jf1:Bdq 219 Pe4:=bdq Tryz.func219
theorem Jf2:Bdq 220 Pe5:=bdq Tryz.func220
theorem Jf3:Bdq 222 Pe6:=bdq Tryz.func222
theorem Jf4:Bdq 223 Pe7:=bdq Tryz.func223
theorem Jf5:Bdq 224 Pe8:=bdq Tryz.func224
theorem Jf6:Bdq 225 Pe9:=bdq Tryz.func225
end Go.Ev.Ce
namespace Go.Ev.L
open Go Go.Ev
def tb1:RT->PC->PS2
 |.s a b,.seq x y=>.seq (tb1 a x) (tb1 b y)
 |.c a b,.cond g x y=>.cond g (tb1 a x) (tb1 b y)
 |.b a,.block id x=>.block id (tb1 a x)
 |.i a,.inner f x n c=>.inner f x n (tb1 a c)
 |.u S,_=>.sum S
 |_,c=>.pc c
theorem cd2{E:Env}{k:Nat}(rt:RT)(c:PC):ia2 (λx=>∀s,M1 (x.1 s) (A1 E k x.2 s)) (kb2 rt c)->Y7 E k (tb1 rt c) c:=by
 induction rt generalizing c with
 |p=>intro h;cases c<;>exact .pc _
 |s a b iha ihb =>
  intro h;cases c with
  |seq x y=>exact .seq (iha x (ia2.app h).1) (ihb y (ia2.app h).2)
  |_=>exact .pc _
 |c a b iha ihb =>
  intro h;cases c with
  |cond g x y=>exact .cond g (iha x (ia2.app h).1) (ihb y (ia2.app h).2)
  |_=>exact .pc _
 |b a iha =>
  intro h;cases c with
  |block id x=>exact .block id (iha x h)
  |_=>exact .pc _
 |l a iha=>intro h;cases c<;>exact .pc _
 |i a iha =>
  intro h;cases c with
  |inner f x n c=>exact .inner f x n (iha c h)
  |_=>exact .pc _
 |u S =>
  intro h
  have:kb2 (.u S) c=[(S,c)]:=by cases c<;>rfl
  rw[this] at h;cases h with
  |cons h t =>
   have e:tb1 (.u S) c=.sum S:=by cases c<;>rfl
   rw[e];exact .sum h
section
variable{π σ:Type}{E:Env}{k:Nat}{keep:List Nat}{alts:List (Al2 π σ)}{enc:π->σ->St}{step:π->σ->Stp σ}{xs:Xs π σ}{body:PS2}{c:PC}
theorem yb8.belowM(hb:Y7 E k body c)(hN:E.N=rounds+1)(w:yb8 qd1 k keep (ec6 E k body) alts step xs enc)(s:St):M1 (Sc7 qd1 k keep alts step xs s) (A1 E k (.loopM keep c) s):=λr hr=>by
 obtain⟨t,h1,h2⟩:=w.go hr;rw[Dd8,hN];exact pb4 hb.le _ _ _ (Gb1 h1 h2)
theorem yb8.belowML(hb:Y7 E k body c)(hN:E.N=rounds+1)(w:yb8 yb2 k keep (ec6 E k body) alts step xs enc)(s:St):M1 (Sc7 yb2 k keep alts step xs s) (A1 E k (.loop keep c) s):=λr hr=>by
 obtain⟨t,h1,h2⟩:=w.go hr;rw[Sc5,hN];exact pb4 hb.le _ _ _ (Gb1 h1 h2)
end
end Go.Ev.L
namespace Go.Ev.Ab
open Go Go.Ev
@[reducible] noncomputable def o(d:Nat)(x:PO):PI:=⟨some d,none,[],x⟩
@[reducible] noncomputable def s(x:PO):PI:=⟨none,none,[],x⟩
@[reducible] noncomputable def ci(n:Int):Arg:=.c (.v (.int .i64 n))
@[reducible] noncomputable def cb(b:Bool):Arg:=.c (.v (.bool b))
@[reducible] noncomputable def vi(n:Int):b9:=.v (.int .i64 n)
@[reducible] noncomputable def rep{α:Type}(n:Nat)(x:α):List α:=List.replicate n x
@[reducible] noncomputable def ki(n:Nat):List CK:=List.replicate n (.int .i64)
@[reducible] noncomputable def mv(d n:Nat):PI:=o d (.mv (.t n))
@[reducible] noncomputable def mc(d:Nat)(n:Int):PI:=o d (.mv (ci n))
@[reducible] noncomputable def mb(d:Nat)(x:Bool):PI:=o d (.mv (cb x))
@[reducible] noncomputable def fd(d k n:Nat):PI:=o d (.fld k (.t n))
@[reducible] noncomputable def lf(d k n:Nat):PI:=o d (.load (ki k) k false (.t n))
@[reducible] noncomputable def ex(d x k:Nat):PI:=o d (.ext (.t x) k)
@[reducible] noncomputable def gf(n:Nat)(x:PI):PI:=⟨x.dst,some (n,false),x.hide,x.op⟩
@[reducible] noncomputable def so(l:List PI)(x:PC):PC:=.seq (.ops l) x
@[reducible] noncomputable def sq(x y:PC):PC:=.seq x y
@[reducible] noncomputable def ts(l:List Nat):List Arg:=l.map .t
@[reducible] noncomputable def cl(f:Nat)(l:List Nat):PO:=.call f (ts l)
@[reducible] noncomputable def pa(d c x:Nat):PI:=o d (.pick (.t c) (.t x) (cb false))
@[reducible] noncomputable def po(d c x:Nat):PI:=o d (.pick (.t c) (cb true) (.t x))
@[reducible] noncomputable def al(d k:Nat)(n:Int):PI:=o d (.alloc (rep k (vi n)))
@[reducible] noncomputable def ap(d et es n x y:Nat):PI:=o d (.append et es n (.t x) (.t y))
@[reducible] noncomputable def gm(f:Builtin)(a b t:Nat):PO:=.gen ⟨none,.call ⟨.builtin f,#[.tmp a,.tmp b],#[t,t]⟩,t, "", #[],none⟩ [a,b]
end Go.Ev.Ab
namespace Go.Ev.L
open Go Go.Ev
def Cps{π σ:Type}(u:∀{α:Type},(σ->α)->(Nat->α)->α->π->σ->α):Prop :=
 ∀{α β:Type} (F:α->β) (k:σ->α) (e:Nat->α) (z:α) (p:π) (s:σ),F (u k e z p s)=u (λx=>F (k x)) (λt=>F (e t)) (F z) p s
@[reducible] noncomputable def foL{π σ:Type}(en:π->σ->St)(xs:Xs π σ)(p:π)(s:σ):Stp σ->Option (d8×St):=yb4 (λs'=>some (.normal,en p s')) (λt=>xOf xs p s t 1) none
structure Lo(π σ:Type) where
 E:Env
 k:Nat
 F:PFn
 at':List Nat
 kp:List Nat
 rt:RT
 al:List (Al2 π σ)
 st:π->σ->Stp σ
 xs:Xs π σ
 en:π->σ->St
namespace Lo
variable{π σ:Type}(L:Lo π σ)
def lc:PC:=Cf5 L.at' L.F.body
def ls:St->DT (d8×St):=Sc7 yb2 L.k L.kp L.al L.st L.xs
def lsM:St->DT (d8×St):=Sc7 qd1 L.k L.kp L.al L.st L.xs
def pr:(St->DT (d8×St))×PC:=(L.ls,.loop L.kp L.lc)
def prM:(St->DT (d8×St))×PC:=(L.lsM,.loopM L.kp L.lc)
def Ok:Prop:=∀s,O6 L.k L.F.res (L.pr.1 s) (A1 L.E L.k L.pr.2 s)
def OkE:Prop:=∀s,M1 (L.pr.1 s) (A1 L.E L.k L.pr.2 s)
def OkM:Prop:=∀s,M1 (L.prM.1 s) (A1 L.E L.k L.prM.2 s)
def Rd(hd:St->DT St)(bd:St->DT (d8×St))(p:π)(s:σ)(a:St)(b:Stp σ):Prop:=(bb3 hd bd a).run=foL L.en L.xs p s b
def H0:Prop:=∀p s,L.Rd (yb2 L.k L.kp) (Jd3 L.E L.k L.F.res (Ac0 L.rt L.lc)) p s (L.en p s) (L.st p s)
def H1:Prop:=∀p s,L.Rd (yb2 L.k L.kp) (ec6 L.E L.k (tb1 L.rt L.lc)) p s (L.en p s) (L.st p s)
def H2:Prop:=∀p s,L.Rd (qd1 L.k L.kp) (ec6 L.E L.k (tb1 L.rt L.lc)) p s (L.en p s) (L.st p s)
def HA:Prop:=ia2 (λx=>∀a H,(⟨Ud3 x.sh a,Ud4 x.bl H⟩:St)=L.en (x.rd a H).1 (x.rd a H).2) L.al
variable{L}
theorem Rd.of{hd:St->DT St}{bd:St->DT (d8×St)}{p:π}{s:σ}{a:St}(u:∀{α:Type},(σ->α)->(Nat->α)->α->π->σ->α)
  (q:Cps @u) (H:(bb3 hd bd a).run=u (λx=>foL L.en L.xs p s (.next x)) (λt=>foL L.en L.xs p s (.exit t)) (foL L.en L.xs p s .fail) p s):L.Rd hd bd p s a (u .next .exit .fail p s) :=
 H.trans (q (foL L.en L.xs p s) Stp.next Stp.exit Stp.fail p s).symm
theorem Rd.sel{hd:St->DT St}{bd:St->DT (d8×St)}{p:π}{s:σ}{a1 a0:St}{b1 b0:Stp σ}(c:Bool)(h1:L.Rd hd bd p s a1 b1)(h0:L.Rd hd bd p s a0 b0):L.Rd hd bd p s (sel c a1 a0) (sel c b1 b0):=by
 cases c with
 |true=>exact h1
 |false=>exact h0
theorem ok(l:List ((St->DT (d8×St))×PC))(hs:kb2 L.rt L.lc=l)(hl:ia2 (λx=>∀s,O6 L.k L.F.res (x.1 s) (A1 L.E L.k x.2 s)) l)(hN:L.E.N=rounds+1)(ha:L.HA)(h:L.H0):L.Ok :=
 yb8.belowC (Kd4 _ _ (by rw[hs];exact hl)) hN ⟨ha,h⟩
theorem okE(l:List ((St->DT (d8×St))×PC))(hs:kb2 L.rt L.lc=l)(hl:ia2 (λx=>∀s,M1 (x.1 s) (A1 L.E L.k x.2 s)) l)(hN:L.E.N=rounds+1)(ha:L.HA)(h:L.H1):L.OkE :=
 yb8.belowML (cd2 _ _ (by rw[hs];exact hl)) hN ⟨ha,h⟩
theorem okM(l:List ((St->DT (d8×St))×PC))(hs:kb2 L.rt L.lc=l)(hl:ia2 (λx=>∀s,M1 (x.1 s) (A1 L.E L.k x.2 s)) l)(hN:L.E.N=rounds+1)(ha:L.HA)(h:L.H2):L.OkM :=
 yb8.belowM (cd2 _ _ (by rw[hs];exact hl)) hN ⟨ha,h⟩
end Lo
theorem Jf7{E:Env}{F:PFn}{args:List b9}{blks:List c7}{o:Option (b9×List c7)}(rt:RT)(l:List ((St->DT (d8×St))×PC))(hs:kb2 rt F.body=l)
  (hl:ia2 (λx=>∀s,O6 (len blks) F.res (x.1 s) (A1 E (len blks) x.2 s)) l) (h:(Ve6 E F (Ac0 rt F.body) args blks).run=o) (r:b9×List c7) (hr:o=some r):(m9 E F args blks).run=some r :=
 Bd4 (Kd4 rt _ (by rw[hs];exact hl)) r (h.trans hr)
theorem uf3{E:Env}{F:PFn}{args:List b9}{blks:List c7}{o:Option (b9×List c7)}(rt:RT)(l:List ((St->DT (d8×St))×PC))(hs:kb2 rt F.body=l)
  (hl:ia2 (λx=>∀s,M1 (x.1 s) (A1 E (len blks) x.2 s)) l) (h:(he7 E F (tb1 rt F.body) args blks).run=o) (r:b9×List c7) (hr:o=some r):(xa3 E F args blks).run=some r :=
 qd0 (cd2 rt _ (by rw[hs];exact hl)) r (h.trans hr)
theorem Fa0{A o:Option (b9×List c7)}(h:A=o)(r:b9×List c7)(hr:o=some r):A=some r:=h.trans hr
def Cpa{π ρ:Type}(u:∀{α:Type},(ρ->α)->π->α):Prop:=∀{α β:Type} (F:α->β) (k:ρ->α) (p:π),F (u k p)=u (λx=>F (k x)) p
theorem Lo.Rd.ofq{π σ:Type}{L:Lo π σ}{hd:St->DT St}{bd:St->DT (d8×St)}{p:π}{s:σ}{a:St}(u:∀{α:Type},(σ->α)->(Nat->α)->α->π->σ->α)
  (q:Cps @u:=by intro _ _ F _ _ _ _ _;(repeat' apply Me3 (f:=F))<;>rfl) (H:(bb3 hd bd a).run=u (λx=>foL L.en L.xs p s (.next x)) (λt=>foL L.en L.xs p s (.exit t)) (foL L.en L.xs p s .fail) p s:=by kernel_rfl):L.Rd hd bd p s a (u .next .exit .fail p s):=Lo.Rd.of @u q H
theorem Lo.okq {π σ : Type} {L : Lo π σ} (l : List ((St → DT (d8 × St)) × PC)) (hl : ia2 (fun x => ∀ s, O6 L.k L.F.res (x.1 s) (A1 L.E L.k x.2 s)) l) (h : L.H0) (hs : kb2 L.rt L.lc = l := by kernel_rfl) (hN : L.E.N = rounds + 1 := by rfl)
  (ha:L.HA:=by repeat' (first | exact .nil | refine .cons (λa H=>by kernel_rfl) ?_)):L.Ok:=Lo.ok l hs hl hN ha h
theorem Lo.okMq {π σ : Type} {L : Lo π σ} (l : List ((St → DT (d8 × St)) × PC)) (hl : ia2 (fun x => ∀ s, M1 (x.1 s) (A1 L.E L.k x.2 s)) l) (h : L.H2) (hs : kb2 L.rt L.lc = l := by kernel_rfl) (hN : L.E.N = rounds + 1 := by rfl)
  (ha:L.HA:=by repeat' (first | exact .nil | refine .cons (λa H=>by kernel_rfl) ?_)):L.OkM:=Lo.okM l hs hl hN ha h
theorem Z0{E:Env}{F:PFn}{args:List b9}{blks:List c7}{o:Option (b9×List c7)}(rt:RT)(l:List ((St->DT (d8×St))×PC))
  (hl:ia2 (λx=>∀s,O6 (len blks) F.res (x.1 s) (A1 E (len blks) x.2 s)) l) (h:(Ve6 E F (Ac0 rt F.body) args blks).run=o:=by kernel_rfl) (hs:kb2 rt F.body=l:=by kernel_rfl) (r:b9×List c7) (hr:o=some r):(m9 E F args blks).run=some r:=Jf7 rt l hs hl h r hr
theorem Bc9{E:Env}{F:PFn}{args:List b9}{blks:List c7}{o:Option (b9×List c7)}(rt:RT)(l:List ((St->DT (d8×St))×PC))
  (hl:ia2 (λx=>∀s,M1 (x.1 s) (A1 E (len blks) x.2 s)) l) (h:(he7 E F (tb1 rt F.body) args blks).run=o:=by kernel_rfl) (hs:kb2 rt F.body=l:=by kernel_rfl) (r:b9×List c7) (hr:o=some r):(xa3 E F args blks).run=some r:=uf3 rt l hs hl h r hr
theorem mEq{π ρ β:Type}(u:∀{α:Type},(ρ->α)->π->α)(FO:ρ->β)(x:π){v:β}(h1:v=u FO x:=by kernel_rfl)(q:Cpa @u:=by intro _ _ F _ _;(repeat' apply Me3 (f:=F))<;>rfl):v=FO (u (λr=>r) x):=h1.trans (q FO (λr=>r) x).symm
abbrev nlq:b9:=.v (.slice none 0 0)
abbrev bq(et es:Nat)(el:List (List b9)):c7:=⟨et,es,el,true,false,0⟩
abbrev kb7{α:Type}(a n:Nat)(x:α)(y:DT α):DT α:=.ite (Nat.beq a n) (.ret x) y
theorem ya7{α ρ:Type}{P:Program}{G:Nat->List Value}{f:FuncId}{R0:Sum}{c0:Cod α}(hb:e8 P G f R0)(R:RR ρ){o:α->Option (b9×List c7)}(h:∀a0 r,o a0=some r->(R0 [c0.enc a0] []).run=some r:=by exact λ_=>Fa0 (by kernel_rfl)):e8 P G f (B5 c0 λa0=>rdO R (o a0)):=vb5 hb R h
theorem Ld9{α:Type}{P:Program}{G:Nat->List Value}{f:FuncId}{R:Sum}{c0:Cod α}{k:α->DT (b9×List c7)}(hb:e8 P G f R)(h:∀a0 r,(k a0).run=some r->(R [c0.enc a0] []).run=some r:=by exact λ_=>Fa0 (by kernel_rfl)):e8 P G f (B5 c0 k):=Gb2 hb h
theorem zb9{α β ρ:Type}{P:Program}{G:Nat->List Value}{f:FuncId}{R0:Sum}{c0:Cod α}{c1:Cod β}(hb:e8 P G f R0)(R:RR ρ){o:α->β->Option (b9×List c7)}(h:∀a0 a1 r,o a0 a1=some r->(R0 [c0.enc a0,c1.enc a1] []).run=some r:=by exact λ_ _=>Fa0 (by kernel_rfl)):e8 P G f (ba0 c0 c1 λa0 a1=>rdO R (o a0 a1)):=Lc7 hb R h
theorem tb2{α β:Type}{P:Program}{G:Nat->List Value}{f:FuncId}{R:Sum}{c0:Cod α}{c1:Cod β}{k:α->β->DT (b9×List c7)}(hb:e8 P G f R)(h:∀a0 a1 r,(k a0 a1).run=some r->(R [c0.enc a0,c1.enc a1] []).run=some r:=by exact λ_ _=>Fa0 (by kernel_rfl)):e8 P G f (ba0 c0 c1 k):=Jd0 hb h
theorem ie3{α β γ ρ:Type}{P:Program}{G:Nat->List Value}{f:FuncId}{R0:Sum}{c0:Cod α}{c1:Cod β}{c2:Cod γ}(hb:e8 P G f R0)(R:RR ρ){o:α->β->γ->Option (b9×List c7)}(h:∀a0 a1 a2 r,o a0 a1 a2=some r->(R0 [c0.enc a0,c1.enc a1,c2.enc a2] []).run=some r:=by exact λ_ _ _=>Fa0 (by kernel_rfl)):e8 P G f (yb3 c0 c1 c2 λa0 a1 a2=>rdO R (o a0 a1 a2)):=jf9 hb R h
theorem Qe0{α β γ:Type}{P:Program}{G:Nat->List Value}{f:FuncId}{R:Sum}{c0:Cod α}{c1:Cod β}{c2:Cod γ}{k:α->β->γ->DT (b9×List c7)}(hb:e8 P G f R)(h:∀a0 a1 a2 r,(k a0 a1 a2).run=some r->(R [c0.enc a0,c1.enc a1,c2.enc a2] []).run=some r:=by exact λ_ _ _=>Fa0 (by kernel_rfl)):e8 P G f (yb3 c0 c1 c2 k):=Jd1 hb h
theorem uf4{α β γ δ ρ:Type}{P:Program}{G:Nat->List Value}{f:FuncId}{R0:Sum}{c0:Cod α}{c1:Cod β}{c2:Cod γ}{c3:Cod δ}(hb:e8 P G f R0)(R:RR ρ){o:α->β->γ->δ->Option (b9×List c7)}(h:∀a0 a1 a2 a3 r,o a0 a1 a2 a3=some r->(R0 [c0.enc a0,c1.enc a1,c2.enc a2,c3.enc a3] []).run=some r:=by exact λ_ _ _ _=>Fa0 (by kernel_rfl)):e8 P G f (Bd3 c0 c1 c2 c3 λa0 a1 a2 a3=>rdO R (o a0 a1 a2 a3)):=Cf4 hb R h
def tbN:List (Nat×Sum):=[]
theorem xa5{P:Program}{G:Nat->List Value}:o4 P G tbN:=trivial
abbrev upq(x:St)(l:List (Nat×b9)):St:=⟨l.foldl (λa q=>a.set q.1 q.2) x.a,x.H⟩
abbrev sIq:S2:=.s (.o (.int .i64))
abbrev sUq:S2:=.s (.o .unk)
abbrev sBq:S2:=.s (.o .bool)
abbrev sPq(n:Nat):S2:=.s (.o (.ptr n 0 0 0))
abbrev sTq(n:Nat):S2:=.s (.o (.tree n))
abbrev sLq{α:Type}(t:Ty α):S2:=.s (.c t.es (nL t))
abbrev kLq(n:Nat):List K:=List.replicate n (.o (.int .i64))
abbrev aIq(a:List b9)(n:Nat):Int:=toI (slT a n)
abbrev aBq(a:List b9)(n:Nat):Bool:=toB (slT a n)
abbrev aNq(a:List b9)(n:Nat):Nat:=toN (slT a n)
abbrev aGq(a:List b9)(n:Nat):Nat->List b9:=toG (slT a n)
abbrev aLq{α:Type}(t:Ty α)(a:List b9)(n:Nat):List α:=rL t (slT a n)
abbrev hIq(H:List c7)(m r n:Nat):Int:=toI (slT (rwT (elT H m) r) n)
abbrev cIq(a:List b9)(m n:Nat):Int:=toI (slT (cellsOf (slT a m)) n)
abbrev hLq{α:Type}(t:Ty α)(H:List c7)(m r n:Nat):List α:=rL t (slT (rwT (elT H m) r) n)
end Go.Ev.L
namespace Go.Ev.Ce
structure V3 where
 x:Int
 y:Int
 z:Int
structure Pln where
 n:V3
 b:Int
structure Pt where
 px:Int
 py:Int
 pz:Int
 pw:Int
def d9(a b:V3):V3:=⟨a.y*b.z-a.z*b.y,a.z*b.x-a.x*b.z,a.x*b.y-a.y*b.x⟩
def dot(a b:V3):Int:=a.x*b.x+a.y*b.y+a.z*b.z
def mw(p q r:Pln):Int:=dot p.n (d9 q.n r.n)
end Go.Ev.Ce
namespace Go.Ev.Ce
open Go Go.Ev Go.Ev.L Go.Proofs
@[reducible] noncomputable def prog:Program:=Tryz.prog
def G:Nat->List Value:=λ_=>[]
def En(l:List (Nat×Sum)):Env:={ P:=prog,G,fns:=λ_=>none,call:=Ve2 l,own:=λf j=>Bool.and (Ma5 f [113,109,156,131,139,141]) (Nat.beq j 0),N:=18446744073709551616 }
@[reducible] noncomputable def u:b9:=.v (.tuple #[])
theorem uf5{l:List (Nat×Sum)}(h:o4 prog G l):∀f,e8 (En l).P (En l).G f ((En l).call f):=Id9 h
theorem bd{l:List (Nat×Sum)}{f:FuncId}{R:Env->Sum}(b:cd1 prog f R)(h:o4 prog G l):e8 prog G f (R (En l)):=b rfl (uf5 h)
def tV:Ty V3 where
 es:=3
 row x:=[i x.x,i x.y,i x.z]
 rd r:=⟨toI (hdA r),toI (hdA (tlA r)),toI (hdA (tlA (tlA r)))⟩
 ok r:=ra8 3 r
 cks:=List.replicate 3 (.int .i64)
 d:=⟨0,0,0⟩
 h0 _:=rfl
 h1 _:=rfl
 h2 _:=rfl
 h3 _ h:=.of (Ga3 h)
 h4 _:=rfl
 h5 _:=rfl
def r1V:R1 V3:=r1A tV 3 λ_ h=>h
def tP:Ty Pln where
 es:=4
 row x:=[i x.n.x,i x.n.y,i x.n.z,i x.b]
 rd r:=⟨⟨toI (hdA r),toI (hdA (tlA r)),toI (hdA (tlA (tlA r)))⟩,toI (hdA (tlA (tlA (tlA r))))⟩
 ok r:=ra8 4 r
 cks:=List.replicate 4 (.int .i64)
 d:=⟨⟨0,0,0⟩,0⟩
 h0 _:=rfl
 h1 _:=rfl
 h2 _:=rfl
 h3 _ h:=.of (Ga3 h)
 h4 _:=rfl
 h5 _:=rfl
abbrev PLq:=List Pln
abbrev LPq:=List PLq
abbrev tLq:=tLs tP
abbrev tMq:=tLs tLq
abbrev ROq:=Option (b9×List c7)
def r1P:R1 Pln:=r1A tP 4 λ_ h=>h
def tX:Ty Pt where
 es:=4
 row x:=[i x.px,i x.py,i x.pz,i x.pw]
 rd r:=⟨toI (hdA r),toI (hdA (tlA r)),toI (hdA (tlA (tlA r))),toI (hdA (tlA (tlA (tlA r))))⟩
 ok r:=ra8 4 r
 cks:=List.replicate 4 (.int .i64)
 d:=⟨0,0,0,0⟩
 h0 _:=rfl
 h1 _:=rfl
 h2 _:=rfl
 h3 _ h:=.of (Ga3 h)
 h4 _:=rfl
 h5 _:=rfl
def r1X:R1 Pt:=r1A tX 4 λ_ h=>h
structure Tp where
 p:Pln
 q:Pln
 r:Pln
structure Q2 where
 a:V3
 b:V3
set_option maxRecDepth 100000
def Va6(x:Pln)(y:Pt):Int:=(W ((W ((W ((W (x.b*y.pw))-(W (x.n.x*y.px))))-(W (x.n.y*y.py))))-(W (x.n.z*y.pz))))
def Qb1:Sum:=ba0 (F5 tP) (F5 tX) (λx y=>.ret ((one r1I).enc (Va6 x y),[]))
theorem mc4:e8 prog G 87 Qb1:=tb2 (bd b87 xa5)
def Ga8(x:V3)(y:V3):V3:=(⟨W (x.x+y.x),W (x.y+y.y),W (x.z+y.z)⟩:V3)
def Uc3:Sum:=ba0 (F5 tV) (F5 tV) (λx y=>.ret ((one r1V).enc (Ga8 x y),[]))
theorem Dd9:e8 prog G 23 Uc3:=tb2 (bd b23 xa5)
def ja7(x:V3)(y:V3):Int:=(W ((W ((W (x.x*y.x))+(W (x.y*y.y))))+(W (x.z*y.z))))
def Gb8:Sum:=ba0 (F5 tV) (F5 tV) (λx y=>.ret ((one r1I).enc (ja7 x y),[]))
theorem Qb2:e8 prog G 84 Gb8:=tb2 (bd b84 xa5)
def M2(x:V3)(y:V3):V3:=(⟨W ((W (x.y*y.z))-(W (x.z*y.y))),W ((W (x.z*y.x))-(W (x.x*y.z))),W ((W (x.x*y.y))-(W (x.y*y.x)))⟩:V3)
def Ab0:Sum:=ba0 (F5 tV) (F5 tV) (λx y=>.ret ((one r1V).enc (M2 x y),[]))
theorem Wb3:e8 prog G 82 Ab0:=tb2 (bd b82 xa5)
def K6(x:V3)(y:Int):V3:=(⟨W (x.x*y),W (x.y*y),W (x.z*y)⟩:V3)
def Wb4:Sum:=ba0 (F5 tV) cI (λx y=>.ret ((one r1V).enc (K6 x y),[]))
theorem Lc8:e8 prog G 149 Wb4:=tb2 (bd If2 xa5)
structure ma8 where
structure O9 where
 (is0 is1:Int)
def tb3(p:ma8)(s:O9):St:=⟨i s.is0::i s.is1::ra 10 [],[]⟩
def qa3{α:Type}(k:O9->α)(e:Nat->α)(z:α)(p:ma8)(s:O9):α:=(sl (s.is1 != 0) (sl (s.is1==0) z (k ⟨s.is1,Int.tmod s.is0 s.is1⟩)) (e 1))
def ia3(p:ma8)(s:O9):Stp O9:=qa3 .next .exit .fail p s
def Va7:Lo ma8 O9:=⟨En tbN,0,Oe8,[1,0,4,4],[0,1],.p,[⟨sIq::sIq::ru2 10 [],[],λa H=>(⟨⟩,⟨aIq a 0,aIq a 1⟩)⟩],ia3,[(some 0,λp s=>upq (tb3 p s) [(5,i s.is1),(6,b (s.is1 != 0))])],tb3⟩
theorem qc1:Va7.Ok:=Lo.okq [] .nil λp s=>(.ofq @qa3)
def Ba6(x:Int)(y:Int):ROq:=let t1:=(lp (ia3 (⟨⟩:ma8)) (⟨x,y⟩:O9));(sl (Nat.beq t1.1 1) (some (i t1.2.is0,[])) none)
def K7(x:Int)(y:Int):Int:=F6 (one r1I) (Ba6 x y)
def K8(x:Int)(y:Int):Bool:=okO (one r1I) (Ba6 x y)
def Wb5:Sum:=ba0 cI cI (λx y=>.guard (K8 x y) (.ret ((one r1I).enc (K7 x y),[])))
theorem Lc9:e8 prog G 150 Wb5:=Lc7 (bd If3 xa5) (one r1I) (o:=Ba6) λx y=>Z0 (.s .p (.s (.b (.u Va7.ls)) .p)) [Va7.pr] (.cons qc1 .nil)
def qd3:List (Nat×Sum):=[(82,Ab0),(84,Gb8),(149,Wb4),(23,Uc3),(150,Wb5)]
theorem cd3:o4 prog G qd3:=⟨Wb3,Qb2,Lc8,Dd9,Lc9,trivial⟩
def Va8(x:Pln)(y:Pln)(z:Pln):ROq:=let t1:=(M2 y.n z.n);let t2:=(ja7 x.n t1);let t3:=(K6 t1 x.b);let t4:=(M2 z.n x.n);let t5:=(K6 t4 y.b);let t6:=(Ga8 t3 t5);let t7:=(M2 x.n y.n);let t8:=(K6 t7 z.b);let t9:=(Ga8 t6 t8);let t10:=(K6 t9 (-1));let t11:=(K7 (if (W (0-t10.x))>t10.x then (W (0-t10.x)) else t10.x) (if (W (0-t10.y))>t10.y then (W (0-t10.y)) else t10.y));let t12:=(K7 (if (W (0-t10.z))>t10.z then (W (0-t10.z)) else t10.z) (W (0-t2)));let t13:=(K7 t11 t12);let t14:=(K7 (if (W (0-t9.x))>t9.x then (W (0-t9.x)) else t9.x) (if (W (0-t9.y))>t9.y then (W (0-t9.y)) else t9.y));let t15:=(K7 (if (W (0-t9.z))>t9.z then (W (0-t9.z)) else t9.z) t2);let t16:=(K7 t14 t15);(sl (t2==0) (some (.tup [.agg [i 0,i 0,i 0,i 0],b false],[])) (sl (decide (t2<0)) (sl (K8 (if (W (0-t10.x))>t10.x then (W (0-t10.x)) else t10.x) (if (W (0-t10.y))>t10.y then (W (0-t10.y)) else t10.y)) (sl (K8 (if (W (0-t10.z))>t10.z then (W (0-t10.z)) else t10.z) (W (0-t2))) (sl (K8 t11 t12) (sl (t13==0) none (sl (t13==0) none (sl (t13==0) none (sl (t13==0) none (some (.tup [.agg [i (W (Int.tdiv t10.x t13)),i (W (Int.tdiv t10.y t13)),i (W (Int.tdiv t10.z t13)),i (W (Int.tdiv (W (0-t2)) t13))],b true],[])))))) none) none) none) (sl (K8 (if (W (0-t9.x))>t9.x then (W (0-t9.x)) else t9.x) (if (W (0-t9.y))>t9.y then (W (0-t9.y)) else t9.y)) (sl (K8 (if (W (0-t9.z))>t9.z then (W (0-t9.z)) else t9.z) t2) (sl (K8 t14 t15) (sl (t16==0) none (sl (t16==0) none (sl (t16==0) none (sl (t16==0) none (some (.tup [.agg [i (W (Int.tdiv t9.x t16)),i (W (Int.tdiv t9.y t16)),i (W (Int.tdiv t9.z t16)),i (W (Int.tdiv t2 t16))],b true],[])))))) none) none) none)))
def Va9(x:Pln)(y:Pln)(z:Pln):Pt×Bool:=F6 (two r1X r1B) (Va8 x y z)
def Wa0(x:Pln)(y:Pln)(z:Pln):Bool:=okO (two r1X r1B) (Va8 x y z)
def Cc0:Sum:=yb3 (F5 tP) (F5 tP) (F5 tP) (λx y z=>.guard (Wa0 x y z) (.ret ((two r1X r1B).enc (Va9 x y z),[])))
theorem qd4:e8 prog G 119 Cc0:=ie3 (bd Gf6 cd3) (two r1X r1B) (o:=Va8)
def Uc4:List (Nat×Sum):=[(87,Qb1)]
theorem Ed0:o4 prog G Uc4:=⟨mc4,trivial⟩
structure Wa1 where
 f9:PLq
 (g8 d7 i5 m0:Int)
structure ga7 where
 is5:Int
def mc5(p:Wa1)(s:ga7):St:=⟨eL tP p.f9::.unk::.unk::.ptr 0 0 0 0::.unk::i s.is5::ra 13 [],[bq 0 4 [[i p.g8,i p.d7,i p.i5,i p.m0]]]⟩
def Ra5{α:Type}(k:ga7->α)(e:Nat->α)(z:α)(p:Wa1)(s:ga7):α:=let t1:=(Va6 (gL tP p.f9 s.is5.toNat) (⟨p.g8,p.d7,p.i5,p.m0⟩:Pt));(sl (decide (s.is5<(↑(List.length p.f9):Int))) (sl (inB s.is5 (List.length p.f9)) (sl (decide (t1<0)) (e 1) (k ⟨W (s.is5+1)⟩)) z) (e 2))
def Ka3(p:Wa1)(s:ga7):Stp ga7:=Ra5 .next .exit .fail p s
def Qb3:Lo Wa1 ga7:=⟨En Uc4,0,Oe1,[1,0,1,4,4],[0,3,5],.p,[⟨sLq tP::sUq::sUq::sPq 0::sUq::sIq::ru2 13 [],[⟨0,4,true,some [kLq 4]⟩],λa H=>(⟨aLq tP a 0,hIq H 0 0 0,hIq H 0 0 1,hIq H 0 0 2,hIq H 0 0 3⟩,⟨aIq a 5⟩)⟩],Ka3,[(none,λp s=>⟨[b false],[]⟩),(some 0,λp s=>upq (mc5 p s) [(6,i s.is5),(7,eL tP p.f9),(8,i (↑(List.length p.f9):Int)),(9,b (decide (s.is5<(↑(List.length p.f9):Int))))])],mc5⟩
theorem qd5:Qb3.Ok:=Lo.okq [] .nil λp s=>(.ofq @Ra5)
def Ab1(x:PLq)(y:Pt):ROq:=let t1:=(lp (Ka3 (⟨rt tP x,y.px,y.py,y.pz,y.pw⟩:Wa1)) (⟨0⟩:ga7));(sl ((cnE tP x)&&true) (sl (Nat.beq t1.1 1) (some (b false,[])) (sl (Nat.beq t1.1 2) (some (b true,[])) none)) none)
def kb8(x:PLq)(y:Pt):Bool:=F6 (one r1B) (Ab1 x y)
def kb9(x:PLq)(y:Pt):Bool:=okO (one r1B) (Ab1 x y)
def qd6:Sum:=ba0 (N0 tP) (F5 tX) (λx y=>.guard (kb9 x y) (.ret ((one r1B).enc (kb8 x y),[])))
theorem Wd9:e8 prog G 120 qd6:=Lc7 (bd Gf7 Ed0) (one r1B) (o:=Ab1) λx y=>Z0 (.s .p (.s (.s .p (.b (.u Qb3.ls))) .p)) [Qb3.pr] (.cons qd5 .nil)
structure sa4 where
 Kc9:List Pt
 (g8 d7 i5 m0:Int)
def Ab2(p:sa4)(s:ga7):St:=⟨eL tX p.Kc9::.unk::.unk::.ptr 0 0 0 0::.unk::i s.is5::ra 12 [],[bq 0 4 [[i p.g8,i p.d7,i p.i5,i p.m0]]]⟩
def va5{α:Type}(k:ga7->α)(e:Nat->α)(z:α)(p:sa4)(s:ga7):α:=let y0:=(gL tX p.Kc9 s.is5.toNat);(sl (decide (s.is5<(↑(List.length p.Kc9):Int))) (sl (inB s.is5 (List.length p.Kc9)) (sl ((y0.px==p.g8)&&((y0.py==p.d7)&&((y0.pz==p.i5)&&((y0.pw==p.m0)&&true)))) (e 1) (k ⟨W (s.is5+1)⟩)) z) (e 2))
def ma9(p:sa4)(s:ga7):Stp ga7:=va5 .next .exit .fail p s
def fb4:Lo sa4 ga7:=⟨En tbN,0,Oe2,[1,0,1,4,4],[0,3,5],.p,[⟨sLq tX::sUq::sUq::sPq 0::sUq::sIq::ru2 12 [],[⟨0,4,true,some [kLq 4]⟩],λa H=>(⟨aLq tX a 0,hIq H 0 0 0,hIq H 0 0 1,hIq H 0 0 2,hIq H 0 0 3⟩,⟨aIq a 5⟩)⟩],ma9,[(none,λp s=>⟨[b true],[]⟩),(some 0,λp s=>upq (Ab2 p s) [(6,i s.is5),(7,eL tX p.Kc9),(8,i (↑(List.length p.Kc9):Int)),(9,b (decide (s.is5<(↑(List.length p.Kc9):Int))))])],Ab2⟩
theorem Cc1:fb4.Ok:=Lo.okq [] .nil λp s=>(.ofq @va5)
def Ka4(x:List Pt)(y:Pt):ROq:=let t1:=(lp (ma9 (⟨rt tX x,y.px,y.py,y.pz,y.pw⟩:sa4)) (⟨0⟩:ga7));(sl ((cnE tX x)&&true) (sl (Nat.beq t1.1 1) (some (b true,[])) (sl (Nat.beq t1.1 2) (some (b false,[])) none)) none)
def ya8(x:List Pt)(y:Pt):Bool:=F6 (one r1B) (Ka4 x y)
def ya9(x:List Pt)(y:Pt):Bool:=okO (one r1B) (Ka4 x y)
def mc6:Sum:=ba0 (N0 tX) (F5 tX) (λx y=>.guard (ya9 x y) (.ret ((one r1B).enc (ya8 x y),[])))
theorem cd4:e8 prog G 121 mc6:=Lc7 (bd Gf8 xa5) (one r1B) (o:=Ka4) λx y=>Z0 (.s .p (.s (.s .p (.b (.u fb4.ls))) .p)) [fb4.pr] (.cons Cc1 .nil)
def Ba7:List (Nat×Sum):=[(119,Cc0),(120,qd6),(121,mc6)]
theorem qc2:o4 prog G Ba7:=⟨qd4,Wd9,cd4,trivial⟩
structure H7 where
 f9:PLq
 (is4 is5:Int)
structure o6 where
 ph:Nat
 is6:Int
 ns3:Nat
 eh0:List (List b9)
def bb7(p:H7)(s:o6):St:=⟨eL tP p.f9::.unk::.unk::nlq::i p.is4::i p.is5::i s.is6::ra 57 [],[]⟩
def bb8(p:H7)(s:o6):St:=⟨eL tP p.f9::.unk::.unk::.sl 0 0 s.ns3 0::i p.is4::i p.is5::i s.is6::ra 57 [],[bq 125 4 s.eh0]⟩
def ec8(p:H7)(s:o6):St:=(sel (Nat.beq s.ph 1) (bb8 p s) (bb7 p s))
def Q1{α:Type}(k:o6->α)(e:Nat->α)(z:α)(p:H7)(s:o6):α:=let y0:=(List.length p.f9);let t1:=(Va9 (gL tP p.f9 p.is4.toNat) (gL tP p.f9 p.is5.toNat) (gL tP p.f9 s.is6.toNat));let t2:=(kb8 (rt tP p.f9) t1.1);let t3:=(ya8 [] t1.1);(sl (decide (s.is6<(↑y0:Int))) (sl (inB p.is4 y0) (sl (inB p.is5 y0) (sl (inB s.is6 y0) (sl (Wa0 (gL tP p.f9 p.is4.toNat) (gL tP p.f9 p.is5.toNat) (gL tP p.f9 s.is6.toNat)) (sl t1.2 (sl (okE tP p.f9) (sl (kb9 (rt tP p.f9) t1.1) (sl t2 (sl (ya9 [] t1.1) (sl (!t3) (k ⟨1,W (s.is6+1),1,[[i t1.1.px,i t1.1.py,i t1.1.pz,i t1.1.pw]]⟩) (k ⟨0,W (s.is6+1),0,[]⟩)) z) (k ⟨0,W (s.is6+1),0,[]⟩)) z) z) (k ⟨0,W (s.is6+1),0,[]⟩)) z) z) z) z) (e 1))
def Q3{α:Type}(k:o6->α)(e:Nat->α)(z:α)(p:H7)(s:o6):α:=let y0:=(List.length p.f9);let t1:=(Va9 (gL tP p.f9 p.is4.toNat) (gL tP p.f9 p.is5.toNat) (gL tP p.f9 s.is6.toNat));let t2:=(kb8 (rt tP p.f9) t1.1);let t3:=(ya8 (lsL tX s.ns3 (λk=>j6 s.eh0 (0+k))) t1.1);(sl (decide (s.is6<(↑y0:Int))) (sl (inB p.is4 y0) (sl (inB p.is5 y0) (sl (inB s.is6 y0) (sl (Wa0 (gL tP p.f9 p.is4.toNat) (gL tP p.f9 p.is5.toNat) (gL tP p.f9 s.is6.toNat)) (sl t1.2 (sl (okE tP p.f9) (sl (kb9 (rt tP p.f9) t1.1) (sl t2 (sl (okL tX s.ns3 (λk=>j6 s.eh0 (0+k))) (sl (ya9 (lsL tX s.ns3 (λk=>j6 s.eh0 (0+k))) t1.1) (sl (!t3) (sl (Nat.beq s.ns3 (len s.eh0)&&Nat.ble ((s.ns3+1)*32) room) (k ⟨1,W (s.is6+1),s.ns3+1,app s.eh0 [[i t1.1.px,i t1.1.py,i t1.1.pz,i t1.1.pw]]⟩) z) (k ⟨1,W (s.is6+1),s.ns3,s.eh0⟩)) z) z) (k ⟨1,W (s.is6+1),s.ns3,s.eh0⟩)) z) z) (k ⟨1,W (s.is6+1),s.ns3,s.eh0⟩)) z) z) z) z) (e 2))
def I6(p:H7)(s:o6):Stp o6:=(sel (Nat.beq s.ph 1) (Q3 .next .exit .fail p s) (Q1 .next .exit .fail p s))
def Na5:Lo H7 o6:=⟨En Ba7,0,Be0,[1,1,0,1,4,4,1,0,4,1,4,4,1,0,4,1,4,4],[0,3,4,5,6],.p,[⟨sLq tP::sUq::sUq::.s (.o .nil)::sIq::sIq::sIq::ru2 57 [],[],λa H=>(⟨aLq tP a 0,aIq a 4,aIq a 5⟩,⟨0,aIq a 6,0,[]⟩)⟩,⟨sLq tP::sUq::sUq::.s (.o (.sl 0 0 (some 0) none))::sIq::sIq::sIq::ru2 57 [],[⟨125,4,true,none⟩],λa H=>(⟨aLq tP a 0,aIq a 4,aIq a 5⟩,⟨1,aIq a 6,slN (slT a 3),elT H 0⟩)⟩],I6,[(some 4,λp s=>upq (bb7 p s) [(25,i s.is6),(26,eL tP p.f9),(27,i (↑(List.length p.f9):Int)),(28,b (decide (s.is6<(↑(List.length p.f9):Int))))]),(some 4,λp s=>upq (bb8 p s) [(25,i s.is6),(26,eL tP p.f9),(27,i (↑(List.length p.f9):Int)),(28,b (decide (s.is6<(↑(List.length p.f9):Int))))])],ec8⟩
theorem ec9:Na5.Ok:=Lo.okq [] .nil λp s=>(.sel (Nat.beq s.ph 1) (.ofq @Q3) (.ofq @Q1))
structure H8 where
 is4:Int
structure p6 where
 ph:Nat
 f9:PLq
 is5:Int
 ns3:Nat
 eh0:List (List b9)
def bb9(p:H8)(s:p6):St:=⟨eL tP s.f9::.unk::.unk::nlq::i p.is4::i s.is5::ra 58 [],[]⟩
def cb0(p:H8)(s:p6):St:=⟨eL tP s.f9::.unk::.unk::.sl 0 0 s.ns3 0::i p.is4::i s.is5::ra 58 [],[bq 125 4 s.eh0]⟩
def fc0(p:H8)(s:p6):St:=(sel (Nat.beq s.ph 1) (cb0 p s) (bb9 p s))
def Q4{α:Type}(k:p6->α)(e:Nat->α)(z:α)(p:H8)(s:p6):α:=let t1:=(lp (I6 (⟨rt tP s.f9,p.is4,s.is5⟩:H7)) (⟨0,W (s.is5+1),0,[]⟩:o6));(sl (decide (s.is5<(↑(List.length s.f9):Int))) (sl ((cnE tP s.f9)&&true) (sl (Nat.beq t1.1 1) (k ⟨0,rt tP s.f9,W (s.is5+1),0,[]⟩) (sl (Nat.beq t1.1 2) (k ⟨1,rt tP s.f9,W (s.is5+1),t1.2.ns3,t1.2.eh0⟩) z)) z) (e 1))
def Q5{α:Type}(k:p6->α)(e:Nat->α)(z:α)(p:H8)(s:p6):α:=let t1:=(lp (I6 (⟨rt tP s.f9,p.is4,s.is5⟩:H7)) (⟨1,W (s.is5+1),s.ns3,s.eh0⟩:o6));(sl (decide (s.is5<(↑(List.length s.f9):Int))) (sl ((cnE tP s.f9)&&true) (sl (Nat.beq t1.1 1) (k ⟨0,rt tP s.f9,W (s.is5+1),0,[]⟩) (sl (Nat.beq t1.1 2) (k ⟨1,rt tP s.f9,W (s.is5+1),t1.2.ns3,t1.2.eh0⟩) z)) z) (e 2))
def E2(p:H8)(s:p6):Stp p6:=(sel (Nat.beq s.ph 1) (Q5 .next .exit .fail p s) (Q4 .next .exit .fail p s))
def Na6:Lo H8 p6:=⟨En Ba7,0,Be0,[1,1,0,1,4,4,1,0,4,1,4,4],[0,3,4,5],.s .p (.s (.b (.s .p (.b (.u Na5.ls)))) .p),[⟨sLq tP::sUq::sUq::.s (.o .nil)::sIq::sIq::ru2 58 [],[],λa H=>(⟨aIq a 4⟩,⟨0,aLq tP a 0,aIq a 5,0,[]⟩)⟩,⟨sLq tP::sUq::sUq::.s (.o (.sl 0 0 (some 0) none))::sIq::sIq::ru2 58 [],[⟨125,4,true,none⟩],λa H=>(⟨aIq a 4⟩,⟨1,aLq tP a 0,aIq a 5,slN (slT a 3),elT H 0⟩)⟩],E2,[(some 2,λp s=>upq (bb9 p s) [(17,i s.is5),(18,eL tP s.f9),(19,i (↑(List.length s.f9):Int)),(20,b (decide (s.is5<(↑(List.length s.f9):Int))))]),(some 2,λp s=>upq (cb0 p s) [(17,i s.is5),(18,eL tP s.f9),(19,i (↑(List.length s.f9):Int)),(20,b (decide (s.is5<(↑(List.length s.f9):Int))))])],fc0⟩
theorem fc1:Na6.Ok:=Lo.okq [Na5.pr] (.cons ec9 .nil) λp s=>(.sel (Nat.beq s.ph 1) (.ofq @Q5) (.ofq @Q4))
structure s6 where
 ph:Nat
 f9:PLq
 is4:Int
 ns3:Nat
 eh0:List (List b9)
def cb1(p:ma8)(s:s6):St:=⟨eL tP s.f9::.unk::.unk::nlq::i s.is4::ra 59 [],[]⟩
def cb2(p:ma8)(s:s6):St:=⟨eL tP s.f9::.unk::.unk::.sl 0 0 s.ns3 0::i s.is4::ra 59 [],[bq 125 4 s.eh0]⟩
def fc2(p:ma8)(s:s6):St:=(sel (Nat.beq s.ph 1) (cb2 p s) (cb1 p s))
def Q6{α:Type}(k:s6->α)(e:Nat->α)(z:α)(p:ma8)(s:s6):α:=let t1:=(lp (E2 (⟨s.is4⟩:H8)) (⟨0,rt tP s.f9,W (s.is4+1),0,[]⟩:p6));(sl (decide (s.is4<(↑(List.length s.f9):Int))) (sl ((cnE tP s.f9)&&true) (sl (Nat.beq t1.1 1) (k ⟨0,t1.2.f9,W (s.is4+1),0,[]⟩) (sl (Nat.beq t1.1 2) (k ⟨1,t1.2.f9,W (s.is4+1),t1.2.ns3,t1.2.eh0⟩) z)) z) (e 1))
def Q7{α:Type}(k:s6->α)(e:Nat->α)(z:α)(p:ma8)(s:s6):α:=let t1:=(lp (E2 (⟨s.is4⟩:H8)) (⟨1,rt tP s.f9,W (s.is4+1),s.ns3,s.eh0⟩:p6));(sl (decide (s.is4<(↑(List.length s.f9):Int))) (sl ((cnE tP s.f9)&&true) (sl (Nat.beq t1.1 1) (k ⟨0,t1.2.f9,W (s.is4+1),0,[]⟩) (sl (Nat.beq t1.1 2) (k ⟨1,t1.2.f9,W (s.is4+1),t1.2.ns3,t1.2.eh0⟩) z)) z) (e 2))
def I7(p:ma8)(s:s6):Stp s6:=(sel (Nat.beq s.ph 1) (Q7 .next .exit .fail p s) (Q6 .next .exit .fail p s))
def Na7:Lo ma8 s6:=⟨En Ba7,0,Be0,[1,1,0,1,4,4],[0,3,4],.s .p (.s (.b (.s .p (.b (.u Na6.ls)))) .p),[⟨sLq tP::sUq::sUq::.s (.o .nil)::sIq::ru2 59 [],[],λa H=>(⟨⟩,⟨0,aLq tP a 0,aIq a 4,0,[]⟩)⟩,⟨sLq tP::sUq::sUq::.s (.o (.sl 0 0 (some 0) none))::sIq::ru2 59 [],[⟨125,4,true,none⟩],λa H=>(⟨⟩,⟨1,aLq tP a 0,aIq a 4,slN (slT a 3),elT H 0⟩)⟩],I7,[(some 0,λp s=>upq (cb1 p s) [(9,i s.is4),(10,eL tP s.f9),(11,i (↑(List.length s.f9):Int)),(12,b (decide (s.is4<(↑(List.length s.f9):Int))))]),(some 0,λp s=>upq (cb2 p s) [(9,i s.is4),(10,eL tP s.f9),(11,i (↑(List.length s.f9):Int)),(12,b (decide (s.is4<(↑(List.length s.f9):Int))))])],fc2⟩
theorem fc3:Na7.Ok:=Lo.okq [Na6.pr] (.cons fc1 .nil) λp s=>(.sel (Nat.beq s.ph 1) (.ofq @Q7) (.ofq @Q6))
def sa5(x:PLq):ROq:=let t1:=(lp (I7 (⟨⟩:ma8)) (⟨0,rt tP x,0,0,[]⟩:s6));(sl ((cnE tP x)&&true) (sl (Nat.beq t1.1 1) (some (nlq,[])) (sl (Nat.beq t1.1 2) (some (.sl 0 0 t1.2.ns3 0,[bq 125 4 t1.2.eh0])) none)) none)
def Ja1(x:PLq):List Pt:=F6 (one (r1L tX)) (sa5 x)
def Ja2(x:PLq):Bool:=okO (one (r1L tX)) (sa5 x)
def Lb0:Sum:=B5 (N0 tP) (λx=>.guard (Ja2 x) (.ret ((one (r1L tX)).enc (Ja1 x),[])))
theorem Cc2:e8 prog G 86 Lb0:=vb5 (bd b86 qc2) (one (r1L tX)) (o:=sa5) λx=>Z0 (.s .p (.s .p (.s (.s .p (.b (.u Na7.ls))) .p))) [Na7.pr] (.cons fc3 .nil)
@[reducible] noncomputable def qa4:Sum:=m9 (En tbN) Oe0
theorem Ba8:e8 prog G 117 qa4:=bd Gf4 xa5
def na0(x:Int):ROq:=(sl (decide (x<0)) (some (i (W (0-x)),[])) (some (i x,[])))
def da6(x:Int):Int:=F6 (one r1I) (na0 x)
def da7(x:Int):Bool:=okO (one r1I) (na0 x)
def Ab3:Sum:=B5 cI (λx=>.guard (da7 x) (.ret ((one r1I).enc (da6 x),[])))
theorem qc3:e8 prog G 118 Ab3:=ya7 (bd Gf5 xa5) (one r1I) (o:=na0)
def mc7:List (Nat×Sum):=[(118,Ab3),(117,qa4)]
theorem cd5:o4 prog G mc7:=⟨qc3,Ba8,trivial⟩
structure ba2 where
 (is6 g8 d7 i5 Rd0 Le6 Le7:Int)
structure K9 where
 (is5 is7:Int)
def Lb1(p:ba2)(s:K9):St:=⟨.unk::.ptr 0 0 0 0::.ptr 1 0 0 0::.unk::.ptr 2 0 0 0::i s.is5::i p.is6::i s.is7::ra 38 [],[bq 0 3 [[i p.g8,i p.d7,i p.i5]],bq 0 3 [[i 0,i 0,i 0]],bq 0 3 [[i p.Rd0,i p.Le6,i p.Le7]]]⟩
def Ba9{α:Type}(k:K9->α)(e:Nat->α)(z:α)(p:ba2)(s:K9):α:=(sl (decide (s.is7>0)) (sl (s.is7==0) z (k ⟨s.is7,Int.tmod s.is5 s.is7⟩)) (e 1))
def V0(p:ba2)(s:K9):Stp K9:=Ba9 .next .exit .fail p s
def qb2:Lo ba2 K9:=⟨En mc7,0,rf0,[1,1,1,0,1,4,4,1,0,4,1,1,4,4],[1,2,4,5,6,7],.p,[⟨sUq::sPq 0::sPq 1::sUq::sPq 2::sIq::sIq::sIq::ru2 38 [],[⟨0,3,true,some [kLq 3]⟩,⟨0,3,true,some [[.o (.lit .i64 0),.o (.lit .i64 0),.o (.lit .i64 0)]]⟩,⟨0,3,true,some [kLq 3]⟩],λa H=>(⟨aIq a 6,hIq H 0 0 0,hIq H 0 0 1,hIq H 0 0 2,hIq H 2 0 0,hIq H 2 0 1,hIq H 2 0 2⟩,⟨aIq a 5,aIq a 7⟩)⟩],V0,[(some 2,λp s=>upq (Lb1 p s) [(23,i s.is7),(24,b (decide (s.is7>0)))])],Lb1⟩
theorem Mc0:qb2.Ok:=Lo.okq [] .nil λp s=>(.ofq @Ba9)
def Wa2(x:V3):ROq:=let y0:=(.tup [.agg [i 0,i 0,i 0],i 0],[]);let t1:=(da6 x.x);let t2:=(lp (V0 (⟨0,x.x,x.y,x.z,x.x,x.y,x.z⟩:ba2)) (⟨0,t1⟩:K9));let t3:=(da6 x.y);let t4:=(lp (V0 (⟨1,x.x,x.y,x.z,x.x,x.y,x.z⟩:ba2)) (⟨t2.2.is5,t3⟩:K9));let t5:=(da6 x.z);let t6:=(lp (V0 (⟨2,x.x,x.y,x.z,x.x,x.y,x.z⟩:ba2)) (⟨t4.2.is5,t5⟩:K9));(sl (x.x==(-9223372036854775808)) (some y0) (sl (da7 x.x) (sl (Nat.beq t2.1 1) (sl (x.y==(-9223372036854775808)) (some y0) (sl (da7 x.y) (sl (Nat.beq t4.1 1) (sl (x.z==(-9223372036854775808)) (some y0) (sl (da7 x.z) (sl (Nat.beq t6.1 1) (sl (t6.2.is5==0) (some y0) (sl (t6.2.is5==0) none (sl (t6.2.is5==0) none (sl (t6.2.is5==0) none (some (.tup [.agg [i (W (Int.tdiv x.x t6.2.is5)),i (W (Int.tdiv x.y t6.2.is5)),i (W (Int.tdiv x.z t6.2.is5))],i t6.2.is5],[])))))) none) none)) none) none)) none) none))
def xa6(x:V3):V3×Int:=F6 (two r1V r1I) (Wa2 x)
def Wa3(x:V3):Bool:=okO (two r1V r1I) (Wa2 x)
def Qb4:Sum:=B5 (F5 tV) (λx=>.guard (Wa3 x) (.ret ((two r1V r1I).enc (xa6 x),[])))
theorem mc8:e8 prog G 81 Qb4:=vb5 (bd b81 cd5) (two r1V r1I) (o:=Wa2) λx=>Z0 (.s .p (.s .p (.s .p (.s (.s .p (.b (.l (.s .p (.s (.b (.s .p (.s .p (.b (.u qb2.ls))))) .p))))) .p)))) [qb2.pr] (.cons Mc0 .nil)
def cd6:List (Nat×Sum):=[(81,Qb4),(117,qa4)]
theorem Mc1:o4 prog G cd6:=⟨mc8,Ba8,trivial⟩
def Ka5(x:Pln):ROq:=let t1:=(xa6 x.n);(sl (decide (x.n.x<(-4608))) (some (b false,[])) (sl (decide (x.n.x>4608)) (some (b false,[])) (sl (decide (x.n.y<(-4608))) (some (b false,[])) (sl (decide (x.n.y>4608)) (some (b false,[])) (sl (decide (x.n.z<(-4608))) (some (b false,[])) (sl (decide (x.n.z>4608)) (some (b false,[])) (sl (Wa3 x.n) (sl (t1.2==1) (sl (decide (x.b>=(-2097152))) (some (b (decide (x.b<=2097152)),[])) (some (b false,[]))) (some (b false,[]))) none)))))))
def Ka6(x:Pln):Bool:=F6 (one r1B) (Ka5 x)
def Ka7(x:Pln):Bool:=okO (one r1B) (Ka5 x)
def Ab4:Sum:=B5 (F5 tP) (λx=>.guard (Ka7 x) (.ret ((one r1B).enc (Ka6 x),[])))
theorem Wb6:e8 prog G 85 Ab4:=ya7 (bd b85 Mc1) (one r1B) (o:=Ka5)
def Wb7:List (Nat×Sum):=[(85,Ab4)]
theorem Mc2:o4 prog G Wb7:=⟨Wb6,trivial⟩
structure sa6 where
 f9:PLq
structure N8 where
 is3:Int
def Ab5(p:sa6)(s:N8):St:=⟨eL tP p.f9::.unk::.unk::i s.is3::ra 15 [],[]⟩
def va6{α:Type}(k:N8->α)(e:Nat->α)(z:α)(p:sa6)(s:N8):α:=let t1:=(Ka6 (gL tP p.f9 s.is3.toNat));(sl (decide (s.is3<(↑(List.length p.f9):Int))) (sl (inB s.is3 (List.length p.f9)) (sl (Ka7 (gL tP p.f9 s.is3.toNat)) (sl (!t1) (e 1) (k ⟨W (s.is3+1)⟩)) z) z) (e 2))
def na1(p:sa6)(s:N8):Stp N8:=va6 .next .exit .fail p s
def fb5:Lo sa6 N8:=⟨En Wb7,0,of2,[1,1,0,1,4,4],[0,3],.p,[⟨sLq tP::sUq::sUq::sIq::ru2 15 [],[],λa H=>(⟨aLq tP a 0⟩,⟨aIq a 3⟩)⟩],na1,[(none,λp s=>⟨[i 12],[]⟩),(some 0,λp s=>upq (Ab5 p s) [(7,i s.is3),(8,eL tP p.f9),(9,i (↑(List.length p.f9):Int)),(10,b (decide (s.is3<(↑(List.length p.f9):Int))))])],Ab5⟩
theorem Cc3:fb5.Ok:=Lo.okq [] .nil λp s=>(.ofq @va6)
def Ka8(x:PLq):ROq:=let t1:=(lp (na1 (⟨rt tP x⟩:sa6)) (⟨0⟩:N8));(sl (decide ((↑(List.length x):Int)>48)) (some (i 2,[])) (sl ((cnE tP x)&&true) (sl (Nat.beq t1.1 1) (some (i 12,[])) (sl (Nat.beq t1.1 2) (some (i 0,[])) none)) none))
def cb3(x:PLq):Int:=F6 (one r1I) (Ka8 x)
def cb4(x:PLq):Bool:=okO (one r1I) (Ka8 x)
def mc9:Sum:=B5 (N0 tP) (λx=>.guard (cb4 x) (.ret ((one r1I).enc (cb3 x),[])))
theorem cd7:e8 prog G 50 mc9:=vb5 (bd b50 Mc2) (one r1I) (o:=Ka8) λx=>Z0 (.s .p (.s .p (.s (.s .p (.b (.u fb5.ls))) .p))) [fb5.pr] (.cons Cc3 .nil)
def Gb9(x:V3)(y:V3):ROq:=(some (.sl 0 0 6 0,[bq 66 4 [[i 1,i 0,i 0,i y.x],[i (-1),i 0,i 0,i (W (0-x.x))],[i 0,i 1,i 0,i y.y],[i 0,i (-1),i 0,i (W (0-x.y))],[i 0,i 0,i 1,i y.z],[i 0,i 0,i (-1),i (W (0-x.z))]]]))
def lb0(x:V3)(y:V3):PLq:=F6 (one (r1L tP)) (Gb9 x y)
def lb1(x:V3)(y:V3):Bool:=okO (one (r1L tP)) (Gb9 x y)
def fc4:Sum:=ba0 (F5 tV) (F5 tV) (λx y=>.guard (lb1 x y) (.ret ((one (r1L tP)).enc (lb0 x y),[])))
theorem Cc4:e8 prog G 26 fc4:=zb9 (bd b26 xa5) (one (r1L tP)) (o:=Gb9)
def Ed1:List (Nat×Sum):=[(26,fc4)]
theorem qd7:o4 prog G Ed1:=⟨Cc4,trivial⟩
def lb2(x:PLq):ROq:=let y0:=(List.range (List.length x));let t1:=(lb0 (⟨-24,-24,-24⟩:V3) (⟨24,24,24⟩:V3));let y1:=(List.range (List.length t1));(sl (Nat.beq 0 0&&Nat.ble ((0+(len (l9 (λk=>(tP).row (gL tP x k)) y0)))*32) room) (sl (lb1 (⟨-24,-24,-24⟩:V3) (⟨24,24,24⟩:V3)) (sl (Nat.beq (0+(len (l9 (λk=>(tP).row (gL tP x k)) y0))) (len (app [] (l9 (λk=>(tP).row (gL tP x k)) y0)))&&Nat.ble (((0+(len (l9 (λk=>(tP).row (gL tP x k)) y0)))+(len (l9 (λk=>(tP).row (gL tP t1 k)) y1)))*32) room) (some ((.sl 0 0 ((0+(len (l9 (λk=>(tP).row (gL tP x k)) y0)))+(len (l9 (λk=>(tP).row (gL tP t1 k)) y1))) 0),[(bq 66 4 (app (app [] (l9 (λk=>(tP).row (gL tP x k)) y0)) (l9 (λk=>(tP).row (gL tP t1 k)) y1)))])) none) none) none)
def Hb0(x:PLq):PLq:=F6 (one (r1L tP)) (lb2 x)
def Hb1(x:PLq):Bool:=okO (one (r1L tP)) (lb2 x)
def Uc5:Sum:=B5 (N0 tP) (λx=>.guard (Hb1 x) (.ret ((one (r1L tP)).enc (Hb0 x),[])))
theorem Ed2:e8 prog G 52 Uc5:=ya7 (bd b52 qd7) (one (r1L tP)) (o:=lb2)
def Ab6:List (Nat×Sum):=[(86,Lb0),(87,Qb1)]
theorem cd8:o4 prog G Ab6:=⟨Cc2,mc4,trivial⟩
structure Ca0 where
 f9:PLq
 vb2:List Pt
 is4:Int
structure ba3 where
 bs5:Bool
 is6:Int
def Lb2(p:Ca0)(s:ba3):St:=⟨eL tP p.f9::.unk::.unk::eL tX p.vb2::i p.is4::b s.bs5::i s.is6::ra 29 [],[]⟩
def Ca1{α:Type}(k:ba3->α)(e:Nat->α)(z:α)(p:Ca0)(s:ba3):α:=let t1:=(Va6 (gL tP p.f9 p.is4.toNat) (gL tX p.vb2 s.is6.toNat));(sl (decide (s.is6<(↑(List.length p.vb2):Int))) (sl s.bs5 (k ⟨true,W (s.is6+1)⟩) (sl (inB p.is4 (List.length p.f9)) (sl (inB s.is6 (List.length p.vb2)) (k ⟨decide (t1>0),W (s.is6+1)⟩) z) z)) (e 1))
def ja8(p:Ca0)(s:ba3):Stp ba3:=Ca1 .next .exit .fail p s
def qb3:Lo Ca0 ba3:=⟨En Ab6,0,Xe9,[1,1,0,1,4,4,1,0,4,1,0,1,4,4],[0,3,4,5,6],.p,[⟨sLq tP::sUq::sUq::sLq tX::sIq::sBq::sIq::ru2 29 [],[],λa H=>(⟨aLq tP a 0,aLq tX a 3,aIq a 4⟩,⟨aBq a 5,aIq a 6⟩)⟩],ja8,[(some 2,λp s=>upq (Lb2 p s) [(15,i s.is6),(16,eL tX p.vb2),(17,i (↑(List.length p.vb2):Int)),(18,b (decide (s.is6<(↑(List.length p.vb2):Int))))])],Lb2⟩
theorem Mc3:qb3.Ok:=Lo.okq [] .nil λp s=>(.ofq @Ca1)
def Lb3(p:ma8)(s:Ca0):St:=⟨eL tP s.f9::.unk::.unk::eL tX s.vb2::i s.is4::ra 31 [],[]⟩
def Ca3{α:Type}(k:Ca0->α)(e:Nat->α)(z:α)(p:ma8)(s:Ca0):α:=let t1:=(lp (ja8 (⟨rt tP s.f9,rt tX s.vb2,s.is4⟩:Ca0)) (⟨false,0⟩:ba3));(sl (decide (s.is4<(↑(List.length s.f9):Int))) (sl ((cnE tP s.f9)&&((cnE tX s.vb2)&&true)) (sl (Nat.beq t1.1 1) (sl (!t1.2.bs5) (e 1) (k ⟨rt tP s.f9,rt tX s.vb2,W (s.is4+1)⟩)) z) z) (e 2))
def sa7(p:ma8)(s:Ca0):Stp Ca0:=Ca3 .next .exit .fail p s
def qb4:Lo ma8 Ca0:=⟨En Ab6,0,Xe9,[1,1,0,1,4,4],[0,3,4],.s .p (.s (.b (.s .p (.s (.s .p (.b (.u qb3.ls))) .p))) .p),[⟨sLq tP::sUq::sUq::sLq tX::sIq::ru2 31 [],[],λa H=>(⟨⟩,⟨aLq tP a 0,aLq tX a 3,aIq a 4⟩)⟩],sa7,[(none,λp s=>⟨[b false],[]⟩),(some 0,λp s=>upq (Lb3 p s) [(9,i s.is4),(10,eL tP s.f9),(11,i (↑(List.length s.f9):Int)),(12,b (decide (s.is4<(↑(List.length s.f9):Int))))])],Lb3⟩
theorem Mc4:qb4.Ok:=Lo.okq [qb3.pr] (.cons Mc3 .nil) λp s=>(.ofq @Ca3)
def Wa4(x:PLq):ROq:=let t1:=(Ja1 (rt tP x));let t2:=(lp (sa7 (⟨⟩:ma8)) (⟨rt tP x,rt tX t1,0⟩:Ca0));(sl (okE tP x) (sl (Ja2 (rt tP x)) (sl ((cnE tP x)&&((cnE tX t1)&&true)) (sl (Nat.beq t2.1 1) (some (b false,[])) (sl (Nat.beq t2.1 2) (some (b true,[])) none)) none) none) none)
def qb5(x:PLq):Bool:=F6 (one r1B) (Wa4 x)
def qb6(x:PLq):Bool:=okO (one r1B) (Wa4 x)
def Cc5:Sum:=B5 (N0 tP) (λx=>.guard (qb6 x) (.ret ((one r1B).enc (qb5 x),[])))
theorem qd8:e8 prog G 51 Cc5:=vb5 (bd b51 cd8) (one r1B) (o:=Wa4) λx=>Z0 (.s .p (.s .p (.s (.s .p (.b (.u qb4.ls))) .p))) [qb4.pr] (.cons Mc4 .nil)
def qd9:List (Nat×Sum):=[(50,mc9),(52,Uc5),(51,Cc5)]
theorem cd9:o4 prog G qd9:=⟨cd7,Ed2,qd8,trivial⟩
def Wa5(x:PLq):ROq:=let t1:=(cb3 (rt tP x));let t2:=(Hb0 (rt tP x));let t3:=(qb5 (rt tP t2));(sl (okE tP x) (sl (cb4 (rt tP x)) (sl (t1==0) (sl (okE tP x) (sl (Hb1 (rt tP x)) (sl (okE tP t2) (sl (qb6 (rt tP t2)) (some (b t3,[])) none) none) none) none) (some (b false,[]))) none) none)
def Ga9(x:PLq):Bool:=F6 (one r1B) (Wa5 x)
def Ha0(x:PLq):Bool:=okO (one r1B) (Wa5 x)
def Cc6:Sum:=B5 (N0 tP) (λx=>.guard (Ha0 x) (.ret ((one r1B).enc (Ga9 x),[])))
theorem rd0:e8 prog G 28 Cc6:=ya7 (bd b28 cd9) (one r1B) (o:=Wa5)
def lb3(x:Int)(y:Int):ROq:=(sl (decide (y<1)) (some (i 0,[])) (sl (y==0) none (sl (y==0) none (some (i (Int.tmod (W ((Int.tmod x y)+y)) y),[])))))
def lb4(x:Int)(y:Int):Int:=F6 (one r1I) (lb3 x y)
def lb5(x:Int)(y:Int):Bool:=okO (one r1I) (lb3 x y)
def fc5:Sum:=ba0 cI cI (λx y=>.guard (lb5 x y) (.ret ((one r1I).enc (lb4 x y),[])))
theorem Cc7:e8 prog G 7 fc5:=zb9 (bd b7 xa5) (one r1I) (o:=lb3)
def M4(x:V3)(y:V3):Int:=(W ((W ((W (x.x*y.x))+(W (x.y*y.y))))+(W (x.z*y.z))))
def cb5:Sum:=ba0 (F5 tV) (F5 tV) (λx y=>.ret ((one r1I).enc (M4 x y),[]))
theorem qb7:e8 prog G 72 cb5:=tb2 (bd b72 xa5)
def Ab7(x:V3)(y:V3):V3:=(⟨W (x.x+y.x),W (x.y+y.y),W (x.z+y.z)⟩:V3)
def nc0:Sum:=ba0 (F5 tV) (F5 tV) (λx y=>.ret ((one r1V).enc (Ab7 x y),[]))
theorem dd0:e8 prog G 20 nc0:=tb2 (bd b20 xa5)
def V1(x:V3)(y:V3):V3:=(⟨W ((W (x.y*y.z))-(W (x.z*y.y))),W ((W (x.z*y.x))-(W (x.x*y.z))),W ((W (x.x*y.y))-(W (x.y*y.x)))⟩:V3)
def fb6:Sum:=ba0 (F5 tV) (F5 tV) (λx y=>.ret ((one r1V).enc (V1 x y),[]))
theorem Ab8:e8 prog G 73 fb6:=tb2 (bd b73 xa5)
structure da8 where
 is0:Int
 Rd1:List Int
 is8:Int
structure E3 where
 is9:Int
def cb6(p:da8)(s:E3):St:=⟨i p.is0::ra 6 (eL tI p.Rd1::i p.is8::i s.is9::ra 13 []),[]⟩
def ga8{α:Type}(k:E3->α)(e:Nat->α)(z:α)(p:da8)(s:E3):α:=(sl (decide (s.is9<p.is8)) (sl (inB s.is9 (List.length p.Rd1)) (sl (decide ((gL tI p.Rd1 s.is9.toNat)<(W (0-p.is0)))) (e 1) (sl (decide ((gL tI p.Rd1 s.is9.toNat)>p.is0)) (e 1) (k ⟨W (s.is9+1)⟩))) z) (e 2))
def ba4(p:da8)(s:E3):Stp E3:=ga8 .next .exit .fail p s
def Ha1:Lo da8 E3:=⟨En tbN,0,Ye0,[1,0,1,4,4],[0,7,8,9],.p,[⟨sIq::ru2 6 (sLq tI::sIq::sIq::ru2 13 []),[],λa H=>(⟨aIq a 0,aLq tI a 7,aIq a 8⟩,⟨aIq a 9⟩)⟩],ba4,[(none,λp s=>⟨[b false],[]⟩),(some 0,λp s=>upq (cb6 p s) [(10,b (decide (s.is9<p.is8)))])],cb6⟩
theorem Wb8:Ha1.Ok:=Lo.okq [] .nil λp s=>(.ofq @ga8)
def na2(x:Int)(y:List Int):ROq:=let t1:=(lp (ba4 (⟨x,rt tI y,(↑(List.length y):Int)⟩:da8)) (⟨0⟩:E3));(sl ((cnE tI y)&&true) (sl (Nat.beq t1.1 1) (some (b false,[])) (sl (Nat.beq t1.1 2) (some (b true,[])) none)) none)
def G6(x:Int)(y:List Int):Bool:=F6 (one r1B) (na2 x y)
def G7(x:Int)(y:List Int):Bool:=okO (one r1B) (na2 x y)
def Ca4:Sum:=ba0 cI (N0 tI) (λx y=>.guard (G7 x y) (.ret ((one r1B).enc (G6 x y),[])))
theorem Na8:e8 prog G 91 Ca4:=Lc7 (bd b91 xa5) (one r1B) (o:=na2) λx y=>Z0 (.s .p (.s (.s .p (.b (.u Ha1.ls))) .p)) [Ha1.pr] (.cons Wb8 .nil)
def N2(x:Int):Int:=(if (W (0-x))>x then (W (0-x)) else x)
def Ha2:Sum:=B5 cI (λx=>.ret ((one r1I).enc (N2 x),[]))
theorem cb7:e8 prog G 92 Ha2:=Ld9 (bd b92 xa5)
def Ha3:List (Nat×Sum):=[(92,Ha2)]
theorem Wb9:o4 prog G Ha3:=⟨cb7,trivial⟩
structure Q8 where
 eb6:List Int
 (is7 is8:Int)
structure F9 where
 (is3 is5:Int)
def Wa6(p:Q8)(s:F9):St:=⟨ra 3 (i s.is3::.unk::i s.is5::eL tI p.eb6::i p.is7::i p.is8::ra 15 []),[]⟩
def ca8{α:Type}(k:F9->α)(e:Nat->α)(z:α)(p:Q8)(s:F9):α:=(sl (decide (s.is5>0)) (sl (s.is5==0) z (k ⟨s.is5,Int.tmod s.is3 s.is5⟩)) (e 1))
def N4(p:Q8)(s:F9):Stp F9:=ca8 .next .exit .fail p s
def Ca5:Lo Q8 F9:=⟨En Ha3,0,Ld7,[1,1,0,1,4,4,1,1,0,4,1,1,1,4,4],[3,5,6,7,8],.p,[⟨ru2 3 (sIq::sUq::sIq::sLq tI::sIq::sIq::ru2 15 []),[],λa H=>(⟨aLq tI a 6,aIq a 7,aIq a 8⟩,⟨aIq a 3,aIq a 5⟩)⟩],N4,[(some 2,λp s=>upq (Wa6 p s) [(16,i s.is5),(17,b (decide (s.is5>0)))])],Wa6⟩
theorem Qb5:Ca5.Ok:=Lo.okq [] .nil λp s=>(.ofq @ca8)
structure ba5 where
 is7:Int
structure B7 where
 is3:Int
 eb6:List Int
 is8:Int
def Wa7(p:ba5)(s:B7):St:=⟨ra 3 (i s.is3::.unk::.unk::eL tI s.eb6::i p.is7::i s.is8::ra 15 []),[]⟩
def ca9{α:Type}(k:B7->α)(e:Nat->α)(z:α)(p:ba5)(s:B7):α:=let t1:=(N2 (gL tI s.eb6 s.is8.toNat));let t2:=(lp (N4 (⟨rt tI s.eb6,p.is7,s.is8⟩:Q8)) (⟨s.is3,t1⟩:F9));(sl (decide (s.is8<p.is7)) (sl (inB s.is8 (List.length s.eb6)) (sl ((gL tI s.eb6 s.is8.toNat)==(-9223372036854775808)) (e 1) (sl ((cnE tI s.eb6)&&true) (sl (Nat.beq t2.1 1) (k ⟨t2.2.is3,rt tI s.eb6,W (s.is8+1)⟩) z) z)) z) (e 2))
def X2(p:ba5)(s:B7):Stp B7:=ca9 .next .exit .fail p s
def Ca6:Lo ba5 B7:=⟨En Ha3,0,Ld7,[1,1,0,1,4,4],[3,6,7,8],.s .p (.s .p (.s (.b (.s .p (.s .p (.s .p (.b (.u Ca5.ls)))))) .p)),[⟨ru2 3 (sIq::sUq::sUq::sLq tI::sIq::sIq::ru2 15 []),[],λa H=>(⟨aIq a 7⟩,⟨aIq a 3,aLq tI a 6,aIq a 8⟩)⟩],X2,[(none,λp s=>⟨[i 0],[]⟩),(some 0,λp s=>upq (Wa7 p s) [(9,b (decide (s.is8<p.is7)))])],Wa7⟩
theorem Qb6:Ca6.Ok:=Lo.okq [Ca5.pr] (.cons Qb5 .nil) λp s=>(.ofq @ca9)
def ia4(x:List Int):ROq:=let t1:=(lp (X2 (⟨(↑(List.length x):Int)⟩:ba5)) (⟨0,rt tI x,0⟩:B7));(sl ((cnE tI x)&&true) (sl (Nat.beq t1.1 1) (some (i 0,[])) (sl (Nat.beq t1.1 2) (some (i t1.2.is3,[])) none)) none)
def S9(x:List Int):Int:=F6 (one r1I) (ia4 x)
def T0(x:List Int):Bool:=okO (one r1I) (ia4 x)
def Na9:Sum:=B5 (N0 tI) (λx=>.guard (T0 x) (.ret ((one r1I).enc (S9 x),[])))
theorem lb6:e8 prog G 122 Na9:=vb5 (bd tf9 Wb9) (one r1I) (o:=ia4) λx=>Z0 (.s .p (.s .p (.s (.s .p (.b (.u Ca6.ls))) .p))) [Ca6.pr] (.cons Qb6 .nil)
def Cc8:List (Nat×Sum):=[(91,Ca4),(122,Na9)]
theorem qc4:o4 prog G Cc8:=⟨Na8,lb6,trivial⟩
def sa8(x:Pln):ROq:=let t1:=(G6 4608 [x.n.x,x.n.y,x.n.z]);let t2:=(S9 [x.n.x,x.n.y,x.n.z]);let t3:=(G6 2097152 [x.b]);(sl (G7 4608 [x.n.x,x.n.y,x.n.z]) (sl t1 (sl (T0 [x.n.x,x.n.y,x.n.z]) (sl (t2==1) (sl (G7 2097152 [x.b]) (some (b t3,[])) none) (some (b false,[]))) none) (some (b false,[]))) none)
def sa9(x:Pln):Bool:=F6 (one r1B) (sa8 x)
def ta0(x:Pln):Bool:=okO (one r1B) (sa8 x)
def fb7:Sum:=B5 (F5 tP) (λx=>.guard (ta0 x) (.ret ((one r1B).enc (sa9 x),[])))
theorem Ab9:e8 prog G 90 fb7:=ya7 (bd b90 qc4) (one r1B) (o:=sa8)
def ta1(x:Int)(y:Int):ROq:=(sl (decide (x<y)) (some (i (-1),[])) (sl (decide (x>y)) (some (i 1,[])) (some (i 0,[]))))
def V2(x:Int)(y:Int):Int:=F6 (one r1I) (ta1 x y)
def V4(x:Int)(y:Int):Bool:=okO (one r1I) (ta1 x y)
def fb8:Sum:=ba0 cI cI (λx y=>.guard (V4 x y) (.ret ((one r1I).enc (V2 x y),[])))
theorem Bb0:e8 prog G 115 fb8:=zb9 (bd tf8 xa5) (one r1I) (o:=ta1)
def fc6:List (Nat×Sum):=[(115,fb8)]
theorem Xb0:o4 prog G fc6:=⟨Bb0,trivial⟩
def ia5(x:Pln)(y:Pln):ROq:=let t1:=(V2 x.n.x y.n.x);let t2:=(V2 x.n.y y.n.y);let t3:=(V2 x.n.z y.n.z);let t4:=(V2 x.b y.b);(sl (V4 x.n.x y.n.x) (sl (t1==0) (sl (V4 x.n.y y.n.y) (sl (t2==0) (sl (V4 x.n.z y.n.z) (sl (t3==0) (sl (V4 x.b y.b) (sl (t4==0) (some (i t4,[])) (some (i t4,[]))) none) (some (i t3,[]))) none) (some (i t2,[]))) none) (some (i t1,[]))) none)
def va7(x:Pln)(y:Pln):Int:=F6 (one r1I) (ia5 x y)
def va8(x:Pln)(y:Pln):Bool:=okO (one r1I) (ia5 x y)
def Oa0:Sum:=ba0 (F5 tP) (F5 tP) (λx y=>.guard (va8 x y) (.ret ((one r1I).enc (va7 x y),[])))
theorem fc7:e8 prog G 114 Oa0:=zb9 (bd Gf2 Xb0) (one r1I) (o:=ia5)
def rd1:List (Nat×Sum):=[(91,Ca4)]
theorem dd1:o4 prog G rd1:=⟨Na8,trivial⟩
def Wa8(x:V3):ROq:=let t1:=(G6 24 [x.x,x.y,x.z]);(sl (G7 24 [x.x,x.y,x.z]) (some (b t1,[])) none)
def na3(x:V3):Bool:=F6 (one r1B) (Wa8 x)
def na4(x:V3):Bool:=okO (one r1B) (Wa8 x)
def qb8:Sum:=B5 (F5 tV) (λx=>.guard (na4 x) (.ret ((one r1B).enc (na3 x),[])))
theorem Bb1:e8 prog G 68 qb8:=ya7 (bd b68 dd1) (one r1B) (o:=Wa8)
structure Ye1 where
 (m0 Bf6 Bf7 Bf8 Bf9 Cf0:Int)
end Go.Ev.Ce
namespace Go.Proofs
open Go.Shelf
set_option maxRecDepth 100000 in
def Ce.sortLay_ren:Go.Shelf.Ren:=⟨fun | 6=>113 | 15=>147 | 14=>146 | 28=>169 | 29=>170 | 20=>161 | 21=>162 | 22=>163 | 23=>164 | 24=>165 | 25=>166 | 26=>167 | 27=>168 | 46=>183 | 47=>184 | 48=>185 | 49=>186 | 50=>187 | 57=>195 | n=>n,fun | 22=>43 | 24=>66 | 25=>126 | 3=>3 | 39=>172 | 0=>0 | 53=>190 | 55=>192 | 4=>4 | 46=>183 | 45=>182 | 50=>187 | 5=>5 | 9=>9 | 66=>199 | 70=>203 | 76=>214 | 77=>215 | n=>n,fun | n=>n⟩
set_option maxRecDepth 100000 in
theorem Ce.sortLay:Go.Proofs.SlLaysF0.n6 Tryz.prog Ce.sortLay_ren:={
 mixed:=by kernel_rfl
 f6:=⟨Tryz.f113.name,by decide,Tryz.func113.trans (congrArg some (by kernel_rfl))⟩
 f14:=⟨Tryz.f146.name,by decide,Tryz.func146.trans (congrArg some (by kernel_rfl))⟩
 f15:=Tryz.func147.trans (congrArg some (by kernel_rfl))
 f20:=⟨Tryz.f161.name,by decide,Tryz.func161.trans (congrArg some (by kernel_rfl))⟩
 f21:=⟨Tryz.f162.name,by decide,Tryz.func162.trans (congrArg some (by kernel_rfl))⟩
 f22:=⟨Tryz.f163.name,by decide,Tryz.func163.trans (congrArg some (by kernel_rfl))⟩
 f23:=⟨Tryz.f164.name,by decide,Tryz.func164.trans (congrArg some (by kernel_rfl))⟩
 f24:=⟨Tryz.f165.name,by decide,Tryz.func165.trans (congrArg some (by kernel_rfl))⟩
 f25:=⟨Tryz.f166.name,by decide,Tryz.func166.trans (congrArg some (by kernel_rfl))⟩
 f26:=⟨Tryz.f167.name,by decide,Tryz.func167.trans (congrArg some (by kernel_rfl))⟩
 f27:=⟨Tryz.f168.name,by decide,Tryz.func168.trans (congrArg some (by kernel_rfl))⟩
 f28:=Tryz.func169.trans (congrArg some (by kernel_rfl))
 f29:=Tryz.func170.trans (congrArg some (by kernel_rfl))
 f46:=⟨Tryz.f183.name,by decide,Tryz.func183.trans (congrArg some (by kernel_rfl))⟩
 f47:=Tryz.func184.trans (congrArg some (by kernel_rfl))
 f48:=Tryz.func185.trans (congrArg some (by kernel_rfl))
 f49:=⟨Tryz.f186.name,by decide,Tryz.func186.trans (congrArg some (by kernel_rfl))⟩
 f50:=⟨Tryz.f187.name,by decide,Tryz.func187.trans (congrArg some (by kernel_rfl))⟩
 f57:=⟨Tryz.f195.name,by decide,Tryz.func195.trans (congrArg some (by kernel_rfl))⟩
 t0:=Tryz.underlying0
 a0:=Tryz.isAgg0
 z0:=Tryz.sizeOf0
 v0:=Tryz.zeroValue0
 t3:=Tryz.underlying3
 a3:=Tryz.isAgg3
 z3:=Tryz.sizeOf3
 v3:=Tryz.zeroValue3
 t4:=Tryz.underlying4
 a4:=Tryz.isAgg4
 z4:=Tryz.sizeOf4
 v4:=Tryz.zeroValue4
 t5:=Tryz.underlying5
 a5:=Tryz.isAgg5
 z5:=Tryz.sizeOf5
 v5:=Tryz.zeroValue5
 t9:=Tryz.underlying9
 a9:=Tryz.isAgg9
 z9:=Tryz.sizeOf9
 v9:=Tryz.zeroValue9
 t22:=Tryz.underlying43
 a22:=Tryz.isAgg43
 z22:=Tryz.sizeOf43
 v22:=Tryz.zeroValue43
 t25:=Tryz.underlying126
 a25:=Tryz.isAgg126
 z25:=Tryz.sizeOf126
 v25:=Tryz.zeroValue126
 t39:=Tryz.underlying172
 a39:=Tryz.isAgg172
 z39:=Tryz.sizeOf172
 v39:=Tryz.zeroValue172
 t45:=Tryz.underlying182
 a45:=Tryz.isAgg182
 z45:=Tryz.sizeOf182
 v45:=Tryz.zeroValue182
 t46:=Tryz.underlying183
 a46:=Tryz.isAgg183
 z46:=Tryz.sizeOf183
 v46:=Tryz.zeroValue183
 t50:=Tryz.underlying187
 a50:=Tryz.isAgg187
 z50:=Tryz.sizeOf187
 v50:=Tryz.zeroValue187
 t53:=Tryz.underlying190
 a53:=Tryz.isAgg190
 z53:=Tryz.sizeOf190
 v53:=Tryz.zeroValue190
 t55:=Tryz.underlying192
 a55:=Tryz.isAgg192
 z55:=Tryz.sizeOf192
 v55:=Tryz.zeroValue192
 t66:=Tryz.underlying199
 a66:=Tryz.isAgg199
 z66:=Tryz.sizeOf199
 v66:=Tryz.zeroValue199
 t70:=Tryz.underlying203
 a70:=Tryz.isAgg203
 z70:=Tryz.sizeOf203
 v70:=Tryz.zeroValue203
 t76:=Tryz.underlying214
 a76:=Tryz.isAgg214
 z76:=Tryz.sizeOf214
 v76:=Tryz.zeroValue214
 t77:=Tryz.underlying215
 a77:=Tryz.isAgg215
 z77:=Tryz.sizeOf215
 v77:=Tryz.zeroValue215 }
end Go.Proofs
namespace Go.Ev.Ce
open Go Go.Ev Go.Ev.L Go.Proofs Go.Sort
def Aa0(x y:Int):Int:=if x<y then -1 else if x>y then 1 else 0
def ba6(x y:Pln):Int :=
 if Aa0 x.n.x y.n.x=0 then if Aa0 x.n.y y.n.y=0 then if Aa0 x.n.z y.n.z=0 then Aa0 x.b y.b else Aa0 x.n.z y.n.z else Aa0 x.n.y y.n.y else Aa0 x.n.x y.n.x
theorem qb9(x y:Int):Aa0 x y<0↔x<y:=by unfold Aa0;split<;>(try split)<;>omega
theorem Xb1(x y:Int):Aa0 x y=0↔x=y:=by unfold Aa0;split<;>(try split)<;>omega
def LtP(x y:Pln):Prop:=x.n.x<y.n.x\/x.n.x=y.n.x/\(x.n.y<y.n.y\/x.n.y=y.n.y/\(x.n.z<y.n.z\/x.n.z=y.n.z/\x.b<y.b))
instance(x y:Pln):Decidable (LtP x y):=by unfold LtP;exact inferInstance
theorem dd2(x y:Pln):ba6 x y<0↔LtP x y:=by
 have h1:=qb9 x.n.x y.n.x;have h2:=Xb1 x.n.x y.n.x;have h3:=qb9 x.n.y y.n.y;have h4:=Xb1 x.n.y y.n.y;have h5:=qb9 x.n.z y.n.z;have h6:=Xb1 x.n.z y.n.z;have h7:=qb9 x.b y.b;unfold ba6 LtP;split
 ·split
  ·split<;>omega
  ·omega
 ·omega
theorem Ha4(x y:Pln):ltOf ba6 x y=decide (LtP x y):=by
 unfold ltOf;rw[decide_eq_decide];exact dd2 x y
theorem uf6:SWO (ltOf ba6) where
 irrefl x:=by rw[Ha4];simp[LtP]
 trans x y z h1 h2:=by rw[Ha4,decide_eq_true_eq] at *;unfold LtP at *;omega
 ntrans x y z h1 h2:=by rw[Ha4,decide_eq_false_iff_not] at *;unfold LtP at *;omega
theorem Jf8(x y:Pln)(h1:ltOf ba6 x y=false)(h2:ltOf ba6 y x=false):x=y:=by
 rw[Ha4,decide_eq_false_iff_not] at *
 unfold LtP at *
 obtain⟨⟨a,b,c⟩,d⟩:=x;obtain⟨⟨a',b',c'⟩,d'⟩:=y
 simp only at *
 have:a=a'/\b=b'/\c=c'/\d=d':=by omega
 obtain⟨rfl,rfl,rfl,rfl⟩:=this;rfl
theorem rd2(x y:Int):ta1 x y=some (i (Aa0 x y),[]):=by
 unfold ta1 Aa0;simp only[pb5,decide_eq_true_eq]
 split<;>(try split)<;>rfl
theorem Md0(x y:Int):V2 x y=Aa0 x y:=by unfold V2;rw[rd2];rfl
theorem Md1(x y:Int):V4 x y=true:=by unfold V4;rw[rd2];rfl
theorem Cc9(x y:Pln):ia5 x y=some (i (ba6 x y),[]):=by
 unfold ia5 ba6;simp only[Md0,Md1,pb5,beq_iff_eq,if_true]
 repeat' (first | rfl | split)
theorem uf7(x y:Pln):va7 x y=ba6 x y:=by unfold va7;rw[Cc9];rfl
theorem uf8(x y:Pln):va8 x y=true:=by unfold va8;rw[Cc9];rfl
theorem uf9(x y:Pln):(Oa0 [.agg (tP.row x),.agg (tP.row y)] []).run=some (i (ba6 x y),[]):=by
 have:(Oa0 [.agg (tP.row x),.agg (tP.row y)] []).run=sel (va8 x y) (some (i (va7 x y),[])) none:=by kernel_rfl
 rw[this,uf8,uf7]
def ec5(p:Pln):List Value:=[.int .i64 p.n.x,.int .i64 p.n.y,.int .i64 p.n.z,.int .i64 p.b]
instance:Inhabited Pln:=⟨⟨⟨0,0,0⟩,0⟩⟩
def Lb4(l:PLq):PLq:=l.mergeSort λx y=>!ltOf ba6 y x
theorem Hb2(l:PLq):(Lb4 l).length=l.length:=List.length_mergeSort l
def za0:Sum:=Kd6 tP 114 66 Lb4
theorem ie4:Ce.sortLay_ren.f 6=113:=by kernel_rfl
theorem Uc6:Ce.sortLay_ren.t 24=66:=by kernel_rfl
set_option maxRecDepth 100000 in
theorem fb9:e8 prog G 113 za0:=by
 refine Kd7 (enc:=ec5) (cf:=ba6) ⟨_,Tryz.func113,by kernel_rfl,of_decide_eq_true (by kernel_rfl)⟩ (by decide) (λ_=>rfl) (λr h=>Ga3 (n:=4) h) (λx v hv=>?_) Hb2
  (λblk off size w=>Kd5 fc7 uf9 (λ_=>rfl) (λ_=>rfl) _ _ _ _ _) (λblk cap d w hcl hH hb hs=>?_)
 ·simp[ec5] at hv
  rcases hv with rfl|rfl|rfl|rfl<;>rfl
 ·have eg:∀args w,(callFunc 114 args).run Tryz.prog w=.ok (.enter 114 args) w:=enters_of Tryz.func114 (by kernel_rfl) rfl
  have:=AnyQ.slices_SortFunc Ce.sortLay 4 (by rw[Uc6];exact Tryz.isAgg66) (by rw[Uc6];exact Tryz.sizeOf66) ec5 (λ_=>rfl) (λx v hv=>by simp[ec5] at hv;rcases hv with rfl | rfl | rfl | rfl<;>rfl) ba6 uf6 114 #[] blk 0 cap d w eg (hcl 0 d.size) hH hb hs
  rw[ie4] at this;refine this.mono λe w' ⟨h1,d',n,os,h2,h3,h4⟩=>⟨h1,n,os,?_⟩
  have h5:=sorted_unique_holds uf6 Jf8 d d' h2 h3;rw[h4];show _=sortWorldK ec5 4 w blk 0 n (d.toList.mergeSort λx y=>!ltOf ba6 y x).toArray os
  rw[<- h5]
end Go.Ev.Ce
namespace Go.Ev.Ce
open Go Go.Ev Go.Ev.L Go.Proofs
set_option maxRecDepth 100000
structure Oa1 where
 is1:Int
 s7:List Int
 d7:Int
def fc8:List (Nat×Sum):=[(7,fc5)]
theorem Xb2:o4 prog G fc8:=⟨Cc7,trivial⟩
structure Oa2 where
 alt:Nat
 (is0 d7:Int)
def Oa3{α:Type}(kk:Oa2->α)(x:Oa1):α:=let y0:=(W ((W (x.d7+1))-1));let t1:=(lb4 (gL tI x.s7 y0.toNat) x.is1);(sl (decide (x.d7>=(↑(List.length x.s7):Int))) (kk ⟨1,0,x.d7⟩) (sl (inB y0 (List.length x.s7)) (sl (lb5 (gL tI x.s7 y0.toNat) x.is1) (kk ⟨1,t1,W (x.d7+1)⟩) (kk ⟨0,0,0⟩)) (kk ⟨0,0,0⟩)))
def l7(x:Oa1):Oa2:=Oa3 (λr=>r) x
def lb7(x:Oa1)(r:Oa2):DT (b9×List c7):=(kb7 r.alt 1 (i r.is0,[bq 0 2 [[eL tI x.s7,i r.d7]]]) .fail)
def ia6:Sum:=Za4 ⟨[sPq 0,sIq],[⟨0,2,true,some [[.c 1 (nL tI),.o (.int .i64)]]⟩],λa H=>(⟨aIq a 1,hLq tI H 0 0 0,hIq H 0 0 1⟩,())⟩ (λx=>lb7 x (l7 x))
theorem qa5:e8 prog G 24 ia6:=Q0 (enc:=λx=>⟨[.ptr 0 0 0 0,i x.is1],[bq 0 2 [[eL tI x.s7,i x.d7]]]⟩) (λa H=>by kernel_rfl) (bd b24 Xb2) λx=>Fa0 (mEq @Oa3 (λr=>(lb7 x r).run) x)
def Ed3:List (Nat×Sum):=[(24,ia6)]
theorem rd3:o4 prog G Ed3:=⟨qa5,trivial⟩
structure gc0 where
 alt:Nat
 (va2 va3 va4:Int)
 s7:List Int
 d7:Int
def gc1{α:Type}(kk:gc0->α)(x:Oa1):α:=let y1:=(W ((W (2*x.is1))+1));let y0:=(rt tI x.s7);let t1:=(l7 ⟨y1,y0,x.d7⟩);let t2:=(l7 ⟨y1,rt tI y0,t1.d7⟩);let t3:=(l7 ⟨y1,rt tI (rt tI y0),t2.d7⟩);(sl ((cnE tI x.s7)&&true) (sl (Nat.beq t1.alt 1) (sl ((cnE tI y0)&&true) (sl (Nat.beq t2.alt 1) (sl ((cnE tI (rt tI y0))&&true) (sl (Nat.beq t3.alt 1) (kk ⟨1,W (t1.is0-x.is1),W (t2.is0-x.is1),W (t3.is0-x.is1),rt tI (rt tI y0),t3.d7⟩) (kk ⟨0,0,0,0,[],0⟩)) (kk ⟨0,0,0,0,[],0⟩)) (kk ⟨0,0,0,0,[],0⟩)) (kk ⟨0,0,0,0,[],0⟩)) (kk ⟨0,0,0,0,[],0⟩)) (kk ⟨0,0,0,0,[],0⟩))
def Ha5(x:Oa1):gc0:=gc1 (λr=>r) x
def Dc0(x:Oa1)(r:gc0):DT (b9×List c7):=(kb7 r.alt 1 (.agg [i r.va2,i r.va3,i r.va4],[bq 0 2 [[eL tI r.s7,i r.d7]]]) .fail)
def gc2:Sum:=Za4 ⟨[sPq 0,sIq],[⟨0,2,true,some [[.c 1 (nL tI),.o (.int .i64)]]⟩],λa H=>(⟨aIq a 1,hLq tI H 0 0 0,hIq H 0 0 1⟩,())⟩ (λx=>Dc0 x (Ha5 x))
theorem Dc1:e8 prog G 25 gc2:=Q0 (enc:=λx=>⟨[.ptr 0 0 0 0,i x.is1],[bq 0 2 [[eL tI x.s7,i x.d7]]]⟩) (λa H=>by kernel_rfl) (bd b25 rd3) λx=>Fa0 (mEq @gc1 (λr=>(Dc0 x r).run) x)
def qa6(x:V3)(y:V3):V3:=(⟨W (x.x-y.x),W (x.y-y.y),W (x.z-y.z)⟩:V3)
def gc3:Sum:=ba0 (F5 tV) (F5 tV) (λx y=>.ret ((one r1V).enc (qa6 x y),[]))
theorem Dc2:e8 prog G 83 gc3:=tb2 (bd b83 xa5)
def Xd0:List (Nat×Sum):=[(117,qa4)]
theorem Ed4:o4 prog G Xd0:=⟨Ba8,trivial⟩
def Bb2(x:V3):ROq:=(sl (decide (x.x<(-24))) (some (b false,[])) (sl (decide (x.x>24)) (some (b false,[])) (sl (decide (x.y<(-24))) (some (b false,[])) (sl (decide (x.y>24)) (some (b false,[])) (sl (decide (x.z<(-24))) (some (b false,[])) (sl (decide (x.z>24)) (some (b false,[])) (some (b true,[]))))))))
def Ka9(x:V3):Bool:=F6 (one r1B) (Bb2 x)
def La0(x:V3):Bool:=okO (one r1B) (Bb2 x)
def Xb3:Sum:=B5 (F5 tV) (λx=>.guard (La0 x) (.ret ((one r1B).enc (Ka9 x),[])))
theorem gc4:e8 prog G 80 Xb3:=ya7 (bd b80 Ed4) (one r1B) (o:=Bb2)
def Dc3:List (Nat×Sum):=[(80,Xb3),(83,gc3),(82,Ab0),(81,Qb4),(84,Gb8)]
theorem qc5:o4 prog G Dc3:=⟨gc4,Dc2,Wb3,mc8,Qb2,trivial⟩
def ta2(x:V3)(y:V3)(z:V3):ROq:=let y0:=(.tup [.agg [i 0,i 0,i 0,i 0],b false],[]);let t1:=(Ka9 x);let t2:=(Ka9 y);let t3:=(Ka9 z);let t4:=(qa6 y x);let t5:=(qa6 z x);let t6:=(M2 t4 t5);let t7:=(xa6 t6);let t8:=(ja7 t7.1 x);(sl (La0 x) (sl (!t1) (some y0) (sl (La0 y) (sl (!t2) (some y0) (sl (La0 z) (sl (!t3) (some y0) (sl (Wa3 t6) (sl (t7.2==0) (some y0) (some (.tup [.agg [i t7.1.x,i t7.1.y,i t7.1.z,i t8],b true],[]))) none)) none)) none)) none)
def ca1(x:V3)(y:V3)(z:V3):Pln×Bool:=F6 (two r1P r1B) (ta2 x y z)
def ca2(x:V3)(y:V3)(z:V3):Bool:=okO (two r1P r1B) (ta2 x y z)
def Ja3:Sum:=yb3 (F5 tV) (F5 tV) (F5 tV) (λx y z=>.guard (ca2 x y z) (.ret ((two r1P r1B).enc (ca1 x y z),[])))
theorem Wa9:e8 prog G 49 Ja3:=ie3 (bd b49 qc5) (two r1P r1B) (o:=ta2)
def rd4:List (Nat×Sum):=[(24,ia6),(25,gc2),(49,Ja3),(7,fc5)]
theorem dd3:o4 prog G rd4:=⟨qa5,Dc1,Wa9,Cc7,trivial⟩
def ga9(x:List Int):ROq:=let t1:=(l7 ⟨8,rt tI x,0⟩);let y0:=(i (W (1-(W (2*(Int.tmod t1.is0 2))))));let t2:=(l7 ⟨17,rt tI (rt tI x),t1.d7⟩);let y1:=(W (t2.is0-8));let t3:=(Ha5 ⟨8,rt tI (rt tI (rt tI x)),t2.d7⟩);let y2:=(⟨t3.va2,t3.va3,t3.va4⟩:V3);let t4:=(Ha5 ⟨8,rt tI t3.s7,t3.d7⟩);let y3:=(⟨t4.va2,t4.va3,t4.va4⟩:V3);let t5:=(Ha5 ⟨8,rt tI t4.s7,t4.d7⟩);let y4:=(⟨t5.va2,t5.va3,t5.va4⟩:V3);let t6:=(ca1 y2 y3 y4);let t7:=(lb4 y1 3);let w0:ROq:=(sl (lb5 y1 3) (sl (t7==1) (some (.agg [i 0,y0,i 0,i y1],[])) (sl (t7==2) (some (.agg [i 0,i 0,y0,i y1],[])) (some (.agg [y0,i 0,i 0,i y1],[])))) none);(sl ((cnE tI x)&&true) (sl (Nat.beq t1.alt 1) (sl ((cnE tI (rt tI x))&&true) (sl (Nat.beq t2.alt 1) (sl ((cnE tI (rt tI (rt tI x)))&&true) (sl (Nat.beq t3.alt 1) (sl ((cnE tI t3.s7)&&true) (sl (Nat.beq t4.alt 1) (sl ((cnE tI t4.s7)&&true) (sl (Nat.beq t5.alt 1) (sl (ca2 y2 y3 y4) (sl (decide (t1.is0>1)) (sl t6.2 (some (.agg [i t6.1.n.x,i t6.1.n.y,i t6.1.n.z,i t6.1.b],[])) w0) w0) none) none) none) none) none) none) none) none) none) none) none)
def na5(x:List Int):Pln:=F6 (one r1P) (ga9 x)
def Qb7(x:List Int):Bool:=okO (one r1P) (ga9 x)
def Dc4:Sum:=B5 (N0 tI) (λx=>.guard (Qb7 x) (.ret ((one r1P).enc (na5 x),[])))
theorem rd5:e8 prog G 27 Dc4:=ya7 (bd b27 dd3) (one r1P) (o:=ga9)
def rd6:List (Nat×Sum):=[(83,gc3)]
theorem dd4:o4 prog G rd6:=⟨Dc2,trivial⟩
def Ha6(x:Pln):Pln:=let t1:=(qa6 (⟨0,0,0⟩:V3) x.n);(⟨t1,W (0-x.b)⟩:Pln)
def Dc5:Sum:=B5 (F5 tP) (λx=>.ret ((one r1P).enc (Ha6 x),[]))
theorem rd7:e8 prog G 56 Dc5:=Ld9 (bd b56 dd4)
def rd8:List (Nat×Sum):=[(85,Ab4),(80,Xb3),(84,Gb8)]
theorem dd5:o4 prog G rd8:=⟨Wb6,gc4,Qb2,trivial⟩
def xa7(x:Pln)(y:V3):ROq:=let t1:=(Ka6 x);let t2:=(Ka9 y);let t3:=(ja7 x.n y);(sl (Ka7 x) (sl (!t1) (some (i 0,[])) (sl (La0 y) (sl (!t2) (some (i 0,[])) (sl (decide ((W (t3-x.b))<0)) (some (i (-1),[])) (sl (decide ((W (t3-x.b))>0)) (some (i 1,[])) (some (i 0,[]))))) none)) none)
def Ha7(x:Pln)(y:V3):Int:=F6 (one r1I) (xa7 x y)
def rb0(x:Pln)(y:V3):Bool:=okO (one r1I) (xa7 x y)
def Qb8:Sum:=ba0 (F5 tP) (F5 tV) (λx y=>.guard (rb0 x y) (.ret ((one r1I).enc (Ha7 x y),[])))
theorem nc1:e8 prog G 88 Qb8:=zb9 (bd b88 dd5) (one r1I) (o:=xa7)
structure ia7 where
 (g8 d7 i5 m0 sb2 sb3 sb4 Rd2:Int)
structure H9 where
 is7:Int
def lb8(p:ia7)(s:H9):St:=⟨ra 5 (.ptr 0 0 0 0::.ptr 1 0 0 0::i s.is7::ra 42 []),[bq 0 4 [[i p.g8,i p.d7,i p.i5,i p.m0]],bq 0 4 [[i p.sb2,i p.sb3,i p.sb4,i p.Rd2]]]⟩
def Q9{α:Type}(k:H9->α)(e:Nat->α)(z:α)(p:ia7)(s:H9):α:=let y2:=(Nat.ble ((0+(s.is7.toNat*1))+1) 4);let y1:=(i9 [i p.sb2,i p.sb3,i p.sb4,i p.Rd2] (0+(s.is7.toNat*1)));let y4:=(y2&&(ma4 [CK.int .i64] y1));let y0:=(i9 [i p.g8,i p.d7,i p.i5,i p.m0] (0+(s.is7.toNat*1)));let y3:=(y2&&(ma4 [CK.int .i64] y0));(sl (decide (s.is7<4)) (sl (inB s.is7 4) (sl y3 (sl (inB s.is7 4) (sl y4 (sl (decide ((toI (hdA y0))<(toI (hdA y1)))) (e 1) (sl (inB s.is7 4) (sl y3 (sl (inB s.is7 4) (sl y4 (sl (decide ((toI (hdA y0))>(toI (hdA y1)))) (e 2) (k ⟨W (s.is7+1)⟩)) z) z) z) z)) z) z) z) z) (e 3))
def B1(p:ia7)(s:H9):Stp H9:=Q9 .next .exit .fail p s
abbrev Xa0:B2:=⟨0,4,true,some [[.o (.int .i64),.o (.int .i64),.o (.int .i64),.o (.int .i64)]]⟩
def Oa4:Lo ia7 H9:=⟨En tbN,0,rf1,[1,1,1,0,1,4,4],[5,6,7],.p,[⟨ru2 5 (sPq 0::sPq 1::sIq::ru2 42 []),[Xa0,Xa0],λa H=>(⟨hIq H 0 0 0,hIq H 0 0 1,hIq H 0 0 2,hIq H 0 0 3,hIq H 1 0 0,hIq H 1 0 1,hIq H 1 0 2,hIq H 1 0 3⟩,⟨aIq a 7⟩)⟩],B1,[(none,λp s=>⟨[i (-1)],[]⟩),(none,λp s=>⟨[i 1],[]⟩),(some 0,λp s=>upq (lb8 p s) [(32,i s.is7),(33,b (decide (s.is7<4)))])],lb8⟩
theorem gc5:Oa4.Ok:=Lo.okq [] .nil λp s=>(.ofq @Q9)
def ca3(x:Pln)(y:Pln):ROq:=let t1:=(lp (B1 (⟨x.n.x,x.n.y,x.n.z,x.b,y.n.x,y.n.y,y.n.z,y.b⟩:ia7)) (⟨0⟩:H9));(sl (Nat.beq t1.1 1) (some (i (-1),[])) (sl (Nat.beq t1.1 2) (some (i 1,[])) (sl (Nat.beq t1.1 3) (some (i 0,[])) none)))
def ca4(x:Pln)(y:Pln):Int:=F6 (one r1I) (ca3 x y)
def gb0(x:Pln)(y:Pln):Bool:=okO (one r1I) (ca3 x y)
def Lb5:Sum:=ba0 (F5 tP) (F5 tP) (λx y=>.guard (gb0 x y) (.ret ((one r1I).enc (ca4 x y),[])))
theorem Dc6:e8 prog G 89 Lb5:=Lc7 (bd b89 xa5) (one r1I) (o:=ca3) λx y=>Z0 (.s .p (.s .p (.s .p (.s (.s .p (.b (.u Oa4.ls))) .p)))) [Oa4.pr] (.cons gc5 .nil)
def La1:List (Nat×Sum):=[(49,Ja3),(88,Qb8)]
theorem dd6:o4 prog G La1:=⟨Wa9,nc1,trivial⟩
structure ha0 where
 f0:List V3
 (is3 is4 is5:Int)
 bs7:Bool
 (g8 d7 i5 m0:Int)
structure U2 where
 is8:Int
def gb1(p:ha0)(s:U2):St:=⟨eL tV p.f0::.unk::.unk::i p.is3::i p.is4::i p.is5::.ptr 0 0 0 0::b p.bs7::i s.is8::ra 48 [],[bq 0 4 [[i p.g8,i p.d7,i p.i5,i p.m0]]]⟩
def X3{α:Type}(k:U2->α)(e:Nat->α)(z:α)(p:ha0)(s:U2):α:=let y0:=(⟨(⟨p.g8,p.d7,p.i5⟩:V3),p.m0⟩:Pln);let t1:=(Ha7 y0 (gL tV p.f0 s.is8.toNat));(sl (decide (s.is8<(↑(List.length p.f0):Int))) (sl p.bs7 (sl (inB s.is8 (List.length p.f0)) (sl (rb0 y0 (gL tV p.f0 s.is8.toNat)) (sl (t1 != 0) (e 1) (k ⟨W (s.is8+1)⟩)) z) z) (e 2)) (e 3))
def u7(p:ha0)(s:U2):Stp U2:=X3 .next .exit .fail p s
def rb1:Lo ha0 U2:=⟨En La1,0,he8,[1,0,1,4,4,1,0,4,1,4,4,1,0,4,1,4,4,1,0,4,1,1,4,4],[0,3,4,5,6,7,8],.p,[⟨sLq tV::sUq::sUq::sIq::sIq::sIq::sPq 0::sBq::sIq::ru2 48 [],[⟨0,4,true,some [kLq 4]⟩],λa H=>(⟨aLq tV a 0,aIq a 3,aIq a 4,aIq a 5,aBq a 7,hIq H 0 0 0,hIq H 0 0 1,hIq H 0 0 2,hIq H 0 0 3⟩,⟨aIq a 8⟩)⟩],u7,[(none,λp s=>⟨[b false],[]⟩),(some 6,λp s=>upq (gb1 p s) [(41,i s.is8),(42,eL tV p.f0),(43,i (↑(List.length p.f0):Int)),(44,b (decide (s.is8<(↑(List.length p.f0):Int)))),(45,b true),(46,b p.bs7),(47,b p.bs7)]),(some 6,λp s=>upq (gb1 p s) [(41,i s.is8),(42,eL tV p.f0),(43,i (↑(List.length p.f0):Int)),(44,b (decide (s.is8<(↑(List.length p.f0):Int)))),(45,b false),(46,u),(47,b false)])],gb1⟩
theorem Mc5:rb1.Ok:=Lo.okq [] .nil λp s=>(.ofq @X3)
structure Ca7 where
 (is3 is4:Int)
structure U3 where
 f0:List V3
 is5:Int
def Lb6(p:Ca7)(s:U3):St:=⟨eL tV s.f0::.unk::.unk::i p.is3::i p.is4::i s.is5::ra 51 [],[]⟩
def da9{α:Type}(k:U3->α)(e:Nat->α)(z:α)(p:Ca7)(s:U3):α:=let y0:=(List.length s.f0);let t1:=(ca1 (gL tV s.f0 p.is3.toNat) (gL tV s.f0 p.is4.toNat) (gL tV s.f0 s.is5.toNat));let t2:=(lp (u7 (⟨rt tV s.f0,p.is3,p.is4,s.is5,t1.2,t1.1.n.x,t1.1.n.y,t1.1.n.z,t1.1.b⟩:ha0)) (⟨0⟩:U2));(sl (decide (s.is5<p.is4)) (sl (inB p.is3 y0) (sl (inB p.is4 y0) (sl (inB s.is5 y0) (sl (ca2 (gL tV s.f0 p.is3.toNat) (gL tV s.f0 p.is4.toNat) (gL tV s.f0 s.is5.toNat)) (sl ((cnE tV s.f0)&&true) (sl (Nat.beq t2.1 1) (e 1) (sl (Nat.beq t2.1 2) (k ⟨rt tV s.f0,W (s.is5+1)⟩) (sl (Nat.beq t2.1 3) (k ⟨rt tV s.f0,W (s.is5+1)⟩) z))) z) z) z) z) z) (e 2))
def K2(p:Ca7)(s:U3):Stp U3:=da9 .next .exit .fail p s
def rb2:Lo Ca7 U3:=⟨En La1,0,he8,[1,0,1,4,4,1,0,4,1,4,4,1,0,4,1,4,4],[0,3,4,5],.s .p (.s (.b (.s .p (.s .p (.b (.u rb1.ls))))) .p),[⟨sLq tV::sUq::sUq::sIq::sIq::sIq::ru2 51 [],[],λa H=>(⟨aIq a 3,aIq a 4⟩,⟨aLq tV a 0,aIq a 5⟩)⟩],K2,[(none,λp s=>⟨[b false],[]⟩),(some 4,λp s=>upq (Lb6 p s) [(20,i s.is5),(21,i p.is4),(22,b (decide (s.is5<p.is4)))])],Lb6⟩
theorem Mc6:rb2.Ok:=Lo.okq [rb1.pr] (.cons Mc5 .nil) λp s=>(.ofq @da9)
structure U4 where
 f0:List V3
 is4:Int
def Lb7(p:N8)(s:U4):St:=⟨eL tV s.f0::.unk::.unk::i p.is3::i s.is4::ra 52 [],[]⟩
def ea0{α:Type}(k:U4->α)(e:Nat->α)(z:α)(p:N8)(s:U4):α:=let t1:=(lp (K2 (⟨p.is3,s.is4⟩:Ca7)) (⟨rt tV s.f0,0⟩:U3));(sl (decide (s.is4<p.is3)) (sl ((cnE tV s.f0)&&true) (sl (Nat.beq t1.1 1) (e 1) (sl (Nat.beq t1.1 2) (k ⟨t1.2.f0,W (s.is4+1)⟩) z)) z) (e 2))
def K3(p:N8)(s:U4):Stp U4:=ea0 .next .exit .fail p s
def rb3:Lo N8 U4:=⟨En La1,0,he8,[1,0,1,4,4,1,0,4,1,4,4],[0,3,4],.s .p (.s (.b (.s .p (.b (.u rb2.ls)))) .p),[⟨sLq tV::sUq::sUq::sIq::sIq::ru2 52 [],[],λa H=>(⟨aIq a 3⟩,⟨aLq tV a 0,aIq a 4⟩)⟩],K3,[(none,λp s=>⟨[b false],[]⟩),(some 2,λp s=>upq (Lb7 p s) [(15,i s.is4),(16,i p.is3),(17,b (decide (s.is4<p.is3)))])],Lb7⟩
theorem Mc7:rb3.Ok:=Lo.okq [rb2.pr] (.cons Mc6 .nil) λp s=>(.ofq @ea0)
structure U5 where
 f0:List V3
 is3:Int
def Lb8(p:ma8)(s:U5):St:=⟨eL tV s.f0::.unk::.unk::i s.is3::ra 53 [],[]⟩
def ea1{α:Type}(k:U5->α)(e:Nat->α)(z:α)(p:ma8)(s:U5):α:=let t1:=(lp (K3 (⟨s.is3⟩:N8)) (⟨rt tV s.f0,0⟩:U4));(sl (decide (s.is3<(↑(List.length s.f0):Int))) (sl ((cnE tV s.f0)&&true) (sl (Nat.beq t1.1 1) (e 1) (sl (Nat.beq t1.1 2) (k ⟨t1.2.f0,W (s.is3+1)⟩) z)) z) (e 2))
def K4(p:ma8)(s:U5):Stp U5:=ea1 .next .exit .fail p s
def rb4:Lo ma8 U5:=⟨En La1,0,he8,[1,0,1,4,4],[0,3],.s .p (.s (.b (.s .p (.b (.u rb3.ls)))) .p),[⟨sLq tV::sUq::sUq::sIq::ru2 53 [],[],λa H=>(⟨⟩,⟨aLq tV a 0,aIq a 3⟩)⟩],K4,[(none,λp s=>⟨[b false],[]⟩),(some 0,λp s=>upq (Lb8 p s) [(9,i s.is3),(10,eL tV s.f0),(11,i (↑(List.length s.f0):Int)),(12,b (decide (s.is3<(↑(List.length s.f0):Int))))])],Lb8⟩
theorem Mc8:rb4.Ok:=Lo.okq [rb3.pr] (.cons Mc7 .nil) λp s=>(.ofq @ea1)
def xa8(x:List V3):ROq:=let t1:=(lp (K4 (⟨⟩:ma8)) (⟨rt tV x,0⟩:U5));(sl ((cnE tV x)&&true) (sl (Nat.beq t1.1 1) (some (b false,[])) (sl (Nat.beq t1.1 2) (some (b true,[])) none)) none)
def xa9(x:List V3):Bool:=F6 (one r1B) (xa8 x)
def Ha8(x:List V3):Bool:=okO (one r1B) (xa8 x)
def Qb9:Sum:=B5 (N0 tV) (λx=>.guard (Ha8 x) (.ret ((one r1B).enc (xa9 x),[])))
theorem nc2:e8 prog G 57 Qb9:=vb5 (bd b57 dd6) (one r1B) (o:=xa8) λx=>Z0 (.s .p (.s (.s .p (.b (.u rb4.ls))) .p)) [rb4.pr] (.cons Mc8 .nil)
def Xb4:List (Nat×Sum):=[(80,Xb3),(57,Qb9)]
theorem Mc9:o4 prog G Xb4:=⟨gc4,nc2,trivial⟩
structure ta3 where
 f0:List V3
def Bb3(p:ta3)(s:N8):St:=⟨eL tV p.f0::.unk::.unk::i s.is3::ra 17 [],[]⟩
def aa2{α:Type}(k:N8->α)(e:Nat->α)(z:α)(p:ta3)(s:N8):α:=let t1:=(Ka9 (gL tV p.f0 s.is3.toNat));(sl (decide (s.is3<(↑(List.length p.f0):Int))) (sl (inB s.is3 (List.length p.f0)) (sl (La0 (gL tV p.f0 s.is3.toNat)) (sl (!t1) (e 1) (k ⟨W (s.is3+1)⟩)) z) z) (e 2))
def P0(p:ta3)(s:N8):Stp N8:=aa2 .next .exit .fail p s
def gb2:Lo ta3 N8:=⟨En Xb4,0,of3,[1,1,0,1,4,4],[0,3],.p,[⟨sLq tV::sUq::sUq::sIq::ru2 17 [],[],λa H=>(⟨aLq tV a 0⟩,⟨aIq a 3⟩)⟩],P0,[(none,λp s=>⟨[i 3],[]⟩),(some 0,λp s=>upq (Bb3 p s) [(7,i s.is3),(8,eL tV p.f0),(9,i (↑(List.length p.f0):Int)),(10,b (decide (s.is3<(↑(List.length p.f0):Int))))])],Bb3⟩
theorem Dc7:gb2.Ok:=Lo.okq [] .nil λp s=>(.ofq @aa2)
def na6(x:List V3):ROq:=let t1:=(lp (P0 (⟨rt tV x⟩:ta3)) (⟨0⟩:N8));let t2:=(xa9 (rt tV (rt tV x)));(sl (decide ((↑(List.length x):Int)>48)) (some (i 2,[])) (sl ((cnE tV x)&&true) (sl (Nat.beq t1.1 1) (some (i 3,[])) (sl (Nat.beq t1.1 2) (sl (okE tV (rt tV x)) (sl (Ha8 (rt tV (rt tV x))) (sl t2 (some (i 11,[])) (some (i 0,[]))) none) none) none)) none))
def La2(x:List V3):Int:=F6 (one r1I) (na6 x)
def Bb4(x:List V3):Bool:=okO (one r1I) (na6 x)
def nc3:Sum:=B5 (N0 tV) (λx=>.guard (Bb4 x) (.ret ((one r1I).enc (La2 x),[])))
theorem dd7:e8 prog G 53 nc3:=vb5 (bd b53 Mc9) (one r1I) (o:=na6) λx=>Z0 (.s .p (.s .p (.s (.s .p (.b (.u gb2.ls))) .p))) [gb2.pr] (.cons Dc7 .nil)
def Xb5:List (Nat×Sum):=[(88,Qb8)]
theorem Nc0:o4 prog G Xb5:=⟨nc1,trivial⟩
structure ta4 where
 oc8:List V3
 (g8 d7 i5 m0:Int)
def Bb5(p:ta4)(s:ga7):St:=⟨.unk::eL tV p.oc8::.ptr 0 0 0 0::.unk::.unk::i s.is5::ra 13 [],[bq 0 4 [[i p.g8,i p.d7,i p.i5,i p.m0]]]⟩
def aa3{α:Type}(k:ga7->α)(e:Nat->α)(z:α)(p:ta4)(s:ga7):α:=let y0:=(⟨(⟨p.g8,p.d7,p.i5⟩:V3),p.m0⟩:Pln);let t1:=(Ha7 y0 (gL tV p.oc8 s.is5.toNat));(sl (decide (s.is5<(↑(List.length p.oc8):Int))) (sl (inB s.is5 (List.length p.oc8)) (sl (rb0 y0 (gL tV p.oc8 s.is5.toNat)) (sl (decide (t1>0)) (e 1) (k ⟨W (s.is5+1)⟩)) z) z) (e 2))
def P1(p:ta4)(s:ga7):Stp ga7:=aa3 .next .exit .fail p s
def gb3:Lo ta4 ga7:=⟨En Xb5,0,of4,[1,0,1,4,4],[1,2,5],.p,[⟨sUq::sLq tV::sPq 0::sUq::sUq::sIq::ru2 13 [],[⟨0,4,true,some [kLq 4]⟩],λa H=>(⟨aLq tV a 1,hIq H 0 0 0,hIq H 0 0 1,hIq H 0 0 2,hIq H 0 0 3⟩,⟨aIq a 5⟩)⟩],P1,[(none,λp s=>⟨[b false],[]⟩),(some 0,λp s=>upq (Bb5 p s) [(6,i s.is5),(7,eL tV p.oc8),(8,i (↑(List.length p.oc8):Int)),(9,b (decide (s.is5<(↑(List.length p.oc8):Int))))])],Bb5⟩
theorem Dc8:gb3.Ok:=Lo.okq [] .nil λp s=>(.ofq @aa3)
def na7(x:Pln)(y:List V3):ROq:=let t1:=(lp (P1 (⟨rt tV y,x.n.x,x.n.y,x.n.z,x.b⟩:ta4)) (⟨0⟩:ga7));(sl ((cnE tV y)&&true) (sl (Nat.beq t1.1 1) (some (b false,[])) (sl (Nat.beq t1.1 2) (some (b true,[])) none)) none)
def ga2(x:Pln)(y:List V3):Bool:=F6 (one r1B) (na7 x y)
def V5(x:Pln)(y:List V3):Bool:=okO (one r1B) (na7 x y)
def nc4:Sum:=ba0 (F5 tP) (N0 tV) (λx y=>.guard (V5 x y) (.ret ((one r1B).enc (ga2 x y),[])))
theorem dd8:e8 prog G 54 nc4:=Lc7 (bd b54 Nc0) (one r1B) (o:=na7) λx y=>Z0 (.s .p (.s (.s .p (.b (.u gb3.ls))) .p)) [gb3.pr] (.cons Dc8 .nil)
def Dc9:List (Nat×Sum):=[(89,Lb5)]
theorem rd9:o4 prog G Dc9:=⟨Dc6,trivial⟩
def Xb6(p:Wa1)(s:ga7):St:=⟨eL tP p.f9::.unk::.unk::.ptr 0 0 0 0::.unk::i s.is5::ra 42 [],[bq 0 4 [[i p.g8,i p.d7,i p.i5,i p.m0]]]⟩
def ja9{α:Type}(k:ga7->α)(e:Nat->α)(z:α)(p:Wa1)(s:ga7):α:=let y0:=(⟨(⟨p.g8,p.d7,p.i5⟩:V3),p.m0⟩:Pln);let t1:=(ca4 (gL tP p.f9 s.is5.toNat) y0);(sl (decide (s.is5<(↑(List.length p.f9):Int))) (sl (inB s.is5 (List.length p.f9)) (sl (gb0 (gL tP p.f9 s.is5.toNat) y0) (sl (decide (t1<0)) (k ⟨W (s.is5+1)⟩) (e 1)) z) z) (e 2))
def N9(p:Wa1)(s:ga7):Stp ga7:=ja9 .next .exit .fail p s
def Bb6:Lo Wa1 ga7:=⟨En Dc9,0,of5,[1,1,0,4,4],[0,3,5],.p,[⟨sLq tP::sUq::sUq::sPq 0::sUq::sIq::ru2 42 [],[⟨0,4,true,some [kLq 4]⟩],λa H=>(⟨aLq tP a 0,hIq H 0 0 0,hIq H 0 0 1,hIq H 0 0 2,hIq H 0 0 3⟩,⟨aIq a 5⟩)⟩],N9,[(some 0,λp s=>let t1:=(ca4 (gL tP p.f9 s.is5.toNat) (⟨(⟨p.g8,p.d7,p.i5⟩:V3),p.m0⟩:Pln));⟨eL tP p.f9::.unk::.unk::.ptr 0 0 0 0::.unk::i s.is5::.unk::i s.is5::eL tP p.f9::i (↑(List.length p.f9):Int)::b (decide (s.is5<(↑(List.length p.f9):Int)))::b true::eL tP p.f9::i s.is5::.tptr [i (gL tP p.f9 s.is5.toNat).n.x,i (gL tP p.f9 s.is5.toNat).n.y,i (gL tP p.f9 s.is5.toNat).n.z,i (gL tP p.f9 s.is5.toNat).b]::.agg [i (gL tP p.f9 s.is5.toNat).n.x,i (gL tP p.f9 s.is5.toNat).n.y,i (gL tP p.f9 s.is5.toNat).n.z,i (gL tP p.f9 s.is5.toNat).b]::.agg [i p.g8,i p.d7,i p.i5,i p.m0]::i t1::b (decide (t1<0))::b (decide (t1<0))::ra 28 [],[bq 0 4 [[i p.g8,i p.d7,i p.i5,i p.m0]]]⟩),(some 0,λp s=>upq (Xb6 p s) [(7,i s.is5),(8,eL tP p.f9),(9,i (↑(List.length p.f9):Int)),(10,b (decide (s.is5<(↑(List.length p.f9):Int)))),(11,b false),(12,u),(13,u),(14,u),(15,u),(16,u),(17,u),(18,u),(19,b false)])],Xb6⟩
theorem dd9:Bb6.Ok:=Lo.okq [] .nil λp s=>(.ofq @ja9)
def Ha9(x:PLq)(y:Pln):ROq:=let y0:=(List.length (rt tP x));let t1:=(lp (N9 (⟨rt tP x,y.n.x,y.n.y,y.n.z,y.b⟩:Wa1)) (⟨0⟩:ga7));let a0:=(l9 (λk=>(λk=>(tP).row (gL tP (rt tP x) k)) (0+k)) (List.range (t1.2.is5.toNat-0)));let y2:=((0+(len a0))+1);let y1:=(app (app [] a0) [[i y.n.x,i y.n.y,i y.n.z,i y.b]]);let a1:=(l9 (λk=>(λk=>(tP).row (gL tP (rt tP x) k)) (t1.2.is5.toNat+k)) (List.range (y0-t1.2.is5.toNat)));let a2:=(inB t1.2.is5 (y0+1));let a3:=(Nat.beq (0+(len a0)) (len (app [] a0))&&Nat.ble (y2*32) room);let a4:=(y2+(len a1));let a5:=(gL tP (rt tP x) t1.2.is5.toNat);let a6:=(Nat.beq 0 0&&Nat.ble ((0+(len a0))*32) room);let w0:ROq:=(sl a2 (sl a6 (sl a3 (sl a2 (sl (Nat.beq y2 (len y1)&&Nat.ble (a4*32) room) (some (.sl 0 0 a4 0,[bq 66 4 (app y1 a1)])) none) none) none) none) none);let w1:ROq:=(sl (decide (t1.2.is5<(↑y0:Int))) (sl (inB t1.2.is5 y0) (sl ((a5.n.x==y.n.x)&&((a5.n.y==y.n.y)&&((a5.n.z==y.n.z)&&((a5.b==y.b)&&true)))) (some (eL tP (rt tP x),[])) w0) none) w0);(sl ((cnE tP x)&&true) (sl (Nat.beq t1.1 1) w1 (sl (Nat.beq t1.1 2) w1 none)) none)
def A4(x:PLq)(y:Pln):PLq:=F6 (one (r1L tP)) (Ha9 x y)
def aa4(x:PLq)(y:Pln):Bool:=okO (one (r1L tP)) (Ha9 x y)
def Uc7:Sum:=ba0 (N0 tP) (F5 tP) (λx y=>.guard (aa4 x y) (.ret ((one (r1L tP)).enc (A4 x y),[])))
theorem Ed5:e8 prog G 55 Uc7:=Lc7 (bd b55 rd9) (one (r1L tP)) (o:=Ha9) λx y=>Z0 (.s .p (.s .p (.s (.b (.u Bb6.ls)) .p))) [Bb6.pr] (.cons dd9 .nil)
def Ra6:List (Nat×Sum):=[(53,nc3),(49,Ja3),(54,nc4),(55,Uc7),(56,Dc5)]
theorem Nc1:o4 prog G Ra6:=⟨dd7,Wa9,dd8,Ed5,rd7,trivial⟩
structure O0 where
 f0:List V3
 (is6 is7:Int)
structure q8 where
 ph:Nat
 is8:Int
 ca6:PLq
def tb4(p:O0)(s:q8):St:=⟨eL tV p.f0::ra 4 (nlq::i p.is6::i p.is7::i s.is8::ra 56 []),[]⟩
def tb5(p:O0)(s:q8):St:=⟨eL tV p.f0::ra 4 (eL tP s.ca6::i p.is6::i p.is7::i s.is8::ra 56 []),[]⟩
def Ec0(p:O0)(s:q8):St:=(sel (Nat.beq s.ph 1) (tb5 p s) (tb4 p s))
def D0{α:Type}(k:q8->α)(e:Nat->α)(z:α)(p:O0)(s:q8):α:=let y0:=(List.length p.f0);let t1:=(ca1 (gL tV p.f0 p.is6.toNat) (gL tV p.f0 p.is7.toNat) (gL tV p.f0 s.is8.toNat));let t2:=(ga2 t1.1 (rt tV p.f0));let t3:=(A4 [] t1.1);let t4:=(Ha6 t1.1);let t5:=(ga2 t4 (rt tV p.f0));let t6:=(A4 (rt tP t3) t4);let t7:=(A4 [] t4);(sl (decide (s.is8<p.is7)) (sl (inB p.is6 y0) (sl (inB p.is7 y0) (sl (inB s.is8 y0) (sl (ca2 (gL tV p.f0 p.is6.toNat) (gL tV p.f0 p.is7.toNat) (gL tV p.f0 s.is8.toNat)) (sl (!t1.2) (k ⟨0,W (s.is8+1),[]⟩) (sl (okE tV p.f0) (sl (V5 t1.1 (rt tV p.f0)) (sl t2 (sl (aa4 [] t1.1) (sl (okE tV p.f0) (sl (V5 t4 (rt tV p.f0)) (sl t5 (sl (okE tP t3) (sl (aa4 (rt tP t3) t4) (k ⟨1,W (s.is8+1),t6⟩) z) z) (k ⟨1,W (s.is8+1),t3⟩)) z) z) z) (sl (okE tV p.f0) (sl (V5 t4 (rt tV p.f0)) (sl t5 (sl (aa4 [] t4) (k ⟨1,W (s.is8+1),t7⟩) z) (k ⟨0,W (s.is8+1),[]⟩)) z) z)) z) z)) z) z) z) z) (e 1))
def D1{α:Type}(k:q8->α)(e:Nat->α)(z:α)(p:O0)(s:q8):α:=let y0:=(List.length p.f0);let t1:=(ca1 (gL tV p.f0 p.is6.toNat) (gL tV p.f0 p.is7.toNat) (gL tV p.f0 s.is8.toNat));let t2:=(ga2 t1.1 (rt tV p.f0));let t3:=(A4 (rt tP s.ca6) t1.1);let t4:=(Ha6 t1.1);let t5:=(ga2 t4 (rt tV p.f0));let t6:=(A4 (rt tP t3) t4);let t7:=(A4 (rt tP s.ca6) t4);(sl (decide (s.is8<p.is7)) (sl (inB p.is6 y0) (sl (inB p.is7 y0) (sl (inB s.is8 y0) (sl (ca2 (gL tV p.f0 p.is6.toNat) (gL tV p.f0 p.is7.toNat) (gL tV p.f0 s.is8.toNat)) (sl (!t1.2) (k ⟨1,W (s.is8+1),s.ca6⟩) (sl (okE tV p.f0) (sl (V5 t1.1 (rt tV p.f0)) (sl t2 (sl (okE tP s.ca6) (sl (aa4 (rt tP s.ca6) t1.1) (sl (okE tV p.f0) (sl (V5 t4 (rt tV p.f0)) (sl t5 (sl (okE tP t3) (sl (aa4 (rt tP t3) t4) (k ⟨1,W (s.is8+1),t6⟩) z) z) (k ⟨1,W (s.is8+1),t3⟩)) z) z) z) z) (sl (okE tV p.f0) (sl (V5 t4 (rt tV p.f0)) (sl t5 (sl (okE tP s.ca6) (sl (aa4 (rt tP s.ca6) t4) (k ⟨1,W (s.is8+1),t7⟩) z) z) (k ⟨1,W (s.is8+1),s.ca6⟩)) z) z)) z) z)) z) z) z) z) (e 2))
def L0(p:O0)(s:q8):Stp q8:=(sel (Nat.beq s.ph 1) (D1 .next .exit .fail p s) (D0 .next .exit .fail p s))
def gb4:Lo O0 q8:=⟨En Ra6,0,Ae8,[1,1,1,1,0,1,4,4,1,0,4,1,4,4,1,0,4,1,4,4],[0,5,6,7,8],.p,[⟨sLq tV::ru2 4 (.s (.o .nil)::sIq::sIq::sIq::ru2 56 []),[],λa H=>(⟨aLq tV a 0,aIq a 6,aIq a 7⟩,⟨0,aIq a 8,[]⟩)⟩,⟨sLq tV::ru2 4 (sLq tP::sIq::sIq::sIq::ru2 56 []),[],λa H=>(⟨aLq tV a 0,aIq a 6,aIq a 7⟩,⟨1,aIq a 8,aLq tP a 5⟩)⟩],L0,[(some 4,λp s=>upq (tb4 p s) [(27,i s.is8),(28,i p.is7),(29,b (decide (s.is8<p.is7)))]),(some 4,λp s=>upq (tb5 p s) [(27,i s.is8),(28,i p.is7),(29,b (decide (s.is8<p.is7)))])],Ec0⟩
theorem Ec1:gb4.Ok:=Lo.okq [] .nil λp s=>(.sel (Nat.beq s.ph 1) (.ofq @D1) (.ofq @D0))
structure O1 where
 is6:Int
structure q9 where
 ph:Nat
 f0:List V3
 is7:Int
 ca6:PLq
def tb6(p:O1)(s:q9):St:=⟨eL tV s.f0::ra 4 (nlq::i p.is6::i s.is7::ra 57 []),[]⟩
def tb7(p:O1)(s:q9):St:=⟨eL tV s.f0::ra 4 (eL tP s.ca6::i p.is6::i s.is7::ra 57 []),[]⟩
def Ec2(p:O1)(s:q9):St:=(sel (Nat.beq s.ph 1) (tb7 p s) (tb6 p s))
def D2{α:Type}(k:q9->α)(e:Nat->α)(z:α)(p:O1)(s:q9):α:=let t1:=(lp (L0 (⟨rt tV s.f0,p.is6,s.is7⟩:O0)) (⟨0,0,[]⟩:q8));(sl (decide (s.is7<p.is6)) (sl ((cnE tV s.f0)&&true) (sl (Nat.beq t1.1 1) (k ⟨0,rt tV s.f0,W (s.is7+1),[]⟩) (sl (Nat.beq t1.1 2) (k ⟨1,rt tV s.f0,W (s.is7+1),t1.2.ca6⟩) z)) z) (e 1))
def D3{α:Type}(k:q9->α)(e:Nat->α)(z:α)(p:O1)(s:q9):α:=let t1:=(lp (L0 (⟨rt tV s.f0,p.is6,s.is7⟩:O0)) (⟨1,0,rt tP s.ca6⟩:q8));(sl (decide (s.is7<p.is6)) (sl ((cnE tV s.f0)&&((cnE tP s.ca6)&&true)) (sl (Nat.beq t1.1 1) (k ⟨0,rt tV s.f0,W (s.is7+1),[]⟩) (sl (Nat.beq t1.1 2) (k ⟨1,rt tV s.f0,W (s.is7+1),t1.2.ca6⟩) z)) z) (e 2))
def L1(p:O1)(s:q9):Stp q9:=(sel (Nat.beq s.ph 1) (D3 .next .exit .fail p s) (D2 .next .exit .fail p s))
def gb5:Lo O1 q9:=⟨En Ra6,0,Ae8,[1,1,1,1,0,1,4,4,1,0,4,1,4,4],[0,5,6,7],.s .p (.s (.b (.s .p (.b (.u gb4.ls)))) .p),[⟨sLq tV::ru2 4 (.s (.o .nil)::sIq::sIq::ru2 57 []),[],λa H=>(⟨aIq a 6⟩,⟨0,aLq tV a 0,aIq a 7,[]⟩)⟩,⟨sLq tV::ru2 4 (sLq tP::sIq::sIq::ru2 57 []),[],λa H=>(⟨aIq a 6⟩,⟨1,aLq tV a 0,aIq a 7,aLq tP a 5⟩)⟩],L1,[(some 2,λp s=>upq (tb6 p s) [(22,i s.is7),(23,i p.is6),(24,b (decide (s.is7<p.is6)))]),(some 2,λp s=>upq (tb7 p s) [(22,i s.is7),(23,i p.is6),(24,b (decide (s.is7<p.is6)))])],Ec2⟩
theorem Ec3:gb5.Ok:=Lo.okq [gb4.pr] (.cons Ec1 .nil) λp s=>(.sel (Nat.beq s.ph 1) (.ofq @D3) (.ofq @D2))
structure r8 where
 ph:Nat
 f0:List V3
 is6:Int
 ca6:PLq
def tb8(p:ma8)(s:r8):St:=⟨eL tV s.f0::ra 4 (nlq::i s.is6::ra 58 []),[]⟩
def tb9(p:ma8)(s:r8):St:=⟨eL tV s.f0::ra 4 (eL tP s.ca6::i s.is6::ra 58 []),[]⟩
def Ec4(p:ma8)(s:r8):St:=(sel (Nat.beq s.ph 1) (tb9 p s) (tb8 p s))
def D4{α:Type}(k:r8->α)(e:Nat->α)(z:α)(p:ma8)(s:r8):α:=let t1:=(lp (L1 (⟨s.is6⟩:O1)) (⟨0,rt tV s.f0,0,[]⟩:q9));(sl (decide (s.is6<(↑(List.length s.f0):Int))) (sl ((cnE tV s.f0)&&true) (sl (Nat.beq t1.1 1) (k ⟨0,t1.2.f0,W (s.is6+1),[]⟩) (sl (Nat.beq t1.1 2) (k ⟨1,t1.2.f0,W (s.is6+1),t1.2.ca6⟩) z)) z) (e 1))
def D5{α:Type}(k:r8->α)(e:Nat->α)(z:α)(p:ma8)(s:r8):α:=let t1:=(lp (L1 (⟨s.is6⟩:O1)) (⟨1,rt tV s.f0,0,rt tP s.ca6⟩:q9));(sl (decide (s.is6<(↑(List.length s.f0):Int))) (sl ((cnE tV s.f0)&&((cnE tP s.ca6)&&true)) (sl (Nat.beq t1.1 1) (k ⟨0,t1.2.f0,W (s.is6+1),[]⟩) (sl (Nat.beq t1.1 2) (k ⟨1,t1.2.f0,W (s.is6+1),t1.2.ca6⟩) z)) z) (e 2))
def ea2(p:ma8)(s:r8):Stp r8:=(sel (Nat.beq s.ph 1) (D5 .next .exit .fail p s) (D4 .next .exit .fail p s))
def gb6:Lo ma8 r8:=⟨En Ra6,0,Ae8,[1,1,1,1,0,1,4,4],[0,5,6],.s .p (.s (.b (.s .p (.b (.u gb5.ls)))) .p),[⟨sLq tV::ru2 4 (.s (.o .nil)::sIq::ru2 58 []),[],λa H=>(⟨⟩,⟨0,aLq tV a 0,aIq a 6,[]⟩)⟩,⟨sLq tV::ru2 4 (sLq tP::sIq::ru2 58 []),[],λa H=>(⟨⟩,⟨1,aLq tV a 0,aIq a 6,aLq tP a 5⟩)⟩],ea2,[(some 0,λp s=>upq (tb8 p s) [(16,i s.is6),(17,eL tV s.f0),(18,i (↑(List.length s.f0):Int)),(19,b (decide (s.is6<(↑(List.length s.f0):Int))))]),(some 0,λp s=>upq (tb9 p s) [(16,i s.is6),(17,eL tV s.f0),(18,i (↑(List.length s.f0):Int)),(19,b (decide (s.is6<(↑(List.length s.f0):Int))))])],Ec4⟩
theorem Ec5:gb6.Ok:=Lo.okq [gb5.pr] (.cons Ec3 .nil) λp s=>(.sel (Nat.beq s.ph 1) (.ofq @D5) (.ofq @D4))
def na8(x:List V3):ROq:=let t1:=(La2 (rt tV x));let t2:=(lp (ea2 (⟨⟩:ma8)) (⟨0,rt tV x,0,[]⟩:r8));(sl (okE tV x) (sl (Bb4 (rt tV x)) (sl (t1 != 0) (some (.tup [nlq,i t1],[])) (sl ((cnE tV x)&&true) (sl (Nat.beq t2.1 1) (some (.tup [nlq,i 0],[])) (sl (Nat.beq t2.1 2) (some (.tup [eL tP t2.2.ca6,i 0],[])) none)) none)) none) none)
def Bb7(x:List V3):PLq×Int:=F6 (two (r1L tP) r1I) (na8 x)
def La4(x:List V3):Bool:=okO (two (r1L tP) r1I) (na8 x)
def nc5:Sum:=B5 (N0 tV) (λx=>.guard (La4 x) (.ret ((two (r1L tP) r1I).enc (Bb7 x),[])))
theorem ed0:e8 prog G 29 nc5:=vb5 (bd b29 Nc1) (two (r1L tP) r1I) (o:=na8) λx=>Z0 (.s .p (.s .p (.s .p (.s .p (.s (.s .p (.b (.u gb6.ls))) .p))))) [gb6.pr] (.cons Ec5 .nil)
def Lb9:List (Nat×Sum):=[(24,ia6),(57,Qb9)]
theorem Ec6:o4 prog G Lb9:=⟨qa5,nc2,trivial⟩
structure s8 where
 ph:Nat
 is6:Int
 s7:List Int
 d7:Int
 ns5:Nat
 eh1:List (List b9)
def lb9(p:H8)(s:s8):St:=⟨ra 3 (.ptr 0 0 0 0::i p.is4::nlq::i s.is6::ra 127 []),[bq 0 2 [[eL tI s.s7,i s.d7]]]⟩
def mb0(p:H8)(s:s8):St:=⟨ra 3 (.ptr 0 0 0 0::i p.is4::.sl 1 0 s.ns5 0::i s.is6::ra 127 []),[bq 0 2 [[eL tI s.s7,i s.d7]],bq 23 3 s.eh1]⟩
def qc6(p:H8)(s:s8):St:=(sel (Nat.beq s.ph 1) (mb0 p s) (lb9 p s))
def qa7{α:Type}(k:s8->α)(e:Nat->α)(z:α)(p:H8)(s:s8):α:=let y1:=(rt tI s.s7);let y0:=(rt tI y1);let y2:=(rt tI (rt tI y0));let t1:=(l7 ⟨17,y1,s.d7⟩);let t2:=(l7 ⟨17,y0,t1.d7⟩);let t3:=(l7 ⟨17,rt tI y0,t2.d7⟩);let t4:=(l7 ⟨6,y2,t3.d7⟩);let w0:α:=(sl (t4.is0==3) (sl (decide (s.is6>2)) z (k ⟨1,W (s.is6+1),y2,t4.d7,1,[[i (W (t1.is0-8)),i (W (t2.is0-8)),i (W (t3.is0-8))]]⟩)) (k ⟨1,W (s.is6+1),y2,t4.d7,1,[[i (W (t1.is0-8)),i (W (t2.is0-8)),i (W (t3.is0-8))]]⟩));(sl (decide (s.is6<p.is4)) (sl ((cnE tI s.s7)&&true) (sl (Nat.beq t1.alt 1) (sl ((cnE tI y1)&&true) (sl (Nat.beq t2.alt 1) (sl ((cnE tI y0)&&true) (sl (Nat.beq t3.alt 1) (sl ((cnE tI (rt tI y0))&&true) (sl (Nat.beq t4.alt 1) (sl (t4.is0==1) (sl (decide (s.is6>1)) z (sl (t4.is0==2) (sl (decide (s.is6>0)) z w0) w0)) (sl (t4.is0==2) (sl (decide (s.is6>0)) z w0) w0)) z) z) z) z) z) z) z) z) (e 1))
def I8{α:Type}(k:s8->α)(e:Nat->α)(z:α)(p:H8)(s:s8):α:=let y8:=(rt tI s.s7);let y7:=(decide (s.is6>0));let y6:=(decide (s.is6>2));let y5:=(j6 s.eh1 (0+(W (s.is6-2)).toNat));let y3:=(Nat.blt (0+(W (s.is6-1)).toNat) (len s.eh1));let t1:=(l7 ⟨17,y8,s.d7⟩);let a0:=(j6 s.eh1 (0+(W (s.is6-1)).toNat));let y4:=(tlA (i9 a0 0));let a1:=(Nat.beq s.ns5 (len s.eh1)&&Nat.ble ((s.ns5+1)*24) room);let a3:=(i9 y5 0);let a4:=(y3&&(Nat.ble (2+1) (len a0)));let y0:=(a4&&(ma4 [CK.int .i64] (i9 a0 2)));let a5:=(i (W (Int.tdiv (W ((toI (hdA y4))+(toI (hdA (tlA a3))))) 2)));let a6:=(i (W (Int.tdiv (W ((toI (hdA (i9 a0 0)))+(toI (hdA a3)))) 2)));let a7:=(app s.eh1 [[a6,a5,i (W (Int.tdiv (W ((toI (hdA (tlA y4)))+(toI (hdA (tlA (tlA a3)))))) 2))]]);let a8:=(inB (W (s.is6-1)) s.ns5);let a9:=(i (toI (hdA y4)));let a10:=(y3&&(Nat.ble (0+3) (len a0)));let y2:=(a10&&(ma4 [CK.int .i64,CK.int .i64,CK.int .i64] (i9 a0 0)));let a11:=(i (toI (hdA (i9 a0 0))));let a12:=(app s.eh1 [[a11,a9,i (toI (hdA (tlA y4)))]]);let a13:=(i (toI (hdA (i9 a0 2))));let a14:=(rt tI y8);let t2:=(l7 ⟨17,a14,t1.d7⟩);let t3:=(l7 ⟨17,rt tI a14,t2.d7⟩);let y1:=(app s.eh1 [[i (W (t1.is0-8)),i (W (t2.is0-8)),i (W (t3.is0-8))]]);let a2:=(rt tI (rt tI a14));let t4:=(l7 ⟨6,a2,t3.d7⟩);let w0:α:=(sl (t4.is0==3) (sl y6 (sl a8 (sl y0 (sl a1 (k ⟨1,W (s.is6+1),a2,t4.d7,s.ns5+1,app s.eh1 [[i (W (t1.is0-8)),i (W (t2.is0-8)),a13]]⟩) z) z) z) (sl a1 (k ⟨1,W (s.is6+1),a2,t4.d7,s.ns5+1,y1⟩) z)) (sl a1 (k ⟨1,W (s.is6+1),a2,t4.d7,s.ns5+1,y1⟩) z));let w1:α:=(sl a8 (sl y2 (sl (t4.is0==3) (sl y6 (sl a8 (sl y0 (sl a1 (k ⟨1,W (s.is6+1),a2,t4.d7,s.ns5+1,app s.eh1 [[a11,a9,a13]]⟩) z) z) z) (sl a1 (k ⟨1,W (s.is6+1),a2,t4.d7,s.ns5+1,a12⟩) z)) (sl a1 (k ⟨1,W (s.is6+1),a2,t4.d7,s.ns5+1,a12⟩) z)) z) z);let w2:α:=(sl (t4.is0==3) (sl y6 (sl a8 (sl y0 (sl a1 (k ⟨1,W (s.is6+1),a2,t4.d7,s.ns5+1,app s.eh1 [[a6,a5,a13]]⟩) z) z) z) (sl a1 (k ⟨1,W (s.is6+1),a2,t4.d7,s.ns5+1,a7⟩) z)) (sl a1 (k ⟨1,W (s.is6+1),a2,t4.d7,s.ns5+1,a7⟩) z));(sl (decide (s.is6<p.is4)) (sl ((cnE tI s.s7)&&true) (sl (Nat.beq t1.alt 1) (sl ((cnE tI y8)&&true) (sl (Nat.beq t2.alt 1) (sl ((cnE tI a14)&&true) (sl (Nat.beq t3.alt 1) (sl ((cnE tI (rt tI a14))&&true) (sl (Nat.beq t4.alt 1) (sl (t4.is0==1) (sl (decide (s.is6>1)) (sl a8 (sl y2 (sl (inB (W (s.is6-2)) s.ns5) (sl (((Nat.blt (0+(W (s.is6-2)).toNat) (len s.eh1))&&(Nat.ble (0+3) (len y5)))&&(ma4 [CK.int .i64,CK.int .i64,CK.int .i64] a3)) (sl (t4.is0==2) (sl y7 w1 w2) w2) z) z) z) z) (sl (t4.is0==2) (sl y7 w1 w0) w0)) (sl (t4.is0==2) (sl y7 w1 w0) w0)) z) z) z) z) z) z) z) z) (e 2))
def va9(p:H8)(s:s8):Stp s8:=(sel (Nat.beq s.ph 1) (I8 .next .exit .fail p s) (qa7 .next .exit .fail p s))
def Xa1:Lo H8 s8:=⟨En Lb9,0,mf1,[1,1,1,1,0,1,4,4],[3,4,5,6],.p,[⟨ru2 3 (sPq 0::sIq::.s (.o .nil)::sIq::ru2 127 []),[⟨0,2,true,some [[.c 1 (nL tI),.o (.int .i64)]]⟩],λa H=>(⟨aIq a 4⟩,⟨0,aIq a 6,hLq tI H 0 0 0,hIq H 0 0 1,0,[]⟩)⟩,⟨ru2 3 (sPq 0::sIq::.s (.o (.sl 1 0 (some 0) none))::sIq::ru2 127 []),[⟨0,2,true,some [[.c 1 (nL tI),.o (.int .i64)]]⟩,⟨23,3,true,none⟩],λa H=>(⟨aIq a 4⟩,⟨1,aIq a 6,hLq tI H 0 0 0,hIq H 0 0 1,slN (slT a 5),elT H 1⟩)⟩],va9,[(some 0,λp s=>upq (lb9 p s) [(18,i s.is6),(19,i p.is4),(20,b (decide (s.is6<p.is4)))]),(some 0,λp s=>upq (mb0 p s) [(18,i s.is6),(19,i p.is4),(20,b (decide (s.is6<p.is4)))])],qc6⟩
theorem qc7:Xa1.Ok:=Lo.okq [] .nil λp s=>(.sel (Nat.beq s.ph 1) (.ofq @I8) (.ofq @qa7))
def Da0(x:List Int):ROq:=let t1:=(l7 ⟨5,rt tI x,0⟩);let t2:=(lp (va9 (⟨W (4+t1.is0)⟩:H8)) (⟨0,0,rt tI (rt tI x),t1.d7,0,[]⟩:s8));let t3:=(xa9 []);let t4:=(xa9 (lsL tV t2.2.ns5 (λk=>j6 t2.2.eh1 (0+k))));let a0:=(i9 (j6 t2.2.eh1 0) 0);let y1:=(toI (hdA (tlA a0)));let a1:=(i (toI (hdA (tlA (tlA a0)))));let a2:=(i (W ((toI (hdA a0))-3)));let a3:=(setAt t2.2.eh1 1 (T8 (j6 t2.2.eh1 1) 0 [a2,i y1,a1]));let a4:=(i (W (y1-2)));let y0:=(setAt a3 2 (T8 (j6 a3 2) 0 [i (toI (hdA a0)),a4,a1]));(sl ((cnE tI x)&&true) (sl (Nat.beq t1.alt 1) (sl ((cnE tI (rt tI x))&&true) (sl (Nat.beq t2.1 1) (sl (Ha8 []) (sl t3 none (some (nlq,[]))) none) (sl (Nat.beq t2.1 2) (sl (okL tV t2.2.ns5 (λk=>j6 t2.2.eh1 (0+k))) (sl (Ha8 (lsL tV t2.2.ns5 (λk=>j6 t2.2.eh1 (0+k)))) (sl t4 (sl (inB 0 t2.2.ns5) (sl (((Nat.blt 0 (len t2.2.eh1))&&(Nat.ble (0+3) (len (j6 t2.2.eh1 0))))&&(ma4 [CK.int .i64,CK.int .i64,CK.int .i64] a0)) (sl (inB 1 t2.2.ns5) (sl ((Nat.blt 1 (len t2.2.eh1))&&(Nat.ble (0+3) (len (j6 t2.2.eh1 1)))) (sl (inB 2 t2.2.ns5) (sl ((Nat.blt 2 (len a3))&&(Nat.ble (0+3) (len (j6 a3 2)))) (sl (inB 3 t2.2.ns5) (sl ((Nat.blt 3 (len y0))&&(Nat.ble (0+3) (len (j6 y0 3)))) (some (.sl 0 0 t2.2.ns5 0,[bq 23 3 (setAt y0 3 (T8 (j6 y0 3) 0 [i (toI (hdA a0)),i y1,i (W ((toI (hdA (tlA (tlA a0))))-1))]))])) none) none) none) none) none) none) none) none) (some (.sl 0 0 t2.2.ns5 0,[bq 23 3 t2.2.eh1]))) none) none) none)) none) none) none)
def B9(x:List Int):List V3:=F6 (one (r1L tV)) (Da0 x)
def Ra7(x:List Int):Bool:=okO (one (r1L tV)) (Da0 x)
def Xb7:Sum:=B5 (N0 tI) (λx=>.guard (Ra7 x) (.ret ((one (r1L tV)).enc (B9 x),[])))
theorem Nc2:e8 prog G 30 Xb7:=vb5 (bd b30 Ec6) (one (r1L tV)) (o:=Da0) λx=>Z0 (.s .p (.s .p (.s .p (.s .p (.s (.s .p (.b (.u Xa1.ls))) .p))))) [Xa1.pr] (.cons qc7 .nil)
def sd0:List (Nat×Sum):=[(24,ia6),(25,gc2),(26,fc4),(27,Dc4),(28,Cc6),(30,Xb7),(29,nc5)]
theorem ed1:o4 prog G sd0:=⟨qa5,Dc1,Cc4,rd5,rd0,Nc2,ed0,trivial⟩
def ya0(x:List Int):ROq:=let y0:=(↑(List.length x):Int);let t1:=(l7 ⟨4,rt tI x,0⟩);let t2:=(Ha5 ⟨6,rt tI (rt tI x),t1.d7⟩);let y4:=(⟨t2.va2,t2.va3,t2.va4⟩:V3);let y3:=(rt tI t2.s7);let t3:=(l7 ⟨6,y3,t2.d7⟩);let t4:=(l7 ⟨6,rt tI y3,t3.d7⟩);let t5:=(l7 ⟨6,rt tI (rt tI y3),t4.d7⟩);let y2:=(⟨W ((W (t2.va2+1))+t3.is0),W ((W (t2.va3+1))+t4.is0),W ((W (t2.va4+1))+t5.is0)⟩:V3);let t6:=(lb0 y4 y2);let y1:=(List.range (List.length t6));let t7:=(na5 (lsL tI ((List.length x)-(if 7<y0 then 7 else y0).toNat) (λk=>(λk=>(tI).row (gL tI x k)) ((if 7<y0 then 7 else y0).toNat+k))));let t8:=(Ga9 (slR tP (app (app [] (l9 (λk=>(tP).row (gL tP t6 k)) y1)) [[i t7.n.x,i t7.n.y,i t7.n.z,i t7.b]]) 0 ((0+(len (l9 (λk=>(tP).row (gL tP t6 k)) y1)))+1)));let t9:=(B9 (lsL tI ((List.length x)-(if 7<y0 then 7 else y0).toNat) (λk=>(λk=>(tI).row (gL tI x k)) ((if 7<y0 then 7 else y0).toNat+k))));let t10:=(Bb7 (rt tV t9));let w0:ROq:=(sl (okE tV t9) (sl (La4 (rt tV t9)) (sl (t10.2==0) (some (eL tP t10.1,[])) (some (eL tP t6,[]))) none) none);(sl ((cnE tI x)&&true) (sl (Nat.beq t1.alt 1) (sl ((cnE tI (rt tI x))&&true) (sl (Nat.beq t2.alt 1) (sl ((cnE tI t2.s7)&&true) (sl (Nat.beq t3.alt 1) (sl ((cnE tI y3)&&true) (sl (Nat.beq t4.alt 1) (sl ((cnE tI (rt tI y3))&&true) (sl (Nat.beq t5.alt 1) (sl (lb1 y4 y2) (sl (inB (if 7<y0 then 7 else y0) ((List.length x)+1)) (sl (t1.is0==2) (sl (Nat.beq 0 0&&Nat.ble ((0+(len (l9 (λk=>(tP).row (gL tP t6 k)) y1)))*32) room) (sl (okL tI ((List.length x)-(if 7<y0 then 7 else y0).toNat) (λk=>(λk=>(tI).row (gL tI x k)) ((if 7<y0 then 7 else y0).toNat+k))) (sl (Qb7 (lsL tI ((List.length x)-(if 7<y0 then 7 else y0).toNat) (λk=>(λk=>(tI).row (gL tI x k)) ((if 7<y0 then 7 else y0).toNat+k)))) (sl (Nat.beq (0+(len (l9 (λk=>(tP).row (gL tP t6 k)) y1))) (len (app [] (l9 (λk=>(tP).row (gL tP t6 k)) y1)))&&Nat.ble (((0+(len (l9 (λk=>(tP).row (gL tP t6 k)) y1)))+1)*32) room) (sl (okS tP (app (app [] (l9 (λk=>(tP).row (gL tP t6 k)) y1)) [[i t7.n.x,i t7.n.y,i t7.n.z,i t7.b]]) 0 ((0+(len (l9 (λk=>(tP).row (gL tP t6 k)) y1)))+1)) (sl (Ha0 (slR tP (app (app [] (l9 (λk=>(tP).row (gL tP t6 k)) y1)) [[i t7.n.x,i t7.n.y,i t7.n.z,i t7.b]]) 0 ((0+(len (l9 (λk=>(tP).row (gL tP t6 k)) y1)))+1))) (sl t8 (some ((.sl 0 0 ((0+(len (l9 (λk=>(tP).row (gL tP t6 k)) y1)))+1) 0),[(bq 66 4 (app (app [] (l9 (λk=>(tP).row (gL tP t6 k)) y1)) [[i t7.n.x,i t7.n.y,i t7.n.z,i t7.b]]))])) (sl (t1.is0==3) (sl (okL tI ((List.length x)-(if 7<y0 then 7 else y0).toNat) (λk=>(λk=>(tI).row (gL tI x k)) ((if 7<y0 then 7 else y0).toNat+k))) (sl (Ra7 (lsL tI ((List.length x)-(if 7<y0 then 7 else y0).toNat) (λk=>(λk=>(tI).row (gL tI x k)) ((if 7<y0 then 7 else y0).toNat+k)))) w0 none) none) (some (eL tP t6,[])))) none) none) none) none) none) none) (sl (t1.is0==3) (sl (okL tI ((List.length x)-(if 7<y0 then 7 else y0).toNat) (λk=>(λk=>(tI).row (gL tI x k)) ((if 7<y0 then 7 else y0).toNat+k))) (sl (Ra7 (lsL tI ((List.length x)-(if 7<y0 then 7 else y0).toNat) (λk=>(λk=>(tI).row (gL tI x k)) ((if 7<y0 then 7 else y0).toNat+k)))) w0 none) none) (some (eL tP t6,[])))) none) none) none) none) none) none) none) none) none) none) none) none)
def Ia0(x:List Int):PLq:=F6 (one (r1L tP)) (ya0 x)
def Rb0(x:List Int):Bool:=okO (one (r1L tP)) (ya0 x)
def Ec7:Sum:=B5 (N0 tI) (λx=>.guard (Rb0 x) (.ret ((one (r1L tP)).enc (Ia0 x),[])))
theorem sd1:e8 prog G 13 Ec7:=ya7 (bd b13 ed1) (one (r1L tP)) (o:=ya0)
structure Da1 where
 (f9 oc9:PLq)
def Mb0(p:Da1)(s:ga7):St:=⟨eL tP p.f9::eL tP p.oc9::ra 3 (i s.is5::ra 20 []),[]⟩
def Da2{α:Type}(k:ga7->α)(e:Nat->α)(z:α)(p:Da1)(s:ga7):α:=let y1:=(gL tP p.oc9 s.is5.toNat);let y0:=(gL tP p.f9 s.is5.toNat);(sl (decide (s.is5<(↑(List.length p.f9):Int))) (sl (inB s.is5 (List.length p.f9)) (sl (inB s.is5 (List.length p.oc9)) (sl (!((y0.n.x==y1.n.x)&&((y0.n.y==y1.n.y)&&((y0.n.z==y1.n.z)&&((y0.b==y1.b)&&true))))) (e 1) (k ⟨W (s.is5+1)⟩)) z) z) (e 2))
def ta5(p:Da1)(s:ga7):Stp ga7:=Da2 .next .exit .fail p s
def rb5:Lo Da1 ga7:=⟨En tbN,0,lf4,[1,1,0,1,4,4],[0,1,5],.p,[⟨sLq tP::sLq tP::ru2 3 (sIq::ru2 20 []),[],λa H=>(⟨aLq tP a 0,aLq tP a 1⟩,⟨aIq a 5⟩)⟩],ta5,[(none,λp s=>⟨[b false],[]⟩),(some 0,λp s=>upq (Mb0 p s) [(11,i s.is5),(12,eL tP p.f9),(13,i (↑(List.length p.f9):Int)),(14,b (decide (s.is5<(↑(List.length p.f9):Int))))])],Mb0⟩
theorem Nc3:rb5.Ok:=Lo.okq [] .nil λp s=>(.ofq @Da2)
def Xa2(x:PLq)(y:PLq):ROq:=let t1:=(lp (ta5 (⟨rt tP x,rt tP y⟩:Da1)) (⟨0⟩:ga7));(sl ((↑(List.length x):Int) != (↑(List.length y):Int)) (some (b false,[])) (sl ((cnE tP x)&&((cnE tP y)&&true)) (sl (Nat.beq t1.1 1) (some (b false,[])) (sl (Nat.beq t1.1 2) (some (b true,[])) none)) none))
def rb6(x:PLq)(y:PLq):Bool:=F6 (one r1B) (Xa2 x y)
def rb7(x:PLq)(y:PLq):Bool:=okO (one r1B) (Xa2 x y)
def Ec8:Sum:=ba0 (N0 tP) (N0 tP) (λx y=>.guard (rb7 x y) (.ret ((one r1B).enc (rb6 x y),[])))
theorem sd2:e8 prog G 16 Ec8:=Lc7 (bd b16 xa5) (one r1B) (o:=Xa2) λx y=>Z0 (.s .p (.s .p (.s (.s .p (.b (.u rb5.ls))) .p))) [rb5.pr] (.cons Nc3 .nil)
def na9(x:V3)(y:V3):V3:=(⟨W (x.x-y.x),W (x.y-y.y),W (x.z-y.z)⟩:V3)
def Bb8:Sum:=ba0 (F5 tV) (F5 tV) (λx y=>.ret ((one r1V).enc (na9 x y),[]))
theorem Xb8:e8 prog G 40 Bb8:=tb2 (bd b40 xa5)
def Nc4:List (Nat×Sum):=[(40,Bb8)]
theorem Ec9:o4 prog G Nc4:=⟨Xb8,trivial⟩
def qa8(x:Pln):Pln:=let t1:=(na9 (⟨0,0,0⟩:V3) x.n);(⟨t1,W (0-x.b)⟩:Pln)
def Xb9:Sum:=B5 (F5 tP) (λx=>.ret ((one r1P).enc (qa8 x),[]))
theorem Nc5:e8 prog G 144 Xb9:=Ld9 (bd Hf9 Ec9)
def Nc6:List (Nat×Sum):=[(122,Na9)]
theorem Fc0:o4 prog G Nc6:=⟨lb6,trivial⟩
def Da3(x:V3):ROq:=let t1:=(S9 [x.x,x.y,x.z]);(sl (T0 [x.x,x.y,x.z]) (sl (t1==0) (some (.tup [.agg [i 0,i 0,i 0],i 0],[])) (sl (t1==0) none (sl (t1==0) none (sl (t1==0) none (some (.tup [.agg [i (W (Int.tdiv x.x t1)),i (W (Int.tdiv x.y t1)),i (W (Int.tdiv x.z t1))],i t1],[])))))) none)
def qa9(x:V3):V3×Int:=F6 (two r1V r1I) (Da3 x)
def Ra8(x:V3):Bool:=okO (two r1V r1I) (Da3 x)
def Yb0:Sum:=B5 (F5 tV) (λx=>.guard (Ra8 x) (.ret ((two r1V r1I).enc (qa9 x),[])))
theorem Nc7:e8 prog G 160 Yb0:=ya7 (bd uf2 Fc0) (two r1V r1I) (o:=Da3)
def gc6:List (Nat×Sum):=[(68,qb8),(40,Bb8),(73,fb6),(160,Yb0),(72,cb5)]
theorem Yb1:o4 prog G gc6:=⟨Bb1,Xb8,Ab8,Nc7,qb7,trivial⟩
def ia8(x:V3)(y:V3)(z:V3):ROq:=let y0:=(.tup [.agg [i 0,i 0,i 0,i 0],b false],[]);let t1:=(na3 x);let t2:=(na3 y);let t3:=(na3 z);let t4:=(na9 y x);let t5:=(na9 z x);let t6:=(V1 t4 t5);let t7:=(qa9 t6);let t8:=(M4 t7.1 x);(sl (na4 x) (sl (!t1) (some y0) (sl (na4 y) (sl (!t2) (some y0) (sl (na4 z) (sl (!t3) (some y0) (sl (Ra8 t6) (some (.tup [.agg [i t7.1.x,i t7.1.y,i t7.1.z,i t8],b (decide (t7.2>0))],[])) none)) none)) none)) none)
def D6(x:V3)(y:V3)(z:V3):Pln×Bool:=F6 (two r1P r1B) (ia8 x y z)
def aa5(x:V3)(y:V3)(z:V3):Bool:=okO (two r1P r1B) (ia8 x y z)
def Oa5:Sum:=yb3 (F5 tV) (F5 tV) (F5 tV) (λx y z=>.guard (aa5 x y z) (.ret ((two r1P r1B).enc (D6 x y z),[])))
theorem mb1:e8 prog G 143 Oa5:=ie3 (bd Hf8 Yb1) (two r1P r1B) (o:=ia8)
def Nc8:List (Nat×Sum):=[(90,fb7),(68,qb8),(72,cb5),(115,fb8)]
theorem Fc1:o4 prog G Nc8:=⟨Ab9,Bb1,qb7,Bb0,trivial⟩
def Da4(x:Pln)(y:V3):ROq:=let t1:=(sa9 x);let t2:=(na3 y);let t3:=(M4 x.n y);let t4:=(V2 t3 x.b);(sl (ta0 x) (sl (!t1) (some (i 0,[])) (sl (na4 y) (sl (!t2) (some (i 0,[])) (sl (V4 t3 x.b) (some (i t4,[])) none)) none)) none)
def ha3(x:Pln)(y:V3):Int:=F6 (one r1I) (Da4 x y)
def ha4(x:Pln)(y:V3):Bool:=okO (one r1I) (Da4 x y)
def Ra9:Sum:=ba0 (F5 tP) (F5 tV) (λx y=>.guard (ha4 x y) (.ret ((one r1I).enc (ha3 x y),[])))
theorem gb7:e8 prog G 74 Ra9:=zb9 (bd b74 Fc1) (one r1I) (o:=Da4)
structure gb8 where
 (va2 va3 va4 g8 d7 i5 m0:Int)
def Fc2:List (Nat×Sum):=[(74,Ra9)]
theorem qc8:o4 prog G Fc2:=⟨gb7,trivial⟩
structure gb9 where
 alt:Nat
 bs0:Bool
def hb5{α:Type}(kk:gb9->α)(x:gb8):α:=let y1:=(⟨x.va2,x.va3,x.va4⟩:V3);let y0:=(⟨(⟨x.g8,x.d7,x.i5⟩:V3),x.m0⟩:Pln);let t1:=(ha3 y0 y1);(sl (ha4 y0 y1) (kk ⟨1,t1 != 0⟩) (kk ⟨0,false⟩))
def Ja4(x:gb8):gb9:=hb5 (λr=>r) x
def Bb9(x:gb8)(r:gb9):DT (b9×List c7):=(kb7 r.alt 1 (b r.bs0,[bq 0 4 [[i x.g8,i x.d7,i x.i5,i x.m0]]]) .fail)
def Mb1:Sum:=Za4 ⟨[.agg (kLq 3),sPq 0],[⟨0,4,true,some [kLq 4]⟩],λa H=>(⟨cIq a 0 0,cIq a 0 1,cIq a 0 2,hIq H 0 0 0,hIq H 0 0 1,hIq H 0 0 2,hIq H 0 0 3⟩,())⟩ (λx=>Bb9 x (Ja4 x))
theorem Fc3:e8 prog G 155 Mb1:=Q0 (enc:=λx=>⟨[.agg [i x.va2,i x.va3,i x.va4],.ptr 0 0 0 0],[bq 0 4 [[i x.g8,i x.d7,i x.i5,i x.m0]]]⟩) (λa H=>by kernel_rfl) (bd If4 qc8) λx=>Fa0 (mEq @hb5 (λr=>(Bb9 x r).run) x)
structure ea3 where
 f0:List V3
 (g8 d7 i5 m0:Int)
def ta6:List (Nat×Sum):=[(155,Mb1)]
theorem Za7:o4 prog G ta6:=⟨Fc3,trivial⟩
structure E4 where
 f0:List V3
 (is7 g8 d7 i5 m0:Int)
def oa0(p:E4)(s:U2):St:=⟨eL tV p.f0::.fn 155 [.ptr 0 0 0 0]::ra 5 (i p.is7::i s.is8::ra 10 []),[bq 0 4 [[i p.g8,i p.d7,i p.i5,i p.m0]]]⟩
def J3{α:Type}(k:U2->α)(e:Nat->α)(z:α)(p:E4)(s:U2):α:=let y0:=(gL tV p.f0 s.is8.toNat);let t1:=(Ja4 ⟨y0.x,y0.y,y0.z,p.g8,p.d7,p.i5,p.m0⟩);(sl (decide (s.is8<p.is7)) (sl (inB s.is8 (List.length p.f0)) (sl (Nat.beq t1.alt 1) (sl t1.bs0 (e 1) (k ⟨W (s.is8+1)⟩)) z) z) (e 2))
def C5(p:E4)(s:U2):Stp U2:=J3 .next .exit .fail p s
def Z1:Lo E4 U2:=⟨En ta6,1,Uc2,[1,0,1,4,4],[0,1,7,8],.p,[⟨sLq tV::.fn 155 [.o (.ptr 0 0 0 0)]::ru2 5 (sIq::sIq::ru2 10 []),[⟨0,4,true,some [kLq 4]⟩],λa H=>(⟨aLq tV a 0,aIq a 7,hIq H 0 0 0,hIq H 0 0 1,hIq H 0 0 2,hIq H 0 0 3⟩,⟨aIq a 8⟩)⟩],C5,[(none,λp s=>⟨[i s.is8],[bq 0 4 [[i p.g8,i p.d7,i p.i5,i p.m0]]]⟩),(some 0,λp s=>upq (oa0 p s) [(9,b (decide (s.is8<p.is7)))])],oa0⟩
theorem Xa3:Z1.Ok:=Lo.okq [] .nil λp s=>(.ofq @J3)
structure ea4 where
 alt:Nat
 is0:Int
def ea5{α:Type}(kk:ea4->α)(x:ea3):α:=let t1:=(lp (C5 (⟨rt tV x.f0,(↑(List.length x.f0):Int),x.g8,x.d7,x.i5,x.m0⟩:E4)) (⟨0⟩:U2));(sl ((cnE tV x.f0)&&true) (sl (Nat.beq t1.1 1) (kk ⟨1,t1.2.is8⟩) (sl (Nat.beq t1.1 2) (kk ⟨1,-1⟩) (kk ⟨0,0⟩))) (kk ⟨0,0⟩))
def R2(x:ea3):ea4:=ea5 (λr=>r) x
def ta7(x:ea3)(r:ea4):DT (b9×List c7):=(kb7 r.alt 1 (i r.is0,[bq 0 4 [[i x.g8,i x.d7,i x.i5,i x.m0]]]) .fail)
def za1:Sum:=Za4 ⟨[sLq tV,.fn 155 [.o (.ptr 0 0 0 0)]],[⟨0,4,true,some [kLq 4]⟩],λa H=>(⟨aLq tV a 0,hIq H 0 0 0,hIq H 0 0 1,hIq H 0 0 2,hIq H 0 0 3⟩,())⟩ (λx=>ta7 x (R2 x))
theorem hb6:e8 prog G 131 za1:=Q0 (enc:=λx=>⟨[eL tV x.f0,.fn 155 [.ptr 0 0 0 0]],[bq 0 4 [[i x.g8,i x.d7,i x.i5,i x.m0]]]⟩) (λa H=>by kernel_rfl) (bd ie2 Za7) λx=>Z0 (.s .p (.s (.s .p (.b (.u Z1.ls))) .p)) [Z1.pr] (.cons Xa3 .nil) (mEq @ea5 (λr=>(ta7 x r).run) x)
def Sa0:List (Nat×Sum):=[(131,za1)]
theorem Oa6:o4 prog G Sa0:=⟨hb6,trivial⟩
def X6{α:Type}(kk:gb9->α)(x:ea3):α:=let t1:=(R2 ⟨rt tV x.f0,x.g8,x.d7,x.i5,x.m0⟩);(sl ((cnE tV x.f0)&&true) (sl (Nat.beq t1.alt 1) (kk ⟨1,decide (t1.is0>=0)⟩) (kk ⟨0,false⟩)) (kk ⟨0,false⟩))
def o8(x:ea3):gb9:=X6 (λr=>r) x
def la2(x:ea3)(r:gb9):DT (b9×List c7):=(kb7 r.alt 1 (b r.bs0,[bq 0 4 [[i x.g8,i x.d7,i x.i5,i x.m0]]]) .fail)
def oa1:Sum:=Za4 ⟨[sLq tV,.fn 155 [.o (.ptr 0 0 0 0)]],[⟨0,4,true,some [kLq 4]⟩],λa H=>(⟨aLq tV a 0,hIq H 0 0 0,hIq H 0 0 1,hIq H 0 0 2,hIq H 0 0 3⟩,())⟩ (λx=>la2 x (o8 x))
theorem Sa1:e8 prog G 101 oa1:=Q0 (enc:=λx=>⟨[eL tV x.f0,.fn 155 [.ptr 0 0 0 0]],[bq 0 4 [[i x.g8,i x.d7,i x.i5,i x.m0]]]⟩) (λa H=>by kernel_rfl) (bd Be1 Oa6) λx=>Fa0 (mEq @X6 (λr=>(la2 x r).run) x)
@[reducible] noncomputable def ea6:Sum:=m9 (En tbN) Ne7
theorem ia9:e8 prog G 111 ea6:=bd Gf0 xa5
def Sa2:List (Nat×Sum):=[(143,Oa5),(101,oa1),(111,ea6)]
theorem Nc9:o4 prog G Sa2:=⟨mb1,Sa1,ia9,trivial⟩
structure V7 where
 (is3 is4 is9 A3 Ea8 C1 uc2:Int)
 (c8 i7:List V3)
structure D7 where
 K1:Int
def Cb0(p:V7)(s:D7):St:=⟨.unk::.ptr 0 0 0 0::.unk::i p.is3::i p.is4::ra 4 (i p.is9::i p.A3::ra 5 (i p.Ea8::i p.C1::ra 5 (i p.uc2::i s.K1::ra 35 (i 0::.unk::.ptr 1 0 0 0::.ptr 2 0 0 0::ra 8 [])))),[bq 0 1 [[eL tV p.c8]],bq 0 1 [[eL tV p.i7]],bq 0 1 [[b false]]]⟩
def wa0{α:Type}(k:D7->α)(e:Nat->α)(z:α)(p:V7)(s:D7):α:=let y0:=(List.length p.c8);let t1:=(D6 (gL tV p.c8 s.K1.toNat) (gL tV p.c8 p.is4.toNat) (gL tV p.c8 p.is3.toNat));let t2:=(o8 ⟨rt tV p.i7,t1.1.n.x,t1.1.n.y,t1.1.n.z,t1.1.b⟩);(sl (decide (s.K1<p.uc2)) (sl (inB s.K1 y0) (sl (inB p.is4 y0) (sl (inB p.is3 y0) (sl (aa5 (gL tV p.c8 s.K1.toNat) (gL tV p.c8 p.is4.toNat) (gL tV p.c8 p.is3.toNat)) (sl t1.2 (sl t1.2 (sl ((cnE tV p.i7)&&true) (sl (Nat.beq t2.alt 1) (e 1) z) z) (k ⟨W (s.K1+1)⟩)) (sl t1.2 z (k ⟨W (s.K1+1)⟩))) z) z) z) z) (e 2))
def L2(p:V7)(s:D7):Stp D7:=wa0 .next .exit .fail p s
def hb7:Lo V7 D7:=⟨En Sa2,0,Ld8,[1,0,1,4,4,1,4,4,1,1,0,4,1,1,4,4,1,1,0,4,1,1,4,4],[1,3,4,9,10,16,17,23,24,60,62,63],.p,[⟨sUq::sPq 0::sUq::sIq::sIq::ru2 4 (sIq::sIq::ru2 5 (sIq::sIq::ru2 5 (sIq::sIq::ru2 35 (.s (.o (.lit .i64 0))::sUq::sPq 1::sPq 2::ru2 8 [])))),[⟨0,1,true,some [[.c 3 (nL tV)]]⟩,⟨0,1,true,some [[.c 3 (nL tV)]]⟩,⟨0,1,true,some [[.o (.blit false)]]⟩],λa H=>(⟨aIq a 3,aIq a 4,aIq a 9,aIq a 10,aIq a 16,aIq a 17,aIq a 23,hLq tV H 0 0 0,hLq tV H 1 0 0⟩,⟨aIq a 24⟩)⟩],L2,[(none,λp s=>let t1:=(D6 (gL tV p.c8 s.K1.toNat) (gL tV p.c8 p.is4.toNat) (gL tV p.c8 p.is3.toNat));let t2:=(o8 ⟨rt tV p.i7,t1.1.n.x,t1.1.n.y,t1.1.n.z,t1.1.b⟩);⟨.unk::.ptr 0 0 0 0::.unk::i p.is3::i p.is4::i s.K1::.ptr 3 0 0 0::b t1.2::.unk::i p.is9::i p.A3::ra 5 (i p.Ea8::i p.C1::ra 5 (i p.uc2::i s.K1::b (decide (s.K1<p.uc2))::i s.K1::.tup [.agg [i t1.1.n.x,i t1.1.n.y,i t1.1.n.z,i t1.1.b],b t1.2]::eL tV p.c8::i s.K1::.tptr [i (gL tV p.c8 s.K1.toNat).x,i (gL tV p.c8 s.K1.toNat).y,i (gL tV p.c8 s.K1.toNat).z]::.agg [i (gL tV p.c8 s.K1.toNat).x,i (gL tV p.c8 s.K1.toNat).y,i (gL tV p.c8 s.K1.toNat).z]::eL tV p.c8::i p.is4::.tptr [i (gL tV p.c8 p.is4.toNat).x,i (gL tV p.c8 p.is4.toNat).y,i (gL tV p.c8 p.is4.toNat).z]::.agg [i (gL tV p.c8 p.is4.toNat).x,i (gL tV p.c8 p.is4.toNat).y,i (gL tV p.c8 p.is4.toNat).z]::eL tV p.c8::i p.is3::.tptr [i (gL tV p.c8 p.is3.toNat).x,i (gL tV p.c8 p.is3.toNat).y,i (gL tV p.c8 p.is3.toNat).z]::.agg [i (gL tV p.c8 p.is3.toNat).x,i (gL tV p.c8 p.is3.toNat).y,i (gL tV p.c8 p.is3.toNat).z]::.tup [.agg [i t1.1.n.x,i t1.1.n.y,i t1.1.n.z,i t1.1.b],b t1.2]::.agg [i t1.1.n.x,i t1.1.n.y,i t1.1.n.z,i t1.1.b]::b t1.2::b t1.2::b true::.unk::.agg [i t1.1.n.x,i t1.1.n.y,i t1.1.n.z,i t1.1.b]::b false::b true::b true::.unk::u::u::u::u::b true::b true::ra 3 (i 1::.unk::.ptr 1 0 0 0::.ptr 2 0 0 0::ra 8 []))),[bq 0 1 [[eL tV p.c8]],bq 0 1 [[eL tV p.i7]],bq 0 1 [[b (!t2.bs0)]],bq 0 4 [[i t1.1.n.x,i t1.1.n.y,i t1.1.n.z,i t1.1.b]],bq 0 4 [[i t1.1.n.x,i t1.1.n.y,i t1.1.n.z,i t1.1.b]]]⟩),(some 4,λp s=>upq (Cb0 p s) [(25,b (decide (s.K1<p.uc2)))])],Cb0⟩
theorem Fc4:hb7.OkM:=Lo.okMq [] .nil λp s=>(.ofq @wa0)
structure ca5 where
 (is3 is9 A3 Ea8:Int)
structure H4 where
 C1:Int
 (c8 i7:List V3)
def Cb1(p:ca5)(s:H4):St:=⟨.unk::.ptr 0 0 0 0::.unk::i p.is3::ra 5 (i p.is9::i p.A3::ra 5 (i p.Ea8::i s.C1::ra 42 (i 0::.unk::.ptr 1 0 0 0::.ptr 2 0 0 0::ra 8 []))),[bq 0 1 [[eL tV s.c8]],bq 0 1 [[eL tV s.i7]],bq 0 1 [[b false]]]⟩
def wa1{α:Type}(k:H4->α)(e:Nat->α)(z:α)(p:ca5)(s:H4):α:=let t1:=(lp (L2 (⟨p.is3,s.C1,p.is9,p.A3,p.Ea8,s.C1,(↑(s.C1.toNat-0):Int),rt tV s.c8,rt tV s.i7⟩:V7)) (⟨0⟩:D7));(sl (decide (s.C1<p.Ea8)) (sl (inB s.C1 ((List.length s.c8)+1)) (sl ((cnE tV s.c8)&&((cnE tV s.i7)&&true)) (sl (Nat.beq t1.1 1) (e 1) (sl (Nat.beq t1.1 2) (k ⟨W (s.C1+1),rt tV s.c8,rt tV s.i7⟩) z)) z) z) (e 2))
def P5(p:ca5)(s:H4):Stp H4:=wa1 .next .exit .fail p s
def hb8:Lo ca5 H4:=⟨En Sa2,0,Ld8,[1,0,1,4,4,1,4,4,1,1,0,4,1,1,4,4],[1,3,9,10,16,17,60,62,63],.s .p (.s .p (.s (.b (.s .p (.s .p (.b (.u hb7.lsM))))) .p)),[⟨sUq::sPq 0::sUq::sIq::ru2 5 (sIq::sIq::ru2 5 (sIq::sIq::ru2 42 (.s (.o (.lit .i64 0))::sUq::sPq 1::sPq 2::ru2 8 []))),[⟨0,1,true,some [[.c 3 (nL tV)]]⟩,⟨0,1,true,some [[.c 3 (nL tV)]]⟩,⟨0,1,true,some [[.o (.blit false)]]⟩],λa H=>(⟨aIq a 3,aIq a 9,aIq a 10,aIq a 16⟩,⟨aIq a 17,hLq tV H 0 0 0,hLq tV H 1 0 0⟩)⟩],P5,[(none,λp s=>let t1:=(lp (L2 (⟨p.is3,s.C1,p.is9,p.A3,p.Ea8,s.C1,(↑(s.C1.toNat-0):Int),rt tV s.c8,rt tV s.i7⟩:V7)) (⟨0⟩:D7));let t2:=(D6 (gL tV (rt tV s.c8) t1.2.K1.toNat) (gL tV (rt tV s.c8) s.C1.toNat) (gL tV (rt tV s.c8) p.is3.toNat));let t3:=(o8 ⟨rt tV (rt tV s.i7),t2.1.n.x,t2.1.n.y,t2.1.n.z,t2.1.b⟩);⟨.unk::.ptr 0 0 0 0::.unk::i p.is3::i s.C1::i t1.2.K1::.ptr 3 0 0 0::b t2.2::.unk::i p.is9::i p.A3::ra 5 (i p.Ea8::i s.C1::ra 5 (i (↑(s.C1.toNat-0):Int)::i t1.2.K1::b (decide (t1.2.K1<(↑(s.C1.toNat-0):Int)))::i t1.2.K1::.tup [.agg [i t2.1.n.x,i t2.1.n.y,i t2.1.n.z,i t2.1.b],b t2.2]::eL tV (rt tV s.c8)::i t1.2.K1::.tptr [i (gL tV (rt tV s.c8) t1.2.K1.toNat).x,i (gL tV (rt tV s.c8) t1.2.K1.toNat).y,i (gL tV (rt tV s.c8) t1.2.K1.toNat).z]::.agg [i (gL tV (rt tV s.c8) t1.2.K1.toNat).x,i (gL tV (rt tV s.c8) t1.2.K1.toNat).y,i (gL tV (rt tV s.c8) t1.2.K1.toNat).z]::eL tV (rt tV s.c8)::i s.C1::.tptr [i (gL tV (rt tV s.c8) s.C1.toNat).x,i (gL tV (rt tV s.c8) s.C1.toNat).y,i (gL tV (rt tV s.c8) s.C1.toNat).z]::.agg [i (gL tV (rt tV s.c8) s.C1.toNat).x,i (gL tV (rt tV s.c8) s.C1.toNat).y,i (gL tV (rt tV s.c8) s.C1.toNat).z]::eL tV (rt tV s.c8)::i p.is3::.tptr [i (gL tV (rt tV s.c8) p.is3.toNat).x,i (gL tV (rt tV s.c8) p.is3.toNat).y,i (gL tV (rt tV s.c8) p.is3.toNat).z]::.agg [i (gL tV (rt tV s.c8) p.is3.toNat).x,i (gL tV (rt tV s.c8) p.is3.toNat).y,i (gL tV (rt tV s.c8) p.is3.toNat).z]::.tup [.agg [i t2.1.n.x,i t2.1.n.y,i t2.1.n.z,i t2.1.b],b t2.2]::.agg [i t2.1.n.x,i t2.1.n.y,i t2.1.n.z,i t2.1.b]::b t2.2::b t2.2::b true::.unk::.agg [i t2.1.n.x,i t2.1.n.y,i t2.1.n.z,i t2.1.b]::b false::b true::b true::.unk::u::u::u::u::b true::b true::ra 3 (i 1::.unk::.ptr 1 0 0 0::.ptr 2 0 0 0::ra 8 []))),[bq 0 1 [[eL tV (rt tV s.c8)]],bq 0 1 [[eL tV (rt tV s.i7)]],bq 0 1 [[b (!t3.bs0)]],bq 0 4 [[i t2.1.n.x,i t2.1.n.y,i t2.1.n.z,i t2.1.b]],bq 0 4 [[i t2.1.n.x,i t2.1.n.y,i t2.1.n.z,i t2.1.b]]]⟩),(some 2,λp s=>upq (Cb1 p s) [(18,b (decide (s.C1<p.Ea8)))])],Cb1⟩
theorem Fc5:hb8.OkM:=Lo.okMq [hb7.prM] (.cons Fc4 .nil) λp s=>(.ofq @wa1)
structure O2 where
 A3:Int
 (c8 i7:List V3)
def Cb2(p:E3)(s:O2):St:=⟨.unk::.ptr 0 0 0 0::ra 7 (i p.is9::i s.A3::ra 49 (i 0::.unk::.ptr 1 0 0 0::.ptr 2 0 0 0::ra 8 [])),[bq 0 1 [[eL tV s.c8]],bq 0 1 [[eL tV s.i7]],bq 0 1 [[b false]]]⟩
def wa2{α:Type}(k:O2->α)(e:Nat->α)(z:α)(p:E3)(s:O2):α:=let t1:=(lp (P5 (⟨s.A3,p.is9,s.A3,(↑(s.A3.toNat-0):Int)⟩:ca5)) (⟨0,rt tV s.c8,rt tV s.i7⟩:H4));(sl (decide (s.A3<p.is9)) (sl (inB s.A3 ((List.length s.c8)+1)) (sl ((cnE tV s.c8)&&((cnE tV s.i7)&&true)) (sl (Nat.beq t1.1 1) (e 1) (sl (Nat.beq t1.1 2) (k ⟨W (s.A3+1),t1.2.c8,t1.2.i7⟩) z)) z) z) (e 2))
def ea7(p:E3)(s:O2):Stp O2:=wa2 .next .exit .fail p s
def hb9:Lo E3 O2:=⟨En Sa2,0,Ld8,[1,0,1,4,4,1,4,4],[1,9,10,60,62,63],.s .p (.s .p (.s (.b (.s .p (.s .p (.b (.u hb8.lsM))))) .p)),[⟨sUq::sPq 0::ru2 7 (sIq::sIq::ru2 49 (.s (.o (.lit .i64 0))::sUq::sPq 1::sPq 2::ru2 8 [])),[⟨0,1,true,some [[.c 3 (nL tV)]]⟩,⟨0,1,true,some [[.c 3 (nL tV)]]⟩,⟨0,1,true,some [[.o (.blit false)]]⟩],λa H=>(⟨aIq a 9⟩,⟨aIq a 10,hLq tV H 0 0 0,hLq tV H 1 0 0⟩)⟩],ea7,[(none,λp s=>let t1:=(lp (P5 (⟨s.A3,p.is9,s.A3,(↑(s.A3.toNat-0):Int)⟩:ca5)) (⟨0,rt tV s.c8,rt tV s.i7⟩:H4));let t2:=(lp (L2 (⟨s.A3,t1.2.C1,p.is9,s.A3,(↑(s.A3.toNat-0):Int),t1.2.C1,(↑(t1.2.C1.toNat-0):Int),rt tV t1.2.c8,rt tV t1.2.i7⟩:V7)) (⟨0⟩:D7));let t3:=(D6 (gL tV (rt tV t1.2.c8) t2.2.K1.toNat) (gL tV (rt tV t1.2.c8) t1.2.C1.toNat) (gL tV (rt tV t1.2.c8) s.A3.toNat));let t4:=(o8 ⟨rt tV (rt tV t1.2.i7),t3.1.n.x,t3.1.n.y,t3.1.n.z,t3.1.b⟩);⟨.unk::.ptr 0 0 0 0::.unk::i s.A3::i t1.2.C1::i t2.2.K1::.ptr 3 0 0 0::b t3.2::.unk::i p.is9::i s.A3::ra 5 (i (↑(s.A3.toNat-0):Int)::i t1.2.C1::ra 5 (i (↑(t1.2.C1.toNat-0):Int)::i t2.2.K1::b (decide (t2.2.K1<(↑(t1.2.C1.toNat-0):Int)))::i t2.2.K1::.tup [.agg [i t3.1.n.x,i t3.1.n.y,i t3.1.n.z,i t3.1.b],b t3.2]::eL tV (rt tV t1.2.c8)::i t2.2.K1::.tptr [i (gL tV (rt tV t1.2.c8) t2.2.K1.toNat).x,i (gL tV (rt tV t1.2.c8) t2.2.K1.toNat).y,i (gL tV (rt tV t1.2.c8) t2.2.K1.toNat).z]::.agg [i (gL tV (rt tV t1.2.c8) t2.2.K1.toNat).x,i (gL tV (rt tV t1.2.c8) t2.2.K1.toNat).y,i (gL tV (rt tV t1.2.c8) t2.2.K1.toNat).z]::eL tV (rt tV t1.2.c8)::i t1.2.C1::.tptr [i (gL tV (rt tV t1.2.c8) t1.2.C1.toNat).x,i (gL tV (rt tV t1.2.c8) t1.2.C1.toNat).y,i (gL tV (rt tV t1.2.c8) t1.2.C1.toNat).z]::.agg [i (gL tV (rt tV t1.2.c8) t1.2.C1.toNat).x,i (gL tV (rt tV t1.2.c8) t1.2.C1.toNat).y,i (gL tV (rt tV t1.2.c8) t1.2.C1.toNat).z]::eL tV (rt tV t1.2.c8)::i s.A3::.tptr [i (gL tV (rt tV t1.2.c8) s.A3.toNat).x,i (gL tV (rt tV t1.2.c8) s.A3.toNat).y,i (gL tV (rt tV t1.2.c8) s.A3.toNat).z]::.agg [i (gL tV (rt tV t1.2.c8) s.A3.toNat).x,i (gL tV (rt tV t1.2.c8) s.A3.toNat).y,i (gL tV (rt tV t1.2.c8) s.A3.toNat).z]::.tup [.agg [i t3.1.n.x,i t3.1.n.y,i t3.1.n.z,i t3.1.b],b t3.2]::.agg [i t3.1.n.x,i t3.1.n.y,i t3.1.n.z,i t3.1.b]::b t3.2::b t3.2::b true::.unk::.agg [i t3.1.n.x,i t3.1.n.y,i t3.1.n.z,i t3.1.b]::b false::b true::b true::.unk::u::u::u::u::b true::b true::ra 3 (i 1::.unk::.ptr 1 0 0 0::.ptr 2 0 0 0::ra 8 []))),[bq 0 1 [[eL tV (rt tV t1.2.c8)]],bq 0 1 [[eL tV (rt tV t1.2.i7)]],bq 0 1 [[b (!t4.bs0)]],bq 0 4 [[i t3.1.n.x,i t3.1.n.y,i t3.1.n.z,i t3.1.b]],bq 0 4 [[i t3.1.n.x,i t3.1.n.y,i t3.1.n.z,i t3.1.b]]]⟩),(some 0,λp s=>upq (Cb2 p s) [(11,b (decide (s.A3<p.is9)))])],Cb2⟩
theorem Fc6:hb9.OkM:=Lo.okMq [hb8.prM] (.cons Fc5 .nil) λp s=>(.ofq @wa2)
def La5(x:List V3):ROq:=let y1:=(↑(List.length x):Int);let t1:=(lp (ea7 (⟨y1⟩:E3)) (⟨0,rt tV x,rt tV x⟩:O2));let t2:=(lp (P5 (⟨t1.2.A3,y1,t1.2.A3,(↑(t1.2.A3.toNat-0):Int)⟩:ca5)) (⟨0,rt tV t1.2.c8,rt tV t1.2.i7⟩:H4));let y0:=(rt tV t2.2.c8);let t3:=(lp (L2 (⟨t1.2.A3,t2.2.C1,y1,t1.2.A3,(↑(t1.2.A3.toNat-0):Int),t2.2.C1,(↑(t2.2.C1.toNat-0):Int),y0,rt tV t2.2.i7⟩:V7)) (⟨0⟩:D7));let t4:=(D6 (gL tV y0 t3.2.K1.toNat) (gL tV y0 t2.2.C1.toNat) (gL tV y0 t1.2.A3.toNat));let t5:=(o8 ⟨rt tV (rt tV t2.2.i7),t4.1.n.x,t4.1.n.y,t4.1.n.z,t4.1.b⟩);(sl ((cnE tV x)&&((cnE tV x)&&true)) (sl (Nat.beq t1.1 1) (some (b (!t5.bs0),[])) (sl (Nat.beq t1.1 2) (some (b true,[])) none)) none)
def cb8(x:List V3):Bool:=F6 (one r1B) (La5 x)
def cb9(x:List V3):Bool:=okO (one r1B) (La5 x)
def nc6:Sum:=B5 (N0 tV) (λx=>.guard (cb9 x) (.ret ((one r1B).enc (cb8 x),[])))
theorem ed2:e8 prog G 134 nc6:=vb5 (bd Hf2 Nc9) (one r1B) (o:=La5) λx=>Bc9 (.s .p (.s (.s .p (.b (.i (.s .p (.b (.u hb9.lsM)))))) .p)) [hb9.prM] (.cons Fc6 .nil)
def gc7:List (Nat×Sum):=[(74,Ra9)]
theorem Yb2:o4 prog G gc7:=⟨gb7,trivial⟩
def Oa9{α:Type}(kk:gb9->α)(x:gb8):α:=let y1:=(⟨x.va2,x.va3,x.va4⟩:V3);let y0:=(⟨(⟨x.g8,x.d7,x.i5⟩:V3),x.m0⟩:Pln);let t1:=(ha3 y0 y1);(sl (ha4 y0 y1) (kk ⟨1,decide (t1>0)⟩) (kk ⟨0,false⟩))
def wa3(x:gb8):gb9:=Oa9 (λr=>r) x
def mb2(x:gb8)(r:gb9):DT (b9×List c7):=(kb7 r.alt 1 (b r.bs0,[bq 0 4 [[i x.g8,i x.d7,i x.i5,i x.m0]]]) .fail)
def ub0:Sum:=Za4 ⟨[.agg (kLq 3),sPq 0],[⟨0,4,true,some [kLq 4]⟩],λa H=>(⟨cIq a 0 0,cIq a 0 1,cIq a 0 2,hIq H 0 0 0,hIq H 0 0 1,hIq H 0 0 2,hIq H 0 0 3⟩,())⟩ (λx=>mb2 x (wa3 x))
theorem gc8:e8 prog G 145 ub0:=Q0 (enc:=λx=>⟨[.agg [i x.va2,i x.va3,i x.va4],.ptr 0 0 0 0],[bq 0 4 [[i x.g8,i x.d7,i x.i5,i x.m0]]]⟩) (λa H=>by kernel_rfl) (bd If0 Yb2) λx=>Fa0 (mEq @Oa9 (λr=>(mb2 x r).run) x)
def ta9:List (Nat×Sum):=[(145,ub0)]
theorem Za8:o4 prog G ta9:=⟨gc8,trivial⟩
def oa2(p:E4)(s:U2):St:=⟨eL tV p.f0::.fn 145 [.ptr 0 0 0 0]::ra 5 (i p.is7::i s.is8::ra 10 []),[bq 0 4 [[i p.g8,i p.d7,i p.i5,i p.m0]]]⟩
def J4{α:Type}(k:U2->α)(e:Nat->α)(z:α)(p:E4)(s:U2):α:=let y0:=(gL tV p.f0 s.is8.toNat);let t1:=(wa3 ⟨y0.x,y0.y,y0.z,p.g8,p.d7,p.i5,p.m0⟩);(sl (decide (s.is8<p.is7)) (sl (inB s.is8 (List.length p.f0)) (sl (Nat.beq t1.alt 1) (sl t1.bs0 (e 1) (k ⟨W (s.is8+1)⟩)) z) z) (e 2))
def C6(p:E4)(s:U2):Stp U2:=J4 .next .exit .fail p s
def Z2:Lo E4 U2:=⟨En ta9,1,Uc2,[1,0,1,4,4],[0,1,7,8],.p,[⟨sLq tV::.fn 145 [.o (.ptr 0 0 0 0)]::ru2 5 (sIq::sIq::ru2 10 []),[⟨0,4,true,some [kLq 4]⟩],λa H=>(⟨aLq tV a 0,aIq a 7,hIq H 0 0 0,hIq H 0 0 1,hIq H 0 0 2,hIq H 0 0 3⟩,⟨aIq a 8⟩)⟩],C6,[(none,λp s=>⟨[i s.is8],[bq 0 4 [[i p.g8,i p.d7,i p.i5,i p.m0]]]⟩),(some 0,λp s=>upq (oa2 p s) [(9,b (decide (s.is8<p.is7)))])],oa2⟩
theorem Xa4:Z2.Ok:=Lo.okq [] .nil λp s=>(.ofq @J4)
def fa0{α:Type}(kk:ea4->α)(x:ea3):α:=let t1:=(lp (C6 (⟨rt tV x.f0,(↑(List.length x.f0):Int),x.g8,x.d7,x.i5,x.m0⟩:E4)) (⟨0⟩:U2));(sl ((cnE tV x.f0)&&true) (sl (Nat.beq t1.1 1) (kk ⟨1,t1.2.is8⟩) (sl (Nat.beq t1.1 2) (kk ⟨1,-1⟩) (kk ⟨0,0⟩))) (kk ⟨0,0⟩))
def R3(x:ea3):ea4:=fa0 (λr=>r) x
def ua0(x:ea3)(r:ea4):DT (b9×List c7):=(kb7 r.alt 1 (i r.is0,[bq 0 4 [[i x.g8,i x.d7,i x.i5,i x.m0]]]) .fail)
def za2:Sum:=Za4 ⟨[sLq tV,.fn 145 [.o (.ptr 0 0 0 0)]],[⟨0,4,true,some [kLq 4]⟩],λa H=>(⟨aLq tV a 0,hIq H 0 0 0,hIq H 0 0 1,hIq H 0 0 2,hIq H 0 0 3⟩,())⟩ (λx=>ua0 x (R3 x))
theorem ib0:e8 prog G 131 za2:=Q0 (enc:=λx=>⟨[eL tV x.f0,.fn 145 [.ptr 0 0 0 0]],[bq 0 4 [[i x.g8,i x.d7,i x.i5,i x.m0]]]⟩) (λa H=>by kernel_rfl) (bd ie2 Za8) λx=>Z0 (.s .p (.s (.s .p (.b (.u Z2.ls))) .p)) [Z2.pr] (.cons Xa4 .nil) (mEq @fa0 (λr=>(ua0 x r).run) x)
def Sa3:List (Nat×Sum):=[(131,za2)]
theorem Pa0:o4 prog G Sa3:=⟨ib0,trivial⟩
def X9{α:Type}(kk:gb9->α)(x:ea3):α:=let t1:=(R3 ⟨rt tV x.f0,x.g8,x.d7,x.i5,x.m0⟩);(sl ((cnE tV x.f0)&&true) (sl (Nat.beq t1.alt 1) (kk ⟨1,decide (t1.is0>=0)⟩) (kk ⟨0,false⟩)) (kk ⟨0,false⟩))
def L3(x:ea3):gb9:=X9 (λr=>r) x
def la3(x:ea3)(r:gb9):DT (b9×List c7):=(kb7 r.alt 1 (b r.bs0,[bq 0 4 [[i x.g8,i x.d7,i x.i5,i x.m0]]]) .fail)
def oa3:Sum:=Za4 ⟨[sLq tV,.fn 145 [.o (.ptr 0 0 0 0)]],[⟨0,4,true,some [kLq 4]⟩],λa H=>(⟨aLq tV a 0,hIq H 0 0 0,hIq H 0 0 1,hIq H 0 0 2,hIq H 0 0 3⟩,())⟩ (λx=>la3 x (L3 x))
theorem Sa4:e8 prog G 101 oa3:=Q0 (enc:=λx=>⟨[eL tV x.f0,.fn 145 [.ptr 0 0 0 0]],[bq 0 4 [[i x.g8,i x.d7,i x.i5,i x.m0]]]⟩) (λa H=>by kernel_rfl) (bd Be1 Pa0) λx=>Fa0 (mEq @X9 (λr=>(la3 x r).run) x)
def Fc7:List (Nat×Sum):=[(101,oa3)]
theorem qc9:o4 prog G Fc7:=⟨Sa4,trivial⟩
def ua1(x:List V3)(y:Pln):ROq:=let t1:=(L3 ⟨rt tV x,y.n.x,y.n.y,y.n.z,y.b⟩);(sl ((cnE tV x)&&true) (sl (Nat.beq t1.alt 1) (some (b t1.bs0,[])) none) none)
def V8(x:List V3)(y:Pln):Bool:=F6 (one r1B) (ua1 x y)
def V9(x:List V3)(y:Pln):Bool:=okO (one r1B) (ua1 x y)
def Mb2:Sum:=ba0 (N0 tV) (F5 tP) (λx y=>.guard (V9 x y) (.ret ((one r1B).enc (V8 x y),[])))
theorem Fc8:e8 prog G 112 Mb2:=zb9 (bd Gf1 qc9) (one r1B) (o:=ua1)
def rc0:List (Nat×Sum):=[(68,qb8)]
theorem gc9:o4 prog G rc0:=⟨Bb1,trivial⟩
def oa4(x:V3):ROq:=let t1:=(na3 x);(sl (na4 x) (some (b (!t1),[])) none)
def Da5(x:V3):Bool:=F6 (one r1B) (oa4 x)
def Da6(x:V3):Bool:=okO (one r1B) (oa4 x)
def Cb3:Sum:=B5 (F5 tV) (λx=>.guard (Da6 x) (.ret ((one r1B).enc (Da5 x),[])))
theorem rc1:e8 prog G 133 Cb3:=ya7 (bd Hf1 gc9) (one r1B) (o:=oa4)
def ua2:List (Nat×Sum):=[(133,Cb3)]
theorem Za9:o4 prog G ua2:=⟨rc1,trivial⟩
structure E6 where
 f0:List V3
 is7:Int
def oa5(p:E6)(s:U2):St:=⟨eL tV p.f0::.fn 133 []::ra 5 (i p.is7::i s.is8::ra 10 []),[]⟩
def J5{α:Type}(k:U2->α)(e:Nat->α)(z:α)(p:E6)(s:U2):α:=let t1:=(Da5 (gL tV p.f0 s.is8.toNat));(sl (decide (s.is8<p.is7)) (sl (inB s.is8 (List.length p.f0)) (sl (Da6 (gL tV p.f0 s.is8.toNat)) (sl t1 (e 1) (k ⟨W (s.is8+1)⟩)) z) z) (e 2))
def C7(p:E6)(s:U2):Stp U2:=J5 .next .exit .fail p s
def Z3:Lo E6 U2:=⟨En ua2,0,Uc2,[1,0,1,4,4],[0,1,7,8],.p,[⟨sLq tV::.s (.o (.fn 133))::ru2 5 (sIq::sIq::ru2 10 []),[],λa H=>(⟨aLq tV a 0,aIq a 7⟩,⟨aIq a 8⟩)⟩],C7,[(none,λp s=>⟨[i s.is8],[]⟩),(some 0,λp s=>upq (oa5 p s) [(9,b (decide (s.is8<p.is7)))])],oa5⟩
theorem Xa5:Z3.Ok:=Lo.okq [] .nil λp s=>(.ofq @J5)
def fa3{α:Type}(kk:ea4->α)(x:ta3):α:=let t1:=(lp (C7 (⟨rt tV x.f0,(↑(List.length x.f0):Int)⟩:E6)) (⟨0⟩:U2));(sl ((cnE tV x.f0)&&true) (sl (Nat.beq t1.1 1) (kk ⟨1,t1.2.is8⟩) (sl (Nat.beq t1.1 2) (kk ⟨1,-1⟩) (kk ⟨0,0⟩))) (kk ⟨0,0⟩))
def R4(x:ta3):ea4:=fa3 (λr=>r) x
def ua3(x:ta3)(r:ea4):DT (b9×List c7):=(kb7 r.alt 1 (i r.is0,[]) .fail)
def za3:Sum:=Za4 ⟨[sLq tV,.s (.o (.fn 133))],[],λa H=>(⟨aLq tV a 0⟩,())⟩ (λx=>ua3 x (R4 x))
theorem ib1:e8 prog G 131 za3:=Q0 (enc:=λx=>⟨[eL tV x.f0,.fn 133 []],[]⟩) (λa H=>by kernel_rfl) (bd ie2 Za9) λx=>Z0 (.s .p (.s (.s .p (.b (.u Z3.ls))) .p)) [Z3.pr] (.cons Xa5 .nil) (mEq @fa3 (λr=>(ua3 x r).run) x)
def Sa5:List (Nat×Sum):=[(131,za3)]
theorem Pa1:o4 prog G Sa5:=⟨ib1,trivial⟩
def Y2{α:Type}(kk:gb9->α)(x:ta3):α:=let t1:=(R4 ⟨rt tV x.f0⟩);(sl ((cnE tV x.f0)&&true) (sl (Nat.beq t1.alt 1) (kk ⟨1,decide (t1.is0>=0)⟩) (kk ⟨0,false⟩)) (kk ⟨0,false⟩))
def L4(x:ta3):gb9:=Y2 (λr=>r) x
def la4(x:ta3)(r:gb9):DT (b9×List c7):=(kb7 r.alt 1 (b r.bs0,[]) .fail)
def oa6:Sum:=Za4 ⟨[sLq tV,.s (.o (.fn 133))],[],λa H=>(⟨aLq tV a 0⟩,())⟩ (λx=>la4 x (L4 x))
theorem Sa6:e8 prog G 101 oa6:=Q0 (enc:=λx=>⟨[eL tV x.f0,.fn 133 []],[]⟩) (λa H=>by kernel_rfl) (bd Be1 Pa1) λx=>Fa0 (mEq @Y2 (λr=>(la4 x r).run) x)
def Oc0:List (Nat×Sum):=[(101,oa6),(134,nc6)]
theorem Fc9:o4 prog G Oc0:=⟨Sa6,ed2,trivial⟩
def Da7(x:List V3):ROq:=let t1:=(L4 ⟨rt tV x⟩);let t2:=(cb8 (rt tV x));(sl (decide ((↑(List.length x):Int)>48)) (some (i 2,[])) (sl ((cnE tV x)&&true) (sl (Nat.beq t1.alt 1) (sl t1.bs0 (some (i 3,[])) (sl (okE tV x) (sl (cb9 (rt tV x)) (sl t2 (some (i 11,[])) (some (i 0,[]))) none) none)) none) none))
def ra0(x:List V3):Int:=F6 (one r1I) (Da7 x)
def ra1(x:List V3):Bool:=okO (one r1I) (Da7 x)
def Sa7:Sum:=B5 (N0 tV) (λx=>.guard (ra1 x) (.ret ((one r1I).enc (ra0 x),[])))
theorem ua4:e8 prog G 104 Sa7:=ya7 (bd Ff4 Fc9) (one r1I) (o:=Da7)
def wa4(x:Int):Bool:=(x != x)
def ub1:Sum:=B5 cI (λx=>.ret ((one r1B).enc (wa4 x),[]))
theorem hc3:e8 prog G 182 ub1:=Ld9 (bd If7 xa5)
def Rb1:List (Nat×Sum):=[(182,ub1)]
theorem Ib9:o4 prog G Rb1:=⟨hc3,trivial⟩
def ba7(x:Int)(y:Int):ROq:=let t1:=(wa4 x);let t2:=(wa4 y);(sl t1 (sl t2 (some (i 0,[])) (some (i (-1),[]))) (sl t2 (some (i 1,[])) (sl (decide (x<y)) (some (i (-1),[])) (sl (decide (x>y)) (some (i 1,[])) (some (i 0,[]))))))
def R5(x:Int)(y:Int):Int:=F6 (one r1I) (ba7 x y)
def R6(x:Int)(y:Int):Bool:=okO (one r1I) (ba7 x y)
def db0:Sum:=ba0 cI cI (λx y=>.guard (R6 x y) (.ret ((one r1I).enc (R5 x y),[])))
theorem Rb2:e8 prog G 159 db0:=zb9 (bd If6 Ib9) (one r1I) (o:=ba7)
structure oa7 where
 eb6:List Int
 is7:Int
def ub2(p:oa7)(s:U2):St:=⟨ra 3 (i 0::.unk::.unk::eL tI p.eb6::i p.is7::i s.is8::ra 9 []),[]⟩
def mb3{α:Type}(k:U2->α)(e:Nat->α)(z:α)(p:oa7)(s:U2):α:=(sl (decide (s.is8<p.is7)) (sl (inB s.is8 (List.length p.eb6)) (sl ((gL tI p.eb6 s.is8.toNat) != 0) (e 1) (k ⟨W (s.is8+1)⟩)) z) (e 2))
def T1(p:oa7)(s:U2):Stp U2:=mb3 .next .exit .fail p s
def Xa6:Lo oa7 U2:=⟨En tbN,0,Oe9,[1,1,0,1,4,4],[3,6,7,8],.p,[⟨ru2 3 (.s (.o (.lit .i64 0))::sUq::sUq::sLq tI::sIq::sIq::ru2 9 []),[],λa H=>(⟨aLq tI a 6,aIq a 7⟩,⟨aIq a 8⟩)⟩],T1,[(none,λp s=>⟨[i (gL tI p.eb6 s.is8.toNat)],[]⟩),(some 0,λp s=>upq (ub2 p s) [(9,b (decide (s.is8<p.is7)))])],ub2⟩
theorem rc2:Xa6.Ok:=Lo.okq [] .nil λp s=>(.ofq @mb3)
def Da8(x:List Int):ROq:=let t1:=(lp (T1 (⟨rt tI x,(↑(List.length x):Int)⟩:oa7)) (⟨0⟩:U2));(sl ((cnE tI x)&&true) (sl (Nat.beq t1.1 1) (some (i (gL tI (rt tI x) t1.2.is8.toNat),[])) (sl (Nat.beq t1.1 2) (some (i 0,[])) none)) none)
def Sa8(x:List Int):Int:=F6 (one r1I) (Da8 x)
def Sa9(x:List Int):Bool:=okO (one r1I) (Da8 x)
def Yb3:Sum:=B5 (N0 tI) (λx=>.guard (Sa9 x) (.ret ((one r1I).enc (Sa8 x),[])))
theorem Oc1:e8 prog G 158 Yb3:=vb5 (bd If5 xa5) (one r1I) (o:=Da8) λx=>Z0 (.s .p (.s .p (.s (.s .p (.b (.u Xa6.ls))) .p))) [Xa6.pr] (.cons rc2 .nil)
def rc3:List (Nat×Sum):=[(159,db0),(158,Yb3)]
theorem hc5:o4 prog G rc3:=⟨Rb2,Oc1,trivial⟩
def oa8(x:V3)(y:V3):ROq:=let t1:=(R5 x.x y.x);let t2:=(R5 x.y y.y);let t3:=(R5 x.z y.z);let t4:=(Sa8 [t1,t2,t3]);(sl (R6 x.x y.x) (sl (R6 x.y y.y) (sl (R6 x.z y.z) (sl (Sa9 [t1,t2,t3]) (some (i t4,[])) none) none) none) none)
def Da9(x:V3)(y:V3):Int:=F6 (one r1I) (oa8 x y)
def Ea0(x:V3)(y:V3):Bool:=okO (one r1I) (oa8 x y)
def Xa7:Sum:=ba0 (F5 tV) (F5 tV) (λx y=>.guard (Ea0 x y) (.ret ((one r1I).enc (Da9 x y),[])))
theorem rc4:e8 prog G 140 Xa7:=zb9 (bd Hf6 hc5) (one r1I) (o:=oa8)
end Go.Ev.Ce
