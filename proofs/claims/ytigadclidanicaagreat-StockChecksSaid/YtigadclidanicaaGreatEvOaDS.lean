/- Own work. -/
import Derived.Test.YtigadclidanicaaGreatChecked
import Derived.Test.YtigadclidanicaaGreatEvOaCePf
import Derived.KernelRfl
import Derived.Shelf.Spec.SlicesGrow
set_option linter.all false
noncomputable section
def Qha:=@Eq.trans
def Qhb:=@List.getElem?_eq_some_iff
def Qhc:=@List.getElem?_replicate
def Qhd:=@Nat.le_refl
namespace Go.Ev.Ce
open Go Go.Ev Go.Proofs
set_option maxRecDepth 1000000
theorem mx:(Tryz.prog).follows .mixedOrders=true:=Checked.mixed Tryz.checked
abbrev Bdq(n:Nat)(pf:PFn):Prop:=wd1 Tryz.prog n λE=>dc3 E pf
theorem bdq{f:FuncId}{fn:Func}(hf:(Tryz.prog).funcs[f]?=some fn)(hn:decide (fn.name ≠ "runtime.NumGoroutine")=true:=by kernel_rfl)(hc:Option.isSome (i7 Tryz.prog fn)=true:=by kernel_rfl):Bdq f (got (i7 Tryz.prog fn)):=rg0 mx hf hn (kc8 hc)
theorem b3:wd1 Tryz.prog 3 λE=>nb3 E pf3:=sd0 (h:=h3) mx Tryz.func3 (by kernel_rfl) Tryz.func124 (by kernel_rfl) (kc8 (by kernel_rfl))
theorem b4:Bdq 4 pf4:=bdq Tryz.func4
theorem b5:Bdq 5 pf5:=bdq Tryz.func5
theorem b6:Bdq 6 pf6:=bdq Tryz.func6
theorem b7:Bdq 7 pf7:=bdq Tryz.func7
theorem b8:Bdq 8 pf8:=bdq Tryz.func8
theorem b9:Bdq 9 pf9:=bdq Tryz.func9
theorem b10:Bdq 10 rg1:=bdq Tryz.func10
theorem b11:wd1 Tryz.prog 11 λE=>nb3 E kg1:=sd0 (h:=h11) mx Tryz.func11 (by kernel_rfl) Tryz.func124 (by kernel_rfl) (kc8 (by kernel_rfl))
theorem b12:Bdq 12 kg2:=bdq Tryz.func12
theorem b13:Bdq 13 Mf4:=bdq Tryz.func13
theorem b14:Bdq 14 rg2:=bdq Tryz.func14
theorem b15:Bdq 15 rg3:=bdq Tryz.func15
theorem b16:Bdq 16 rg4:=bdq Tryz.func16
theorem b19:wd1 Tryz.prog 19 λE=>nb3 E kg3:=sd0 (h:=h19) mx Tryz.func19 (by kernel_rfl) Tryz.func124 (by kernel_rfl) (kc8 (by kernel_rfl))
theorem b22:Bdq 22 bg5:=bdq Tryz.func22
theorem b24:Bdq 24 kg4:=bdq Tryz.func24
theorem b25:Bdq 25 rg5:=bdq Tryz.func25
theorem b27:Bdq 27 rg6:=bdq Tryz.func27
theorem b28:Bdq 28 rg7:=bdq Tryz.func28
theorem b29:Bdq 29 rg8:=bdq Tryz.func29
theorem b30:Bdq 30 kg5:=bdq Tryz.func30
theorem b31:wd1 Tryz.prog 31 λE=>nb3 E bg6:=sd0 (h:=h31) mx Tryz.func31 (by kernel_rfl) Tryz.func124 (by kernel_rfl) (kc8 (by kernel_rfl))
theorem b32:Bdq 32 rg9:=bdq Tryz.func32
theorem b33:Bdq 33 kg6:=bdq Tryz.func33
theorem b34:Bdq 34 sg0:=bdq Tryz.func34
theorem b35:Bdq 35 kg7:=bdq Tryz.func35
theorem b36:Bdq 36 sg1:=bdq Tryz.func36
theorem b37:Bdq 37 sg2:=bdq Tryz.func37
theorem b38:Bdq 38 sg3:=bdq Tryz.func38
theorem b39:Bdq 39 sg4:=bdq Tryz.func39
theorem b40:Bdq 40 sg5:=bdq Tryz.func40
theorem b41:Bdq 41 sg6:=bdq Tryz.func41
theorem b42:Bdq 42 kg8:=bdq Tryz.func42
theorem b43:Bdq 43 sg7:=bdq Tryz.func43
theorem b44:Bdq 44 sg8:=bdq Tryz.func44
theorem b45:Bdq 45 kg9:=bdq Tryz.func45
theorem b46:wd1 Tryz.prog 46 λE=>nb3 E bg7:=sd0 (h:=h46) mx Tryz.func46 (by kernel_rfl) Tryz.func74 (by kernel_rfl) (kc8 (by kernel_rfl))
theorem b47:Bdq 47 sg9:=bdq Tryz.func47
theorem b48:Bdq 48 lg0:=bdq Tryz.func48
theorem b49:Bdq 49 bg8:=bdq Tryz.func49
theorem b50:Bdq 50 tg0:=bdq Tryz.func50
theorem b56:Bdq 56 tg1:=bdq Tryz.func56
theorem b57:Bdq 57 tg2:=bdq Tryz.func57
theorem b58:Bdq 58 tg3:=bdq Tryz.func58
theorem b59:Bdq 59 lg1:=bdq Tryz.func59
theorem b60:Bdq 60 tg4:=bdq Tryz.func60
theorem b61:Bdq 61 tg5:=bdq Tryz.func61
theorem b62:Bdq 62 tg6:=bdq Tryz.func62
theorem b63:Bdq 63 tg7:=bdq Tryz.func63
theorem b64:Bdq 64 tg8:=bdq Tryz.func64
theorem b65:Bdq 65 tg9:=bdq Tryz.func65
theorem b66:Bdq 66 lg2:=bdq Tryz.func66
theorem b67:Bdq 67 ug0:=bdq Tryz.func67
theorem b68:Bdq 68 ug1:=bdq Tryz.func68
theorem b69:Bdq 69 lg3:=bdq Tryz.func69
theorem b70:Bdq 70 lg4:=bdq Tryz.func70
theorem b71:Bdq 71 bg9:=bdq Tryz.func71
theorem b72:Bdq 72 ug2:=bdq Tryz.func72
theorem b73:Bdq 73 ug3:=bdq Tryz.func73
theorem b75:Bdq 75 ug4:=bdq Tryz.func75
theorem b77:Bdq 77 cg0:=bdq Tryz.func77
theorem b78:Bdq 78 ug5:=bdq Tryz.func78
theorem b79:wd1 Tryz.prog 79 λE=>nb3 E cg1:=sd0 (h:=h79) mx Tryz.func79 (by kernel_rfl) Tryz.func99 (by kernel_rfl) (kc8 (by kernel_rfl))
theorem b80:wd1 Tryz.prog 80 λE=>nb3 E Mf5:=sd0 (h:=h80) mx Tryz.func80 (by kernel_rfl) Tryz.func124 (by kernel_rfl) (kc8 (by kernel_rfl))
theorem b81:Bdq 81 ug6:=bdq Tryz.func81
theorem b82:Bdq 82 ug7:=bdq Tryz.func82
theorem b83:Bdq 83 ug8:=bdq Tryz.func83
theorem b84:Bdq 84 ug9:=bdq Tryz.func84
theorem b85:Bdq 85 vg0:=bdq Tryz.func85
theorem b86:Bdq 86 lg5:=bdq Tryz.func86
theorem b87:Bdq 87 vg1:=bdq Tryz.func87
theorem b88:wd1 Tryz.prog 88 λE=>nb3 E cg2:=sd0 (h:=h88) mx Tryz.func88 (by kernel_rfl) Tryz.func133 (by kernel_rfl) (kc8 (by kernel_rfl))
theorem b89:Bdq 89 vg2:=bdq Tryz.func89
theorem b90:Bdq 90 vg3:=bdq Tryz.func90
theorem b91:Bdq 91 Mf6:=bdq Tryz.func91
theorem b92:Bdq 92 vg4:=bdq Tryz.func92
theorem b93:Bdq 93 vg5:=bdq Tryz.func93
theorem b94:Bdq 94 vg6:=bdq Tryz.func94
theorem b95:Bdq 95 vg7:=bdq Tryz.func95
theorem vg8:Bdq 100 Uf4:=bdq Tryz.func100
theorem vg9:Bdq 101 lg6:=bdq Tryz.func101
theorem wg0:Bdq 102 lg7:=bdq Tryz.func102
theorem wg1:Bdq 103 Uf5:=bdq Tryz.func103
theorem wg2:Bdq 104 Uf6:=bdq Tryz.func104
theorem wg3:Bdq 105 lg8:=bdq Tryz.func105
theorem wg4:Bdq 106 lg9:=bdq Tryz.func106
theorem ng6:Bdq 107 Uf7:=bdq Tryz.func107
theorem wg5:Bdq 108 Uf8:=bdq Tryz.func108
theorem wg6:Bdq 109 mg0:=bdq Tryz.func109
theorem wg7:Bdq 110 mg1:=bdq Tryz.func110
theorem ng7:Bdq 111 xf1:=bdq Tryz.func111
theorem wg8:Bdq 112 Uf9:=bdq Tryz.func112
theorem wg9:Bdq 113 Vf0:=bdq Tryz.func113
theorem xg0:Bdq 114 Vf1:=bdq Tryz.func114
theorem xg1:Bdq 115 mg2:=bdq Tryz.func115
theorem xg2:Bdq 116 Vf2:=bdq Tryz.func116
theorem xg3:Bdq 117 Vf3:=bdq Tryz.func117
theorem Mf7:Bdq 118 Ae2:=bdq Tryz.func118
theorem xg4:Bdq 119 Vf4:=bdq Tryz.func119
theorem xg5:Bdq 120 xf2:=bdq Tryz.func120
theorem xg6:Bdq 124 Vf5:=bdq Tryz.func124
theorem xg7:Bdq 125 mg3:=bdq Tryz.func125
theorem xg8:Bdq 126 mg4:=bdq Tryz.func126
theorem xg9:Bdq 127 mg5:=bdq Tryz.func127
theorem yg0:Bdq 128 xf3:=bdq Tryz.func128
theorem yg1:Bdq 129 mg6:=bdq Tryz.func129
theorem yg2:Bdq 130 Vf6:=bdq Tryz.func130
theorem yg3:Bdq 131 Vf7:=bdq Tryz.func131
theorem yg4:Bdq 132 mg7:=bdq Tryz.func132
theorem yg5:Bdq 134 mg8:=bdq Tryz.func134
theorem yg6:Bdq 135 mg9:=bdq Tryz.func135
theorem yg7:Bdq 136 ng0:=bdq Tryz.func136
theorem yg8:Bdq 137 ng1:=bdq Tryz.func137
theorem yg9:Bdq 138 ng2:=bdq Tryz.func138
theorem zg0:Bdq 139 ng3:=bdq Tryz.func139
theorem zg1:Bdq 140 Vf8:=bdq Tryz.func140
theorem zg2:Bdq 141 ng4:=bdq Tryz.func141
theorem zg3:Bdq 144 Vf9:=bdq Tryz.func144
theorem zg4:Bdq 152 Wf0:=bdq Tryz.func152
theorem zg5:Bdq 153 Wf1:=bdq Tryz.func153
theorem zg6:Bdq 154 ng5:=bdq Tryz.func154
end Go.Ev.Ce
namespace Go.Ev.L
open Go Go.Ev
def zc5:RT->PC->PS2
 |.s a b,.seq x y=>.seq (zc5 a x) (zc5 b y)
 |.c a b,.cond g x y=>.cond g (zc5 a x) (zc5 b y)
 |.b a,.block id x=>.block id (zc5 a x)
 |.i a,.inner f x n c=>.inner f x n (zc5 a c)
 |.u S,_=>.sum S
 |_,c=>.pc c
theorem le2{E:Env}{k:Nat}(rt:RT)(c:PC):nb0 (λx=>∀s,ma9 (x.1 s) (Q9 E k x.2 s)) (Kc6 rt c)->ya1 E k (zc5 rt c) c:=by
 induction rt generalizing c with
 |p=>intro h;cases c<;>exact .pc _
 |s a b iha ihb =>
  intro h;cases c with
  |seq x y=>exact .seq (iha x (nb0.app h).1) (ihb y (nb0.app h).2)
  |_=>exact .pc _
 |c a b iha ihb =>
  intro h;cases c with
  |cond g x y=>exact .cond g (iha x (nb0.app h).1) (ihb y (nb0.app h).2)
  |_=>exact .pc _
 |b a iha =>
  intro h;cases c with
  |block id x=>exact .block id (iha x h)
  |_=>exact .pc _
 |l a iha=>intro h;cases c<;>exact .pc _
 |i a iha =>
  intro h;cases c with
  |inner f x n c=>exact .inner f x n (iha c h)
  |_=>exact .pc _
 |u S =>
  intro h
  have:Kc6 (.u S) c=[(S,c)]:=by cases c<;>rfl
  rw[this] at h;cases h with
  |cons h t =>
   have e:zc5 (.u S) c=.sum S:=by cases c<;>rfl
   rw[e];exact .sum h
section
variable{π σ:Type}{E:Env}{k:Nat}{keep:List Nat}{alts:List (Al2 π σ)}{enc:π->σ->St}{step:π->σ->Stp σ}{xs:Xs π σ}{body:PS2}{c:PC}
theorem yc4.belowM(hb:ya1 E k body c)(hN:E.N=rounds+1)(w:yc4 Ae1 k keep (kd2 E k body) alts step xs enc)(s:St):ma9 (ae5 Ae1 k keep alts step xs s) (Q9 E k (.loopM keep c) s):=λr hr=>by
 obtain⟨t,h1,h2⟩:=w.go hr;rw[Pe5,hN];exact jc4 hb.le _ _ _ (Hc6 h1 h2)
theorem yc4.belowML(hb:ya1 E k body c)(hN:E.N=rounds+1)(w:yc4 xc9 k keep (kd2 E k body) alts step xs enc)(s:St):ma9 (ae5 xc9 k keep alts step xs s) (Q9 E k (.loop keep c) s):=λr hr=>by
 obtain⟨t,h1,h2⟩:=w.go hr;rw[ae4,hN];exact jc4 hb.le _ _ _ (Hc6 h1 h2)
end
end Go.Ev.L
namespace Go.Ev.Ab
open Go Go.Ev
@[reducible] noncomputable def o(d:Nat)(x:PO):PI:=⟨some d,none,[],x⟩
@[reducible] noncomputable def s(x:PO):PI:=⟨none,none,[],x⟩
@[reducible] noncomputable def cb(b:Bool):Arg:=.c (.v (.bool b))
@[reducible] noncomputable def vi(n:Int):d7:=.v (.int .i64 n)
@[reducible] noncomputable def rep{α:Type}(n:Nat)(x:α):List α:=List.replicate n x
@[reducible] noncomputable def ki(n:Nat):List CK:=List.replicate n (.int .i64)
@[reducible] noncomputable def mv(d n:Nat):PI:=o d (.mv (.t n))
@[reducible] noncomputable def mb(d:Nat)(x:Bool):PI:=o d (.mv (cb x))
@[reducible] noncomputable def fd(d k n:Nat):PI:=o d (.fld k (.t n))
@[reducible] noncomputable def bx(d n:Nat):PI:=o d (.box (.t n))
@[reducible] noncomputable def ex(d x k:Nat):PI:=o d (.ext (.t x) k)
@[reducible] noncomputable def ix(d k x y:Nat):PI:=o d (.idxS k (.t x) (.t y))
@[reducible] noncomputable def so(l:List PI)(x:PC):PC:=.seq (.ops l) x
@[reducible] noncomputable def ts(l:List Nat):List Arg:=l.map .t
@[reducible] noncomputable def cl(f:Nat)(l:List Nat):PO:=.call f (ts l)
@[reducible] noncomputable def wt(a b n:Nat):Nat×Nat×Arg:=(a,b,.t n)
@[reducible] noncomputable def sT(k a b:Nat):PI:=s (.store k (.t a) (.t b))
@[reducible] noncomputable def pa(d c x:Nat):PI:=o d (.pick (.t c) (.t x) (cb false))
@[reducible] noncomputable def po(d c x:Nat):PI:=o d (.pick (.t c) (cb true) (.t x))
@[reducible] noncomputable def al(d k:Nat)(n:Int):PI:=o d (.alloc (rep k (vi n)))
@[reducible] noncomputable def ap(d et es n x y:Nat):PI:=o d (.append et es n (.t x) (.t y))
end Go.Ev.Ab
namespace Go.Ev.L
open Go Go.Ev
def Cps{π σ:Type}(u:∀{α:Type},(σ->α)->(Nat->α)->α->π->σ->α):Prop :=
 ∀{α β:Type} (F:α->β) (k:σ->α) (e:Nat->α) (z:α) (p:π) (s:σ),F (u k e z p s)=u (λx=>F (k x)) (λt=>F (e t)) (F z) p s
@[reducible] noncomputable def foL{π σ:Type}(en:π->σ->St)(xs:Xs π σ)(p:π)(s:σ):Stp σ->Option (i6×St):=yc0 (λs'=>some (.normal,en p s')) (λt=>xOf xs p s t 1) none
structure Lo(π σ:Type) where
 E:Env
 k:Nat
 F:PFn
 at':List Nat
 kp:List Nat
 rt:RT
 al:List (Al2 π σ)
 st:π->σ->Stp σ
 xs:Xs π σ
 en:π->σ->St
namespace Lo
variable{π σ:Type}(L:Lo π σ)
def lc:PC:=qg8 L.at' L.F.body
def ls:St->DT (i6×St):=ae5 xc9 L.k L.kp L.al L.st L.xs
def lsM:St->DT (i6×St):=ae5 Ae1 L.k L.kp L.al L.st L.xs
def pr:(St->DT (i6×St))×PC:=(L.ls,.loop L.kp L.lc)
def prM:(St->DT (i6×St))×PC:=(L.lsM,.loopM L.kp L.lc)
def Ok:Prop:=∀s,ta4 L.k L.F.res (L.pr.1 s) (Q9 L.E L.k L.pr.2 s)
def OkE:Prop:=∀s,ma9 (L.pr.1 s) (Q9 L.E L.k L.pr.2 s)
def OkM:Prop:=∀s,ma9 (L.prM.1 s) (Q9 L.E L.k L.prM.2 s)
def Rd(hd:St->DT St)(bd:St->DT (i6×St))(p:π)(s:σ)(a:St)(b:Stp σ):Prop:=(jc5 hd bd a).run=foL L.en L.xs p s b
def H0:Prop:=∀p s,L.Rd (xc9 L.k L.kp) (We2 L.E L.k L.F.res (Sd5 L.rt L.lc)) p s (L.en p s) (L.st p s)
def H1:Prop:=∀p s,L.Rd (xc9 L.k L.kp) (kd2 L.E L.k (zc5 L.rt L.lc)) p s (L.en p s) (L.st p s)
def H2:Prop:=∀p s,L.Rd (Ae1 L.k L.kp) (kd2 L.E L.k (zc5 L.rt L.lc)) p s (L.en p s) (L.st p s)
def HA:Prop:=nb0 (λx=>∀a H,(⟨if1 x.sh a,if2 x.bl H⟩:St)=L.en (x.rd a H).1 (x.rd a H).2) L.al
variable{L}
theorem Rd.of{hd:St->DT St}{bd:St->DT (i6×St)}{p:π}{s:σ}{a:St}(u:∀{α:Type},(σ->α)->(Nat->α)->α->π->σ->α)
  (q:Cps @u) (H:(jc5 hd bd a).run=u (λx=>foL L.en L.xs p s (.next x)) (λt=>foL L.en L.xs p s (.exit t)) (foL L.en L.xs p s .fail) p s):L.Rd hd bd p s a (u .next .exit .fail p s) :=
 H.trans (q (foL L.en L.xs p s) Stp.next Stp.exit Stp.fail p s).symm
theorem Rd.sel{hd:St->DT St}{bd:St->DT (i6×St)}{p:π}{s:σ}{a1 a0:St}{b1 b0:Stp σ}(c:Bool)(h1:L.Rd hd bd p s a1 b1)(h0:L.Rd hd bd p s a0 b0):L.Rd hd bd p s (sel c a1 a0) (sel c b1 b0):=by
 cases c with
 |true=>exact h1
 |false=>exact h0
theorem ok(l:List ((St->DT (i6×St))×PC))(hs:Kc6 L.rt L.lc=l)(hl:nb0 (λx=>∀s,ta4 L.k L.F.res (x.1 s) (Q9 L.E L.k x.2 s)) l)(hN:L.E.N=rounds+1)(ha:L.HA)(h:L.H0):L.Ok :=
 yc4.belowC (Xe1 _ _ (by rw[hs];exact hl)) hN ⟨ha,h⟩
theorem okE(l:List ((St->DT (i6×St))×PC))(hs:Kc6 L.rt L.lc=l)(hl:nb0 (λx=>∀s,ma9 (x.1 s) (Q9 L.E L.k x.2 s)) l)(hN:L.E.N=rounds+1)(ha:L.HA)(h:L.H1):L.OkE :=
 yc4.belowML (le2 _ _ (by rw[hs];exact hl)) hN ⟨ha,h⟩
theorem okM(l:List ((St->DT (i6×St))×PC))(hs:Kc6 L.rt L.lc=l)(hl:nb0 (λx=>∀s,ma9 (x.1 s) (Q9 L.E L.k x.2 s)) l)(hN:L.E.N=rounds+1)(ha:L.HA)(h:L.H2):L.OkM :=
 yc4.belowM (le2 _ _ (by rw[hs];exact hl)) hN ⟨ha,h⟩
end Lo
theorem Ga2{E:Env}{F:PFn}{args:List d7}{blks:List d8}{o:Option (d7×List d8)}(rt:RT)(l:List ((St->DT (i6×St))×PC))(hs:Kc6 rt F.body=l)
  (hl:nb0 (λx=>∀s,ta4 (len blks) F.res (x.1 s) (Q9 E (len blks) x.2 s)) l) (h:(ig8 E F (Sd5 rt F.body) args blks).run=o) (r:d7×List d8) (hr:o=some r):(dc3 E F args blks).run=some r :=
 Ne4 (Xe1 rt _ (by rw[hs];exact hl)) r (h.trans hr)
theorem sd1{E:Env}{F:PFn}{args:List d7}{blks:List d8}{o:Option (d7×List d8)}(rt:RT)(l:List ((St->DT (i6×St))×PC))(hs:Kc6 rt F.body=l)
  (hl:nb0 (λx=>∀s,ma9 (x.1 s) (Q9 E (len blks) x.2 s)) l) (h:(Uf3 E F (zc5 rt F.body) args blks).run=o) (r:d7×List d8) (hr:o=some r):(nb3 E F args blks).run=some r :=
 Ae0 (le2 rt _ (by rw[hs];exact hl)) r (h.trans hr)
theorem B6{A o:Option (d7×List d8)}(h:A=o)(r:d7×List d8)(hr:o=some r):A=some r:=h.trans hr
abbrev upq(x:St)(l:List (Nat×d7)):St:=⟨l.foldl (λa q=>a.set q.1 q.2) x.a,x.H⟩
abbrev sIq:S2:=.s (.o (.int .i64))
abbrev sUq:S2:=.s (.o .unk)
abbrev sBq:S2:=.s (.o .bool)
abbrev sPq(n:Nat):S2:=.s (.o (.ptr n 0 0 0))
abbrev sTq(n:Nat):S2:=.s (.o (.tree n))
abbrev sLq{α:Type}(t:Ty α):S2:=.s (.c t.es (nL t))
abbrev kLq(n:Nat):List K:=List.replicate n (.o (.int .i64))
abbrev aIq(a:List d7)(n:Nat):Int:=toI (slT a n)
abbrev aBq(a:List d7)(n:Nat):Bool:=toB (slT a n)
abbrev aNq(a:List d7)(n:Nat):Nat:=toN (slT a n)
abbrev aGq(a:List d7)(n:Nat):Nat->List d7:=toG (slT a n)
abbrev aLq{α:Type}(t:Ty α)(a:List d7)(n:Nat):List α:=rL t (slT a n)
abbrev hIq(H:List d8)(m r n:Nat):Int:=toI (slT (rwT (elT H m) r) n)
abbrev cIq(a:List d7)(m n:Nat):Int:=toI (slT (cellsOf (slT a m)) n)
abbrev hNq(H:List d8)(m r n:Nat):Nat:=toN (slT (rwT (elT H m) r) n)
abbrev hGq(H:List d8)(m r n:Nat):Nat->List d7:=toG (slT (rwT (elT H m) r) n)
abbrev hLq{α:Type}(t:Ty α)(H:List d8)(m r n:Nat):List α:=rL t (slT (rwT (elT H m) r) n)
end Go.Ev.L
namespace Go.Ev.Ce
structure V3 where
 x:Int
 y:Int
 z:Int
structure Pln where
 n:V3
 b:Int
structure Pt where
 px:Int
 py:Int
 pz:Int
 pw:Int
def A5(a b:V3):V3:=⟨a.y*b.z-a.z*b.y,a.z*b.x-a.x*b.z,a.x*b.y-a.y*b.x⟩
def dot(a b:V3):Int:=a.x*b.x+a.y*b.y+a.z*b.z
def mw(p q r:Pln):Int:=dot p.n (A5 q.n r.n)
end Go.Ev.Ce
namespace Go.Ev.Ce
open Go Go.Ev Go.Ev.L Go.Proofs
@[reducible] noncomputable def prog:Program:=Tryz.prog
def G:Nat->List Value:=λ_=>[]
def En(l:List (Nat×Sum)):Env:={ P:=prog,G,fns:=λ_=>none,call:=Zf0 l,own:=λf j=>Bool.and (Db2 f [107,109,111,118]) (Nat.beq j 0),N:=18446744073709551616 }
@[reducible] noncomputable def u:d7:=.v (.tuple #[])
theorem ng8{l:List (Nat×Sum)}(h:j9 prog G l):∀f,j6 (En l).P (En l).G f ((En l).call f):=We0 h
theorem bd{l:List (Nat×Sum)}{f:FuncId}{R:Env->Sum}(b:wd1 prog f R)(h:j9 prog G l):j6 prog G f (R (En l)):=b rfl (ng8 h)
def tV:Ty V3 where
 es:=3
 row x:=[i x.x,i x.y,i x.z]
 rd r:=⟨toI (hdA r),toI (hdA (tlA r)),toI (hdA (tlA (tlA r)))⟩
 ok r:=Ra9 3 r
 cks:=List.replicate 3 (.int .i64)
 d:=⟨0,0,0⟩
 h0 _:=rfl
 h1 _:=rfl
 h2 _:=rfl
 h3 _ h:=.of (ub2 h)
 h4 _:=rfl
 h5 _:=rfl
def r1V:R1 V3:=r1A tV 3 λ_ h=>h
def tP:Ty Pln where
 es:=4
 row x:=[i x.n.x,i x.n.y,i x.n.z,i x.b]
 rd r:=⟨⟨toI (hdA r),toI (hdA (tlA r)),toI (hdA (tlA (tlA r)))⟩,toI (hdA (tlA (tlA (tlA r))))⟩
 ok r:=Ra9 4 r
 cks:=List.replicate 4 (.int .i64)
 d:=⟨⟨0,0,0⟩,0⟩
 h0 _:=rfl
 h1 _:=rfl
 h2 _:=rfl
 h3 _ h:=.of (ub2 h)
 h4 _:=rfl
 h5 _:=rfl
abbrev PLq:=List Pln
abbrev LPq:=List PLq
abbrev tLq:=tLs tP
abbrev tMq:=tLs tLq
abbrev ROq:=Option (d7×List d8)
def r1P:R1 Pln:=r1A tP 4 λ_ h=>h
def tX:Ty Pt where
 es:=4
 row x:=[i x.px,i x.py,i x.pz,i x.pw]
 rd r:=⟨toI (hdA r),toI (hdA (tlA r)),toI (hdA (tlA (tlA r))),toI (hdA (tlA (tlA (tlA r))))⟩
 ok r:=Ra9 4 r
 cks:=List.replicate 4 (.int .i64)
 d:=⟨0,0,0,0⟩
 h0 _:=rfl
 h1 _:=rfl
 h2 _:=rfl
 h3 _ h:=.of (ub2 h)
 h4 _:=rfl
 h5 _:=rfl
def r1X:R1 Pt:=r1A tX 4 λ_ h=>h
structure Tp where
 p:Pln
 q:Pln
 r:Pln
def tY:Ty Tp where
 es:=12
 row x:=[i x.p.n.x,i x.p.n.y,i x.p.n.z,i x.p.b,i x.q.n.x,i x.q.n.y,i x.q.n.z,i x.q.b,i x.r.n.x,i x.r.n.y,i x.r.n.z,i x.r.b]
 rd r:=⟨⟨⟨toI (hdA r),toI (hdA (tlA r)),toI (hdA (tlA (tlA r)))⟩,toI (hdA (tlA (tlA (tlA r))))⟩,⟨⟨toI (hdA (tlA (tlA (tlA (tlA r))))),toI (hdA (tlA (tlA (tlA (tlA (tlA r)))))),toI (hdA (tlA (tlA (tlA (tlA (tlA (tlA r)))))))⟩,toI (hdA (tlA (tlA (tlA (tlA (tlA (tlA (tlA r))))))))⟩,⟨⟨toI (hdA (tlA (tlA (tlA (tlA (tlA (tlA (tlA (tlA r))))))))),toI (hdA (tlA (tlA (tlA (tlA (tlA (tlA (tlA (tlA (tlA r)))))))))),toI (hdA (tlA (tlA (tlA (tlA (tlA (tlA (tlA (tlA (tlA (tlA r)))))))))))⟩,toI (hdA (tlA (tlA (tlA (tlA (tlA (tlA (tlA (tlA (tlA (tlA (tlA r))))))))))))⟩⟩
 ok r:=Ra9 12 r
 cks:=List.replicate 12 (.int .i64)
 d:=⟨⟨⟨0,0,0⟩,0⟩,⟨⟨0,0,0⟩,0⟩,⟨⟨0,0,0⟩,0⟩⟩
 h0 _:=rfl
 h1 _:=rfl
 h2 _:=rfl
 h3 _ h:=.of (ub2 h)
 h4 _:=rfl
 h5 _:=rfl
structure Q2 where
 a:V3
 b:V3
set_option maxRecDepth 100000
def Ae3:List (Nat×Sum):=[]
theorem le3:j9 prog G Ae3:=trivial
def Nb0(x:Pln)(y:Pt):Int:=(W ((W ((W ((W (x.b*y.pw))-(W (x.n.x*y.px))))-(W (x.n.y*y.py))))-(W (x.n.z*y.pz))))
def Sc2:Sum:=ta3 (ya7 tP) (ya7 tX) (λx y=>.ret ((one r1I).enc (Nb0 x y),[]))
theorem sd2:j6 prog G 92 Sc2:=Ta3 (bd b92 le3) λx y=>B6 (by kernel_rfl)
def Pe6:List (Nat×Sum):=[]
theorem Ae4:j9 prog G Pe6:=trivial
def Lb1(x:V3)(y:V3):V3:=(⟨W (x.x+y.x),W (x.y+y.y),W (x.z+y.z)⟩:V3)
def ce0:Sum:=ta3 (ya7 tV) (ya7 tV) (λx y=>.ret ((one r1V).enc (Lb1 x y),[]))
theorem Pe7:j6 prog G 139 ce0:=Ta3 (bd zg0 Ae4) λx y=>B6 (by kernel_rfl)
def Pe8:List (Nat×Sum):=[]
theorem Ae5:j9 prog G Pe8:=trivial
def Ic2(x:V3)(y:V3):Int:=(W ((W ((W (x.x*y.x))+(W (x.y*y.y))))+(W (x.z*y.z))))
def ce1:Sum:=ta3 (ya7 tV) (ya7 tV) (λx y=>.ret ((one r1I).enc (Ic2 x y),[]))
theorem Pe9:j6 prog G 136 ce1:=Ta3 (bd yg7 Ae5) λx y=>B6 (by kernel_rfl)
def le4:List (Nat×Sum):=[]
theorem Sd6:j9 prog G le4:=trivial
def va6(x:V3)(y:V3):V3:=(⟨W ((W (x.y*y.z))-(W (x.z*y.y))),W ((W (x.z*y.x))-(W (x.x*y.z))),W ((W (x.x*y.y))-(W (x.y*y.x)))⟩:V3)
def sd3:Sum:=ta3 (ya7 tV) (ya7 tV) (λx y=>.ret ((one r1V).enc (va6 x y),[]))
theorem le5:j6 prog G 137 sd3:=Ta3 (bd yg8 Sd6) λx y=>B6 (by kernel_rfl)
def Sd7:List (Nat×Sum):=[]
theorem Id2:j9 prog G Sd7:=trivial
def ea5(x:V3)(y:Int):V3:=(⟨W (x.x*y),W (x.y*y),W (x.z*y)⟩:V3)
def ad9:Sum:=ta3 (ya7 tV) cI (λx y=>.ret ((one r1V).enc (ea5 x y),[]))
theorem Sd8:j6 prog G 138 ad9:=Ta3 (bd yg9 Id2) λx y=>B6 (by kernel_rfl)
def Nc7:List (Nat×Sum):=[]
theorem Id3:j9 prog G Nc7:=trivial
structure Ua4 where
structure oa5 where
 (is0 is1:Int)
def rc7(p:Ua4)(s:oa5):St:=⟨i s.is0::i s.is1::ra 10 [],[]⟩
def Ga3{α:Type}(k:oa5->α)(e:Nat->α)(z:α)(p:Ua4)(s:oa5):α:=(sl (s.is1 != 0) (sl (s.is1==0) z (k ⟨s.is1,Int.tmod s.is0 s.is1⟩)) (e 1))
def Na2(p:Ua4)(s:oa5):Stp oa5:=Ga3 .next .exit .fail p s
def Nb1:Lo Ua4 oa5:=⟨En Nc7,0,Vf8,[1,0,4,4],[0,1],.p,[⟨sIq::sIq::ru2 10 [],[],λa H=>(⟨⟩,⟨aIq a 0,aIq a 1⟩)⟩],Na2,[(some 0,λp s=>upq (rc7 p s) [(5,i s.is1),(6,b (s.is1 != 0))])],rc7⟩
theorem wd2:Nb1.Ok:=Lo.ok [] (by kernel_rfl) .nil rfl (.cons (λa H=>by kernel_rfl) .nil) λp s=>(.of @Ga3 (λF _ _ _ _ _=>by unfold Ga3;(repeat' apply k8 (f:=F))<;>rfl) (by kernel_rfl))
def nb4(x:Int)(y:Int):ROq:=let t1:=(lp (Na2 (⟨⟩:Ua4)) (⟨x,y⟩:oa5));(sl (Nat.beq t1.1 1) (some (i t1.2.is0,[])) none)
def ea6(x:Int)(y:Int):Int:=V2 (one r1I) (nb4 x y)
def ea7(x:Int)(y:Int):Bool:=okO (one r1I) (nb4 x y)
def bd0:Sum:=ta3 cI cI (λx y=>.guard (ea7 x y) (.ret ((one r1I).enc (ea6 x y),[])))
theorem Sd9:j6 prog G 140 bd0:=ub3 (bd zg1 Id3) (one r1I) (o:=nb4) λx y=>Ga2 (.s .p (.s (.b (.u Nb1.ls)) .p)) [Nb1.pr] (by kernel_rfl) (.cons wd2 .nil) (by kernel_rfl)
def Ae6:List (Nat×Sum):=[(137,sd3),(136,ce1),(138,ad9),(139,ce0),(140,bd0)]
theorem le6:j9 prog G Ae6:=⟨le5,Pe9,Sd8,Pe7,Sd9,trivial⟩
def Nb2(x:Pln)(y:Pln)(z:Pln):ROq:=let t1:=(va6 y.n z.n);let t2:=(Ic2 x.n t1);let t3:=(ea5 t1 x.b);let t4:=(va6 z.n x.n);let t5:=(ea5 t4 y.b);let t6:=(Lb1 t3 t5);let t7:=(va6 x.n y.n);let t8:=(ea5 t7 z.b);let t9:=(Lb1 t6 t8);let t10:=(ea5 t9 (-1));let t11:=(ea6 (if (W (0-t10.x))>t10.x then (W (0-t10.x)) else t10.x) (if (W (0-t10.y))>t10.y then (W (0-t10.y)) else t10.y));let t12:=(ea6 (if (W (0-t10.z))>t10.z then (W (0-t10.z)) else t10.z) (W (0-t2)));let t13:=(ea6 t11 t12);let t14:=(ea6 (if (W (0-t9.x))>t9.x then (W (0-t9.x)) else t9.x) (if (W (0-t9.y))>t9.y then (W (0-t9.y)) else t9.y));let t15:=(ea6 (if (W (0-t9.z))>t9.z then (W (0-t9.z)) else t9.z) t2);let t16:=(ea6 t14 t15);(sl (t2==0) (some (.tup [.agg [i 0,i 0,i 0,i 0],b false],[])) (sl (decide (t2<0)) (sl (ea7 (if (W (0-t10.x))>t10.x then (W (0-t10.x)) else t10.x) (if (W (0-t10.y))>t10.y then (W (0-t10.y)) else t10.y)) (sl (ea7 (if (W (0-t10.z))>t10.z then (W (0-t10.z)) else t10.z) (W (0-t2))) (sl (ea7 t11 t12) (sl (t13==0) none (sl (t13==0) none (sl (t13==0) none (sl (t13==0) none (some (.tup [.agg [i (W (Int.tdiv t10.x t13)),i (W (Int.tdiv t10.y t13)),i (W (Int.tdiv t10.z t13)),i (W (Int.tdiv (W (0-t2)) t13))],b true],[])))))) none) none) none) (sl (ea7 (if (W (0-t9.x))>t9.x then (W (0-t9.x)) else t9.x) (if (W (0-t9.y))>t9.y then (W (0-t9.y)) else t9.y)) (sl (ea7 (if (W (0-t9.z))>t9.z then (W (0-t9.z)) else t9.z) t2) (sl (ea7 t14 t15) (sl (t16==0) none (sl (t16==0) none (sl (t16==0) none (sl (t16==0) none (some (.tup [.agg [i (W (Int.tdiv t9.x t16)),i (W (Int.tdiv t9.y t16)),i (W (Int.tdiv t9.z t16)),i (W (Int.tdiv t2 t16))],b true],[])))))) none) none) none)))
def Nb3(x:Pln)(y:Pln)(z:Pln):Pt×Bool:=V2 (two r1X r1B) (Nb2 x y z)
def Nb4(x:Pln)(y:Pln)(z:Pln):Bool:=okO (two r1X r1B) (Nb2 x y z)
def Id4:Sum:=je8 (ya7 tP) (ya7 tP) (ya7 tP) (λx y z=>.guard (Nb4 x y z) (.ret ((two r1X r1B).enc (Nb3 x y z),[])))
theorem Ae7:j6 prog G 115 Id4:=jg1 (bd xg1 le6) (two r1X r1B) (o:=Nb2) λx y z=>B6 (by kernel_rfl)
def ce2:List (Nat×Sum):=[(92,Sc2)]
theorem Qe0:j9 prog G ce2:=⟨sd2,trivial⟩
structure Nb5 where
 j5:PLq
 (B3 m8 s5 v8:Int)
structure Ka5 where
 is5:Int
def sd4(p:Nb5)(s:Ka5):St:=⟨eL tP p.j5::.unk::.unk::.ptr 0 0 0 0::.unk::i s.is5::ra 13 [],[⟨0,4,[[i p.B3,i p.m8,i p.s5,i p.v8]],true,false,0⟩]⟩
def nb5{α:Type}(k:Ka5->α)(e:Nat->α)(z:α)(p:Nb5)(s:Ka5):α:=let t1:=(Nb0 (gL tP p.j5 s.is5.toNat) (⟨p.B3,p.m8,p.s5,p.v8⟩:Pt));(sl (decide (s.is5<(↑(List.length p.j5):Int))) (sl (inB s.is5 (List.length p.j5)) (sl (decide (t1<0)) (e 1) (k ⟨W (s.is5+1)⟩)) z) (e 2))
def zb6(p:Nb5)(s:Ka5):Stp Ka5:=nb5 .next .exit .fail p s
def Sc3:Lo Nb5 Ka5:=⟨En ce2,0,Vf2,[1,0,1,4,4],[0,3,5],.p,[⟨sLq tP::sUq::sUq::sPq 0::sUq::sIq::ru2 13 [],[⟨0,4,true,some [kLq 4]⟩],λa H=>(⟨aLq tP a 0,hIq H 0 0 0,hIq H 0 0 1,hIq H 0 0 2,hIq H 0 0 3⟩,⟨aIq a 5⟩)⟩],zb6,[(none,λp s=>⟨[b false],[]⟩),(some 0,λp s=>upq (sd4 p s) [(6,i s.is5),(7,eL tP p.j5),(8,i (↑(List.length p.j5):Int)),(9,b (decide (s.is5<(↑(List.length p.j5):Int))))])],sd4⟩
theorem Ae8:Sc3.Ok:=Lo.ok [] (by kernel_rfl) .nil rfl (.cons (λa H=>by kernel_rfl) .nil) λp s=>(.of @nb5 (λF _ _ _ _ _=>by unfold nb5;(repeat' apply k8 (f:=F))<;>rfl) (by kernel_rfl))
def zc6(x:PLq)(y:Pt):ROq:=let t1:=(lp (zb6 (⟨rt tP x,y.px,y.py,y.pz,y.pw⟩:Nb5)) (⟨0⟩:Ka5));(sl ((cnE tP x)&&true) (sl (Nat.beq t1.1 1) (some (b false,[])) (sl (Nat.beq t1.1 2) (some (b true,[])) none)) none)
def ec2(x:PLq)(y:Pt):Bool:=V2 (one r1B) (zc6 x y)
def ec3(x:PLq)(y:Pt):Bool:=okO (one r1B) (zc6 x y)
def Ae9:Sum:=ta3 (na2 tP) (ya7 tX) (λx y=>.guard (ec3 x y) (.ret ((one r1B).enc (ec2 x y),[])))
theorem kf7:j6 prog G 116 Ae9:=ub3 (bd xg2 Qe0) (one r1B) (o:=zc6) λx y=>Ga2 (.s .p (.s (.s .p (.b (.u Sc3.ls))) .p)) [Sc3.pr] (by kernel_rfl) (.cons Ae8 .nil) (by kernel_rfl)
def bd1:List (Nat×Sum):=[]
theorem Td0:j9 prog G bd1:=trivial
structure db6 where
 lb3:List Pt
 (B3 m8 s5 v8:Int)
structure na3 where
 is5:Int
def zc7(p:db6)(s:na3):St:=⟨eL tX p.lb3::.unk::.unk::.ptr 0 0 0 0::.unk::i s.is5::ra 12 [],[⟨0,4,[[i p.B3,i p.m8,i p.s5,i p.v8]],true,false,0⟩]⟩
def Na3{α:Type}(k:na3->α)(e:Nat->α)(z:α)(p:db6)(s:na3):α:=let y0:=(gL tX p.lb3 s.is5.toNat);(sl (decide (s.is5<(↑(List.length p.lb3):Int))) (sl (inB s.is5 (List.length p.lb3)) (sl ((y0.px==p.B3)&&((y0.py==p.m8)&&((y0.pz==p.s5)&&((y0.pw==p.v8)&&true)))) (e 1) (k ⟨W (s.is5+1)⟩)) z) (e 2))
def Ua5(p:db6)(s:na3):Stp na3:=Na3 .next .exit .fail p s
def Yb7:Lo db6 na3:=⟨En bd1,0,Vf3,[1,0,1,4,4],[0,3,5],.p,[⟨sLq tX::sUq::sUq::sPq 0::sUq::sIq::ru2 12 [],[⟨0,4,true,some [kLq 4]⟩],λa H=>(⟨aLq tX a 0,hIq H 0 0 0,hIq H 0 0 1,hIq H 0 0 2,hIq H 0 0 3⟩,⟨aIq a 5⟩)⟩],Ua5,[(none,λp s=>⟨[b true],[]⟩),(some 0,λp s=>upq (zc7 p s) [(6,i s.is5),(7,eL tX p.lb3),(8,i (↑(List.length p.lb3):Int)),(9,b (decide (s.is5<(↑(List.length p.lb3):Int))))])],zc7⟩
theorem Id5:Yb7.Ok:=Lo.ok [] (by kernel_rfl) .nil rfl (.cons (λa H=>by kernel_rfl) .nil) λp s=>(.of @Na3 (λF _ _ _ _ _=>by unfold Na3;(repeat' apply k8 (f:=F))<;>rfl) (by kernel_rfl))
def zb7(x:List Pt)(y:Pt):ROq:=let t1:=(lp (Ua5 (⟨rt tX x,y.px,y.py,y.pz,y.pw⟩:db6)) (⟨0⟩:na3));(sl ((cnE tX x)&&true) (sl (Nat.beq t1.1 1) (some (b true,[])) (sl (Nat.beq t1.1 2) (some (b false,[])) none)) none)
def jb6(x:List Pt)(y:Pt):Bool:=V2 (one r1B) (zb7 x y)
def jb7(x:List Pt)(y:Pt):Bool:=okO (one r1B) (zb7 x y)
def sd5:Sum:=ta3 (na2 tX) (ya7 tX) (λx y=>.guard (jb7 x y) (.ret ((one r1B).enc (jb6 x y),[])))
theorem le7:j6 prog G 117 sd5:=ub3 (bd xg3 Td0) (one r1B) (o:=zb7) λx y=>Ga2 (.s .p (.s (.s .p (.b (.u Yb7.ls))) .p)) [Yb7.pr] (by kernel_rfl) (.cons Id5 .nil) (by kernel_rfl)
def nb6:List (Nat×Sum):=[(115,Id4),(116,Ae9),(117,sd5)]
theorem wd3:j9 prog G nb6:=⟨Ae7,kf7,le7,trivial⟩
structure aa1 where
 j5:PLq
 (is4 is5:Int)
structure C9 where
 ph:Nat
 is6:Int
 ns3:Nat
 eh0:List (List d7)
def Vb3(p:aa1)(s:C9):St:=⟨eL tP p.j5::.unk::.unk::.v (.slice none 0 0)::i p.is4::i p.is5::i s.is6::ra 57 [],[]⟩
def Vb4(p:aa1)(s:C9):St:=⟨eL tP p.j5::.unk::.unk::.sl 0 0 s.ns3 0::i p.is4::i p.is5::i s.is6::ra 57 [],[⟨114,4,s.eh0,true,false,0⟩]⟩
def kd3(p:aa1)(s:C9):St:=(sel (Nat.beq s.ph 1) (Vb4 p s) (Vb3 p s))
def ea8{α:Type}(k:C9->α)(e:Nat->α)(z:α)(p:aa1)(s:C9):α:=let y0:=(List.length p.j5);let t1:=(Nb3 (gL tP p.j5 p.is4.toNat) (gL tP p.j5 p.is5.toNat) (gL tP p.j5 s.is6.toNat));let t2:=(ec2 (rt tP p.j5) t1.1);let t3:=(jb6 [] t1.1);(sl (decide (s.is6<(↑y0:Int))) (sl (inB p.is4 y0) (sl (inB p.is5 y0) (sl (inB s.is6 y0) (sl (Nb4 (gL tP p.j5 p.is4.toNat) (gL tP p.j5 p.is5.toNat) (gL tP p.j5 s.is6.toNat)) (sl t1.2 (sl (okE tP p.j5) (sl (ec3 (rt tP p.j5) t1.1) (sl t2 (sl (jb7 [] t1.1) (sl (!t3) (k ⟨1,W (s.is6+1),1,[[i t1.1.px,i t1.1.py,i t1.1.pz,i t1.1.pw]]⟩) (k ⟨0,W (s.is6+1),0,[]⟩)) z) (k ⟨0,W (s.is6+1),0,[]⟩)) z) z) (k ⟨0,W (s.is6+1),0,[]⟩)) z) z) z) z) (e 1))
def ea9{α:Type}(k:C9->α)(e:Nat->α)(z:α)(p:aa1)(s:C9):α:=let y0:=(List.length p.j5);let t1:=(Nb3 (gL tP p.j5 p.is4.toNat) (gL tP p.j5 p.is5.toNat) (gL tP p.j5 s.is6.toNat));let t2:=(ec2 (rt tP p.j5) t1.1);let t3:=(jb6 (slR tX s.eh0 0 s.ns3) t1.1);(sl (decide (s.is6<(↑y0:Int))) (sl (inB p.is4 y0) (sl (inB p.is5 y0) (sl (inB s.is6 y0) (sl (Nb4 (gL tP p.j5 p.is4.toNat) (gL tP p.j5 p.is5.toNat) (gL tP p.j5 s.is6.toNat)) (sl t1.2 (sl (okE tP p.j5) (sl (ec3 (rt tP p.j5) t1.1) (sl t2 (sl (okS tX s.eh0 0 s.ns3) (sl (jb7 (slR tX s.eh0 0 s.ns3) t1.1) (sl (!t3) (sl (Nat.beq s.ns3 (len s.eh0)&&Nat.ble ((s.ns3+1)*32) room) (k ⟨1,W (s.is6+1),s.ns3+1,app s.eh0 [[i t1.1.px,i t1.1.py,i t1.1.pz,i t1.1.pw]]⟩) z) (k ⟨1,W (s.is6+1),s.ns3,s.eh0⟩)) z) z) (k ⟨1,W (s.is6+1),s.ns3,s.eh0⟩)) z) z) (k ⟨1,W (s.is6+1),s.ns3,s.eh0⟩)) z) z) z) z) (e 2))
def ca3(p:aa1)(s:C9):Stp C9:=(sel (Nat.beq s.ph 1) (ea9 .next .exit .fail p s) (ea8 .next .exit .fail p s))
def Db9:Lo aa1 C9:=⟨En nb6,0,Mf6,[1,1,0,1,4,4,1,0,4,1,4,4,1,0,4,1,4,4],[0,3,4,5,6],.p,[⟨sLq tP::sUq::sUq::.s (.o .nil)::sIq::sIq::sIq::ru2 57 [],[],λa H=>(⟨aLq tP a 0,aIq a 4,aIq a 5⟩,⟨0,aIq a 6,0,[]⟩)⟩,⟨sLq tP::sUq::sUq::.s (.o (.sl 0 0 (some 0) none))::sIq::sIq::sIq::ru2 57 [],[⟨114,4,true,none⟩],λa H=>(⟨aLq tP a 0,aIq a 4,aIq a 5⟩,⟨1,aIq a 6,slN (slT a 3),elT H 0⟩)⟩],ca3,[(some 4,λp s=>upq (Vb3 p s) [(25,i s.is6),(26,eL tP p.j5),(27,i (↑(List.length p.j5):Int)),(28,b (decide (s.is6<(↑(List.length p.j5):Int))))]),(some 4,λp s=>upq (Vb4 p s) [(25,i s.is6),(26,eL tP p.j5),(27,i (↑(List.length p.j5):Int)),(28,b (decide (s.is6<(↑(List.length p.j5):Int))))])],kd3⟩
theorem kd4:Db9.Ok:=Lo.ok [] (by kernel_rfl) .nil rfl (.cons (λa H=>by kernel_rfl) (.cons (λa H=>by kernel_rfl) .nil)) λp s=>(.sel (Nat.beq s.ph 1) (.of @ea9 (λF _ _ _ _ _=>by unfold ea9;(repeat' apply k8 (f:=F))<;>rfl) (by kernel_rfl)) (.of @ea8 (λF _ _ _ _ _=>by unfold ea8;(repeat' apply k8 (f:=F))<;>rfl) (by kernel_rfl)))
structure aa2 where
 is4:Int
structure E3 where
 ph:Nat
 j5:PLq
 is5:Int
 ns3:Nat
 eh0:List (List d7)
def Vb5(p:aa2)(s:E3):St:=⟨eL tP s.j5::.unk::.unk::.v (.slice none 0 0)::i p.is4::i s.is5::ra 58 [],[]⟩
def Vb6(p:aa2)(s:E3):St:=⟨eL tP s.j5::.unk::.unk::.sl 0 0 s.ns3 0::i p.is4::i s.is5::ra 58 [],[⟨114,4,s.eh0,true,false,0⟩]⟩
def kd5(p:aa2)(s:E3):St:=(sel (Nat.beq s.ph 1) (Vb6 p s) (Vb5 p s))
def fa0{α:Type}(k:E3->α)(e:Nat->α)(z:α)(p:aa2)(s:E3):α:=let t1:=(lp (ca3 (⟨rt tP s.j5,p.is4,s.is5⟩:aa1)) (⟨0,W (s.is5+1),0,[]⟩:C9));(sl (decide (s.is5<(↑(List.length s.j5):Int))) (sl ((cnE tP s.j5)&&true) (sl (Nat.beq t1.1 1) (k ⟨0,rt tP s.j5,W (s.is5+1),0,[]⟩) (sl (Nat.beq t1.1 2) (k ⟨1,rt tP s.j5,W (s.is5+1),t1.2.ns3,t1.2.eh0⟩) z)) z) (e 1))
def fa1{α:Type}(k:E3->α)(e:Nat->α)(z:α)(p:aa2)(s:E3):α:=let t1:=(lp (ca3 (⟨rt tP s.j5,p.is4,s.is5⟩:aa1)) (⟨1,W (s.is5+1),s.ns3,s.eh0⟩:C9));(sl (decide (s.is5<(↑(List.length s.j5):Int))) (sl ((cnE tP s.j5)&&true) (sl (Nat.beq t1.1 1) (k ⟨0,rt tP s.j5,W (s.is5+1),0,[]⟩) (sl (Nat.beq t1.1 2) (k ⟨1,rt tP s.j5,W (s.is5+1),t1.2.ns3,t1.2.eh0⟩) z)) z) (e 2))
def V6(p:aa2)(s:E3):Stp E3:=(sel (Nat.beq s.ph 1) (fa1 .next .exit .fail p s) (fa0 .next .exit .fail p s))
def Eb0:Lo aa2 E3:=⟨En nb6,0,Mf6,[1,1,0,1,4,4,1,0,4,1,4,4],[0,3,4,5],.s .p (.s (.b (.s .p (.b (.u Db9.ls)))) .p),[⟨sLq tP::sUq::sUq::.s (.o .nil)::sIq::sIq::ru2 58 [],[],λa H=>(⟨aIq a 4⟩,⟨0,aLq tP a 0,aIq a 5,0,[]⟩)⟩,⟨sLq tP::sUq::sUq::.s (.o (.sl 0 0 (some 0) none))::sIq::sIq::ru2 58 [],[⟨114,4,true,none⟩],λa H=>(⟨aIq a 4⟩,⟨1,aLq tP a 0,aIq a 5,slN (slT a 3),elT H 0⟩)⟩],V6,[(some 2,λp s=>upq (Vb5 p s) [(17,i s.is5),(18,eL tP s.j5),(19,i (↑(List.length s.j5):Int)),(20,b (decide (s.is5<(↑(List.length s.j5):Int))))]),(some 2,λp s=>upq (Vb6 p s) [(17,i s.is5),(18,eL tP s.j5),(19,i (↑(List.length s.j5):Int)),(20,b (decide (s.is5<(↑(List.length s.j5):Int))))])],kd5⟩
theorem kd6:Eb0.Ok:=Lo.ok [Db9.pr] (by kernel_rfl) (.cons kd4 .nil) rfl (.cons (λa H=>by kernel_rfl) (.cons (λa H=>by kernel_rfl) .nil)) λp s=>(.sel (Nat.beq s.ph 1) (.of @fa1 (λF _ _ _ _ _=>by unfold fa1;(repeat' apply k8 (f:=F))<;>rfl) (by kernel_rfl)) (.of @fa0 (λF _ _ _ _ _=>by unfold fa0;(repeat' apply k8 (f:=F))<;>rfl) (by kernel_rfl)))
structure ia9 where
structure J5 where
 ph:Nat
 j5:PLq
 is4:Int
 ns3:Nat
 eh0:List (List d7)
def Vb7(p:ia9)(s:J5):St:=⟨eL tP s.j5::.unk::.unk::.v (.slice none 0 0)::i s.is4::ra 59 [],[]⟩
def Vb8(p:ia9)(s:J5):St:=⟨eL tP s.j5::.unk::.unk::.sl 0 0 s.ns3 0::i s.is4::ra 59 [],[⟨114,4,s.eh0,true,false,0⟩]⟩
def kd7(p:ia9)(s:J5):St:=(sel (Nat.beq s.ph 1) (Vb8 p s) (Vb7 p s))
def fa2{α:Type}(k:J5->α)(e:Nat->α)(z:α)(p:ia9)(s:J5):α:=let t1:=(lp (V6 (⟨s.is4⟩:aa2)) (⟨0,rt tP s.j5,W (s.is4+1),0,[]⟩:E3));(sl (decide (s.is4<(↑(List.length s.j5):Int))) (sl ((cnE tP s.j5)&&true) (sl (Nat.beq t1.1 1) (k ⟨0,t1.2.j5,W (s.is4+1),0,[]⟩) (sl (Nat.beq t1.1 2) (k ⟨1,t1.2.j5,W (s.is4+1),t1.2.ns3,t1.2.eh0⟩) z)) z) (e 1))
def fa3{α:Type}(k:J5->α)(e:Nat->α)(z:α)(p:ia9)(s:J5):α:=let t1:=(lp (V6 (⟨s.is4⟩:aa2)) (⟨1,rt tP s.j5,W (s.is4+1),s.ns3,s.eh0⟩:E3));(sl (decide (s.is4<(↑(List.length s.j5):Int))) (sl ((cnE tP s.j5)&&true) (sl (Nat.beq t1.1 1) (k ⟨0,t1.2.j5,W (s.is4+1),0,[]⟩) (sl (Nat.beq t1.1 2) (k ⟨1,t1.2.j5,W (s.is4+1),t1.2.ns3,t1.2.eh0⟩) z)) z) (e 2))
def ca4(p:ia9)(s:J5):Stp J5:=(sel (Nat.beq s.ph 1) (fa3 .next .exit .fail p s) (fa2 .next .exit .fail p s))
def Eb1:Lo ia9 J5:=⟨En nb6,0,Mf6,[1,1,0,1,4,4],[0,3,4],.s .p (.s (.b (.s .p (.b (.u Eb0.ls)))) .p),[⟨sLq tP::sUq::sUq::.s (.o .nil)::sIq::ru2 59 [],[],λa H=>(⟨⟩,⟨0,aLq tP a 0,aIq a 4,0,[]⟩)⟩,⟨sLq tP::sUq::sUq::.s (.o (.sl 0 0 (some 0) none))::sIq::ru2 59 [],[⟨114,4,true,none⟩],λa H=>(⟨⟩,⟨1,aLq tP a 0,aIq a 4,slN (slT a 3),elT H 0⟩)⟩],ca4,[(some 0,λp s=>upq (Vb7 p s) [(9,i s.is4),(10,eL tP s.j5),(11,i (↑(List.length s.j5):Int)),(12,b (decide (s.is4<(↑(List.length s.j5):Int))))]),(some 0,λp s=>upq (Vb8 p s) [(9,i s.is4),(10,eL tP s.j5),(11,i (↑(List.length s.j5):Int)),(12,b (decide (s.is4<(↑(List.length s.j5):Int))))])],kd7⟩
theorem kd8:Eb1.Ok:=Lo.ok [Eb0.pr] (by kernel_rfl) (.cons kd6 .nil) rfl (.cons (λa H=>by kernel_rfl) (.cons (λa H=>by kernel_rfl) .nil)) λp s=>(.sel (Nat.beq s.ph 1) (.of @fa3 (λF _ _ _ _ _=>by unfold fa3;(repeat' apply k8 (f:=F))<;>rfl) (by kernel_rfl)) (.of @fa2 (λF _ _ _ _ _=>by unfold fa2;(repeat' apply k8 (f:=F))<;>rfl) (by kernel_rfl)))
def db7(x:PLq):ROq:=let t1:=(lp (ca4 (⟨⟩:ia9)) (⟨0,rt tP x,0,0,[]⟩:J5));(sl ((cnE tP x)&&true) (sl (Nat.beq t1.1 1) (some (.v (.slice none 0 0),[])) (sl (Nat.beq t1.1 2) (some (.sl 0 0 t1.2.ns3 0,[⟨114,4,t1.2.eh0,true,false,0⟩])) none)) none)
def xb9(x:PLq):List Pt:=V2 (one (r1L tX)) (db7 x)
def yb0(x:PLq):Bool:=okO (one (r1L tX)) (db7 x)
def Nc8:Sum:=ca1 (na2 tP) (λx=>.guard (yb0 x) (.ret ((one (r1L tX)).enc (xb9 x),[])))
theorem Id6:j6 prog G 91 Nc8:=ab0 (bd b91 wd3) (one (r1L tX)) (o:=db7) λx=>Ga2 (.s .p (.s .p (.s (.s .p (.b (.u Eb1.ls))) .p))) [Eb1.pr] (by kernel_rfl) (.cons kd8 .nil) (by kernel_rfl)
def Vb9:List (Nat×Sum):=[]
theorem Sc4:j9 prog G Vb9:=trivial
@[reducible] noncomputable def ub8:Sum:=dc3 (En Vb9) Vf0
theorem Wb0:j6 prog G 113 ub8:=bd wg9 Sc4
def wd4:List (Nat×Sum):=[]
theorem kd9:j9 prog G wd4:=trivial
def Ua6(x:Int):ROq:=(sl (decide (x<0)) (some (i (W (0-x)),[])) (some (i x,[])))
def Ga4(x:Int):Int:=V2 (one r1I) (Ua6 x)
def Ga5(x:Int):Bool:=okO (one r1I) (Ua6 x)
def zc8:Sum:=ca1 cI (λx=>.guard (Ga5 x) (.ret ((one r1I).enc (Ga4 x),[])))
theorem wd5:j6 prog G 135 zc8:=ab0 (bd yg6 kd9) (one r1I) (o:=Ua6) λx=>B6 (by kernel_rfl)
def sd6:List (Nat×Sum):=[(135,zc8),(113,ub8)]
theorem le8:j9 prog G sd6:=⟨wd5,Wb0,trivial⟩
structure Aa5 where
 (is6 B3 m8 s5 pc8 Z0 pc9:Int)
structure fa4 where
 (is5 is7:Int)
def Nc9(p:Aa5)(s:fa4):St:=⟨.unk::.ptr 0 0 0 0::.ptr 1 0 0 0::.unk::.ptr 2 0 0 0::i s.is5::i p.is6::i s.is7::ra 38 [],[⟨0,3,[[i p.B3,i p.m8,i p.s5]],true,false,0⟩,⟨0,3,[[i 0,i 0,i 0]],true,false,0⟩,⟨0,3,[[i p.pc8,i p.Z0,i p.pc9]],true,false,0⟩]⟩
def Ua7{α:Type}(k:fa4->α)(e:Nat->α)(z:α)(p:Aa5)(s:fa4):α:=(sl (decide (s.is7>0)) (sl (s.is7==0) z (k ⟨s.is7,Int.tmod s.is5 s.is7⟩)) (e 1))
def va7(p:Aa5)(s:fa4):Stp fa4:=Ua7 .next .exit .fail p s
def kc9:Lo Aa5 fa4:=⟨En sd6,0,Vf1,[1,1,1,0,1,4,4,1,0,4,1,1,4,4],[1,2,4,5,6,7],.p,[⟨sUq::sPq 0::sPq 1::sUq::sPq 2::sIq::sIq::sIq::ru2 38 [],[⟨0,3,true,some [kLq 3]⟩,⟨0,3,true,some [[.o (.lit .i64 0),.o (.lit .i64 0),.o (.lit .i64 0)]]⟩,⟨0,3,true,some [kLq 3]⟩],λa H=>(⟨aIq a 6,hIq H 0 0 0,hIq H 0 0 1,hIq H 0 0 2,hIq H 2 0 0,hIq H 2 0 1,hIq H 2 0 2⟩,⟨aIq a 5,aIq a 7⟩)⟩],va7,[(some 2,λp s=>upq (Nc9 p s) [(23,i s.is7),(24,b (decide (s.is7>0)))])],Nc9⟩
theorem Td1:kc9.Ok:=Lo.ok [] (by kernel_rfl) .nil rfl (.cons (λa H=>by kernel_rfl) .nil) λp s=>(.of @Ua7 (λF _ _ _ _ _=>by unfold Ua7;(repeat' apply k8 (f:=F))<;>rfl) (by kernel_rfl))
def Nb6(x:V3):ROq:=let y0:=(.tup [.agg [i 0,i 0,i 0],i 0],[]);let t1:=(Ga4 x.x);let t2:=(lp (va7 (⟨0,x.x,x.y,x.z,x.x,x.y,x.z⟩:Aa5)) (⟨0,t1⟩:fa4));let t3:=(Ga4 x.y);let t4:=(lp (va7 (⟨1,x.x,x.y,x.z,x.x,x.y,x.z⟩:Aa5)) (⟨t2.2.is5,t3⟩:fa4));let t5:=(Ga4 x.z);let t6:=(lp (va7 (⟨2,x.x,x.y,x.z,x.x,x.y,x.z⟩:Aa5)) (⟨t4.2.is5,t5⟩:fa4));(sl (x.x==(-9223372036854775808)) (some y0) (sl (Ga5 x.x) (sl (Nat.beq t2.1 1) (sl (x.y==(-9223372036854775808)) (some y0) (sl (Ga5 x.y) (sl (Nat.beq t4.1 1) (sl (x.z==(-9223372036854775808)) (some y0) (sl (Ga5 x.z) (sl (Nat.beq t6.1 1) (sl (t6.2.is5==0) (some y0) (sl (t6.2.is5==0) none (sl (t6.2.is5==0) none (sl (t6.2.is5==0) none (some (.tup [.agg [i (W (Int.tdiv x.x t6.2.is5)),i (W (Int.tdiv x.y t6.2.is5)),i (W (Int.tdiv x.z t6.2.is5))],i t6.2.is5],[])))))) none) none)) none) none)) none) none))
def lc0(x:V3):V3×Int:=V2 (two r1V r1I) (Nb6 x)
def lc1(x:V3):Bool:=okO (two r1V r1I) (Nb6 x)
def Id7:Sum:=ca1 (ya7 tV) (λx=>.guard (lc1 x) (.ret ((two r1V r1I).enc (lc0 x),[])))
theorem Be0:j6 prog G 114 Id7:=ab0 (bd xg0 le8) (two r1V r1I) (o:=Nb6) λx=>Ga2 (.s .p (.s .p (.s .p (.s (.s .p (.b (.l (.s .p (.s (.b (.s .p (.s .p (.b (.u kc9.ls))))) .p))))) .p)))) [kc9.pr] (by kernel_rfl) (.cons Td1 .nil) (by kernel_rfl)
def le9:List (Nat×Sum):=[(114,Id7),(113,ub8)]
theorem Td2:j9 prog G le9:=⟨Be0,Wb0,trivial⟩
def zb8(x:Pln):ROq:=let t1:=(lc0 x.n);(sl (decide (x.n.x<(-4608))) (some (b false,[])) (sl (decide (x.n.x>4608)) (some (b false,[])) (sl (decide (x.n.y<(-4608))) (some (b false,[])) (sl (decide (x.n.y>4608)) (some (b false,[])) (sl (decide (x.n.z<(-4608))) (some (b false,[])) (sl (decide (x.n.z>4608)) (some (b false,[])) (sl (lc1 x.n) (sl (t1.2==1) (sl (decide (x.b>=(-2097152))) (some (b (decide (x.b<=2097152)),[])) (some (b false,[]))) (some (b false,[]))) none)))))))
def Wb1(x:Pln):Bool:=V2 (one r1B) (zb8 x)
def Wb2(x:Pln):Bool:=okO (one r1B) (zb8 x)
def sd7:Sum:=ca1 (ya7 tP) (λx=>.guard (Wb2 x) (.ret ((one r1B).enc (Wb1 x),[])))
theorem me0:j6 prog G 90 sd7:=ab0 (bd b90 Td2) (one r1B) (o:=zb8) λx=>B6 (by kernel_rfl)
def bd2:List (Nat×Sum):=[(90,sd7)]
theorem Td3:j9 prog G bd2:=⟨me0,trivial⟩
structure db8 where
 j5:PLq
structure na4 where
 is3:Int
def zc9(p:db8)(s:na4):St:=⟨eL tP p.j5::.unk::.unk::i s.is3::ra 15 [],[]⟩
def Na4{α:Type}(k:na4->α)(e:Nat->α)(z:α)(p:db8)(s:na4):α:=let t1:=(Wb1 (gL tP p.j5 s.is3.toNat));(sl (decide (s.is3<(↑(List.length p.j5):Int))) (sl (inB s.is3 (List.length p.j5)) (sl (Wb2 (gL tP p.j5 s.is3.toNat)) (sl (!t1) (e 1) (k ⟨W (s.is3+1)⟩)) z) z) (e 2))
def Ua8(p:db8)(s:na4):Stp na4:=Na4 .next .exit .fail p s
def Yb8:Lo db8 na4:=⟨En bd2,0,lg4,[1,1,0,1,4,4],[0,3],.p,[⟨sLq tP::sUq::sUq::sIq::ru2 15 [],[],λa H=>(⟨aLq tP a 0⟩,⟨aIq a 3⟩)⟩],Ua8,[(none,λp s=>⟨[i 12],[]⟩),(some 0,λp s=>upq (zc9 p s) [(7,i s.is3),(8,eL tP p.j5),(9,i (↑(List.length p.j5):Int)),(10,b (decide (s.is3<(↑(List.length p.j5):Int))))])],zc9⟩
theorem Id8:Yb8.Ok:=Lo.ok [] (by kernel_rfl) .nil rfl (.cons (λa H=>by kernel_rfl) .nil) λp s=>(.of @Na4 (λF _ _ _ _ _=>by unfold Na4;(repeat' apply k8 (f:=F))<;>rfl) (by kernel_rfl))
def zb9(x:PLq):ROq:=let t1:=(lp (Ua8 (⟨rt tP x⟩:db8)) (⟨0⟩:na4));(sl (decide ((↑(List.length x):Int)>48)) (some (i 2,[])) (sl ((cnE tP x)&&true) (sl (Nat.beq t1.1 1) (some (i 12,[])) (sl (Nat.beq t1.1 2) (some (i 0,[])) none)) none))
def jb8(x:PLq):Int:=V2 (one r1I) (zb9 x)
def jb9(x:PLq):Bool:=okO (one r1I) (zb9 x)
def Ac0:Sum:=ca1 (na2 tP) (λx=>.guard (jb9 x) (.ret ((one r1I).enc (jb8 x),[])))
theorem bd3:j6 prog G 70 Ac0:=ab0 (bd b70 Td3) (one r1I) (o:=zb9) λx=>Ga2 (.s .p (.s .p (.s (.s .p (.b (.u Yb8.ls))) .p))) [Yb8.pr] (by kernel_rfl) (.cons Id8 .nil) (by kernel_rfl)
def Qe1:List (Nat×Sum):=[]
theorem Be1:j9 prog G Qe1:=trivial
def Ic3(x:V3)(y:V3):ROq:=(some (.sl 0 0 6 0,[⟨66,4,[[i 1,i 0,i 0,i y.x],[i (-1),i 0,i 0,i (W (0-x.x))],[i 0,i 1,i 0,i y.y],[i 0,i (-1),i 0,i (W (0-x.y))],[i 0,i 0,i 1,i y.z],[i 0,i 0,i (-1),i (W (0-x.z))]],true,false,0⟩]))
def Ic4(x:V3)(y:V3):PLq:=V2 (one (r1L tP)) (Ic3 x y)
def Ic5(x:V3)(y:V3):Bool:=okO (one (r1L tP)) (Ic3 x y)
def ce3:Sum:=ta3 (ya7 tV) (ya7 tV) (λx y=>.guard (Ic5 x y) (.ret ((one (r1L tP)).enc (Ic4 x y),[])))
theorem Qe2:j6 prog G 36 ce3:=ub3 (bd b36 Be1) (one (r1L tP)) (o:=Ic3) λx y=>B6 (by kernel_rfl)
def Qe3:List (Nat×Sum):=[(36,ce3)]
theorem Be2:j9 prog G Qe3:=⟨Qe2,trivial⟩
def ec4(x:PLq):ROq:=let y0:=(List.range (List.length x));let t1:=(Ic4 (⟨-24,-24,-24⟩:V3) (⟨24,24,24⟩:V3));let y1:=(List.range (List.length t1));(sl (Nat.beq 0 0&&Nat.ble ((0+(len (o9 (λk=>(tP).row (gL tP x k)) y0)))*32) room) (sl (Ic5 (⟨-24,-24,-24⟩:V3) (⟨24,24,24⟩:V3)) (sl (Nat.beq (0+(len (o9 (λk=>(tP).row (gL tP x k)) y0))) (len (app [] (o9 (λk=>(tP).row (gL tP x k)) y0)))&&Nat.ble (((0+(len (o9 (λk=>(tP).row (gL tP x k)) y0)))+(len (o9 (λk=>(tP).row (gL tP t1 k)) y1)))*32) room) (some ((.sl 0 0 ((0+(len (o9 (λk=>(tP).row (gL tP x k)) y0)))+(len (o9 (λk=>(tP).row (gL tP t1 k)) y1))) 0),[⟨66,4,(app (app [] (o9 (λk=>(tP).row (gL tP x k)) y0)) (o9 (λk=>(tP).row (gL tP t1 k)) y1)),true,false,0⟩])) none) none) none)
def ec5(x:PLq):PLq:=V2 (one (r1L tP)) (ec4 x)
def ec6(x:PLq):Bool:=okO (one (r1L tP)) (ec4 x)
def ld0:Sum:=ca1 (na2 tP) (λx=>.guard (ec6 x) (.ret ((one (r1L tP)).enc (ec5 x),[])))
theorem Id9:j6 prog G 72 ld0:=ab0 (bd b72 Be2) (one (r1L tP)) (o:=ec4) λx=>B6 (by kernel_rfl)
def Ac1:List (Nat×Sum):=[(91,Nc8),(92,Sc2)]
theorem me1:j9 prog G Ac1:=⟨Id6,sd2,trivial⟩
structure nb7 where
 j5:PLq
 Xb7:List Pt
 is4:Int
structure Aa6 where
 bs5:Bool
 is6:Int
def Oc0(p:nb7)(s:Aa6):St:=⟨eL tP p.j5::.unk::.unk::eL tX p.Xb7::i p.is4::b s.bs5::i s.is6::ra 29 [],[]⟩
def Ua9{α:Type}(k:Aa6->α)(e:Nat->α)(z:α)(p:nb7)(s:Aa6):α:=let t1:=(Nb0 (gL tP p.j5 p.is4.toNat) (gL tX p.Xb7 s.is6.toNat));(sl (decide (s.is6<(↑(List.length p.Xb7):Int))) (sl s.bs5 (k ⟨true,W (s.is6+1)⟩) (sl (inB p.is4 (List.length p.j5)) (sl (inB s.is6 (List.length p.Xb7)) (k ⟨decide (t1>0),W (s.is6+1)⟩) z) z)) (e 1))
def Qa6(p:nb7)(s:Aa6):Stp Aa6:=Ua9 .next .exit .fail p s
def lc2:Lo nb7 Aa6:=⟨En Ac1,0,bg9,[1,1,0,1,4,4,1,0,4,1,0,1,4,4],[0,3,4,5,6],.p,[⟨sLq tP::sUq::sUq::sLq tX::sIq::sBq::sIq::ru2 29 [],[],λa H=>(⟨aLq tP a 0,aLq tX a 3,aIq a 4⟩,⟨aBq a 5,aIq a 6⟩)⟩],Qa6,[(some 2,λp s=>upq (Oc0 p s) [(15,i s.is6),(16,eL tX p.Xb7),(17,i (↑(List.length p.Xb7):Int)),(18,b (decide (s.is6<(↑(List.length p.Xb7):Int))))])],Oc0⟩
theorem Td4:lc2.Ok:=Lo.ok [] (by kernel_rfl) .nil rfl (.cons (λa H=>by kernel_rfl) .nil) λp s=>(.of @Ua9 (λF _ _ _ _ _=>by unfold Ua9;(repeat' apply k8 (f:=F))<;>rfl) (by kernel_rfl))
structure nb8 where
structure ta5 where
 j5:PLq
 Xb7:List Pt
 is4:Int
def Oc1(p:nb8)(s:ta5):St:=⟨eL tP s.j5::.unk::.unk::eL tX s.Xb7::i s.is4::ra 31 [],[]⟩
def Va0{α:Type}(k:ta5->α)(e:Nat->α)(z:α)(p:nb8)(s:ta5):α:=let t1:=(lp (Qa6 (⟨rt tP s.j5,rt tX s.Xb7,s.is4⟩:nb7)) (⟨false,0⟩:Aa6));(sl (decide (s.is4<(↑(List.length s.j5):Int))) (sl ((cnE tP s.j5)&&((cnE tX s.Xb7)&&true)) (sl (Nat.beq t1.1 1) (sl (!t1.2.bs5) (e 1) (k ⟨rt tP s.j5,rt tX s.Xb7,W (s.is4+1)⟩)) z) z) (e 2))
def db9(p:nb8)(s:ta5):Stp ta5:=Va0 .next .exit .fail p s
def lc3:Lo nb8 ta5:=⟨En Ac1,0,bg9,[1,1,0,1,4,4],[0,3,4],.s .p (.s (.b (.s .p (.s (.s .p (.b (.u lc2.ls))) .p))) .p),[⟨sLq tP::sUq::sUq::sLq tX::sIq::ru2 31 [],[],λa H=>(⟨⟩,⟨aLq tP a 0,aLq tX a 3,aIq a 4⟩)⟩],db9,[(none,λp s=>⟨[b false],[]⟩),(some 0,λp s=>upq (Oc1 p s) [(9,i s.is4),(10,eL tP s.j5),(11,i (↑(List.length s.j5):Int)),(12,b (decide (s.is4<(↑(List.length s.j5):Int))))])],Oc1⟩
theorem Td5:lc3.Ok:=Lo.ok [lc2.pr] (by kernel_rfl) (.cons Td4 .nil) rfl (.cons (λa H=>by kernel_rfl) .nil) λp s=>(.of @Va0 (λF _ _ _ _ _=>by unfold Va0;(repeat' apply k8 (f:=F))<;>rfl) (by kernel_rfl))
def Nb7(x:PLq):ROq:=let t1:=(xb9 (rt tP x));let t2:=(lp (db9 (⟨⟩:nb8)) (⟨rt tP x,rt tX t1,0⟩:ta5));(sl (okE tP x) (sl (yb0 (rt tP x)) (sl ((cnE tP x)&&((cnE tX t1)&&true)) (sl (Nat.beq t2.1 1) (some (b false,[])) (sl (Nat.beq t2.1 2) (some (b true,[])) none)) none) none) none)
def Nb8(x:PLq):Bool:=V2 (one r1B) (Nb7 x)
def Nb9(x:PLq):Bool:=okO (one r1B) (Nb7 x)
def Sc5:Sum:=ca1 (na2 tP) (λx=>.guard (Nb9 x) (.ret ((one r1B).enc (Nb8 x),[])))
theorem sd8:j6 prog G 71 Sc5:=ab0 (bd b71 me1) (one r1B) (o:=Nb7) λx=>Ga2 (.s .p (.s .p (.s (.s .p (.b (.u lc3.ls))) .p))) [lc3.pr] (by kernel_rfl) (.cons Td5 .nil) (by kernel_rfl)
def Be3:List (Nat×Sum):=[(70,Ac0),(72,ld0),(71,Sc5)]
theorem me2:j9 prog G Be3:=⟨bd3,Id9,sd8,trivial⟩
def Ob0(x:PLq):ROq:=let t1:=(jb8 (rt tP x));let t2:=(ec5 (rt tP x));let t3:=(Nb8 (rt tP t2));(sl (okE tP x) (sl (jb9 (rt tP x)) (sl (t1==0) (sl (okE tP x) (sl (ec6 (rt tP x)) (sl (okE tP t2) (sl (Nb9 (rt tP t2)) (some (b t3,[])) none) none) none) none) (some (b false,[]))) none) none)
def ub9(x:PLq):Bool:=V2 (one r1B) (Ob0 x)
def vb0(x:PLq):Bool:=okO (one r1B) (Ob0 x)
def Sc6:Sum:=ca1 (na2 tP) (λx=>.guard (vb0 x) (.ret ((one r1B).enc (ub9 x),[])))
theorem sd9:j6 prog G 40 Sc6:=ab0 (bd b40 me2) (one r1B) (o:=Ob0) λx=>B6 (by kernel_rfl)
def Qe4:List (Nat×Sum):=[]
theorem Be4:j9 prog G Qe4:=trivial
def ec7(x:Int)(y:Int):ROq:=(sl (decide (y<1)) (some (i 0,[])) (sl (y==0) none (sl (y==0) none (some (i (Int.tmod (W ((Int.tmod x y)+y)) y),[])))))
def ca5(x:Int)(y:Int):Int:=V2 (one r1I) (ec7 x y)
def V7(x:Int)(y:Int):Bool:=okO (one r1I) (ec7 x y)
def ec8:Sum:=ta3 cI cI (λx y=>.guard (V7 x y) (.ret ((one r1I).enc (ca5 x y),[])))
theorem lc4:j6 prog G 34 ec8:=ub3 (bd b34 Be4) (one r1I) (o:=ec7) λx y=>B6 (by kernel_rfl)
def me3:List (Nat×Sum):=[]
theorem Td6:j9 prog G me3:=trivial
def kb0(x:V3)(y:V3):Int:=(W ((W ((W (x.x*y.x))+(W (x.y*y.y))))+(W (x.z*y.z))))
def Ac2:Sum:=ta3 (ya7 tV) (ya7 tV) (λx y=>.ret ((one r1I).enc (kb0 x y),[]))
theorem bd4:j6 prog G 105 Ac2:=Ta3 (bd wg3 Td6) λx y=>B6 (by kernel_rfl)
def me4:List (Nat×Sum):=[]
theorem Td7:j9 prog G me4:=trivial
def Ja3(x:V3)(y:V3):V3:=(⟨W (x.x+y.x),W (x.y+y.y),W (x.z+y.z)⟩:V3)
def td0:Sum:=ta3 (ya7 tV) (ya7 tV) (λx y=>.ret ((one r1V).enc (Ja3 x y),[]))
theorem me5:j6 prog G 126 td0:=Ta3 (bd xg8 Td7) λx y=>B6 (by kernel_rfl)
def Td8:List (Nat×Sum):=[]
theorem Jd0:j9 prog G Td8:=trivial
def Aa7(x:V3)(y:Int):V3:=(⟨W (x.x*y),W (x.y*y),W (x.z*y)⟩:V3)
def bd5:Sum:=ta3 (ya7 tV) cI (λx y=>.ret ((one r1V).enc (Aa7 x y),[]))
theorem Td9:j6 prog G 127 bd5:=Ta3 (bd xg9 Jd0) λx y=>B6 (by kernel_rfl)
def Jd1:List (Nat×Sum):=[]
theorem wd6:j9 prog G Jd1:=trivial
def ea3(x:V3)(y:V3):V3:=(⟨W ((W (x.y*y.z))-(W (x.z*y.y))),W ((W (x.z*y.x))-(W (x.x*y.z))),W ((W (x.x*y.y))-(W (x.y*y.x)))⟩:V3)
def Oc2:Sum:=ta3 (ya7 tV) (ya7 tV) (λx y=>.ret ((one r1V).enc (ea3 x y),[]))
theorem Jd2:j6 prog G 125 Oc2:=Ta3 (bd xg7 wd6) λx y=>B6 (by kernel_rfl)
def me6:List (Nat×Sum):=[(105,Ac2)]
theorem Ud0:j9 prog G me6:=⟨bd4,trivial⟩
def Ja4(x:Pln)(y:Pt):Int:=let t1:=(kb0 x.n (⟨y.px,y.py,y.pz⟩:V3));(W ((W (x.b*y.pw))-t1))
def Wb3:Sum:=ta3 (ya7 tP) (ya7 tX) (λx y=>.ret ((one r1I).enc (Ja4 x y),[]))
theorem lc5:j6 prog G 85 Wb3:=Ta3 (bd b85 Ud0) λx y=>B6 (by kernel_rfl)
def Ac3:List (Nat×Sum):=[]
theorem me7:j9 prog G Ac3:=trivial
structure ab1 where
 tb4:List Int
 (is7 is8:Int)
structure Aa8 where
 (is3 is5:Int)
def Oc3(p:ab1)(s:Aa8):St:=⟨ra 3 (i s.is3::.unk::i s.is5::eL tI p.tb4::i p.is7::i p.is8::ra 14 []),[]⟩
def Va1{α:Type}(k:Aa8->α)(e:Nat->α)(z:α)(p:ab1)(s:Aa8):α:=(sl (s.is5 != 0) (sl (s.is5==0) z (k ⟨s.is5,Int.tmod s.is3 s.is5⟩)) (e 1))
def eb0(p:ab1)(s:Aa8):Stp Aa8:=Va1 .next .exit .fail p s
def lc6:Lo ab1 Aa8:=⟨En Ac3,0,xf3,[1,1,0,1,4,4,1,1,0,4,1,4,4],[3,5,6,7,8],.p,[⟨ru2 3 (sIq::sUq::sIq::sLq tI::sIq::sIq::ru2 14 []),[],λa H=>(⟨aLq tI a 6,aIq a 7,aIq a 8⟩,⟨aIq a 3,aIq a 5⟩)⟩],eb0,[(some 2,λp s=>upq (Oc3 p s) [(12,i s.is5),(13,b (s.is5 != 0))])],Oc3⟩
theorem Ud1:lc6.Ok:=Lo.ok [] (by kernel_rfl) .nil rfl (.cons (λa H=>by kernel_rfl) .nil) λp s=>(.of @Va1 (λF _ _ _ _ _=>by unfold Va1;(repeat' apply k8 (f:=F))<;>rfl) (by kernel_rfl))
structure nb9 where
 is7:Int
structure Aa9 where
 is3:Int
 tb4:List Int
 is8:Int
def Oc4(p:nb9)(s:Aa9):St:=⟨ra 3 (i s.is3::.unk::.unk::eL tI s.tb4::i p.is7::i s.is8::ra 14 []),[]⟩
def Va2{α:Type}(k:Aa9->α)(e:Nat->α)(z:α)(p:nb9)(s:Aa9):α:=let t1:=(lp (eb0 (⟨rt tI s.tb4,p.is7,s.is8⟩:ab1)) (⟨s.is3,gL tI s.tb4 s.is8.toNat⟩:Aa8));(sl (decide (s.is8<p.is7)) (sl (inB s.is8 (List.length s.tb4)) (sl ((cnE tI s.tb4)&&true) (sl (Nat.beq t1.1 1) (k ⟨t1.2.is3,rt tI s.tb4,W (s.is8+1)⟩) z) z) z) (e 1))
def Qa7(p:nb9)(s:Aa9):Stp Aa9:=Va2 .next .exit .fail p s
def lc7:Lo nb9 Aa9:=⟨En Ac3,0,xf3,[1,1,0,1,4,4],[3,6,7,8],.s .p (.s .p (.s (.b (.s .p (.b (.u lc6.ls)))) .p)),[⟨ru2 3 (sIq::sUq::sUq::sLq tI::sIq::sIq::ru2 14 []),[],λa H=>(⟨aIq a 7⟩,⟨aIq a 3,aLq tI a 6,aIq a 8⟩)⟩],Qa7,[(some 0,λp s=>upq (Oc4 p s) [(9,b (decide (s.is8<p.is7)))])],Oc4⟩
theorem Ud2:lc7.Ok:=Lo.ok [lc6.pr] (by kernel_rfl) (.cons Ud1 .nil) rfl (.cons (λa H=>by kernel_rfl) .nil) λp s=>(.of @Va2 (λF _ _ _ _ _=>by unfold Va2;(repeat' apply k8 (f:=F))<;>rfl) (by kernel_rfl))
def Ob1(x:List Int):ROq:=let t1:=(lp (Qa7 (⟨(↑(List.length x):Int)⟩:nb9)) (⟨0,rt tI x,0⟩:Aa9));(sl ((cnE tI x)&&true) (sl (Nat.beq t1.1 1) (some ((i (if (W (0-t1.2.is3))>t1.2.is3 then (W (0-t1.2.is3)) else t1.2.is3)),[])) none) none)
def lc8(x:List Int):Int:=V2 (one r1I) (Ob1 x)
def lc9(x:List Int):Bool:=okO (one r1I) (Ob1 x)
def Jd3:Sum:=ca1 (na2 tI) (λx=>.guard (lc9 x) (.ret ((one r1I).enc (lc8 x),[])))
theorem Be5:j6 prog G 128 Jd3:=ab0 (bd yg0 me7) (one r1I) (o:=Ob1) λx=>Ga2 (.s .p (.s .p (.s (.s .p (.b (.u lc7.ls))) .p))) [lc7.pr] (by kernel_rfl) (.cons Ud2 .nil) (by kernel_rfl)
def me8:List (Nat×Sum):=[(125,Oc2),(105,Ac2),(127,bd5),(126,td0),(128,Jd3)]
theorem Ud3:j9 prog G me8:=⟨Jd2,bd4,Td9,me5,Be5,trivial⟩
def Ab0(x:Tp):ROq:=let t1:=(ea3 x.q.n x.r.n);let t3:=(Aa7 t1 x.p.b);let t4:=(Ja3 (⟨0,0,0⟩:V3) t3);let t5:=(ea3 x.r.n x.p.n);let t7:=(Aa7 t5 x.q.b);let t8:=(Ja3 t4 t7);let t9:=(ea3 x.p.n x.q.n);let t10:=(kb0 x.r.n t9);let t11:=(Aa7 t9 x.r.b);let t12:=(Ja3 t8 t11);let t13:=(lc8 [t12.x,t12.y,t12.z,t10]);let y0:=((W (0-t13))==0);(sl (t10==0) (some (.tup [.agg [i 0,i 0,i 0,i 0],b false],[])) (sl (lc9 [t12.x,t12.y,t12.z,t10]) (sl (decide (t10<0)) (sl y0 none (sl y0 none (sl y0 none (sl y0 none (some (.tup [.agg [i (W (Int.tdiv t12.x (W (0-t13)))),i (W (Int.tdiv t12.y (W (0-t13)))),i (W (Int.tdiv t12.z (W (0-t13)))),i (W (Int.tdiv t10 (W (0-t13))))],b true],[])))))) (sl (t13==0) none (sl (t13==0) none (sl (t13==0) none (sl (t13==0) none (some (.tup [.agg [i (W (Int.tdiv t12.x t13)),i (W (Int.tdiv t12.y t13)),i (W (Int.tdiv t12.z t13)),i (W (Int.tdiv t10 t13))],b true],[]))))))) none))
def Ab1(x:Tp):Pt×Bool:=V2 (two r1X r1B) (Ab0 x)
def Ab2(x:Tp):Bool:=okO (two r1X r1B) (Ab0 x)
def td1:Sum:=ca1 (ya7 tY) (λx=>.guard (Ab2 x) (.ret ((two r1X r1B).enc (Ab1 x),[])))
theorem me9:j6 prog G 101 td1:=ab0 (bd vg9 Ud3) (two r1X r1B) (o:=Ab0) λx=>B6 (by kernel_rfl)
structure gb3 where
 (Fc6 Fc7 Fc8 Fc9 B3 m8 s5 v8:Int)
def ld1:List (Nat×Sum):=[(85,Wb3)]
theorem bd6:j9 prog G ld1:=⟨lc5,trivial⟩
structure Na5 where
 bs0:Bool
def Na6{α:Type}(kk:Na5->α)(x:gb3):α:=let t1:=(Ja4 (⟨(⟨x.Fc6,x.Fc7,x.Fc8⟩:V3),x.Fc9⟩:Pln) (⟨x.B3,x.m8,x.s5,x.v8⟩:Pt));(kk ⟨decide (t1<0)⟩)
def Eb2(x:gb3):Na5:=Na6 (λr=>r) x
def vb1(x:gb3)(r:Na5):DT (d7×List d8):=.ret (b r.bs0,[⟨0,4,[[i x.B3,i x.m8,i x.s5,i x.v8]],true,false,0⟩])
theorem wd7{α β:Type}(F:α->β)(kk:Na5->α)(x:gb3):F (Na6 kk x)=Na6 (λr=>F (kk r)) x:=by unfold Na6;(repeat' apply k8 (f:=F))<;>rfl
def rc8:Sum:=Sa0 ⟨[.agg (kLq 4),sPq 0],[⟨0,4,true,some [kLq 4]⟩],λa H=>(⟨cIq a 0 0,cIq a 0 1,cIq a 0 2,cIq a 0 3,hIq H 0 0 0,hIq H 0 0 1,hIq H 0 0 2,hIq H 0 0 3⟩,())⟩ (λx=>vb1 x (Eb2 x))
theorem ld2:j6 prog G 129 rc8:=I1 (enc:=λx=>⟨[.agg [i x.Fc6,i x.Fc7,i x.Fc8,i x.Fc9],.ptr 0 0 0 0],[⟨0,4,[[i x.B3,i x.m8,i x.s5,i x.v8]],true,false,0⟩]⟩) (λa H=>by kernel_rfl) (bd yg1 bd6) λx=>B6 (Qha (b:=Na6 (λr=>(vb1 x r).run) x) (by kernel_rfl) (wd7 (λr=>(vb1 x r).run) (λr=>r) x).symm)
structure ja5 where
 j5:PLq
 (B3 m8 s5 v8:Int)
def Va3:List (Nat×Sum):=[(129,rc8)]
theorem Ib6:j9 prog G Va3:=⟨ld2,trivial⟩
structure S4 where
 j5:PLq
 (is7 B3 m8 s5 v8:Int)
structure w8 where
 is8:Int
def Na7(p:S4)(s:w8):St:=⟨eL tP p.j5::.fn 129 [.ptr 0 0 0 0]::ra 5 (i p.is7::i s.is8::ra 10 []),[⟨0,4,[[i p.B3,i p.m8,i p.s5,i p.v8]],true,false,0⟩]⟩
def N7{α:Type}(k:w8->α)(e:Nat->α)(z:α)(p:S4)(s:w8):α:=let y0:=(gL tP p.j5 s.is8.toNat);let t1:=(Eb2 ⟨y0.n.x,y0.n.y,y0.n.z,y0.b,p.B3,p.m8,p.s5,p.v8⟩);(sl (decide (s.is8<p.is7)) (sl (inB s.is8 (List.length p.j5)) (sl t1.bs0 (e 1) (k ⟨W (s.is8+1)⟩)) z) (e 2))
def P8(p:S4)(s:w8):Stp w8:=N7 .next .exit .fail p s
def ta6:Lo S4 w8:=⟨En Va3,1,Ae2,[1,0,1,4,4],[0,1,7,8],.p,[⟨sLq tP::.fn 129 [.o (.ptr 0 0 0 0)]::ru2 5 (sIq::sIq::ru2 10 []),[⟨0,4,true,some [kLq 4]⟩],λa H=>(⟨aLq tP a 0,aIq a 7,hIq H 0 0 0,hIq H 0 0 1,hIq H 0 0 2,hIq H 0 0 3⟩,⟨aIq a 8⟩)⟩],P8,[(none,λp s=>⟨[i s.is8],[⟨0,4,[[i p.B3,i p.m8,i p.s5,i p.v8]],true,false,0⟩]⟩),(some 0,λp s=>upq (Na7 p s) [(9,b (decide (s.is8<p.is7)))])],Na7⟩
theorem Eb3:ta6.Ok:=Lo.ok [] (by kernel_rfl) .nil rfl (.cons (λa H=>by kernel_rfl) .nil) λp s=>(.of @N7 (λF _ _ _ _ _=>by unfold N7;(repeat' apply k8 (f:=F))<;>rfl) (by kernel_rfl))
structure ja6 where
 alt:Nat
 is0:Int
def O4{α:Type}(kk:ja6->α)(x:ja5):α:=let t1:=(lp (P8 (⟨rt tP x.j5,(↑(List.length x.j5):Int),x.B3,x.m8,x.s5,x.v8⟩:S4)) (⟨0⟩:w8));(sl ((cnE tP x.j5)&&true) (sl (Nat.beq t1.1 1) (kk ⟨1,t1.2.is8⟩) (sl (Nat.beq t1.1 2) (kk ⟨1,-1⟩) (kk ⟨0,0⟩))) (kk ⟨0,0⟩))
def ja7(x:ja5):ja6:=O4 (λr=>r) x
def wa0(x:ja5)(r:ja6):DT (d7×List d8):=(.ite (Nat.beq r.alt 1) (.ret (i r.is0,[⟨0,4,[[i x.B3,i x.m8,i x.s5,i x.v8]],true,false,0⟩])) .fail)
theorem Sb2{α β:Type}(F:α->β)(kk:ja6->α)(x:ja5):F (O4 kk x)=O4 (λr=>F (kk r)) x:=by unfold O4;(repeat' apply k8 (f:=F))<;>rfl
def ab9:Sum:=Sa0 ⟨[sLq tP,.fn 129 [.o (.ptr 0 0 0 0)]],[⟨0,4,true,some [kLq 4]⟩],λa H=>(⟨aLq tP a 0,hIq H 0 0 0,hIq H 0 0 1,hIq H 0 0 2,hIq H 0 0 3⟩,())⟩ (λx=>wa0 x (ja7 x))
theorem Ob2:j6 prog G 118 ab9:=I1 (enc:=λx=>⟨[eL tP x.j5,.fn 129 [.ptr 0 0 0 0]],[⟨0,4,[[i x.B3,i x.m8,i x.s5,i x.v8]],true,false,0⟩]⟩) (λa H=>by kernel_rfl) (bd Mf7 Ib6) λx=>Ga2 (.s .p (.s (.s .p (.b (.u ta6.ls))) .p)) [ta6.pr] (by kernel_rfl) (.cons Eb3 .nil) (Qha (b:=O4 (λr=>(wa0 x r).run) x) (by kernel_rfl) (Sb2 (λr=>(wa0 x r).run) (λr=>r) x).symm)
structure aa3 where
 j5:PLq
 (B3 m8 s5 v8:Int)
def Ab3:List (Nat×Sum):=[(118,ab9)]
theorem vb2:j9 prog G Ab3:=⟨Ob2,trivial⟩
structure aa4 where
 alt:Nat
 bs0:Bool
def J6{α:Type}(kk:aa4->α)(x:aa3):α:=let t1:=(ja7 ⟨rt tP x.j5,x.B3,x.m8,x.s5,x.v8⟩);(sl ((cnE tP x.j5)&&true) (sl (Nat.beq t1.alt 1) (kk ⟨1,decide (t1.is0>=0)⟩) (kk ⟨0,false⟩)) (kk ⟨0,false⟩))
def qa6(x:aa3):aa4:=J6 (λr=>r) x
def oa6(x:aa3)(r:aa4):DT (d7×List d8):=(.ite (Nat.beq r.alt 1) (.ret (b r.bs0,[⟨0,4,[[i x.B3,i x.m8,i x.s5,i x.v8]],true,false,0⟩])) .fail)
theorem Eb4{α β:Type}(F:α->β)(kk:aa4->α)(x:aa3):F (J6 kk x)=J6 (λr=>F (kk r)) x:=by unfold J6;(repeat' apply k8 (f:=F))<;>rfl
def Na8:Sum:=Sa0 ⟨[sLq tP,.fn 129 [.o (.ptr 0 0 0 0)]],[⟨0,4,true,some [kLq 4]⟩],λa H=>(⟨aLq tP a 0,hIq H 0 0 0,hIq H 0 0 1,hIq H 0 0 2,hIq H 0 0 3⟩,())⟩ (λx=>oa6 x (qa6 x))
theorem Ab4:j6 prog G 93 Na8:=I1 (enc:=λx=>⟨[eL tP x.j5,.fn 129 [.ptr 0 0 0 0]],[⟨0,4,[[i x.B3,i x.m8,i x.s5,i x.v8]],true,false,0⟩]⟩) (λa H=>by kernel_rfl) (bd b93 vb2) λx=>B6 (Qha (b:=J6 (λr=>(oa6 x r).run) x) (by kernel_rfl) (Eb4 (λr=>(oa6 x r).run) (λr=>r) x).symm)
def Jd4:List (Nat×Sum):=[(93,Na8)]
theorem wd8:j9 prog G Jd4:=⟨Ab4,trivial⟩
def eb1(x:PLq)(y:Pt):ROq:=let t1:=(qa6 ⟨rt tP x,y.px,y.py,y.pz,y.pw⟩);(sl ((cnE tP x)&&true) (sl (Nat.beq t1.alt 1) (some (b (!t1.bs0),[])) none) none)
def Qa8(x:PLq)(y:Pt):Bool:=V2 (one r1B) (eb1 x y)
def Qa9(x:PLq)(y:Pt):Bool:=okO (one r1B) (eb1 x y)
def Oc5:Sum:=ta3 (na2 tP) (ya7 tX) (λx y=>.guard (Qa9 x y) (.ret ((one r1B).enc (Qa8 x y),[])))
theorem Jd5:j6 prog G 102 Oc5:=ub3 (bd wg0 wd8) (one r1B) (o:=eb1) λx y=>B6 (by kernel_rfl)
def eb2:List (Nat×Sum):=[]
theorem Sb3:j9 prog G eb2:=trivial
@[reducible] noncomputable def kb1:Sum:=dc3 (En eb2) Vf5
theorem Yb9:j6 prog G 124 kb1:=bd xg6 Sb3
def ob0:List (Nat×Sum):=[(124,kb1)]
theorem ec9:j9 prog G ob0:=⟨Yb9,trivial⟩
@[reducible] noncomputable def sb9:Sum:=dc3 (En ob0) Uf4
theorem mc0:j6 prog G 100 sb9:=bd vg8 ec9
def ta7:List (Nat×Sum):=[(101,td1),(102,Oc5),(100,sb9)]
theorem fc0:j9 prog G ta7:=⟨me9,Jd5,mc0,trivial⟩
structure m9 where
 is3:Int
 H4:PLq
 (L9 A3:Int)
 Xd7:Nat
 Xd8:Nat->List d7
 (Ad1 cc5:Int)
 Gf2:Nat
 Gf3:Nat->List d7
 Mc5:Int
 g7:PLq
 (Ma5 Ma6 Ma7 Ma8 pc8 Z0 pc9 gd8:Int)
 ab6:PLq
structure n7 where
 ph:Nat
 Ad2:Int
 Kb7:Nat
 (eh6 eh7:List (List d7))
def bb0(p:m9)(s:n7):St:=⟨.unk::.ptr 0 0 0 0::.unk::i p.is3::.ptr 1 0 0 0::.unk::.ptr 2 0 0 0::.unk::.unk::eL tP p.H4::i p.L9::i p.A3::ra 7 (.tree 4 p.Xd7 p.Xd8::i p.Ad1::i p.cc5::ra 9 (.tree 4 p.Gf2 p.Gf3::i p.Mc5::i s.Ad2::ra 13 (i 0::.unk::.ptr 3 0 0 0::.v (.slice none 0 0)::.ptr 4 0 0 0::.ptr 5 0 0 0::ra 31 []))),[⟨0,1,[[eL tP p.g7]],true,false,0⟩,⟨0,4,[[i p.Ma5,i p.Ma6,i p.Ma7,i p.Ma8]],true,false,0⟩,⟨0,4,[[i p.pc8,i p.Z0,i p.pc9,i p.gd8]],true,false,0⟩,⟨0,1,[[eL tP p.ab6]],true,false,0⟩,⟨0,0,[[.v (.slice none 0 0)]],true,false,0⟩,⟨0,0,[[.ptr 6 0 0 0]],true,false,0⟩,⟨124,0,[],true,false,0⟩]⟩
def bb1(p:m9)(s:n7):St:=⟨.unk::.ptr 0 0 0 0::.unk::i p.is3::.ptr 1 0 0 0::.unk::.ptr 2 0 0 0::.unk::.unk::eL tP p.H4::i p.L9::i p.A3::ra 7 (.tree 4 p.Xd7 p.Xd8::i p.Ad1::i p.cc5::ra 9 (.tree 4 p.Gf2 p.Gf3::i p.Mc5::i s.Ad2::ra 13 (i 0::.unk::.ptr 3 0 0 0::.v (.slice none 0 0)::.ptr 4 0 0 0::.ptr 5 0 0 0::ra 31 []))),[⟨0,1,[[eL tP p.g7]],true,false,0⟩,⟨0,4,[[i p.Ma5,i p.Ma6,i p.Ma7,i p.Ma8]],true,false,0⟩,⟨0,4,[[i p.pc8,i p.Z0,i p.pc9,i p.gd8]],true,false,0⟩,⟨0,1,[[eL tP p.ab6]],true,false,0⟩,⟨0,0,[[.sl 6 0 s.Kb7 0]],true,false,0⟩,⟨0,0,[[.ptr 7 0 0 0]],true,false,0⟩,⟨114,4,s.eh6,true,false,0⟩,⟨124,0,s.eh7,true,false,0⟩]⟩
def Zb0(p:m9)(s:n7):St:=(sel (Nat.beq s.ph 1) (bb1 p s) (bb0 p s))
def I6{α:Type}(k:n7->α)(e:Nat->α)(z:α)(p:m9)(s:n7):α:=let y2:=(W (s.Ad2+1));let y1:=(p.Gf3 s.Ad2.toNat);let y0:=(⟨(⟨(⟨p.Ma5,p.Ma6,p.Ma7⟩:V3),p.Ma8⟩:Pln),(⟨(⟨p.pc8,p.Z0,p.pc9⟩:V3),p.gd8⟩:Pln),(⟨(⟨toI (hdA y1),toI (hdA (tlA y1)),toI (hdA (tlA (tlA y1)))⟩:V3),toI (hdA (tlA (tlA (tlA y1))))⟩:Pln)⟩:Tp);let t1:=(Ab1 y0);let t2:=(Qa8 (rt tP p.ab6) t1.1);(sl (decide (s.Ad2<p.Mc5)) (sl (inB s.Ad2 p.Gf2) (sl ((Nat.ble 4 (len y1))&&(ra7 [CK.int .i64,CK.int .i64,CK.int .i64,CK.int .i64] y1)) (sl (Ab2 y0) (sl t1.2 (sl (!(Xc2 4 [(0,.int .i64),(1,.int .i64),(2,.int .i64),(3,.int .i64)] [i t1.1.px,i t1.1.py,i t1.1.pz,i t1.1.pw] [])) (sl (okE tP p.ab6) (sl (Qa9 (rt tP p.ab6) t1.1) (sl t2 (k ⟨1,y2,1,[[i t1.1.px,i t1.1.py,i t1.1.pz,i t1.1.pw]],Yb0 [(0,.int .i64),(1,.int .i64),(2,.int .i64),(3,.int .i64)] [i t1.1.px,i t1.1.py,i t1.1.pz,i t1.1.pw] [i t1.1.px,i t1.1.py,i t1.1.pz,i t1.1.pw,b true] []⟩) (k ⟨0,y2,0,[],[]⟩)) z) z) (k ⟨0,y2,0,[],[]⟩)) (k ⟨0,y2,0,[],[]⟩)) z) z) z) (e 1))
def I7{α:Type}(k:n7->α)(e:Nat->α)(z:α)(p:m9)(s:n7):α:=let y2:=(W (s.Ad2+1));let y1:=(p.Gf3 s.Ad2.toNat);let y0:=(⟨(⟨(⟨p.Ma5,p.Ma6,p.Ma7⟩:V3),p.Ma8⟩:Pln),(⟨(⟨p.pc8,p.Z0,p.pc9⟩:V3),p.gd8⟩:Pln),(⟨(⟨toI (hdA y1),toI (hdA (tlA y1)),toI (hdA (tlA (tlA y1)))⟩:V3),toI (hdA (tlA (tlA (tlA y1))))⟩:Pln)⟩:Tp);let t1:=(Ab1 y0);let t2:=(Qa8 (rt tP p.ab6) t1.1);(sl (decide (s.Ad2<p.Mc5)) (sl (inB s.Ad2 p.Gf2) (sl ((Nat.ble 4 (len y1))&&(ra7 [CK.int .i64,CK.int .i64,CK.int .i64,CK.int .i64] y1)) (sl (Ab2 y0) (sl t1.2 (sl (!(Xc2 4 [(0,.int .i64),(1,.int .i64),(2,.int .i64),(3,.int .i64)] [i t1.1.px,i t1.1.py,i t1.1.pz,i t1.1.pw] s.eh7)) (sl (okE tP p.ab6) (sl (Qa9 (rt tP p.ab6) t1.1) (sl t2 (sl (Nat.beq s.Kb7 (len s.eh6)&&Nat.ble ((s.Kb7+1)*32) room) (k ⟨1,y2,s.Kb7+1,app s.eh6 [[i t1.1.px,i t1.1.py,i t1.1.pz,i t1.1.pw]],Yb0 [(0,.int .i64),(1,.int .i64),(2,.int .i64),(3,.int .i64)] [i t1.1.px,i t1.1.py,i t1.1.pz,i t1.1.pw] [i t1.1.px,i t1.1.py,i t1.1.pz,i t1.1.pw,b true] s.eh7⟩) z) (k ⟨1,y2,s.Kb7,s.eh6,s.eh7⟩)) z) z) (k ⟨1,y2,s.Kb7,s.eh6,s.eh7⟩)) (k ⟨1,y2,s.Kb7,s.eh6,s.eh7⟩)) z) z) z) (e 2))
def F5(p:m9)(s:n7):Stp n7:=(sel (Nat.beq s.ph 1) (I7 .next .exit .fail p s) (I6 .next .exit .fail p s))
def Ga6:Lo m9 n7:=⟨En ta7,0,Mf5,[1,1,1,0,1,4,4,1,4,4,1,1,0,4,1,1,4,4,1,1,0,4,1,1,4,4],[1,3,4,6,9,10,11,19,20,21,31,32,33,47,49,50,51,52],.p,[⟨sUq::sPq 0::sUq::sIq::sPq 1::sUq::sPq 2::sUq::sUq::sLq tP::sIq::sIq::ru2 7 (sTq 4::sIq::sIq::ru2 9 (sTq 4::sIq::sIq::ru2 13 (.s (.o (.lit .i64 0))::sUq::sPq 3::.s (.o .nil)::sPq 4::sPq 5::ru2 31 []))),[⟨0,1,true,some [[.c 4 (nL tP)]]⟩,⟨0,4,true,some [kLq 4]⟩,⟨0,4,true,some [kLq 4]⟩,⟨0,1,true,some [[.c 4 (nL tP)]]⟩,⟨0,0,true,some [[.o .nil]]⟩,⟨0,0,true,some [[.o (.ptr 6 0 0 0)]]⟩,⟨124,0,true,some []⟩],λa H=>(⟨aIq a 3,aLq tP a 9,aIq a 10,aIq a 11,aNq a 19,aGq a 19,aIq a 20,aIq a 21,aNq a 31,aGq a 31,aIq a 32,hLq tP H 0 0 0,hIq H 1 0 0,hIq H 1 0 1,hIq H 1 0 2,hIq H 1 0 3,hIq H 2 0 0,hIq H 2 0 1,hIq H 2 0 2,hIq H 2 0 3,hLq tP H 3 0 0⟩,⟨0,aIq a 33,0,[],[]⟩)⟩,⟨sUq::sPq 0::sUq::sIq::sPq 1::sUq::sPq 2::sUq::sUq::sLq tP::sIq::sIq::ru2 7 (sTq 4::sIq::sIq::ru2 9 (sTq 4::sIq::sIq::ru2 13 (.s (.o (.lit .i64 0))::sUq::sPq 3::.s (.o .nil)::sPq 4::sPq 5::ru2 31 []))),[⟨0,1,true,some [[.c 4 (nL tP)]]⟩,⟨0,4,true,some [kLq 4]⟩,⟨0,4,true,some [kLq 4]⟩,⟨0,1,true,some [[.c 4 (nL tP)]]⟩,⟨0,0,true,some [[.o (.sl 6 0 (some 0) none)]]⟩,⟨0,0,true,some [[.o (.ptr 7 0 0 0)]]⟩,⟨114,4,true,none⟩,⟨124,0,true,none⟩],λa H=>(⟨aIq a 3,aLq tP a 9,aIq a 10,aIq a 11,aNq a 19,aGq a 19,aIq a 20,aIq a 21,aNq a 31,aGq a 31,aIq a 32,hLq tP H 0 0 0,hIq H 1 0 0,hIq H 1 0 1,hIq H 1 0 2,hIq H 1 0 3,hIq H 2 0 0,hIq H 2 0 1,hIq H 2 0 2,hIq H 2 0 3,hLq tP H 3 0 0⟩,⟨1,aIq a 33,slN (slT (rwT (elT H 4) 0) 0),elT H 6,elT H 7⟩)⟩],F5,[(some 4,λp s=>upq (bb0 p s) [(34,b (decide (s.Ad2<p.Mc5)))]),(some 4,λp s=>upq (bb1 p s) [(34,b (decide (s.Ad2<p.Mc5)))])],Zb0⟩
theorem Zb1:Ga6.OkM:=Lo.okM [] (by kernel_rfl) .nil rfl (.cons (λa H=>by kernel_rfl) (.cons (λa H=>by kernel_rfl) .nil)) λp s=>(.sel (Nat.beq s.ph 1) (.of @I7 (λF _ _ _ _ _=>by unfold I7;(repeat' apply k8 (f:=F))<;>rfl) (by kernel_rfl)) (.of @I6 (λF _ _ _ _ _=>by unfold I6;(repeat' apply k8 (f:=F))<;>rfl) (by kernel_rfl)))
structure n8 where
 (is3 L9 A3:Int)
 Xd7:Nat
 Xd8:Nat->List d7
 (Ad1 Ma5 Ma6 Ma7 Ma8:Int)
structure p5 where
 ph:Nat
 H4:PLq
 cc5:Int
 (g7 Ra6:PLq)
 gd9:Nat
 (eh5 eh6:List (List d7))
def bb2(p:n8)(s:p5):St:=⟨.unk::.ptr 0 0 0 0::.unk::i p.is3::.ptr 1 0 0 0::ra 4 (eL tP s.H4::i p.L9::i p.A3::ra 7 (.tree 4 p.Xd7 p.Xd8::i p.Ad1::i s.cc5::ra 25 (i 0::.unk::.ptr 2 0 0 0::.v (.slice none 0 0)::.ptr 3 0 0 0::.ptr 4 0 0 0::ra 31 []))),[⟨0,1,[[eL tP s.g7]],true,false,0⟩,⟨0,4,[[i p.Ma5,i p.Ma6,i p.Ma7,i p.Ma8]],true,false,0⟩,⟨0,1,[[eL tP s.Ra6]],true,false,0⟩,⟨0,0,[[.v (.slice none 0 0)]],true,false,0⟩,⟨0,0,[[.ptr 5 0 0 0]],true,false,0⟩,⟨124,0,[],true,false,0⟩]⟩
def bb3(p:n8)(s:p5):St:=⟨.unk::.ptr 0 0 0 0::.unk::i p.is3::.ptr 1 0 0 0::ra 4 (eL tP s.H4::i p.L9::i p.A3::ra 7 (.tree 4 p.Xd7 p.Xd8::i p.Ad1::i s.cc5::ra 25 (i 0::.unk::.ptr 2 0 0 0::.v (.slice none 0 0)::.ptr 3 0 0 0::.ptr 4 0 0 0::ra 31 []))),[⟨0,1,[[eL tP s.g7]],true,false,0⟩,⟨0,4,[[i p.Ma5,i p.Ma6,i p.Ma7,i p.Ma8]],true,false,0⟩,⟨0,1,[[eL tP s.Ra6]],true,false,0⟩,⟨0,0,[[.sl 5 0 s.gd9 0]],true,false,0⟩,⟨0,0,[[.ptr 6 0 0 0]],true,false,0⟩,⟨114,4,s.eh5,true,false,0⟩,⟨124,0,s.eh6,true,false,0⟩]⟩
def Zb2(p:n8)(s:p5):St:=(sel (Nat.beq s.ph 1) (bb3 p s) (bb2 p s))
def I8{α:Type}(k:p5->α)(e:Nat->α)(z:α)(p:n8)(s:p5):α:=let y4:=(rt tP s.Ra6);let y3:=(rt tP s.g7);let y2:=(List.length s.g7);let y1:=(W ((W (p.is3+s.cc5))+2));let y0:=(p.Xd8 s.cc5.toNat);let t1:=(lp (F5 (⟨p.is3,rt tP s.H4,p.L9,p.A3,p.Xd7,p.Xd8,p.Ad1,s.cc5,y2-y1.toNat,(λk=>(λk=>(tP).row (gL tP s.g7 k)) (y1.toNat+k)),(↑(y2-y1.toNat):Int),y3,p.Ma5,p.Ma6,p.Ma7,p.Ma8,toI (hdA y0),toI (hdA (tlA y0)),toI (hdA (tlA (tlA y0))),toI (hdA (tlA (tlA (tlA y0)))),y4⟩:m9)) (⟨0,0,0,[],[]⟩:n7));(sl (decide (s.cc5<p.Ad1)) (sl (inB s.cc5 p.Xd7) (sl ((Nat.ble 4 (len y0))&&(ra7 [CK.int .i64,CK.int .i64,CK.int .i64,CK.int .i64] y0)) (sl (inB y1 (y2+1)) (sl ((cnE tP s.H4)&&((cnE tP s.g7)&&((cnE tP s.Ra6)&&true))) (sl (Nat.beq t1.1 1) (k ⟨0,rt tP s.H4,W (s.cc5+1),y3,y4,0,[],[]⟩) (sl (Nat.beq t1.1 2) (k ⟨1,rt tP s.H4,W (s.cc5+1),y3,y4,t1.2.Kb7,t1.2.eh6,t1.2.eh7⟩) z)) z) z) z) z) (e 1))
def I9{α:Type}(k:p5->α)(e:Nat->α)(z:α)(p:n8)(s:p5):α:=let y4:=(rt tP s.Ra6);let y3:=(rt tP s.g7);let y2:=(List.length s.g7);let y1:=(W ((W (p.is3+s.cc5))+2));let y0:=(p.Xd8 s.cc5.toNat);let t1:=(lp (F5 (⟨p.is3,rt tP s.H4,p.L9,p.A3,p.Xd7,p.Xd8,p.Ad1,s.cc5,y2-y1.toNat,(λk=>(λk=>(tP).row (gL tP s.g7 k)) (y1.toNat+k)),(↑(y2-y1.toNat):Int),y3,p.Ma5,p.Ma6,p.Ma7,p.Ma8,toI (hdA y0),toI (hdA (tlA y0)),toI (hdA (tlA (tlA y0))),toI (hdA (tlA (tlA (tlA y0)))),y4⟩:m9)) (⟨1,0,s.gd9,s.eh5,s.eh6⟩:n7));(sl (decide (s.cc5<p.Ad1)) (sl (inB s.cc5 p.Xd7) (sl ((Nat.ble 4 (len y0))&&(ra7 [CK.int .i64,CK.int .i64,CK.int .i64,CK.int .i64] y0)) (sl (inB y1 (y2+1)) (sl ((cnE tP s.H4)&&((cnE tP s.g7)&&((cnE tP s.Ra6)&&true))) (sl (Nat.beq t1.1 1) (k ⟨0,rt tP s.H4,W (s.cc5+1),y3,y4,0,[],[]⟩) (sl (Nat.beq t1.1 2) (k ⟨1,rt tP s.H4,W (s.cc5+1),y3,y4,t1.2.Kb7,t1.2.eh6,t1.2.eh7⟩) z)) z) z) z) z) (e 2))
def F6(p:n8)(s:p5):Stp p5:=(sel (Nat.beq s.ph 1) (I9 .next .exit .fail p s) (I8 .next .exit .fail p s))
def Ga7:Lo n8 p5:=⟨En ta7,0,Mf5,[1,1,1,0,1,4,4,1,4,4,1,1,0,4,1,1,4,4],[1,3,4,9,10,11,19,20,21,47,49,50,51,52],.s .p (.s .p (.s (.b (.s .p (.s .p (.b (.u Ga6.lsM))))) .p)),[⟨sUq::sPq 0::sUq::sIq::sPq 1::ru2 4 (sLq tP::sIq::sIq::ru2 7 (sTq 4::sIq::sIq::ru2 25 (.s (.o (.lit .i64 0))::sUq::sPq 2::.s (.o .nil)::sPq 3::sPq 4::ru2 31 []))),[⟨0,1,true,some [[.c 4 (nL tP)]]⟩,⟨0,4,true,some [kLq 4]⟩,⟨0,1,true,some [[.c 4 (nL tP)]]⟩,⟨0,0,true,some [[.o .nil]]⟩,⟨0,0,true,some [[.o (.ptr 5 0 0 0)]]⟩,⟨124,0,true,some []⟩],λa H=>(⟨aIq a 3,aIq a 10,aIq a 11,aNq a 19,aGq a 19,aIq a 20,hIq H 1 0 0,hIq H 1 0 1,hIq H 1 0 2,hIq H 1 0 3⟩,⟨0,aLq tP a 9,aIq a 21,hLq tP H 0 0 0,hLq tP H 2 0 0,0,[],[]⟩)⟩,⟨sUq::sPq 0::sUq::sIq::sPq 1::ru2 4 (sLq tP::sIq::sIq::ru2 7 (sTq 4::sIq::sIq::ru2 25 (.s (.o (.lit .i64 0))::sUq::sPq 2::.s (.o .nil)::sPq 3::sPq 4::ru2 31 []))),[⟨0,1,true,some [[.c 4 (nL tP)]]⟩,⟨0,4,true,some [kLq 4]⟩,⟨0,1,true,some [[.c 4 (nL tP)]]⟩,⟨0,0,true,some [[.o (.sl 5 0 (some 0) none)]]⟩,⟨0,0,true,some [[.o (.ptr 6 0 0 0)]]⟩,⟨114,4,true,none⟩,⟨124,0,true,none⟩],λa H=>(⟨aIq a 3,aIq a 10,aIq a 11,aNq a 19,aGq a 19,aIq a 20,hIq H 1 0 0,hIq H 1 0 1,hIq H 1 0 2,hIq H 1 0 3⟩,⟨1,aLq tP a 9,aIq a 21,hLq tP H 0 0 0,hLq tP H 2 0 0,slN (slT (rwT (elT H 3) 0) 0),elT H 5,elT H 6⟩)⟩],F6,[(some 2,λp s=>upq (bb2 p s) [(22,b (decide (s.cc5<p.Ad1)))]),(some 2,λp s=>upq (bb3 p s) [(22,b (decide (s.cc5<p.Ad1)))])],Zb2⟩
theorem Zb3:Ga7.OkM:=Lo.okM [Ga6.prM] (by kernel_rfl) (.cons Zb1 .nil) rfl (.cons (λa H=>by kernel_rfl) (.cons (λa H=>by kernel_rfl) .nil)) λp s=>(.sel (Nat.beq s.ph 1) (.of @I9 (λF _ _ _ _ _=>by unfold I9;(repeat' apply k8 (f:=F))<;>rfl) (by kernel_rfl)) (.of @I8 (λF _ _ _ _ _=>by unfold I8;(repeat' apply k8 (f:=F))<;>rfl) (by kernel_rfl)))
structure B7 where
 L9:Int
structure r7 where
 ph:Nat
 H4:PLq
 A3:Int
 (g7 Lb4:PLq)
 I4:Nat
 (eh4 eh5:List (List d7))
def bb4(p:B7)(s:r7):St:=⟨.unk::.ptr 0 0 0 0::ra 7 (eL tP s.H4::i p.L9::i s.A3::ra 35 (i 0::.unk::.ptr 1 0 0 0::.v (.slice none 0 0)::.ptr 2 0 0 0::.ptr 3 0 0 0::ra 31 [])),[⟨0,1,[[eL tP s.g7]],true,false,0⟩,⟨0,1,[[eL tP s.Lb4]],true,false,0⟩,⟨0,0,[[.v (.slice none 0 0)]],true,false,0⟩,⟨0,0,[[.ptr 4 0 0 0]],true,false,0⟩,⟨124,0,[],true,false,0⟩]⟩
def bb5(p:B7)(s:r7):St:=⟨.unk::.ptr 0 0 0 0::ra 7 (eL tP s.H4::i p.L9::i s.A3::ra 35 (i 0::.unk::.ptr 1 0 0 0::.v (.slice none 0 0)::.ptr 2 0 0 0::.ptr 3 0 0 0::ra 31 [])),[⟨0,1,[[eL tP s.g7]],true,false,0⟩,⟨0,1,[[eL tP s.Lb4]],true,false,0⟩,⟨0,0,[[.sl 4 0 s.I4 0]],true,false,0⟩,⟨0,0,[[.ptr 5 0 0 0]],true,false,0⟩,⟨114,4,s.eh4,true,false,0⟩,⟨124,0,s.eh5,true,false,0⟩]⟩
def Zb4(p:B7)(s:r7):St:=(sel (Nat.beq s.ph 1) (bb5 p s) (bb4 p s))
def J0{α:Type}(k:r7->α)(e:Nat->α)(z:α)(p:B7)(s:r7):α:=let y2:=(List.length s.g7);let y1:=(W (s.A3+1));let y0:=(gL tP s.H4 s.A3.toNat);let t1:=(lp (F6 (⟨s.A3,p.L9,s.A3,y2-y1.toNat,(λk=>(λk=>(tP).row (gL tP s.g7 k)) (y1.toNat+k)),(↑(y2-y1.toNat):Int),y0.n.x,y0.n.y,y0.n.z,y0.b⟩:n8)) (⟨0,rt tP s.H4,0,rt tP s.g7,rt tP s.Lb4,0,[],[]⟩:p5));(sl (decide (s.A3<p.L9)) (sl (inB s.A3 (List.length s.H4)) (sl (inB y1 (y2+1)) (sl ((cnE tP s.H4)&&((cnE tP s.g7)&&((cnE tP s.Lb4)&&true))) (sl (Nat.beq t1.1 1) (k ⟨0,t1.2.H4,y1,t1.2.g7,t1.2.Ra6,0,[],[]⟩) (sl (Nat.beq t1.1 2) (k ⟨1,t1.2.H4,y1,t1.2.g7,t1.2.Ra6,t1.2.gd9,t1.2.eh5,t1.2.eh6⟩) z)) z) z) z) (e 1))
def J1{α:Type}(k:r7->α)(e:Nat->α)(z:α)(p:B7)(s:r7):α:=let y2:=(List.length s.g7);let y1:=(W (s.A3+1));let y0:=(gL tP s.H4 s.A3.toNat);let t1:=(lp (F6 (⟨s.A3,p.L9,s.A3,y2-y1.toNat,(λk=>(λk=>(tP).row (gL tP s.g7 k)) (y1.toNat+k)),(↑(y2-y1.toNat):Int),y0.n.x,y0.n.y,y0.n.z,y0.b⟩:n8)) (⟨1,rt tP s.H4,0,rt tP s.g7,rt tP s.Lb4,s.I4,s.eh4,s.eh5⟩:p5));(sl (decide (s.A3<p.L9)) (sl (inB s.A3 (List.length s.H4)) (sl (inB y1 (y2+1)) (sl ((cnE tP s.H4)&&((cnE tP s.g7)&&((cnE tP s.Lb4)&&true))) (sl (Nat.beq t1.1 1) (k ⟨0,t1.2.H4,y1,t1.2.g7,t1.2.Ra6,0,[],[]⟩) (sl (Nat.beq t1.1 2) (k ⟨1,t1.2.H4,y1,t1.2.g7,t1.2.Ra6,t1.2.gd9,t1.2.eh5,t1.2.eh6⟩) z)) z) z) z) (e 2))
def F7(p:B7)(s:r7):Stp r7:=(sel (Nat.beq s.ph 1) (J1 .next .exit .fail p s) (J0 .next .exit .fail p s))
def Ga8:Lo B7 r7:=⟨En ta7,0,Mf5,[1,1,1,0,1,4,4,1,4,4],[1,9,10,11,47,49,50,51,52],.s .p (.s .p (.s (.b (.s .p (.s .p (.b (.u Ga7.lsM))))) .p)),[⟨sUq::sPq 0::ru2 7 (sLq tP::sIq::sIq::ru2 35 (.s (.o (.lit .i64 0))::sUq::sPq 1::.s (.o .nil)::sPq 2::sPq 3::ru2 31 [])),[⟨0,1,true,some [[.c 4 (nL tP)]]⟩,⟨0,1,true,some [[.c 4 (nL tP)]]⟩,⟨0,0,true,some [[.o .nil]]⟩,⟨0,0,true,some [[.o (.ptr 4 0 0 0)]]⟩,⟨124,0,true,some []⟩],λa H=>(⟨aIq a 10⟩,⟨0,aLq tP a 9,aIq a 11,hLq tP H 0 0 0,hLq tP H 1 0 0,0,[],[]⟩)⟩,⟨sUq::sPq 0::ru2 7 (sLq tP::sIq::sIq::ru2 35 (.s (.o (.lit .i64 0))::sUq::sPq 1::.s (.o .nil)::sPq 2::sPq 3::ru2 31 [])),[⟨0,1,true,some [[.c 4 (nL tP)]]⟩,⟨0,1,true,some [[.c 4 (nL tP)]]⟩,⟨0,0,true,some [[.o (.sl 4 0 (some 0) none)]]⟩,⟨0,0,true,some [[.o (.ptr 5 0 0 0)]]⟩,⟨114,4,true,none⟩,⟨124,0,true,none⟩],λa H=>(⟨aIq a 10⟩,⟨1,aLq tP a 9,aIq a 11,hLq tP H 0 0 0,hLq tP H 1 0 0,slN (slT (rwT (elT H 2) 0) 0),elT H 4,elT H 5⟩)⟩],F7,[(some 0,λp s=>upq (bb4 p s) [(12,b (decide (s.A3<p.L9)))]),(some 0,λp s=>upq (bb5 p s) [(12,b (decide (s.A3<p.L9)))])],Zb4⟩
theorem Zb5:Ga8.OkM:=Lo.okM [Ga7.prM] (by kernel_rfl) (.cons Zb3 .nil) rfl (.cons (λa H=>by kernel_rfl) (.cons (λa H=>by kernel_rfl) .nil)) λp s=>(.sel (Nat.beq s.ph 1) (.of @J1 (λF _ _ _ _ _=>by unfold J1;(repeat' apply k8 (f:=F))<;>rfl) (by kernel_rfl)) (.of @J0 (λF _ _ _ _ _=>by unfold J0;(repeat' apply k8 (f:=F))<;>rfl) (by kernel_rfl)))
def la6(x:PLq):ROq:=let t1:=(lp (F7 (⟨(↑(List.length x):Int)⟩:B7)) (⟨0,rt tP x,0,rt tP x,rt tP x,0,[],[]⟩:r7));(sl ((cnE tP x)&&((cnE tP x)&&((cnE tP x)&&true))) (sl (Nat.beq t1.1 1) (some (.v (.slice none 0 0),[])) (sl (Nat.beq t1.1 2) (some (.sl 0 0 t1.2.I4 0,[⟨114,4,t1.2.eh4,true,false,0⟩])) none)) none)
def la7(x:PLq):List Pt:=V2 (one (r1L tX)) (la6 x)
def la8(x:PLq):Bool:=okO (one (r1L tX)) (la6 x)
def Sa2:Sum:=ca1 (na2 tP) (λx=>.guard (la8 x) (.ret ((one (r1L tX)).enc (la7 x),[])))
theorem ob1:j6 prog G 80 Sa2:=ab0 (bd b80 fc0) (one (r1L tX)) (o:=la6) λx=>sd1 (.s .p (.s .p (.s .p (.s (.s .p (.b (.i (.s .p (.b (.u Ga8.lsM)))))) .p)))) [Ga8.prM] (by kernel_rfl) (.cons Zb5 .nil) (by kernel_rfl)
def rc9:List (Nat×Sum):=[]
theorem ld3:j9 prog G rc9:=trivial
structure Ga9 where
 is0:Int
 ef2:List Int
 is8:Int
structure V8 where
 is9:Int
def Wb4(p:Ga9)(s:V8):St:=⟨i p.is0::ra 6 (eL tI p.ef2::i p.is8::i s.is9::ra 13 []),[]⟩
def wa1{α:Type}(k:V8->α)(e:Nat->α)(z:α)(p:Ga9)(s:V8):α:=(sl (decide (s.is9<p.is8)) (sl (inB s.is9 (List.length p.ef2)) (sl (decide ((gL tI p.ef2 s.is9.toNat)<(W (0-p.is0)))) (e 1) (sl (decide ((gL tI p.ef2 s.is9.toNat)>p.is0)) (e 1) (k ⟨W (s.is9+1)⟩))) z) (e 2))
def Ba0(p:Ga9)(s:V8):Stp V8:=wa1 .next .exit .fail p s
def vb3:Lo Ga9 V8:=⟨En rc9,0,Vf4,[1,0,1,4,4],[0,7,8,9],.p,[⟨sIq::ru2 6 (sLq tI::sIq::sIq::ru2 13 []),[],λa H=>(⟨aIq a 0,aLq tI a 7,aIq a 8⟩,⟨aIq a 9⟩)⟩],Ba0,[(none,λp s=>⟨[b false],[]⟩),(some 0,λp s=>upq (Wb4 p s) [(10,b (decide (s.is9<p.is8)))])],Wb4⟩
theorem bd7:vb3.Ok:=Lo.ok [] (by kernel_rfl) .nil rfl (.cons (λa H=>by kernel_rfl) .nil) λp s=>(.of @wa1 (λF _ _ _ _ _=>by unfold wa1;(repeat' apply k8 (f:=F))<;>rfl) (by kernel_rfl))
def Va4(x:Int)(y:List Int):ROq:=let t1:=(lp (Ba0 (⟨x,rt tI y,(↑(List.length y):Int)⟩:Ga9)) (⟨0⟩:V8));(sl ((cnE tI y)&&true) (sl (Nat.beq t1.1 1) (some (b false,[])) (sl (Nat.beq t1.1 2) (some (b true,[])) none)) none)
def Va5(x:Int)(y:List Int):Bool:=V2 (one r1B) (Va4 x y)
def Va6(x:Int)(y:List Int):Bool:=okO (one r1B) (Va4 x y)
def Ac4:Sum:=ta3 cI (na2 tI) (λx y=>.guard (Va6 x y) (.ret ((one r1B).enc (Va5 x y),[])))
theorem wd9:j6 prog G 119 Ac4:=ub3 (bd xg4 ld3) (one r1B) (o:=Va4) λx y=>Ga2 (.s .p (.s (.s .p (.b (.u vb3.ls))) .p)) [vb3.pr] (by kernel_rfl) (.cons bd7 .nil) (by kernel_rfl)
def bd8:List (Nat×Sum):=[]
theorem Sc7:j9 prog G bd8:=trivial
def ab2(x:Int):Int:=(if (W (0-x))>x then (W (0-x)) else x)
def fc1:Sum:=ca1 cI (λx=>.ret ((one r1I).enc (ab2 x),[]))
theorem bd9:j6 prog G 141 fc1:=gb2 (bd zg2 Sc7) λx=>B6 (by kernel_rfl)
def vb4:List (Nat×Sum):=[(141,fc1)]
theorem cd0:j9 prog G vb4:=⟨bd9,trivial⟩
structure pa5 where
 tb4:List Int
 (is7 is8:Int)
structure Y4 where
 (is3 is5:Int)
def Ob3(p:pa5)(s:Y4):St:=⟨ra 3 (i s.is3::.unk::i s.is5::eL tI p.tb4::i p.is7::i p.is8::ra 15 []),[]⟩
def ra9{α:Type}(k:Y4->α)(e:Nat->α)(z:α)(p:pa5)(s:Y4):α:=(sl (decide (s.is5>0)) (sl (s.is5==0) z (k ⟨s.is5,Int.tmod s.is3 s.is5⟩)) (e 1))
def ma4(p:pa5)(s:Y4):Stp Y4:=ra9 .next .exit .fail p s
def ob2:Lo pa5 Y4:=⟨En vb4,0,xf2,[1,1,0,1,4,4,1,1,0,4,1,1,1,4,4],[3,5,6,7,8],.p,[⟨ru2 3 (sIq::sUq::sIq::sLq tI::sIq::sIq::ru2 15 []),[],λa H=>(⟨aLq tI a 6,aIq a 7,aIq a 8⟩,⟨aIq a 3,aIq a 5⟩)⟩],ma4,[(some 2,λp s=>upq (Ob3 p s) [(16,i s.is5),(17,b (decide (s.is5>0)))])],Ob3⟩
theorem Sc8:ob2.Ok:=Lo.ok [] (by kernel_rfl) .nil rfl (.cons (λa H=>by kernel_rfl) .nil) λp s=>(.of @ra9 (λF _ _ _ _ _=>by unfold ra9;(repeat' apply k8 (f:=F))<;>rfl) (by kernel_rfl))
structure Ba1 where
 is7:Int
structure S5 where
 is3:Int
 tb4:List Int
 is8:Int
def Ob4(p:Ba1)(s:S5):St:=⟨ra 3 (i s.is3::.unk::.unk::eL tI s.tb4::i p.is7::i s.is8::ra 15 []),[]⟩
def sa0{α:Type}(k:S5->α)(e:Nat->α)(z:α)(p:Ba1)(s:S5):α:=let t1:=(ab2 (gL tI s.tb4 s.is8.toNat));let t2:=(lp (ma4 (⟨rt tI s.tb4,p.is7,s.is8⟩:pa5)) (⟨s.is3,t1⟩:Y4));(sl (decide (s.is8<p.is7)) (sl (inB s.is8 (List.length s.tb4)) (sl ((gL tI s.tb4 s.is8.toNat)==(-9223372036854775808)) (e 1) (sl ((cnE tI s.tb4)&&true) (sl (Nat.beq t2.1 1) (k ⟨t2.2.is3,rt tI s.tb4,W (s.is8+1)⟩) z) z)) z) (e 2))
def wa2(p:Ba1)(s:S5):Stp S5:=sa0 .next .exit .fail p s
def ob3:Lo Ba1 S5:=⟨En vb4,0,xf2,[1,1,0,1,4,4],[3,6,7,8],.s .p (.s .p (.s (.b (.s .p (.s .p (.s .p (.b (.u ob2.ls)))))) .p)),[⟨ru2 3 (sIq::sUq::sUq::sLq tI::sIq::sIq::ru2 15 []),[],λa H=>(⟨aIq a 7⟩,⟨aIq a 3,aLq tI a 6,aIq a 8⟩)⟩],wa2,[(none,λp s=>⟨[i 0],[]⟩),(some 0,λp s=>upq (Ob4 p s) [(9,b (decide (s.is8<p.is7)))])],Ob4⟩
theorem Sc9:ob3.Ok:=Lo.ok [ob2.pr] (by kernel_rfl) (.cons Sc8 .nil) rfl (.cons (λa H=>by kernel_rfl) .nil) λp s=>(.of @sa0 (λF _ _ _ _ _=>by unfold sa0;(repeat' apply k8 (f:=F))<;>rfl) (by kernel_rfl))
def Na9(x:List Int):ROq:=let t1:=(lp (wa2 (⟨(↑(List.length x):Int)⟩:Ba1)) (⟨0,rt tI x,0⟩:S5));(sl ((cnE tI x)&&true) (sl (Nat.beq t1.1 1) (some (i 0,[])) (sl (Nat.beq t1.1 2) (some (i t1.2.is3,[])) none)) none)
def gb4(x:List Int):Int:=V2 (one r1I) (Na9 x)
def gb5(x:List Int):Bool:=okO (one r1I) (Na9 x)
def sc0:Sum:=ca1 (na2 tI) (λx=>.guard (gb5 x) (.ret ((one r1I).enc (gb4 x),[])))
theorem ld4:j6 prog G 120 sc0:=ab0 (bd xg5 cd0) (one r1I) (o:=Na9) λx=>Ga2 (.s .p (.s .p (.s (.s .p (.b (.u ob3.ls))) .p))) [ob3.pr] (by kernel_rfl) (.cons Sc9 .nil) (by kernel_rfl)
def Jd6:List (Nat×Sum):=[(119,Ac4),(120,sc0)]
theorem xd0:j9 prog G Jd6:=⟨wd9,ld4,trivial⟩
def eb3(x:Pln):ROq:=let t1:=(Va5 4608 [x.n.x,x.n.y,x.n.z]);let t2:=(gb4 [x.n.x,x.n.y,x.n.z]);let t3:=(Va5 2097152 [x.b]);(sl (Va6 4608 [x.n.x,x.n.y,x.n.z]) (sl t1 (sl (gb5 [x.n.x,x.n.y,x.n.z]) (sl (t2==1) (sl (Va6 2097152 [x.b]) (some (b t3,[])) none) (some (b false,[]))) none) (some (b false,[]))) none)
def yb1(x:Pln):Bool:=V2 (one r1B) (eb3 x)
def yb2(x:Pln):Bool:=okO (one r1B) (eb3 x)
def Oc6:Sum:=ca1 (ya7 tP) (λx=>.guard (yb2 x) (.ret ((one r1B).enc (yb1 x),[])))
theorem Jd7:j6 prog G 95 Oc6:=ab0 (bd b95 xd0) (one r1B) (o:=eb3) λx=>B6 (by kernel_rfl)
def xd1:List (Nat×Sum):=[(95,Oc6)]
theorem ld5:j9 prog G xd1:=⟨Jd7,trivial⟩
def Va7(x:Pln):ROq:=let t1:=(yb1 x);(sl (yb2 x) (some (b (!t1),[])) none)
def ob4(x:Pln):Bool:=V2 (one r1B) (Va7 x)
def ob5(x:Pln):Bool:=okO (one r1B) (Va7 x)
def Ac5:Sum:=ca1 (ya7 tP) (λx=>.guard (ob5 x) (.ret ((one r1B).enc (ob4 x),[])))
theorem xd2:j6 prog G 94 Ac5:=ab0 (bd b94 ld5) (one r1B) (o:=Va7) λx=>B6 (by kernel_rfl)
structure ja8 where
 j5:PLq
def Va8:List (Nat×Sum):=[(94,Ac5)]
theorem Ib7:j9 prog G Va8:=⟨xd2,trivial⟩
structure S6 where
 j5:PLq
 is7:Int
structure w9 where
 is8:Int
def Oa0(p:S6)(s:w9):St:=⟨eL tP p.j5::.fn 94 []::ra 5 (i p.is7::i s.is8::ra 10 []),[]⟩
def N8{α:Type}(k:w9->α)(e:Nat->α)(z:α)(p:S6)(s:w9):α:=let t1:=(ob4 (gL tP p.j5 s.is8.toNat));(sl (decide (s.is8<p.is7)) (sl (inB s.is8 (List.length p.j5)) (sl (ob5 (gL tP p.j5 s.is8.toNat)) (sl t1 (e 1) (k ⟨W (s.is8+1)⟩)) z) z) (e 2))
def P9(p:S6)(s:w9):Stp w9:=N8 .next .exit .fail p s
def ta8:Lo S6 w9:=⟨En Va8,0,Ae2,[1,0,1,4,4],[0,1,7,8],.p,[⟨sLq tP::.s (.o (.fn 94))::ru2 5 (sIq::sIq::ru2 10 []),[],λa H=>(⟨aLq tP a 0,aIq a 7⟩,⟨aIq a 8⟩)⟩],P9,[(none,λp s=>⟨[i s.is8],[]⟩),(some 0,λp s=>upq (Oa0 p s) [(9,b (decide (s.is8<p.is7)))])],Oa0⟩
theorem Eb5:ta8.Ok:=Lo.ok [] (by kernel_rfl) .nil rfl (.cons (λa H=>by kernel_rfl) .nil) λp s=>(.of @N8 (λF _ _ _ _ _=>by unfold N8;(repeat' apply k8 (f:=F))<;>rfl) (by kernel_rfl))
structure ja9 where
 alt:Nat
 is0:Int
def O5{α:Type}(kk:ja9->α)(x:ja8):α:=let t1:=(lp (P9 (⟨rt tP x.j5,(↑(List.length x.j5):Int)⟩:S6)) (⟨0⟩:w9));(sl ((cnE tP x.j5)&&true) (sl (Nat.beq t1.1 1) (kk ⟨1,t1.2.is8⟩) (sl (Nat.beq t1.1 2) (kk ⟨1,-1⟩) (kk ⟨0,0⟩))) (kk ⟨0,0⟩))
def ya8(x:ja8):ja9:=O5 (λr=>r) x
def wa3(x:ja8)(r:ja9):DT (d7×List d8):=(.ite (Nat.beq r.alt 1) (.ret (i r.is0,[])) .fail)
theorem Sb4{α β:Type}(F:α->β)(kk:ja9->α)(x:ja8):F (O5 kk x)=O5 (λr=>F (kk r)) x:=by unfold O5;(repeat' apply k8 (f:=F))<;>rfl
def bb6:Sum:=Sa0 ⟨[sLq tP,.s (.o (.fn 94))],[],λa H=>(⟨aLq tP a 0⟩,())⟩ (λx=>wa3 x (ya8 x))
theorem Ob5:j6 prog G 118 bb6:=I1 (enc:=λx=>⟨[eL tP x.j5,.fn 94 []],[]⟩) (λa H=>by kernel_rfl) (bd Mf7 Ib7) λx=>Ga2 (.s .p (.s (.s .p (.b (.u ta8.ls))) .p)) [ta8.pr] (by kernel_rfl) (.cons Eb5 .nil) (Qha (b:=O5 (λr=>(wa3 x r).run) x) (by kernel_rfl) (Sb4 (λr=>(wa3 x r).run) (λr=>r) x).symm)
structure aa5 where
 j5:PLq
def Ab5:List (Nat×Sum):=[(118,bb6)]
theorem vb5:j9 prog G Ab5:=⟨Ob5,trivial⟩
structure aa6 where
 alt:Nat
 bs0:Bool
def J7{α:Type}(kk:aa6->α)(x:aa5):α:=let t1:=(ya8 ⟨rt tP x.j5⟩);(sl ((cnE tP x.j5)&&true) (sl (Nat.beq t1.alt 1) (kk ⟨1,decide (t1.is0>=0)⟩) (kk ⟨0,false⟩)) (kk ⟨0,false⟩))
def qa7(x:aa5):aa6:=J7 (λr=>r) x
def oa7(x:aa5)(r:aa6):DT (d7×List d8):=(.ite (Nat.beq r.alt 1) (.ret (b r.bs0,[])) .fail)
theorem Eb6{α β:Type}(F:α->β)(kk:aa6->α)(x:aa5):F (J7 kk x)=J7 (λr=>F (kk r)) x:=by unfold J7;(repeat' apply k8 (f:=F))<;>rfl
def Oa1:Sum:=Sa0 ⟨[sLq tP,.s (.o (.fn 94))],[],λa H=>(⟨aLq tP a 0⟩,())⟩ (λx=>oa7 x (qa7 x))
theorem Ab6:j6 prog G 93 Oa1:=I1 (enc:=λx=>⟨[eL tP x.j5,.fn 94 []],[]⟩) (λa H=>by kernel_rfl) (bd b93 vb5) λx=>B6 (Qha (b:=J7 (λr=>(oa7 x r).run) x) (by kernel_rfl) (Eb6 (λr=>(oa7 x r).run) (λr=>r) x).symm)
def Ud4:List (Nat×Sum):=[(93,Oa1)]
theorem Jd8:j9 prog G Ud4:=⟨Ab6,trivial⟩
def ob6(x:PLq):ROq:=let t1:=(qa7 ⟨rt tP x⟩);(sl (decide ((↑(List.length x):Int)>48)) (some (i 2,[])) (sl ((cnE tP x)&&true) (sl (Nat.beq t1.alt 1) (sl t1.bs0 (some (i 12,[])) (some (i 0,[]))) none) none))
def fa5(x:PLq):Int:=V2 (one r1I) (ob6 x)
def Ka6(x:PLq):Bool:=okO (one r1I) (ob6 x)
def ob7:Sum:=ca1 (na2 tP) (λx=>.guard (Ka6 x) (.ret ((one r1I).enc (fa5 x),[])))
theorem yb3:j6 prog G 73 ob7:=ab0 (bd b73 Jd8) (one r1I) (o:=ob6) λx=>B6 (by kernel_rfl)
def xd3:List (Nat×Sum):=[(73,ob7)]
theorem ld6:j9 prog G xd3:=⟨yb3,trivial⟩
def Va9(x:PLq):ROq:=let t1:=(fa5 (rt tP x));(sl (okE tP x) (sl (Ka6 (rt tP x)) (some (b (t1 != 0),[])) none) none)
def ob8(x:PLq):Bool:=V2 (one r1B) (Va9 x)
def ob9(x:PLq):Bool:=okO (one r1B) (Va9 x)
def Ac6:Sum:=ca1 (na2 tP) (λx=>.guard (ob9 x) (.ret ((one r1B).enc (ob8 x),[])))
theorem xd4:j6 prog G 78 Ac6:=ab0 (bd b78 ld6) (one r1B) (o:=Va9) λx=>B6 (by kernel_rfl)
end Go.Ev.Ce
namespace Go.Proofs
open Go.Shelf
set_option maxRecDepth 100000 in
def Ce.growP_ren:Go.Shelf.Ren:=⟨fun | 4=>99 | n=>n,fun | 22=>35 | 25=>66 | 3=>3 | 4=>4 | 9=>9 | 20=>20 | 0=>0 | n=>n,fun | n=>n⟩
set_option maxRecDepth 100000 in
theorem Ce.growP:Go.Proofs.Lays8.n4 Tryz.prog Ce.growP_ren:={
 mixed:=by kernel_rfl
 f4:=⟨Tryz.f99.name,by decide,Tryz.func99.trans (congrArg some (by kernel_rfl))⟩
 t0:=Tryz.underlying0
 a0:=Tryz.isAgg0
 z0:=Tryz.sizeOf0
 v0:=Tryz.zeroValue0
 t3:=Tryz.underlying3
 a3:=Tryz.isAgg3
 z3:=Tryz.sizeOf3
 v3:=Tryz.zeroValue3
 t4:=Tryz.underlying4
 a4:=Tryz.isAgg4
 z4:=Tryz.sizeOf4
 v4:=Tryz.zeroValue4
 t9:=Tryz.underlying9
 a9:=Tryz.isAgg9
 z9:=Tryz.sizeOf9
 v9:=Tryz.zeroValue9
 t20:=Tryz.underlying20
 a20:=Tryz.isAgg20
 z20:=Tryz.sizeOf20
 v20:=Tryz.zeroValue20
 t22:=Tryz.underlying35
 a22:=Tryz.isAgg35
 z22:=Tryz.sizeOf35
 v22:=Tryz.zeroValue35 }
end Go.Proofs
namespace Go.Ev.Ce
open Go Go.Ev Go.Proofs
def ne0:List d7:=[i 0,i 0,i 0,i 0]
def cb8:Sum:=λargs blks=>match args,blks with
 | [.v (.slice none 0 0), .v (.int .i64 n)], [] => .ite (n == 0) (.ret (.v (.slice none 0 0), []))
   (.guard (Bool.and (decide (0<n)) (Nat.ble (n.toNat*32) room)) (.ret (.sl 0 0 0 0,[⟨66,4,List.replicate n.toNat ne0,true,false,0⟩])))
 |_,_=>.fail
theorem z66:zeT Tryz.prog 66=some ne0:=by kernel_rfl
theorem s66:szT Tryz.prog 66=4:=by kernel_rfl
theorem y66:byT Tryz.prog 66=32:=by kernel_rfl
theorem t25:Ce.growP_ren.t 25=66:=by kernel_rfl
theorem f4:Ce.growP_ren.f 4=99:=by kernel_rfl
set_option maxRecDepth 100000 in
theorem Ac7:j6 prog G 99 cb8:=by
 intro args blks r out he W ρ F w args' hH hlen hargs hG;refine⟨⟨_,Tryz.func99,by kernel_rfl,of_decide_eq_true (by kernel_rfl)⟩,?_⟩
 unfold cb8 at he
 split at he
 case h_2=>cases he
 rename_i n
 match args',hlen with
 |[v0,v1],_ =>
 have e0:=ia8 (hargs 0 _ _ rfl rfl);have e1:=ia8 (hargs 1 _ _ rfl rfl);subst e0 e1
 rcases DT.run_ite_some he with⟨h0,he⟩|⟨h0,he⟩
 ·have h0:n=0:=by simpa using h0
  subst h0;injection he with he;injection he with q1 q2;subst q1 q2
  have:=Any8.slices_Grow_room Ce.growP none 0 0 0 w (Qhd _) (by omega) (by omega) (by omega)
  rw[f4] at this;refine this.mono λe w' ⟨h1,h2⟩=>?_
  subst h1 h2;exact⟨_,rfl,ρ,F,.refl,hH,.ofv _⟩
 ·obtain⟨hg,he⟩:=DT.run_guard_some he;rw[Bool.and_eq_true,decide_eq_true_eq] at hg;obtain⟨hpos,hroom⟩:=hg;have hroom:=Nat.le_of_ble_eq_true hroom;unfold room at hroom;obtain⟨m,rfl⟩:=Int.eq_ofNat_of_zero_le (Int.le_of_lt hpos);have hm:0<m:=by omega
  have he:some (d7.sl 0 0 0 0,[(⟨66,4,List.replicate m ne0,true,false,0⟩:d8)])=some (r,out):=he;injection he with he;injection he with q1 q2;subst q1 q2
  obtain⟨ti,zv,hi,hzz,hzr,hone⟩:=ib7 (E:=En []) z66;have hi:Tryz.prog.info? 66=some ti:=hi;have hts:ti.size=4:=by have:=s66;simp only[szT,hi] at this;exact this
  have hby:ti.bytes=32:=by have:=y66;simp only[byT,hi] at this;exact this
  have hzs:zv.cells.size=4:=by
   have:=congrArg List.length hzr
   simpa [ne0] using this.symm
  have hroom':m*32<=140737488355328:=hroom
  have:=Any8.slices_Grow_grow Ce.growP ti zv (by rw[t25];exact hi) hzz (by omega) none 0 0 m [] w (Qhd _) (by omega) (by rw[hby];omega) (by omega) (by simp) (λ_=>rfl) (λa ha=>by cases ha)
  rw[f4,t25] at this;refine this.mono λe w' ⟨h1,h2⟩=>?_
  have hcap:=grownCap_ge w (0+m) 0 66;have hcap2:=grownCap_le_maxLen w (0+m) 0 66 (by unfold maxLen;omega)
  subst h1;generalize grownCap w (0+m) 0 66=G' at *
  have hsz:∀q,(Builtin.zeroCells zv.cells q).size=q*4:=λq=>by simp[Builtin.zeroCells,hzs]
  have hcc:(#[]++Builtin.zeroCells zv.cells (0+m-0)++Builtin.zeroCells zv.cells (G'-(0+m))).size=G'*4:=by
   rw[Array.size_append,Array.size_append,hsz,hsz];simp;omega
  have hobj:w'.heap[w.heap.size]?=some (.cells (#[]++Builtin.zeroCells zv.cells (0+m-0)++Builtin.zeroCells zv.cells (G'-(0+m))) 66 (0,0)):=by
   rw[h2];exact World.alloc_heap_new w.drew _
  have hold:∀k,k<w.heap.size->w'.heap[k]?=w.heap[k]?:=λk hk=>by
   rw[h2];simp only[World.alloc,Array.getElem?_push,World.drew];rw[if_neg (by omega)]
  have hws:w'.heap.size=w.heap.size+1:=by rw[h2];exact Array.size_push ..
  obtain⟨h6,h7⟩:=hH.newAt (w':=w') (by rw[h2];rfl) (by rw[h2];rfl) (by rw[h2];rfl) (by rw[h2];exact Nat.le_succ _) (by omega) hold w.heap.size (Qhd _) 66 4 (List.replicate m ne0) _ 66 hobj
   (λj r hr=>by rw[Qhc] at hr;split at hr<;>cases hr;rfl) (by rw[List.length_replicate,hcc];omega)
   (λj r c x hr hx=>by
    have hjm:j<m:=by
     have:=(Qhb.1 hr).1
     simpa using this
    rw[Qhc,if_pos hjm] at hr;injection hr with hr;subst hr;have hc4:c<4:=(Qhb.1 hx).1;rw[hzr,List.getElem?_map] at hx;have hcz:c<zv.cells.size:=by omega
    have hq:zv.cells.toList[c]?=some zv.cells[c]:=by simp[hcz]
    rw[hq] at hx;injection hx with hx;subst hx;refine⟨zv.cells[c],?_,.v _ (hone _ (by simp))⟩
    have hlt:j*4+c<m*4:=by omega
    rw[Array.append_assoc,Array.empty_append,Array.getElem?_append_left (by rw[hsz];omega)]
    have hm4:(j*4+c) % 4=c:=by omega
    simp only[Builtin.zeroCells,hzs];rw[Array.getElem?_map,Array.getElem?_range];rw[if_pos (by omega)]
    simp[hm4,hcz])
   (λ_=>rfl)
  refine⟨_,rfl,_,F,h6,h7,.val (.cell ?_)⟩;refine .sl 0 0 0 0 _ _ { et:=66,es:=4,elems:=List.replicate m ne0,own:=true,dead:=false,g:=0 } rfl rfl (Qhd _) (Nat.zero_le _) rfl hcap2 λ_=>⟨.inr ?_,?_,by simp⟩
  ·simp[ρnew]
  ·simp only[ρnew,List.length_nil,if_true];rw[hcc,Nat.zero_add]
end Go.Ev.Ce
namespace Go.Ev.Ce
open Go Go.Ev Go.Ev.L Go.Proofs
set_option maxRecDepth 100000
def Ka7:List (Nat×Sum):=[(99,cb8)]
theorem fc2:j9 prog G Ka7:=⟨Ac7,trivial⟩
structure ca6 where
 (s9 Gc0:LPq)
 L9:Int
structure B8 where
 (is3 A3:Int)
def eb4(p:ca6)(s:B8):St:=⟨eL tLq p.s9::.unk::.unk::i s.is3::ra 5 (eL tLq p.Gc0::i p.L9::i s.A3::ra 24 []),[]⟩
def X4{α:Type}(k:B8->α)(e:Nat->α)(z:α)(p:ca6)(s:B8):α:=let y0:=(↑(List.length (gL tLq p.Gc0 s.A3.toNat)):Int);(sl (decide (s.A3<p.L9)) (sl (inB s.A3 (List.length p.Gc0)) (sl (decide ((W (s.is3+y0))<0)) z (k ⟨W (s.is3+y0),W (s.A3+1)⟩)) z) (e 1))
def R3(p:ca6)(s:B8):Stp B8:=X4 .next .exit .fail p s
def Ha0:Lo ca6 B8:=⟨En Ka7,0,cg1,[1,1,0,1,4,4],[0,3,9,10,11],.p,[⟨sLq tLq::sUq::sUq::sIq::ru2 5 (sLq tLq::sIq::sIq::ru2 24 []),[],λa H=>(⟨aLq tLq a 0,aLq tLq a 9,aIq a 10⟩,⟨aIq a 3,aIq a 11⟩)⟩],R3,[(some 0,λp s=>upq (eb4 p s) [(12,b (decide (s.A3<p.L9)))])],eb4⟩
theorem Zb6:Ha0.OkM:=Lo.okM [] (by kernel_rfl) .nil rfl (.cons (λa H=>by kernel_rfl) .nil) λp s=>(.of @X4 (λF _ _ _ _ _=>by unfold X4;(repeat' apply k8 (f:=F))<;>rfl) (by kernel_rfl))
structure H6 where
 qc0:LPq
 qd2:Int
structure q8 where
 ph:Nat
 xb3:Int
 ns6:Nat
 eh0:List (List d7)
def bb7(p:H6)(s:q8):St:=⟨ra 6 (.v (.slice none 0 0)::ra 18 (eL tLq p.qc0::i p.qd2::i s.xb3::ra 8 [])),[]⟩
def bb8(p:H6)(s:q8):St:=⟨ra 6 (.sl 0 0 s.ns6 0::ra 18 (eL tLq p.qc0::i p.qd2::i s.xb3::ra 8 [])),[⟨66,4,s.eh0,true,false,0⟩]⟩
def Zb7(p:H6)(s:q8):St:=(sel (Nat.beq s.ph 1) (bb8 p s) (bb7 p s))
def J2{α:Type}(k:q8->α)(e:Nat->α)(z:α)(p:H6)(s:q8):α:=(sl (decide (s.xb3<p.qd2)) (sl (inB s.xb3 (List.length p.qc0)) (sl (Nat.beq (len (o9 (λk=>(tP).row (gL tP (gL tLq p.qc0 s.xb3.toNat) k)) (List.range (List.length (gL tLq p.qc0 s.xb3.toNat))))) 0) (k ⟨0,W (s.xb3+1),0,[]⟩) z) z) (e 1))
def J3{α:Type}(k:q8->α)(e:Nat->α)(z:α)(p:H6)(s:q8):α:=let y0:=(gL tLq p.qc0 s.xb3.toNat);let y1:=(List.range (List.length y0));(sl (decide (s.xb3<p.qd2)) (sl (inB s.xb3 (List.length p.qc0)) (sl (Nat.ble (s.ns6+(len (o9 (λk=>(tP).row (gL tP y0 k)) y1))) (len s.eh0)) (k ⟨1,W (s.xb3+1),(s.ns6+(len (o9 (λk=>(tP).row (gL tP y0 k)) y1))),(app (H9 s.eh0 s.ns6) (app (o9 (λk=>(tP).row (gL tP y0 k)) y1) (l4 s.eh0 (s.ns6+(len (o9 (λk=>(tP).row (gL tP y0 k)) y1))))))⟩) z) z) (e 2))
def K4(p:H6)(s:q8):Stp q8:=(sel (Nat.beq s.ph 1) (J3 .next .exit .fail p s) (J2 .next .exit .fail p s))
def Ha1:Lo H6 q8:=⟨En Ka7,0,cg1,[1,1,1,1,0,1,4,4],[6,25,26,27],.p,[⟨ru2 6 (.s (.o .nil)::ru2 18 (sLq tLq::sIq::sIq::ru2 8 [])),[],λa H=>(⟨aLq tLq a 25,aIq a 26⟩,⟨0,aIq a 27,0,[]⟩)⟩,⟨ru2 6 (.s (.o (.sl 0 0 (some 0) none))::ru2 18 (sLq tLq::sIq::sIq::ru2 8 [])),[⟨66,4,true,none⟩],λa H=>(⟨aLq tLq a 25,aIq a 26⟩,⟨1,aIq a 27,slN (slT a 6),elT H 0⟩)⟩],K4,[(some 2,λp s=>upq (bb7 p s) [(28,b (decide (s.xb3<p.qd2)))]),(some 2,λp s=>upq (bb8 p s) [(28,b (decide (s.xb3<p.qd2)))])],Zb7⟩
theorem Zb8:Ha1.OkM:=Lo.okM [] (by kernel_rfl) .nil rfl (.cons (λa H=>by kernel_rfl) (.cons (λa H=>by kernel_rfl) .nil)) λp s=>(.sel (Nat.beq s.ph 1) (.of @J3 (λF _ _ _ _ _=>by unfold J3;(repeat' apply k8 (f:=F))<;>rfl) (by kernel_rfl)) (.of @J2 (λF _ _ _ _ _=>by unfold J2;(repeat' apply k8 (f:=F))<;>rfl) (by kernel_rfl)))
structure ya2 where
 (alt ns0:Nat)
 eh0:List (List d7)
def R9{α:Type}(kk:ya2->α)(x:LPq):α:=let y0:=(⟨rt tLq (rt tLq x),(↑(List.length (rt tLq x)):Int)⟩:H6);let t1:=(lp (R3 (⟨rt tLq x,rt tLq x,(↑(List.length x):Int)⟩:ca6)) (⟨0,0⟩:B8));let t2:=(lp (K4 y0) (⟨0,0,0,[]⟩:q8));let t3:=(lp (K4 y0) (⟨1,0,0,List.replicate t1.2.is3.toNat ne0⟩:q8));(sl ((cnE tLq x)&&((cnE tLq x)&&true)) (sl (Nat.beq t1.1 1) (sl (t1.2.is3==0) (sl ((cnE tLq (rt tLq x))&&true) (sl (Nat.beq t2.1 1) (kk ⟨1,0,[]⟩) (sl (Nat.beq t2.1 2) (kk ⟨2,t2.2.ns6,t2.2.eh0⟩) (kk ⟨0,0,[]⟩))) (kk ⟨0,0,[]⟩)) (sl (Bool.and (decide (0<t1.2.is3)) (Nat.ble (t1.2.is3.toNat*32) room)) (sl ((cnE tLq (rt tLq x))&&true) (sl (Nat.beq t3.1 1) (kk ⟨1,0,[]⟩) (sl (Nat.beq t3.1 2) (kk ⟨2,t3.2.ns6,t3.2.eh0⟩) (kk ⟨0,0,[]⟩))) (kk ⟨0,0,[]⟩)) (kk ⟨0,0,[]⟩))) (kk ⟨0,0,[]⟩)) (kk ⟨0,0,[]⟩))
def C5(x:LPq):ya2:=R9 (λr=>r) x
def Ka8(r:ya2):DT (d7×List d8):=(.ite (Nat.beq r.alt 1) (.ret (.v (.slice none 0 0),[])) (.ite (Nat.beq r.alt 2) (.ret (.sl 0 0 r.ns0 0,[⟨66,4,r.eh0,true,false,0⟩])) .fail))
theorem uc0{α β:Type}(F:α->β)(kk:ya2->α)(x:LPq):F (R9 kk x)=R9 (λr=>F (kk r)) x:=by unfold R9;(repeat' apply k8 (f:=F))<;>rfl
def Sa3:Sum:=ca1 (na2 tLq) (λx=>Ka8 (C5 x))
theorem pb0:j6 prog G 79 Sa3:=gb2 (bd b79 fc2) λx=>sd1 (.s .p (.s .p (.s (.s .p (.b (.u Ha0.lsM))) (.s .p (.s (.s .p (.b (.u Ha1.lsM))) .p))))) [Ha0.prM,Ha1.prM] (by kernel_rfl) (.cons Zb6 (.cons Zb8 .nil)) (Qha (b:=R9 (λr=>(Ka8 r).run) x) (by kernel_rfl) (uc0 (λr=>(Ka8 r).run) (λr=>r) x).symm)
def Qe5:List (Nat×Sum):=[(79,Sa3)]
theorem Be6:j9 prog G Qe5:=⟨pb0,trivial⟩
def fc3(x:LPq):ROq:=let t1:=(C5 (rt tLq x));let y6:=((t1.ns0+1)+1);let y2:=(app t1.eh0 [[i 1,i 0,i 0,i 24]]);let y4:=(app y2 [[i (-1),i 0,i 0,i 24]]);let y1:=(y6+1);let y0:=(app y4 [[i 0,i 1,i 0,i 24]]);let y3:=(app y0 [[i 0,i (-1),i 0,i 24]]);let y5:=(app y3 [[i 0,i 0,i 1,i 24]]);(sl (okE tLq x) (sl (Nat.beq t1.alt 1) (some (.sl 0 0 6 0,[⟨66,4,[[i 1,i 0,i 0,i 24],[i (-1),i 0,i 0,i 24],[i 0,i 1,i 0,i 24],[i 0,i (-1),i 0,i 24],[i 0,i 0,i 1,i 24],[i 0,i 0,i (-1),i 24]],true,false,0⟩])) (sl (Nat.beq t1.alt 2) (sl (Nat.beq t1.ns0 (len t1.eh0)&&Nat.ble ((t1.ns0+1)*32) room) (sl (Nat.beq (t1.ns0+1) (len y2)&&Nat.ble (y6*32) room) (sl (Nat.beq y6 (len y4)&&Nat.ble (y1*32) room) (sl (Nat.beq y1 (len y0)&&Nat.ble ((y1+1)*32) room) (sl (Nat.beq (y1+1) (len y3)&&Nat.ble (((y1+1)+1)*32) room) (sl (Nat.beq ((y1+1)+1) (len y5)&&Nat.ble ((((y1+1)+1)+1)*32) room) (some (.sl 0 0 (((y1+1)+1)+1) 0,[⟨66,4,app y5 [[i 0,i 0,i (-1),i 24]],true,false,0⟩])) none) none) none) none) none) none) none)) none)
def vb6(x:LPq):PLq:=V2 (one (r1L tP)) (fc3 x)
def vb7(x:LPq):Bool:=okO (one (r1L tP)) (fc3 x)
def Ic6:Sum:=ca1 (na2 tLq) (λx=>.guard (vb7 x) (.ret ((one (r1L tP)).enc (vb6 x),[])))
theorem Tc0:j6 prog G 64 Ic6:=ab0 (bd b64 Be6) (one (r1L tP)) (o:=fc3) λx=>B6 (by kernel_rfl)
structure ka0 where
 s9:LPq
def Wa0:List (Nat×Sum):=[(78,Ac6)]
theorem Ib8:j9 prog G Wa0:=⟨xd4,trivial⟩
structure S7 where
 s9:LPq
 is7:Int
structure A0 where
 is8:Int
def Oa2(p:S7)(s:A0):St:=⟨eL tLq p.s9::.fn 78 []::ra 5 (i p.is7::i s.is8::ra 10 []),[]⟩
def N9{α:Type}(k:A0->α)(e:Nat->α)(z:α)(p:S7)(s:A0):α:=let y0:=(gL tLq p.s9 s.is8.toNat);let t1:=(ob8 (rt tP y0));(sl (decide (s.is8<p.is7)) (sl (inB s.is8 (List.length p.s9)) (sl (okE tP y0) (sl (ob9 (rt tP y0)) (sl t1 (e 1) (k ⟨W (s.is8+1)⟩)) z) z) z) (e 2))
def Q0(p:S7)(s:A0):Stp A0:=N9 .next .exit .fail p s
def ta9:Lo S7 A0:=⟨En Wa0,0,cg0,[1,0,1,4,4],[0,1,7,8],.p,[⟨sLq tLq::.s (.o (.fn 78))::ru2 5 (sIq::sIq::ru2 10 []),[],λa H=>(⟨aLq tLq a 0,aIq a 7⟩,⟨aIq a 8⟩)⟩],Q0,[(none,λp s=>⟨[i s.is8],[]⟩),(some 0,λp s=>upq (Oa2 p s) [(9,b (decide (s.is8<p.is7)))])],Oa2⟩
theorem Eb7:ta9.Ok:=Lo.ok [] (by kernel_rfl) .nil rfl (.cons (λa H=>by kernel_rfl) .nil) λp s=>(.of @N9 (λF _ _ _ _ _=>by unfold N9;(repeat' apply k8 (f:=F))<;>rfl) (by kernel_rfl))
structure ka5 where
 alt:Nat
 is0:Int
def O6{α:Type}(kk:ka5->α)(x:ka0):α:=let t1:=(lp (Q0 (⟨rt tLq x.s9,(↑(List.length x.s9):Int)⟩:S7)) (⟨0⟩:A0));(sl ((cnE tLq x.s9)&&true) (sl (Nat.beq t1.1 1) (kk ⟨1,t1.2.is8⟩) (sl (Nat.beq t1.1 2) (kk ⟨1,-1⟩) (kk ⟨0,0⟩))) (kk ⟨0,0⟩))
def ya9(x:ka0):ka5:=O6 (λr=>r) x
def wa4(x:ka0)(r:ka5):DT (d7×List d8):=(.ite (Nat.beq r.alt 1) (.ret (i r.is0,[])) .fail)
theorem Sb5{α β:Type}(F:α->β)(kk:ka5->α)(x:ka0):F (O6 kk x)=O6 (λr=>F (kk r)) x:=by unfold O6;(repeat' apply k8 (f:=F))<;>rfl
def bb9:Sum:=Sa0 ⟨[sLq tLq,.s (.o (.fn 78))],[],λa H=>(⟨aLq tLq a 0⟩,())⟩ (λx=>wa4 x (ya9 x))
theorem Ob6:j6 prog G 77 bb9:=I1 (enc:=λx=>⟨[eL tLq x.s9,.fn 78 []],[]⟩) (λa H=>by kernel_rfl) (bd b77 Ib8) λx=>Ga2 (.s .p (.s (.s .p (.b (.u ta9.ls))) .p)) [ta9.pr] (by kernel_rfl) (.cons Eb7 .nil) (Qha (b:=O6 (λr=>(wa4 x r).run) x) (by kernel_rfl) (Sb5 (λr=>(wa4 x r).run) (λr=>r) x).symm)
structure aa7 where
 s9:LPq
def Ab7:List (Nat×Sum):=[(77,bb9)]
theorem vb8:j9 prog G Ab7:=⟨Ob6,trivial⟩
structure aa8 where
 alt:Nat
 bs0:Bool
def J8{α:Type}(kk:aa8->α)(x:aa7):α:=let t1:=(ya9 ⟨rt tLq x.s9⟩);(sl ((cnE tLq x.s9)&&true) (sl (Nat.beq t1.alt 1) (kk ⟨1,decide (t1.is0>=0)⟩) (kk ⟨0,false⟩)) (kk ⟨0,false⟩))
def qa8(x:aa7):aa8:=J8 (λr=>r) x
def oa8(x:aa7)(r:aa8):DT (d7×List d8):=(.ite (Nat.beq r.alt 1) (.ret (b r.bs0,[])) .fail)
theorem Eb8{α β:Type}(F:α->β)(kk:aa8->α)(x:aa7):F (J8 kk x)=J8 (λr=>F (kk r)) x:=by unfold J8;(repeat' apply k8 (f:=F))<;>rfl
def Oa3:Sum:=Sa0 ⟨[sLq tLq,.s (.o (.fn 78))],[],λa H=>(⟨aLq tLq a 0⟩,())⟩ (λx=>oa8 x (qa8 x))
theorem Ab8:j6 prog G 61 Oa3:=I1 (enc:=λx=>⟨[eL tLq x.s9,.fn 78 []],[]⟩) (λa H=>by kernel_rfl) (bd b61 vb8) λx=>B6 (Qha (b:=J8 (λr=>(oa8 x r).run) x) (by kernel_rfl) (Eb8 (λr=>(oa8 x r).run) (λr=>r) x).symm)
def Ud5:List (Nat×Sum):=[(61,Oa3)]
theorem Jd9:j9 prog G Ud5:=⟨Ab8,trivial⟩
def pb1(x:LPq):ROq:=let t1:=(qa8 ⟨rt tLq x⟩);(sl ((cnE tLq x)&&true) (sl (Nat.beq t1.alt 1) (some (b (!t1.bs0),[])) none) none)
def Ka9(x:LPq):Bool:=V2 (one r1B) (pb1 x)
def La0(x:LPq):Bool:=okO (one r1B) (pb1 x)
def Ib9:Sum:=ca1 (na2 tLq) (λx=>.guard (La0 x) (.ret ((one r1B).enc (Ka9 x),[])))
theorem Zb9:j6 prog G 63 Ib9:=ab0 (bd b63 Jd9) (one r1B) (o:=pb1) λx=>B6 (by kernel_rfl)
structure ua0 where
 (Fc6 Fc7 Fc8 Fc9 B3 m8 s5 v8:Int)
def fc4:List (Nat×Sum):=[(85,Wb3)]
theorem ac0:j9 prog G fc4:=⟨lc5,trivial⟩
structure fa6 where
 bs0:Bool
def fa7{α:Type}(kk:fa6->α)(x:ua0):α:=let t1:=(Ja4 (⟨(⟨x.B3,x.m8,x.s5⟩:V3),x.v8⟩:Pln) (⟨x.Fc6,x.Fc7,x.Fc8,x.Fc9⟩:Pt));(kk ⟨decide (t1>0)⟩)
def La1(x:ua0):fa6:=fa7 (λr=>r) x
def Ha2(x:ua0)(r:fa6):DT (d7×List d8):=.ret (b r.bs0,[⟨0,4,[[i x.B3,i x.m8,i x.s5,i x.v8]],true,false,0⟩])
theorem mc1{α β:Type}(F:α->β)(kk:fa6->α)(x:ua0):F (fa7 kk x)=fa7 (λr=>F (kk r)) x:=by unfold fa7;(repeat' apply k8 (f:=F))<;>rfl
def pb2:Sum:=Sa0 ⟨[.agg (kLq 4),sPq 0],[⟨0,4,true,some [kLq 4]⟩],λa H=>(⟨cIq a 0 0,cIq a 0 1,cIq a 0 2,cIq a 0 3,hIq H 0 0 0,hIq H 0 0 1,hIq H 0 0 2,hIq H 0 0 3⟩,())⟩ (λx=>Ha2 x (La1 x))
theorem fc5:j6 prog G 84 pb2:=I1 (enc:=λx=>⟨[.agg [i x.Fc6,i x.Fc7,i x.Fc8,i x.Fc9],.ptr 0 0 0 0],[⟨0,4,[[i x.B3,i x.m8,i x.s5,i x.v8]],true,false,0⟩]⟩) (λa H=>by kernel_rfl) (bd b84 ac0) λx=>B6 (Qha (b:=fa7 (λr=>(Ha2 x r).run) x) (by kernel_rfl) (mc1 (λr=>(Ha2 x r).run) (λr=>r) x).symm)
structure na5 where
 lb3:List Pt
 (B3 m8 s5 v8:Int)
def cb0:List (Nat×Sum):=[(84,pb2)]
theorem Ob7:j9 prog G cb0:=⟨fc5,trivial⟩
structure U4 where
 lb3:List Pt
 (is7 B3 m8 s5 v8:Int)
structure A9 where
 is8:Int
def Ta4(p:U4)(s:A9):St:=⟨eL tX p.lb3::.fn 84 [.ptr 0 0 0 0]::ra 5 (i p.is7::i s.is8::ra 10 []),[⟨0,4,[[i p.B3,i p.m8,i p.s5,i p.v8]],true,false,0⟩]⟩
def Q1{α:Type}(k:A9->α)(e:Nat->α)(z:α)(p:U4)(s:A9):α:=let y0:=(gL tX p.lb3 s.is8.toNat);let t1:=(La1 ⟨y0.px,y0.py,y0.pz,y0.pw,p.B3,p.m8,p.s5,p.v8⟩);(sl (decide (s.is8<p.is7)) (sl (inB s.is8 (List.length p.lb3)) (sl t1.bs0 (e 1) (k ⟨W (s.is8+1)⟩)) z) (e 2))
def S8(p:U4)(s:A9):Stp A9:=Q1 .next .exit .fail p s
def wa5:Lo U4 A9:=⟨En cb0,1,Uf6,[1,0,1,4,4],[0,1,7,8],.p,[⟨sLq tX::.fn 84 [.o (.ptr 0 0 0 0)]::ru2 5 (sIq::sIq::ru2 10 []),[⟨0,4,true,some [kLq 4]⟩],λa H=>(⟨aLq tX a 0,aIq a 7,hIq H 0 0 0,hIq H 0 0 1,hIq H 0 0 2,hIq H 0 0 3⟩,⟨aIq a 8⟩)⟩],S8,[(none,λp s=>⟨[i s.is8],[⟨0,4,[[i p.B3,i p.m8,i p.s5,i p.v8]],true,false,0⟩]⟩),(some 0,λp s=>upq (Ta4 p s) [(9,b (decide (s.is8<p.is7)))])],Ta4⟩
theorem Jb0:wa5.Ok:=Lo.ok [] (by kernel_rfl) .nil rfl (.cons (λa H=>by kernel_rfl) .nil) λp s=>(.of @Q1 (λF _ _ _ _ _=>by unfold Q1;(repeat' apply k8 (f:=F))<;>rfl) (by kernel_rfl))
structure na6 where
 alt:Nat
 is0:Int
def R4{α:Type}(kk:na6->α)(x:na5):α:=let t1:=(lp (S8 (⟨rt tX x.lb3,(↑(List.length x.lb3):Int),x.B3,x.m8,x.s5,x.v8⟩:U4)) (⟨0⟩:A9));(sl ((cnE tX x.lb3)&&true) (sl (Nat.beq t1.1 1) (kk ⟨1,t1.2.is8⟩) (sl (Nat.beq t1.1 2) (kk ⟨1,-1⟩) (kk ⟨0,0⟩))) (kk ⟨0,0⟩))
def Da6(x:na5):na6:=R4 (λr=>r) x
def za0(x:na5)(r:na6):DT (d7×List d8):=(.ite (Nat.beq r.alt 1) (.ret (i r.is0,[⟨0,4,[[i x.B3,i x.m8,i x.s5,i x.v8]],true,false,0⟩])) .fail)
theorem ac4{α β:Type}(F:α->β)(kk:na6->α)(x:na5):F (R4 kk x)=R4 (λr=>F (kk r)) x:=by unfold R4;(repeat' apply k8 (f:=F))<;>rfl
def eb5:Sum:=Sa0 ⟨[sLq tX,.fn 84 [.o (.ptr 0 0 0 0)]],[⟨0,4,true,some [kLq 4]⟩],λa H=>(⟨aLq tX a 0,hIq H 0 0 0,hIq H 0 0 1,hIq H 0 0 2,hIq H 0 0 3⟩,())⟩ (λx=>za0 x (Da6 x))
theorem Sb6:j6 prog G 104 eb5:=I1 (enc:=λx=>⟨[eL tX x.lb3,.fn 84 [.ptr 0 0 0 0]],[⟨0,4,[[i x.B3,i x.m8,i x.s5,i x.v8]],true,false,0⟩]⟩) (λa H=>by kernel_rfl) (bd wg2 Ob7) λx=>Ga2 (.s .p (.s (.s .p (.b (.u wa5.ls))) .p)) [wa5.pr] (by kernel_rfl) (.cons Jb0 .nil) (Qha (b:=R4 (λr=>(za0 x r).run) x) (by kernel_rfl) (ac4 (λr=>(za0 x r).run) (λr=>r) x).symm)
structure da7 where
 lb3:List Pt
 (B3 m8 s5 v8:Int)
def Eb9:List (Nat×Sum):=[(104,eb5)]
theorem Ab9:j9 prog G Eb9:=⟨Sb6,trivial⟩
structure da8 where
 alt:Nat
 bs0:Bool
def K8{α:Type}(kk:da8->α)(x:da7):α:=let t1:=(Da6 ⟨rt tX x.lb3,x.B3,x.m8,x.s5,x.v8⟩);(sl ((cnE tX x.lb3)&&true) (sl (Nat.beq t1.alt 1) (kk ⟨1,decide (t1.is0>=0)⟩) (kk ⟨0,false⟩)) (kk ⟨0,false⟩))
def ua1(x:da7):da8:=K8 (λr=>r) x
def qa9(x:da7)(r:da8):DT (d7×List d8):=(.ite (Nat.beq r.alt 1) (.ret (b r.bs0,[⟨0,4,[[i x.B3,i x.m8,i x.s5,i x.v8]],true,false,0⟩])) .fail)
theorem Jb1{α β:Type}(F:α->β)(kk:da8->α)(x:da7):F (K8 kk x)=K8 (λr=>F (kk r)) x:=by unfold K8;(repeat' apply k8 (f:=F))<;>rfl
def Ta5:Sum:=Sa0 ⟨[sLq tX,.fn 84 [.o (.ptr 0 0 0 0)]],[⟨0,4,true,some [kLq 4]⟩],λa H=>(⟨aLq tX a 0,hIq H 0 0 0,hIq H 0 0 1,hIq H 0 0 2,hIq H 0 0 3⟩,())⟩ (λx=>qa9 x (ua1 x))
theorem Fb0:j6 prog G 83 Ta5:=I1 (enc:=λx=>⟨[eL tX x.lb3,.fn 84 [.ptr 0 0 0 0]],[⟨0,4,[[i x.B3,i x.m8,i x.s5,i x.v8]],true,false,0⟩]⟩) (λa H=>by kernel_rfl) (bd b83 Ab9) λx=>B6 (Qha (b:=K8 (λr=>(qa9 x r).run) x) (by kernel_rfl) (Jb1 (λr=>(qa9 x r).run) (λr=>r) x).symm)
structure Ba2 where
 (Fc6 Fc7 Fc8 Fc9:Int)
 k9:List Pt
def uc1:List (Nat×Sum):=[(83,Ta5)]
theorem mc2:j9 prog G uc1:=⟨Fb0,trivial⟩
structure oa9 where
 alt:Nat
 bs0:Bool
def ca7{α:Type}(kk:oa9->α)(x:Ba2):α:=let t1:=(ua1 ⟨rt tX x.k9,x.Fc6,x.Fc7,x.Fc8,x.Fc9⟩);(sl ((cnE tX x.k9)&&true) (sl (Nat.beq t1.alt 1) (kk ⟨1,!t1.bs0⟩) (kk ⟨0,false⟩)) (kk ⟨0,false⟩))
def Ba3(x:Ba2):oa9:=ca7 (λr=>r) x
def Sa4(x:Ba2)(r:oa9):DT (d7×List d8):=(.ite (Nat.beq r.alt 1) (.ret (b r.bs0,[⟨0,1,[[eL tX x.k9]],true,false,0⟩])) .fail)
theorem Ac8{α β:Type}(F:α->β)(kk:oa9->α)(x:Ba2):F (ca7 kk x)=ca7 (λr=>F (kk r)) x:=by unfold ca7;(repeat' apply k8 (f:=F))<;>rfl
def Bb0:Sum:=Sa0 ⟨[.agg (kLq 4),sPq 0],[⟨0,1,true,some [[.c 4 (nL tX)]]⟩],λa H=>(⟨cIq a 0 0,cIq a 0 1,cIq a 0 2,cIq a 0 3,hLq tX H 0 0 0⟩,())⟩ (λx=>Sa4 x (Ba3 x))
theorem uc2:j6 prog G 82 Bb0:=I1 (enc:=λx=>⟨[.agg [i x.Fc6,i x.Fc7,i x.Fc8,i x.Fc9],.ptr 0 0 0 0],[⟨0,1,[[eL tX x.k9]],true,false,0⟩]⟩) (λa H=>by kernel_rfl) (bd b82 mc2) λx=>B6 (Qha (b:=ca7 (λr=>(Sa4 x r).run) x) (by kernel_rfl) (Ac8 (λr=>(Sa4 x r).run) (λr=>r) x).symm)
structure ka6 where
 j5:PLq
 k9:List Pt
def Wa1:List (Nat×Sum):=[(82,Bb0)]
theorem Jb2:j9 prog G Wa1:=⟨uc2,trivial⟩
structure S9 where
 j5:PLq
 is7:Int
structure A1 where
 is8:Int
 k9:List Pt
def Oa4(p:S9)(s:A1):St:=⟨eL tP p.j5::.fn 82 [.ptr 0 0 0 0]::ra 5 (i p.is7::i s.is8::ra 10 []),[⟨0,1,[[eL tX s.k9]],true,false,0⟩]⟩
def O0{α:Type}(k:A1->α)(e:Nat->α)(z:α)(p:S9)(s:A1):α:=let y0:=(gL tP p.j5 s.is8.toNat);let t1:=(Ba3 ⟨y0.n.x,y0.n.y,y0.n.z,y0.b,rt tX s.k9⟩);(sl (decide (s.is8<p.is7)) (sl (inB s.is8 (List.length p.j5)) (sl ((cnE tX s.k9)&&true) (sl (Nat.beq t1.alt 1) (sl t1.bs0 (e 1) (k ⟨W (s.is8+1),rt tX s.k9⟩)) z) z) z) (e 2))
def Q3(p:S9)(s:A1):Stp A1:=O0 .next .exit .fail p s
def ua2:Lo S9 A1:=⟨En Wa1,1,Uf5,[1,0,1,4,4],[0,1,7,8],.p,[⟨sLq tP::.fn 82 [.o (.ptr 0 0 0 0)]::ru2 5 (sIq::sIq::ru2 10 []),[⟨0,1,true,some [[.c 4 (nL tX)]]⟩],λa H=>(⟨aLq tP a 0,aIq a 7⟩,⟨aIq a 8,hLq tX H 0 0 0⟩)⟩],Q3,[(none,λp s=>⟨[i s.is8],[⟨0,1,[[eL tX (rt tX s.k9)]],true,false,0⟩]⟩),(some 0,λp s=>upq (Oa4 p s) [(9,b (decide (s.is8<p.is7)))])],Oa4⟩
theorem Fb1:ua2.Ok:=Lo.ok [] (by kernel_rfl) .nil rfl (.cons (λa H=>by kernel_rfl) .nil) λp s=>(.of @O0 (λF _ _ _ _ _=>by unfold O0;(repeat' apply k8 (f:=F))<;>rfl) (by kernel_rfl))
structure ka7 where
 alt:Nat
 is0:Int
 k9:List Pt
def O7{α:Type}(kk:ka7->α)(x:ka6):α:=let t1:=(lp (Q3 (⟨rt tP x.j5,(↑(List.length x.j5):Int)⟩:S9)) (⟨0,rt tX x.k9⟩:A1));(sl ((cnE tP x.j5)&&((cnE tX x.k9)&&true)) (sl (Nat.beq t1.1 1) (kk ⟨1,t1.2.is8,rt tX t1.2.k9⟩) (sl (Nat.beq t1.1 2) (kk ⟨1,-1,t1.2.k9⟩) (kk ⟨0,0,[]⟩))) (kk ⟨0,0,[]⟩))
def za1(x:ka6):ka7:=O7 (λr=>r) x
def wa6(x:ka6)(r:ka7):DT (d7×List d8):=(.ite (Nat.beq r.alt 1) (.ret (i r.is0,[⟨0,1,[[eL tX r.k9]],true,false,0⟩])) .fail)
theorem Sb7{α β:Type}(F:α->β)(kk:ka7->α)(x:ka6):F (O7 kk x)=O7 (λr=>F (kk r)) x:=by unfold O7;(repeat' apply k8 (f:=F))<;>rfl
def cb1:Sum:=Sa0 ⟨[sLq tP,.fn 82 [.o (.ptr 0 0 0 0)]],[⟨0,1,true,some [[.c 4 (nL tX)]]⟩],λa H=>(⟨aLq tP a 0,hLq tX H 0 0 0⟩,())⟩ (λx=>wa6 x (za1 x))
theorem Ob8:j6 prog G 103 cb1:=I1 (enc:=λx=>⟨[eL tP x.j5,.fn 82 [.ptr 0 0 0 0]],[⟨0,1,[[eL tX x.k9]],true,false,0⟩]⟩) (λa H=>by kernel_rfl) (bd wg1 Jb2) λx=>Ga2 (.s .p (.s (.s .p (.b (.u ua2.ls))) .p)) [ua2.pr] (by kernel_rfl) (.cons Fb1 .nil) (Qha (b:=O7 (λr=>(wa6 x r).run) x) (by kernel_rfl) (Sb7 (λr=>(wa6 x r).run) (λr=>r) x).symm)
structure aa9 where
 j5:PLq
 k9:List Pt
def Bb1:List (Nat×Sum):=[(103,cb1)]
theorem vb9:j9 prog G Bb1:=⟨Ob8,trivial⟩
structure ba0 where
 alt:Nat
 bs0:Bool
 k9:List Pt
def J9{α:Type}(kk:ba0->α)(x:aa9):α:=let t1:=(za1 ⟨rt tP x.j5,rt tX x.k9⟩);(sl ((cnE tP x.j5)&&((cnE tX x.k9)&&true)) (sl (Nat.beq t1.alt 1) (kk ⟨1,decide (t1.is0>=0),t1.k9⟩) (kk ⟨0,false,[]⟩)) (kk ⟨0,false,[]⟩))
def ra0(x:aa9):ba0:=J9 (λr=>r) x
def pa0(x:aa9)(r:ba0):DT (d7×List d8):=(.ite (Nat.beq r.alt 1) (.ret (b r.bs0,[⟨0,1,[[eL tX r.k9]],true,false,0⟩])) .fail)
theorem Fb2{α β:Type}(F:α->β)(kk:ba0->α)(x:aa9):F (J9 kk x)=J9 (λr=>F (kk r)) x:=by unfold J9;(repeat' apply k8 (f:=F))<;>rfl
def Oa5:Sum:=Sa0 ⟨[sLq tP,.fn 82 [.o (.ptr 0 0 0 0)]],[⟨0,1,true,some [[.c 4 (nL tX)]]⟩],λa H=>(⟨aLq tP a 0,hLq tX H 0 0 0⟩,())⟩ (λx=>pa0 x (ra0 x))
theorem Bb2:j6 prog G 81 Oa5:=I1 (enc:=λx=>⟨[eL tP x.j5,.fn 82 [.ptr 0 0 0 0]],[⟨0,1,[[eL tX x.k9]],true,false,0⟩]⟩) (λa H=>by kernel_rfl) (bd b81 vb9) λx=>B6 (Qha (b:=J9 (λr=>(pa0 x r).run) x) (by kernel_rfl) (Fb2 (λr=>(pa0 x r).run) (λr=>r) x).symm)
def Kc7:List (Nat×Sum):=[(80,Sa2),(81,Oa5)]
theorem Ac9:j9 prog G Kc7:=⟨ob1,Bb2,trivial⟩
def wa7(x:PLq):ROq:=let t1:=(la7 (rt tP x));let t2:=(ra0 ⟨rt tP x,rt tX t1⟩);(sl (okE tP x) (sl (la8 (rt tP x)) (sl ((cnE tP x)&&((cnE tX t1)&&true)) (sl (Nat.beq t2.alt 1) (some (b (!t2.bs0),[])) none) none) none) none)
def wa8(x:PLq):Bool:=V2 (one r1B) (wa7 x)
def wa9(x:PLq):Bool:=okO (one r1B) (wa7 x)
def jb0:Sum:=ca1 (na2 tP) (λx=>.guard (wa9 x) (.ret ((one r1B).enc (wa8 x),[])))
theorem Hb0:j6 prog G 65 jb0:=ab0 (bd b65 Ac9) (one r1B) (o:=wa7) λx=>B6 (by kernel_rfl)
def Kd0:List (Nat×Sum):=[(63,Ib9),(64,Ic6),(80,Sa2)]
theorem xd5:j9 prog G Kd0:=⟨Zb9,Tc0,ob1,trivial⟩
def eb6(x:PLq):ROq:=let t1:=(Ka9 [rt tP x]);let t2:=(vb6 [rt tP x]);let t3:=(la7 (rt tP t2));(sl ((okE tP x)&&true) (sl (La0 [rt tP x]) (sl (!t1) (some (.v (.slice none 0 0),[])) (sl ((okE tP x)&&true) (sl (vb7 [rt tP x]) (sl (okE tP t2) (sl (la8 (rt tP t2)) (some (eL tX t3,[])) none) none) none) none)) none) none)
def Ra0(x:PLq):List Pt:=V2 (one (r1L tX)) (eb6 x)
def Ra1(x:PLq):Bool:=okO (one (r1L tX)) (eb6 x)
def yb4:Sum:=ca1 (na2 tP) (λx=>.guard (Ra1 x) (.ret ((one (r1L tX)).enc (Ra0 x),[])))
theorem Ob9:j6 prog G 106 yb4:=ab0 (bd wg4 xd5) (one (r1L tX)) (o:=eb6) λx=>B6 (by kernel_rfl)
def ne2:List (Nat×Sum):=[(63,Ib9),(64,Ic6),(65,jb0)]
theorem Ud6:j9 prog G ne2:=⟨Zb9,Tc0,Hb0,trivial⟩
def Bb3(x:PLq):ROq:=let t1:=(Ka9 [rt tP x]);let t2:=(vb6 [rt tP x]);let t3:=(wa8 (rt tP t2));(sl ((okE tP x)&&true) (sl (La0 [rt tP x]) (sl t1 (sl ((okE tP x)&&true) (sl (vb7 [rt tP x]) (sl (okE tP t2) (sl (wa9 (rt tP t2)) (some (b t3,[])) none) none) none) none) (some (b false,[]))) none) none)
def Ba4(x:PLq):Bool:=V2 (one r1B) (Bb3 x)
def Ba5(x:PLq):Bool:=okO (one r1B) (Bb3 x)
def Wa2:Sum:=ca1 (na2 tP) (λx=>.guard (Ba5 x) (.ret ((one r1B).enc (Ba4 x),[])))
theorem ab3:j6 prog G 39 Wa2:=ab0 (bd b39 Ud6) (one r1B) (o:=Bb3) λx=>B6 (by kernel_rfl)
structure yb5 where
 (Fc6 Fc7 Fc8 Fc9:Int)
 k9:List Pt
def Bc0:List (Nat×Sum):=[(85,Wb3)]
theorem xd6:j9 prog G Bc0:=⟨lc5,trivial⟩
structure Oa6 where
 Gf4:List Pt
 is8:Int
 k9:List Pt
 (Ma5 Ma6 Ma7 Ma8:Int)
structure ba1 where
 (is4 is9:Int)
def fc6(p:Oa6)(s:ba1):St:=⟨.unk::.unk::.ptr 1 0 0 0::.unk::i s.is4::.unk::.unk::eL tX p.Gf4::i p.is8::i s.is9::ra 12 [],[⟨0,1,[[eL tX p.k9]],true,false,0⟩,⟨0,4,[[i p.Ma5,i p.Ma6,i p.Ma7,i p.Ma8]],true,false,0⟩]⟩
def Ba6{α:Type}(k:ba1->α)(e:Nat->α)(z:α)(p:Oa6)(s:ba1):α:=let t1:=(Ja4 (⟨(⟨p.Ma5,p.Ma6,p.Ma7⟩:V3),p.Ma8⟩:Pln) (gL tX p.Gf4 s.is9.toNat));(sl (decide (s.is9<p.is8)) (sl (inB s.is9 (List.length p.Gf4)) (sl (t1==0) (k ⟨W (s.is4+1),W (s.is9+1)⟩) (k ⟨s.is4,W (s.is9+1)⟩)) z) (e 1))
def Ha3(p:Oa6)(s:ba1):Stp ba1:=Ba6 .next .exit .fail p s
def Fb3:Lo Oa6 ba1:=⟨En Bc0,1,Uf8,[1,1,0,1,4,4],[2,4,7,8,9],.p,[⟨sUq::sUq::sPq 1::sUq::sIq::sUq::sUq::sLq tX::sIq::sIq::ru2 12 [],[⟨0,1,true,some [[.c 4 (nL tX)]]⟩,⟨0,4,true,some [kLq 4]⟩],λa H=>(⟨aLq tX a 7,aIq a 8,hLq tX H 0 0 0,hIq H 1 0 0,hIq H 1 0 1,hIq H 1 0 2,hIq H 1 0 3⟩,⟨aIq a 4,aIq a 9⟩)⟩],Ha3,[(some 0,λp s=>upq (fc6 p s) [(10,b (decide (s.is9<p.is8)))])],fc6⟩
theorem ld7:Fb3.Ok:=Lo.ok [] (by kernel_rfl) .nil rfl (.cons (λa H=>by kernel_rfl) .nil) λp s=>(.of @Ba6 (λF _ _ _ _ _=>by unfold Ba6;(repeat' apply k8 (f:=F))<;>rfl) (by kernel_rfl))
structure Ra2 where
 alt:Nat
 bs0:Bool
 k9:List Pt
def Ra3{α:Type}(kk:Ra2->α)(x:yb5):α:=let y0:=(rt tX x.k9);let t1:=(lp (Ha3 (⟨y0,(↑(List.length x.k9):Int),y0,x.Fc6,x.Fc7,x.Fc8,x.Fc9⟩:Oa6)) (⟨0,0⟩:ba1));(sl ((cnE tX x.k9)&&((cnE tX x.k9)&&true)) (sl (Nat.beq t1.1 1) (kk ⟨1,decide (t1.2.is4<3),y0⟩) (kk ⟨0,false,[]⟩)) (kk ⟨0,false,[]⟩))
def Da7(x:yb5):Ra2:=Ra3 (λr=>r) x
def Pb0(x:yb5)(r:Ra2):DT (d7×List d8):=(.ite (Nat.beq r.alt 1) (.ret (b r.bs0,[⟨0,1,[[eL tX r.k9]],true,false,0⟩])) .fail)
theorem Ud7{α β:Type}(F:α->β)(kk:Ra2->α)(x:yb5):F (Ra3 kk x)=Ra3 (λr=>F (kk r)) x:=by unfold Ra3;(repeat' apply k8 (f:=F))<;>rfl
def ac5:Sum:=Sa0 ⟨[.agg (kLq 4),sPq 0],[⟨0,1,true,some [[.c 4 (nL tX)]]⟩],λa H=>(⟨cIq a 0 0,cIq a 0 1,cIq a 0 2,cIq a 0 3,hLq tX H 0 0 0⟩,())⟩ (λx=>Pb0 x (Da7 x))
theorem Bc1:j6 prog G 108 ac5:=I1 (enc:=λx=>⟨[.agg [i x.Fc6,i x.Fc7,i x.Fc8,i x.Fc9],.ptr 0 0 0 0],[⟨0,1,[[eL tX x.k9]],true,false,0⟩]⟩) (λa H=>by kernel_rfl) (bd wg5 xd6) λx=>Ga2 (.s .p (.s .p (.s (.s .p (.b (.u Fb3.ls))) .p))) [Fb3.pr] (by kernel_rfl) (.cons ld7 .nil) (Qha (b:=Ra3 (λr=>(Pb0 x r).run) x) (by kernel_rfl) (Ud7 (λr=>(Pb0 x r).run) (λr=>r) x).symm)
structure ka8 where
 ns0:Nat
 eh0:List (List d7)
 H8:List Pt
def Wa3:List (Nat×Sum):=[(108,ac5)]
theorem Jb3:j9 prog G Wa3:=⟨Bc1,trivial⟩
structure T0 where
 ns0:Nat
 is7:Int
 eh0:List (List d7)
structure A2 where
 is8:Int
 H8:List Pt
def Oa7(p:T0)(s:A2):St:=⟨.sl 0 0 p.ns0 0::.fn 108 [.ptr 1 0 0 0]::ra 5 (i p.is7::i s.is8::ra 10 []),[⟨66,4,p.eh0,true,false,0⟩,⟨0,1,[[eL tX s.H8]],true,false,0⟩]⟩
def O1{α:Type}(k:A2->α)(e:Nat->α)(z:α)(p:T0)(s:A2):α:=let y0:=(rdR tP p.eh0 (0+s.is8.toNat));let t1:=(Da7 ⟨y0.n.x,y0.n.y,y0.n.z,y0.b,rt tX s.H8⟩);(sl (decide (s.is8<p.is7)) (sl (inB s.is8 p.ns0) (sl (ldR tP p.eh0 (0+s.is8.toNat)) (sl ((cnE tX s.H8)&&true) (sl (Nat.beq t1.alt 1) (sl t1.bs0 (e 1) (k ⟨W (s.is8+1),t1.k9⟩)) z) z) z) z) (e 2))
def Q4(p:T0)(s:A2):Stp A2:=O1 .next .exit .fail p s
def ua3:Lo T0 A2:=⟨En Wa3,2,Ae2,[1,0,1,4,4],[0,1,7,8],.p,[⟨.s (.o (.sl 0 0 (some 0) none))::.fn 108 [.o (.ptr 1 0 0 0)]::ru2 5 (sIq::sIq::ru2 10 []),[⟨66,4,true,none⟩,⟨0,1,true,some [[.c 4 (nL tX)]]⟩],λa H=>(⟨slN (slT a 0),aIq a 7,elT H 0⟩,⟨aIq a 8,hLq tX H 1 0 0⟩)⟩],Q4,[(none,λp s=>let t1:=(Da7 ⟨(rdR tP p.eh0 (0+s.is8.toNat)).n.x,(rdR tP p.eh0 (0+s.is8.toNat)).n.y,(rdR tP p.eh0 (0+s.is8.toNat)).n.z,(rdR tP p.eh0 (0+s.is8.toNat)).b,rt tX s.H8⟩);⟨[i s.is8],[⟨66,4,p.eh0,true,false,0⟩,⟨0,1,[[eL tX t1.k9]],true,false,0⟩]⟩),(some 0,λp s=>upq (Oa7 p s) [(9,b (decide (s.is8<p.is7)))])],Oa7⟩
theorem Fb4:ua3.Ok:=Lo.ok [] (by kernel_rfl) .nil rfl (.cons (λa H=>by kernel_rfl) .nil) λp s=>(.of @O1 (λF _ _ _ _ _=>by unfold O1;(repeat' apply k8 (f:=F))<;>rfl) (by kernel_rfl))
structure ka9 where
 alt:Nat
 is0:Int
 H8:List Pt
def O8{α:Type}(kk:ka9->α)(x:ka8):α:=let t1:=(lp (Q4 (⟨x.ns0,(↑x.ns0:Int),x.eh0⟩:T0)) (⟨0,rt tX x.H8⟩:A2));let y0:=(rdR tP x.eh0 (0+t1.2.is8.toNat));let t2:=(Da7 ⟨y0.n.x,y0.n.y,y0.n.z,y0.b,rt tX t1.2.H8⟩);(sl ((cnE tX x.H8)&&true) (sl (Nat.beq t1.1 1) (kk ⟨1,t1.2.is8,t2.k9⟩) (sl (Nat.beq t1.1 2) (kk ⟨1,-1,t1.2.H8⟩) (kk ⟨0,0,[]⟩))) (kk ⟨0,0,[]⟩))
def la0(x:ka8):ka9:=O8 (λr=>r) x
def xa0(x:ka8)(r:ka9):DT (d7×List d8):=(.ite (Nat.beq r.alt 1) (.ret (i r.is0,[⟨66,4,x.eh0,true,false,0⟩,⟨0,1,[[eL tX r.H8]],true,false,0⟩])) .fail)
theorem Sb8{α β:Type}(F:α->β)(kk:ka9->α)(x:ka8):F (O8 kk x)=O8 (λr=>F (kk r)) x:=by unfold O8;(repeat' apply k8 (f:=F))<;>rfl
def cb2:Sum:=Sa0 ⟨[.s (.o (.sl 0 0 (some 0) none)),.fn 108 [.o (.ptr 1 0 0 0)]],[⟨66,4,true,none⟩,⟨0,1,true,some [[.c 4 (nL tX)]]⟩],λa H=>(⟨slN (slT a 0),elT H 0,hLq tX H 1 0 0⟩,())⟩ (λx=>xa0 x (la0 x))
theorem Pb1:j6 prog G 118 cb2:=I1 (enc:=λx=>⟨[.sl 0 0 x.ns0 0,.fn 108 [.ptr 1 0 0 0]],[⟨66,4,x.eh0,true,false,0⟩,⟨0,1,[[eL tX x.H8]],true,false,0⟩]⟩) (λa H=>by kernel_rfl) (bd Mf7 Jb3) λx=>Ga2 (.s .p (.s (.s .p (.b (.u ua3.ls))) .p)) [ua3.pr] (by kernel_rfl) (.cons Fb4 .nil) (Qha (b:=O8 (λr=>(xa0 x r).run) x) (by kernel_rfl) (Sb8 (λr=>(xa0 x r).run) (λr=>r) x).symm)
structure la1 where
 ns0:Nat
 eh0:List (List d7)
 H8:List Pt
def Wa4:List (Nat×Sum):=[(118,cb2),(108,ac5)]
theorem Jb4:j9 prog G Wa4:=⟨Pb1,Bc1,trivial⟩
structure T1 where
 ns0:Nat
structure C6 where
 (is5 is6:Int)
 eh0:List (List d7)
 H8:List Pt
def Oa8(p:T1)(s:C6):St:=⟨.sl 0 0 p.ns0 0::.fn 108 [.ptr 1 0 0 0]::ra 3 (i s.is5::i s.is6::ra 35 []),[⟨66,4,s.eh0,true,false,0⟩,⟨0,1,[[eL tX s.H8]],true,false,0⟩]⟩
def O2{α:Type}(k:C6->α)(e:Nat->α)(z:α)(p:T1)(s:C6):α:=let y0:=(rdR tP s.eh0 (0+s.is6.toNat));let t1:=(Da7 ⟨y0.n.x,y0.n.y,y0.n.z,y0.b,rt tX s.H8⟩);(sl (decide (s.is6<(↑p.ns0:Int))) (sl (inB s.is6 p.ns0) (sl (ldR tP s.eh0 (0+s.is6.toNat)) (sl ((cnE tX s.H8)&&true) (sl (Nat.beq t1.alt 1) (sl (!t1.bs0) (sl (inB s.is5 p.ns0) (sl ((Nat.blt (0+s.is5.toNat) (len s.eh0))&&(Nat.ble (0+4) (len (g8 s.eh0 (0+s.is5.toNat))))) (k ⟨W (s.is5+1),W (s.is6+1),setAt s.eh0 (0+s.is5.toNat) (L0 (g8 s.eh0 (0+s.is5.toNat)) 0 [i y0.n.x,i y0.n.y,i y0.n.z,i y0.b]),t1.k9⟩) z) z) (k ⟨s.is5,W (s.is6+1),s.eh0,t1.k9⟩)) z) z) z) z) (e 1))
def K0(p:T1)(s:C6):Stp C6:=O2 .next .exit .fail p s
def ua4:Lo T1 C6:=⟨En Wa4,2,Uf7,[1,1,1,0,1,4,4],[0,1,5,6],.p,[⟨.s (.o (.sl 0 0 (some 0) none))::.fn 108 [.o (.ptr 1 0 0 0)]::ru2 3 (sIq::sIq::ru2 35 []),[⟨66,4,true,none⟩,⟨0,1,true,some [[.c 4 (nL tX)]]⟩],λa H=>(⟨slN (slT a 0)⟩,⟨aIq a 5,aIq a 6,elT H 0,hLq tX H 1 0 0⟩)⟩],K0,[(some 0,λp s=>upq (Oa8 p s) [(16,i s.is6),(17,.sl 0 0 p.ns0 0),(18,i (↑p.ns0:Int)),(19,b (decide (s.is6<(↑p.ns0:Int))))])],Oa8⟩
theorem Fb5:ua4.Ok:=Lo.ok [] (by kernel_rfl) .nil rfl (.cons (λa H=>by kernel_rfl) .nil) λp s=>(.of @O2 (λF _ _ _ _ _=>by unfold O2;(repeat' apply k8 (f:=F))<;>rfl) (by kernel_rfl))
structure la2 where
 (alt ns0:Nat)
 eh0:List (List d7)
 H8:List Pt
def O9{α:Type}(kk:la2->α)(x:la1):α:=let t1:=(la0 ⟨x.ns0,x.eh0,rt tX x.H8⟩);let t2:=(lp (K0 (⟨x.ns0⟩:T1)) (⟨t1.is0,W (t1.is0+1),x.eh0,rt tX t1.H8⟩:C6));(sl ((cnE tX x.H8)&&true) (sl (Nat.beq t1.alt 1) (sl (t1.is0==(-1)) (kk ⟨1,x.ns0,x.eh0,t1.H8⟩) (sl ((cnE tX t1.H8)&&true) (sl (Nat.beq t2.1 1) (sl (inB t2.2.is5 (x.ns0+1)) (sl (inB t2.2.is5 (x.ns0+1)) (kk ⟨1,t2.2.is5.toNat-0,app (H9 t2.2.eh0 (0+t2.2.is5.toNat)) (app (List.replicate (x.ns0-t2.2.is5.toNat) [i 0,i 0,i 0,i 0]) (l4 t2.2.eh0 ((0+t2.2.is5.toNat)+(x.ns0-t2.2.is5.toNat)))),t2.2.H8⟩) (kk ⟨0,0,[],[]⟩)) (kk ⟨0,0,[],[]⟩)) (kk ⟨0,0,[],[]⟩)) (kk ⟨0,0,[],[]⟩))) (kk ⟨0,0,[],[]⟩)) (kk ⟨0,0,[],[]⟩))
def P0(x:la1):la2:=O9 (λr=>r) x
def xa1(x:la1)(r:la2):DT (d7×List d8):=(.ite (Nat.beq r.alt 1) (.ret (.sl 0 0 r.ns0 0,[⟨66,4,r.eh0,true,false,0⟩,⟨0,1,[[eL tX r.H8]],true,false,0⟩])) .fail)
theorem Sb9{α β:Type}(F:α->β)(kk:la2->α)(x:la1):F (O9 kk x)=O9 (λr=>F (kk r)) x:=by unfold O9;(repeat' apply k8 (f:=F))<;>rfl
def za2:Sum:=Sa0 ⟨[.s (.o (.sl 0 0 (some 0) none)),.fn 108 [.o (.ptr 1 0 0 0)]],[⟨66,4,true,none⟩,⟨0,1,true,some [[.c 4 (nL tX)]]⟩],λa H=>(⟨slN (slT a 0),elT H 0,hLq tX H 1 0 0⟩,())⟩ (λx=>xa1 x (P0 x))
theorem Wa5:j6 prog G 107 za2:=I1 (enc:=λx=>⟨[.sl 0 0 x.ns0 0,.fn 108 [.ptr 1 0 0 0]],[⟨66,4,x.eh0,true,false,0⟩,⟨0,1,[[eL tX x.H8]],true,false,0⟩]⟩) (λa H=>by kernel_rfl) (bd ng6 Jb4) λx=>Ga2 (.s .p (.s .p (.s .p (.s (.s .p (.b (.u ua4.ls))) .p)))) [ua4.pr] (by kernel_rfl) (.cons Fb5 .nil) (Qha (b:=O9 (λr=>(xa1 x r).run) x) (by kernel_rfl) (Sb9 (λr=>(xa1 x r).run) (λr=>r) x).symm)
structure ua5 where
 ns0:Nat
 eh0:List (List d7)
def Ha4:List (Nat×Sum):=[]
theorem ac6:j9 prog G Ha4:=trivial
structure K5 where
 (ns0 os4 ns4:Nat)
structure A6 where
 (is3 is5:Int)
 eh0:List (List d7)
def cb3(p:K5)(s:A6):St:=⟨.sl 0 0 p.ns0 0::.unk::.unk::i s.is3::.sl 0 p.os4 p.ns4 0::i s.is5::ra 55 [],[⟨66,4,s.eh0,true,false,0⟩]⟩
def U5{α:Type}(k:A6->α)(e:Nat->α)(z:α)(p:K5)(s:A6):α:=let y2:=(p.os4+s.is5.toNat);let y1:=(rdR tP s.eh0 (p.os4+(W (s.is5-1)).toNat));let y0:=(rdR tP s.eh0 y2);(sl (decide (s.is5<(↑p.ns4:Int))) (sl (inB s.is5 p.ns4) (sl (ldR tP s.eh0 y2) (sl (inB (W (s.is5-1)) p.ns4) (sl (ldR tP s.eh0 (p.os4+(W (s.is5-1)).toNat)) (sl (!((y0.n.x==y1.n.x)&&((y0.n.y==y1.n.y)&&((y0.n.z==y1.n.z)&&((y0.b==y1.b)&&true))))) (sl (inB s.is5 p.ns4) (sl (ldR tP s.eh0 y2) (sl (inB s.is3 p.ns0) (sl ((Nat.blt (0+s.is3.toNat) (len s.eh0))&&(Nat.ble (0+4) (len (g8 s.eh0 (0+s.is3.toNat))))) (k ⟨W (s.is3+1),W (s.is5+1),setAt s.eh0 (0+s.is3.toNat) (L0 (g8 s.eh0 (0+s.is3.toNat)) 0 [i y0.n.x,i y0.n.y,i y0.n.z,i y0.b])⟩) z) z) z) z) (k ⟨s.is3,W (s.is5+1),s.eh0⟩)) z) z) z) z) (e 1))
def B9(p:K5)(s:A6):Stp A6:=U5 .next .exit .fail p s
def Da8:Lo K5 A6:=⟨En Ha4,1,xf1,[1,1,0,1,4,4,1,0,4,1,2,1,0,1,4,4],[0,3,4,5],.p,[⟨.s (.o (.sl 0 0 (some 0) none))::sUq::sUq::sIq::.s (.o (.sl 0 0 none none))::sIq::ru2 55 [],[⟨66,4,true,none⟩],λa H=>(⟨slN (slT a 0),slO (slT a 4),slN (slT a 4)⟩,⟨aIq a 3,aIq a 5,elT H 0⟩)⟩],B9,[(some 2,λp s=>upq (cb3 p s) [(29,i s.is5),(30,.sl 0 p.os4 p.ns4 0),(31,i (↑p.ns4:Int)),(32,b (decide (s.is5<(↑p.ns4:Int))))])],cb3⟩
theorem Tb0:Da8.Ok:=Lo.ok [] (by kernel_rfl) .nil rfl (.cons (λa H=>by kernel_rfl) .nil) λp s=>(.of @U5 (λF _ _ _ _ _=>by unfold U5;(repeat' apply k8 (f:=F))<;>rfl) (by kernel_rfl))
structure Z4 where
 ns0:Nat
 eh0:List (List d7)
structure D0 where
 is3:Int
def cb4(p:Z4)(s:D0):St:=⟨.sl 0 0 p.ns0 0::.unk::.unk::i s.is3::ra 57 [],[⟨66,4,p.eh0,true,false,0⟩]⟩
def U6{α:Type}(k:D0->α)(e:Nat->α)(z:α)(p:Z4)(s:D0):α:=let y1:=(rdR tP p.eh0 (0+s.is3.toNat));let y0:=(rdR tP p.eh0 (0+(W (s.is3-1)).toNat));let t1:=(lp (B9 (⟨p.ns0,0+s.is3.toNat,p.ns0-s.is3.toNat⟩:K5)) (⟨s.is3,1,p.eh0⟩:A6));(sl (decide (s.is3<(↑p.ns0:Int))) (sl (inB s.is3 p.ns0) (sl (ldR tP p.eh0 (0+s.is3.toNat)) (sl (inB (W (s.is3-1)) p.ns0) (sl (ldR tP p.eh0 (0+(W (s.is3-1)).toNat)) (sl ((y1.n.x==y0.n.x)&&((y1.n.y==y0.n.y)&&((y1.n.z==y0.n.z)&&((y1.b==y0.b)&&true)))) (sl (inB s.is3 (p.ns0+1)) (sl (Nat.beq t1.1 1) (sl (inB t1.2.is3 (p.ns0+1)) (sl (inB t1.2.is3 (p.ns0+1)) (e 1) z) z) z) z) (k ⟨W (s.is3+1)⟩)) z) z) z) z) (e 2))
def X5(p:Z4)(s:D0):Stp D0:=U6 .next .exit .fail p s
def Da9:Lo Z4 D0:=⟨En Ha4,1,xf1,[1,1,0,1,4,4],[0,3],.s .p (.s (.b (.s .p (.c (.s .p (.s (.s .p (.b (.u Da8.ls))) .p)) .p))) .p),[⟨.s (.o (.sl 0 0 (some 0) none))::sUq::sUq::sIq::ru2 57 [],[⟨66,4,true,none⟩],λa H=>(⟨slN (slT a 0),elT H 0⟩,⟨aIq a 3⟩)⟩],X5,[(none,λp s=>let t1:=(lp (B9 (⟨p.ns0,0+s.is3.toNat,p.ns0-s.is3.toNat⟩:K5)) (⟨s.is3,1,p.eh0⟩:A6));⟨[.sl 0 0 (t1.2.is3.toNat-0) 0],[⟨66,4,app (H9 t1.2.eh0 (0+t1.2.is3.toNat)) (app (List.replicate (p.ns0-t1.2.is3.toNat) [i 0,i 0,i 0,i 0]) (l4 t1.2.eh0 ((0+t1.2.is3.toNat)+(p.ns0-t1.2.is3.toNat)))),true,false,0⟩]⟩),(some 0,λp s=>upq (cb4 p s) [(10,i s.is3),(11,.sl 0 0 p.ns0 0),(12,i (↑p.ns0:Int)),(13,b (decide (s.is3<(↑p.ns0:Int))))])],cb4⟩
theorem Tb1:Da9.Ok:=Lo.ok [Da8.pr] (by kernel_rfl) (.cons Tb0 .nil) rfl (.cons (λa H=>by kernel_rfl) .nil) λp s=>(.of @U6 (λF _ _ _ _ _=>by unfold U6;(repeat' apply k8 (f:=F))<;>rfl) (by kernel_rfl))
structure ua6 where
 (alt ns0:Nat)
 eh0:List (List d7)
def V9{α:Type}(kk:ua6->α)(x:ua5):α:=let t1:=(lp (X5 (⟨x.ns0,x.eh0⟩:Z4)) (⟨1⟩:D0));let t2:=(lp (B9 (⟨x.ns0,0+t1.2.is3.toNat,x.ns0-t1.2.is3.toNat⟩:K5)) (⟨t1.2.is3,1,x.eh0⟩:A6));(sl (decide ((↑x.ns0:Int)<2)) (kk ⟨1,x.ns0,x.eh0⟩) (sl (Nat.beq t1.1 1) (kk ⟨1,t2.2.is3.toNat-0,app (H9 t2.2.eh0 (0+t2.2.is3.toNat)) (app (List.replicate (x.ns0-t2.2.is3.toNat) [i 0,i 0,i 0,i 0]) (l4 t2.2.eh0 ((0+t2.2.is3.toNat)+(x.ns0-t2.2.is3.toNat))))⟩) (sl (Nat.beq t1.1 2) (kk ⟨1,x.ns0,x.eh0⟩) (kk ⟨0,0,[]⟩))))
def fa8(x:ua5):ua6:=V9 (λr=>r) x
def Ha5(x:ua5)(r:ua6):DT (d7×List d8):=(.ite (Nat.beq r.alt 1) (.ret (.sl 0 0 r.ns0 0,[⟨66,4,r.eh0,true,false,0⟩])) .fail)
theorem mc3{α β:Type}(F:α->β)(kk:ua6->α)(x:ua5):F (V9 kk x)=V9 (λr=>F (kk r)) x:=by unfold V9;(repeat' apply k8 (f:=F))<;>rfl
def La2:Sum:=Sa0 ⟨[.s (.o (.sl 0 0 (some 0) none))],[⟨66,4,true,none⟩],λa H=>(⟨slN (slT a 0),elT H 0⟩,())⟩ (λx=>Ha5 x (fa8 x))
theorem kb2:j6 prog G 111 La2:=I1 (enc:=λx=>⟨[.sl 0 0 x.ns0 0],[⟨66,4,x.eh0,true,false,0⟩]⟩) (λa H=>by kernel_rfl) (bd ng7 ac6) λx=>Ga2 (.s .p (.s .p (.s (.s .p (.b (.u Da9.ls))) .p))) [Da9.pr] (by kernel_rfl) (.cons Tb1 .nil) (Qha (b:=V9 (λr=>(Ha5 x r).run) x) (by kernel_rfl) (mc3 (λr=>(Ha5 x r).run) (λr=>r) x).symm)
def Kd1:List (Nat×Sum):=[]
theorem xd7:j9 prog G Kd1:=trivial
def eb7(x:Int)(y:Int):ROq:=(sl (decide (x<y)) (some (i (-1),[])) (sl (decide (x>y)) (some (i 1,[])) (some (i 0,[]))))
def Ea0(x:Int)(y:Int):Int:=V2 (one r1I) (eb7 x y)
def Ea1(x:Int)(y:Int):Bool:=okO (one r1I) (eb7 x y)
def Oc7:Sum:=ta3 cI cI (λx y=>.guard (Ea1 x y) (.ret ((one r1I).enc (Ea0 x y),[])))
theorem Kd2:j6 prog G 132 Oc7:=ub3 (bd yg4 xd7) (one r1I) (o:=eb7) λx y=>B6 (by kernel_rfl)
def ld8:List (Nat×Sum):=[(132,Oc7)]
theorem cd1:j9 prog G ld8:=⟨Kd2,trivial⟩
def Oa9(x:Pln)(y:Pln):ROq:=let t1:=(Ea0 x.n.x y.n.x);let t2:=(Ea0 x.n.y y.n.y);let t3:=(Ea0 x.n.z y.n.z);let t4:=(Ea0 x.b y.b);(sl (Ea1 x.n.x y.n.x) (sl (t1==0) (sl (Ea1 x.n.y y.n.y) (sl (t2==0) (sl (Ea1 x.n.z y.n.z) (sl (t3==0) (sl (Ea1 x.b y.b) (sl (t4==0) (some (i t4,[])) (some (i t4,[]))) none) (some (i t3,[]))) none) (some (i t2,[]))) none) (some (i t1,[]))) none)
def gb6(x:Pln)(y:Pln):Int:=V2 (one r1I) (Oa9 x y)
def gb7(x:Pln)(y:Pln):Bool:=okO (one r1I) (Oa9 x y)
def Fb6:Sum:=ta3 (ya7 tP) (ya7 tP) (λx y=>.guard (gb7 x y) (.ret ((one r1I).enc (gb6 x y),[])))
theorem ld9:j6 prog G 110 Fb6:=ub3 (bd wg7 cd1) (one r1I) (o:=Oa9) λx y=>B6 (by kernel_rfl)
def Ud8:List (Nat×Sum):=[(63,Ib9),(64,Ic6),(65,jb0)]
theorem Kd3:j9 prog G Ud8:=⟨Zb9,Tc0,Hb0,trivial⟩
def pb3(x:PLq)(y:PLq):ROq:=let y0:=((okE tP x)&&((okE tP y)&&true));let t1:=(Ka9 [rt tP x,rt tP y]);let t2:=(vb6 [rt tP x,rt tP y]);let t3:=(wa8 (rt tP t2));(sl y0 (sl (La0 [rt tP x,rt tP y]) (sl (!t1) (some (b true,[])) (sl y0 (sl (vb7 [rt tP x,rt tP y]) (sl (okE tP t2) (sl (wa9 (rt tP t2)) (some (b (!t3),[])) none) none) none) none)) none) none)
def La3(x:PLq)(y:PLq):Bool:=V2 (one r1B) (pb3 x y)
def La4(x:PLq)(y:PLq):Bool:=okO (one r1B) (pb3 x y)
def Jb5:Sum:=ta3 (na2 tP) (na2 tP) (λx y=>.guard (La4 x y) (.ret ((one r1B).enc (La3 x y),[])))
theorem ac7:j6 prog G 28 Jb5:=ub3 (bd b28 Kd3) (one r1B) (o:=pb3) λx y=>B6 (by kernel_rfl)
def Be7:List (Nat×Sum):=[]
theorem ne3:j9 prog G Be7:=trivial
structure mc4 where
 (v8 rb9 sb0 sb1 sb2 sb3:Int)
def Pb2{α:Type}(kk:mc4->α)(x:V3)(y:V3):α:=(kk ⟨y.x,W (0-x.x),y.y,W (0-x.y),y.z,W (0-x.z)⟩)
def La5(x:V3)(y:V3):mc4:=Pb2 (λr=>r) x y
def Bc2(r:mc4):DT (d7×List d8):=.ret (.sl 0 0 6 0,[⟨66,4,[[i 1,i 0,i 0,i r.v8],[i (-1),i 0,i 0,i r.rb9],[i 0,i 1,i 0,i r.sb0],[i 0,i (-1),i 0,i r.sb1],[i 0,i 0,i 1,i r.sb2],[i 0,i 0,i (-1),i r.sb3]],true,false,0⟩])
theorem Qe6{α β:Type}(F:α->β)(kk:mc4->α)(x:V3)(y:V3):F (Pb2 kk x y)=Pb2 (λr=>F (kk r)) x y:=by unfold Pb2;(repeat' apply k8 (f:=F))<;>rfl
def mc5:Sum:=ta3 (ya7 tV) (ya7 tV) (λx y=>Bc2 (La5 x y))
theorem Bc3:j6 prog G 36 mc5:=Ta3 (bd b36 ne3) λx y=>B6 (Qha (b:=Pb2 (λr=>(Bc2 r).run) x y) (by kernel_rfl) (Qe6 (λr=>(Bc2 r).run) (λr=>r) x y).symm)
end Go.Ev.Ce
namespace Go.Proofs
open Go.Shelf
set_option maxRecDepth 100000 in
def Ce.sortLay_ren:Go.Shelf.Ren:=⟨fun | 6=>109 | 15=>131 | 14=>130 | 28=>152 | 29=>153 | 20=>144 | 21=>145 | 22=>146 | 23=>147 | 24=>148 | 25=>149 | 26=>150 | 27=>151 | 46=>155 | 47=>156 | 48=>157 | 49=>158 | 50=>159 | 57=>160 | n=>n,fun | 22=>35 | 24=>66 | 25=>136 | 3=>3 | 39=>154 | 0=>0 | 53=>166 | 55=>168 | 4=>4 | 46=>159 | 45=>158 | 50=>163 | 5=>5 | 9=>9 | 66=>170 | 70=>174 | 76=>176 | 77=>177 | n=>n,fun | n=>n⟩
set_option maxRecDepth 100000 in
theorem Ce.sortLay:Go.Proofs.SlLaysF0.n6 Tryz.prog Ce.sortLay_ren:={
 mixed:=by kernel_rfl
 f6:=⟨Tryz.f109.name,by decide,Tryz.func109.trans (congrArg some (by kernel_rfl))⟩
 f14:=⟨Tryz.f130.name,by decide,Tryz.func130.trans (congrArg some (by kernel_rfl))⟩
 f15:=Tryz.func131.trans (congrArg some (by kernel_rfl))
 f20:=⟨Tryz.f144.name,by decide,Tryz.func144.trans (congrArg some (by kernel_rfl))⟩
 f21:=⟨Tryz.f145.name,by decide,Tryz.func145.trans (congrArg some (by kernel_rfl))⟩
 f22:=⟨Tryz.f146.name,by decide,Tryz.func146.trans (congrArg some (by kernel_rfl))⟩
 f23:=⟨Tryz.f147.name,by decide,Tryz.func147.trans (congrArg some (by kernel_rfl))⟩
 f24:=⟨Tryz.f148.name,by decide,Tryz.func148.trans (congrArg some (by kernel_rfl))⟩
 f25:=⟨Tryz.f149.name,by decide,Tryz.func149.trans (congrArg some (by kernel_rfl))⟩
 f26:=⟨Tryz.f150.name,by decide,Tryz.func150.trans (congrArg some (by kernel_rfl))⟩
 f27:=⟨Tryz.f151.name,by decide,Tryz.func151.trans (congrArg some (by kernel_rfl))⟩
 f28:=Tryz.func152.trans (congrArg some (by kernel_rfl))
 f29:=Tryz.func153.trans (congrArg some (by kernel_rfl))
 f46:=⟨Tryz.f155.name,by decide,Tryz.func155.trans (congrArg some (by kernel_rfl))⟩
 f47:=Tryz.func156.trans (congrArg some (by kernel_rfl))
 f48:=Tryz.func157.trans (congrArg some (by kernel_rfl))
 f49:=⟨Tryz.f158.name,by decide,Tryz.func158.trans (congrArg some (by kernel_rfl))⟩
 f50:=⟨Tryz.f159.name,by decide,Tryz.func159.trans (congrArg some (by kernel_rfl))⟩
 f57:=⟨Tryz.f160.name,by decide,Tryz.func160.trans (congrArg some (by kernel_rfl))⟩
 t0:=Tryz.underlying0
 a0:=Tryz.isAgg0
 z0:=Tryz.sizeOf0
 v0:=Tryz.zeroValue0
 t3:=Tryz.underlying3
 a3:=Tryz.isAgg3
 z3:=Tryz.sizeOf3
 v3:=Tryz.zeroValue3
 t4:=Tryz.underlying4
 a4:=Tryz.isAgg4
 z4:=Tryz.sizeOf4
 v4:=Tryz.zeroValue4
 t5:=Tryz.underlying5
 a5:=Tryz.isAgg5
 z5:=Tryz.sizeOf5
 v5:=Tryz.zeroValue5
 t9:=Tryz.underlying9
 a9:=Tryz.isAgg9
 z9:=Tryz.sizeOf9
 v9:=Tryz.zeroValue9
 t22:=Tryz.underlying35
 a22:=Tryz.isAgg35
 z22:=Tryz.sizeOf35
 v22:=Tryz.zeroValue35
 t25:=Tryz.underlying136
 a25:=Tryz.isAgg136
 z25:=Tryz.sizeOf136
 v25:=Tryz.zeroValue136
 t39:=Tryz.underlying154
 a39:=Tryz.isAgg154
 z39:=Tryz.sizeOf154
 v39:=Tryz.zeroValue154
 t45:=Tryz.underlying158
 a45:=Tryz.isAgg158
 z45:=Tryz.sizeOf158
 v45:=Tryz.zeroValue158
 t46:=Tryz.underlying159
 a46:=Tryz.isAgg159
 z46:=Tryz.sizeOf159
 v46:=Tryz.zeroValue159
 t50:=Tryz.underlying163
 a50:=Tryz.isAgg163
 z50:=Tryz.sizeOf163
 v50:=Tryz.zeroValue163
 t53:=Tryz.underlying166
 a53:=Tryz.isAgg166
 z53:=Tryz.sizeOf166
 v53:=Tryz.zeroValue166
 t55:=Tryz.underlying168
 a55:=Tryz.isAgg168
 z55:=Tryz.sizeOf168
 v55:=Tryz.zeroValue168
 t66:=Tryz.underlying170
 a66:=Tryz.isAgg170
 z66:=Tryz.sizeOf170
 v66:=Tryz.zeroValue170
 t70:=Tryz.underlying174
 a70:=Tryz.isAgg174
 z70:=Tryz.sizeOf174
 v70:=Tryz.zeroValue174
 t76:=Tryz.underlying176
 a76:=Tryz.isAgg176
 z76:=Tryz.sizeOf176
 v76:=Tryz.zeroValue176
 t77:=Tryz.underlying177
 a77:=Tryz.isAgg177
 z77:=Tryz.sizeOf177
 v77:=Tryz.zeroValue177 }
end Go.Proofs
namespace Go.Ev.Ce
open Go Go.Ev Go.Ev.L Go.Proofs Go.Sort
def cd2(x y:Int):Int:=if x<y then -1 else if x>y then 1 else 0
def Tb2(x y:Pln):Int :=
 if cd2 x.n.x y.n.x=0 then if cd2 x.n.y y.n.y=0 then if cd2 x.n.z y.n.z=0 then cd2 x.b y.b else cd2 x.n.z y.n.z else cd2 x.n.y y.n.y else cd2 x.n.x y.n.x
theorem Bd6(x y:Int):cd2 x y<0↔x<y:=by unfold cd2;split<;>(try split)<;>omega
theorem ne4(x y:Int):cd2 x y=0↔x=y:=by unfold cd2;split<;>(try split)<;>omega
def LtP(x y:Pln):Prop:=x.n.x<y.n.x\/x.n.x=y.n.x/\(x.n.y<y.n.y\/x.n.y=y.n.y/\(x.n.z<y.n.z\/x.n.z=y.n.z/\x.b<y.b))
instance(x y:Pln):Decidable (LtP x y):=by unfold LtP;exact inferInstance
theorem ne5(x y:Pln):Tb2 x y<0↔LtP x y:=by
 have h1:=Bd6 x.n.x y.n.x;have h2:=ne4 x.n.x y.n.x;have h3:=Bd6 x.n.y y.n.y;have h4:=ne4 x.n.y y.n.y;have h5:=Bd6 x.n.z y.n.z;have h6:=ne4 x.n.z y.n.z;have h7:=Bd6 x.b y.b;unfold Tb2 LtP;split
 ·split
  ·split<;>omega
  ·omega
 ·omega
theorem wb0(x y:Pln):ltOf Tb2 x y=decide (LtP x y):=by
 unfold ltOf;rw[decide_eq_decide];exact ne5 x y
theorem ng9:SWO (ltOf Tb2) where
 irrefl x:=by rw[wb0];simp[LtP]
 trans x y z h1 h2:=by rw[wb0,decide_eq_true_eq] at *;unfold LtP at *;omega
 ntrans x y z h1 h2:=by rw[wb0,decide_eq_false_iff_not] at *;unfold LtP at *;omega
theorem zg7(x y:Pln)(h1:ltOf Tb2 x y=false)(h2:ltOf Tb2 y x=false):x=y:=by
 rw[wb0,decide_eq_false_iff_not] at *
 unfold LtP at *
 obtain⟨⟨a,b,c⟩,d⟩:=x;obtain⟨⟨a',b',c'⟩,d'⟩:=y
 simp only at *
 have:a=a'/\b=b'/\c=c'/\d=d':=by omega
 obtain⟨rfl,rfl,rfl,rfl⟩:=this;rfl
theorem Be8(x y:Int):eb7 x y=some (i (cd2 x y),[]):=by
 unfold eb7 cd2;simp only[Mb6,decide_eq_true_eq]
 split<;>(try split)<;>rfl
theorem Mf8(x y:Int):Ea0 x y=cd2 x y:=by unfold Ea0;rw[Be8];rfl
theorem Mf9(x y:Int):Ea1 x y=true:=by unfold Ea1;rw[Be8];rfl
theorem Kd4(x y:Pln):Oa9 x y=some (i (Tb2 x y),[]):=by
 unfold Oa9 Tb2;simp only[Mf8,Mf9,Mb6,beq_iff_eq,if_true]
 repeat' (first | rfl | split)
theorem og0(x y:Pln):gb6 x y=Tb2 x y:=by unfold gb6;rw[Kd4];rfl
theorem og1(x y:Pln):gb7 x y=true:=by unfold gb7;rw[Kd4];rfl
theorem og2(x y:Pln):(Fb6 [.agg (tP.row x),.agg (tP.row y)] []).run=some (i (Tb2 x y),[]):=by
 have:(Fb6 [.agg (tP.row x),.agg (tP.row y)] []).run=sel (gb7 x y) (some (i (gb6 x y),[])) none:=by kernel_rfl
 rw[this,og1,og0]
def kd1(p:Pln):List Value:=[.int .i64 p.n.x,.int .i64 p.n.y,.int .i64 p.n.z,.int .i64 p.b]
instance:Inhabited Pln:=⟨⟨⟨0,0,0⟩,0⟩⟩
def kb3(l:PLq):PLq:=l.mergeSort λx y=>!ltOf Tb2 y x
theorem Ic7(l:PLq):(kb3 l).length=l.length:=List.length_mergeSort l
def Ha6:Sum:=tf1 tP 110 66 kb3
theorem xf4:Ce.sortLay_ren.f 6=109:=by kernel_rfl
theorem ce4:Ce.sortLay_ren.t 24=66:=by kernel_rfl
set_option maxRecDepth 100000 in
theorem eb8:j6 prog G 109 Ha6:=by
 refine Kf3 (enc:=kd1) (cf:=Tb2) ⟨_,Tryz.func109,by kernel_rfl,of_decide_eq_true (by kernel_rfl)⟩ (by decide) (λ_=>rfl) (λr h=>ub2 (n:=4) h) (λx v hv=>?_) Ic7
  (λblk off size w=>Kf2 ld9 og2 (λ_=>rfl) (λ_=>rfl) _ _ _ _ _) (λblk cap d w hcl hH hb hs=>?_)
 ·simp[kd1] at hv
  rcases hv with rfl|rfl|rfl|rfl<;>rfl
 ·have eg:∀args w,(callFunc 110 args).run Tryz.prog w=.ok (.enter 110 args) w:=enters_of Tryz.func110 (by kernel_rfl) rfl
  have:=AnyQ.slices_SortFunc Ce.sortLay 4 (by rw[ce4];exact Tryz.isAgg66) (by rw[ce4];exact Tryz.sizeOf66) kd1 (λ_=>rfl) (λx v hv=>by simp[kd1] at hv;rcases hv with rfl | rfl | rfl | rfl<;>rfl) Tb2 ng9 110 #[] blk 0 cap d w eg (hcl 0 d.size) hH hb hs
  rw[xf4] at this;refine this.mono λe w' ⟨h1,d',n,os,h2,h3,h4⟩=>⟨h1,n,os,?_⟩
  have h5:=sorted_unique_holds ng9 zg7 d d' h2 h3;rw[h4];show _=sortWorldK kd1 4 w blk 0 n (d.toList.mergeSort λx y=>!ltOf Tb2 y x).toArray os
  rw[<- h5]
end Go.Ev.Ce
