/- Own work. -/
import Derived.Test.YtigadclidanicaaGreatChecked
import Derived.Test.YtigadclidanicaaGreatEvOaCePf
import Derived.KernelRfl
import Derived.Shelf.Spec.SlicesGrow
set_option linter.all false
noncomputable section
def Qha:=@Eq.trans
def Qhb:=@List.getElem?_eq_some_iff
def Qhc:=@List.getElem?_replicate
def Qhd:=@Nat.le_refl
namespace Go.Ev.Ce
open Go Go.Ev Go.Proofs
set_option maxRecDepth 1000000
theorem mx:(Tryz.prog).follows .mixedOrders=true:=Checked.mixed Tryz.checked
abbrev Bdq(n:Nat)(pf:PFn):Prop:=kd7 Tryz.prog n λE=>Wb0 E pf
theorem bdq{f:FuncId}{fn:Func}(hf:(Tryz.prog).funcs[f]?=some fn)(hn:decide (fn.name ≠ "runtime.NumGoroutine")=true:=by kernel_rfl)(hc:Option.isSome (e7 Tryz.prog fn)=true:=by kernel_rfl):Bdq f (got (e7 Tryz.prog fn)):=eg4 mx hf hn (cc3 hc)
theorem b3:kd7 Tryz.prog 3 λE=>ib5 E pf3:=gd3 (h:=h3) mx Tryz.func3 (by kernel_rfl) Tryz.func124 (by kernel_rfl) (cc3 (by kernel_rfl))
theorem b4:Bdq 4 pf4:=bdq Tryz.func4
theorem b5:Bdq 5 pf5:=bdq Tryz.func5
theorem b6:Bdq 6 pf6:=bdq Tryz.func6
theorem b7:Bdq 7 pf7:=bdq Tryz.func7
theorem b8:Bdq 8 pf8:=bdq Tryz.func8
theorem b9:Bdq 9 pf9:=bdq Tryz.func9
theorem b10:Bdq 10 eg5:=bdq Tryz.func10
theorem b11:kd7 Tryz.prog 11 λE=>ib5 E eg6:=gd3 (h:=h11) mx Tryz.func11 (by kernel_rfl) Tryz.func124 (by kernel_rfl) (cc3 (by kernel_rfl))
theorem b12:Bdq 12 Xf2:=bdq Tryz.func12
theorem b15:Bdq 15 eg7:=bdq Tryz.func15
theorem b19:kd7 Tryz.prog 19 λE=>ib5 E Xf3:=gd3 (h:=h19) mx Tryz.func19 (by kernel_rfl) Tryz.func124 (by kernel_rfl) (cc3 (by kernel_rfl))
theorem b22:Bdq 22 Of5:=bdq Tryz.func22
theorem b24:Bdq 24 Xf4:=bdq Tryz.func24
theorem b25:Bdq 25 eg8:=bdq Tryz.func25
theorem b27:Bdq 27 eg9:=bdq Tryz.func27
theorem b28:Bdq 28 fg0:=bdq Tryz.func28
theorem b29:Bdq 29 fg1:=bdq Tryz.func29
theorem b31:kd7 Tryz.prog 31 λE=>ib5 E Of6:=gd3 (h:=h31) mx Tryz.func31 (by kernel_rfl) Tryz.func124 (by kernel_rfl) (cc3 (by kernel_rfl))
theorem b32:Bdq 32 fg2:=bdq Tryz.func32
theorem b33:Bdq 33 Xf5:=bdq Tryz.func33
theorem b34:Bdq 34 fg3:=bdq Tryz.func34
theorem b36:Bdq 36 fg4:=bdq Tryz.func36
theorem b37:Bdq 37 fg5:=bdq Tryz.func37
theorem b38:Bdq 38 fg6:=bdq Tryz.func38
theorem b39:Bdq 39 fg7:=bdq Tryz.func39
theorem b40:Bdq 40 fg8:=bdq Tryz.func40
theorem b43:Bdq 43 fg9:=bdq Tryz.func43
theorem b44:Bdq 44 gg0:=bdq Tryz.func44
theorem b45:Bdq 45 Xf6:=bdq Tryz.func45
theorem b46:kd7 Tryz.prog 46 λE=>ib5 E Of7:=gd3 (h:=h46) mx Tryz.func46 (by kernel_rfl) Tryz.func74 (by kernel_rfl) (cc3 (by kernel_rfl))
theorem b47:Bdq 47 gg1:=bdq Tryz.func47
theorem b48:Bdq 48 Xf7:=bdq Tryz.func48
theorem b49:Bdq 49 Of8:=bdq Tryz.func49
theorem b50:Bdq 50 gg2:=bdq Tryz.func50
theorem b56:Bdq 56 gg3:=bdq Tryz.func56
theorem b57:Bdq 57 gg4:=bdq Tryz.func57
theorem b58:Bdq 58 gg5:=bdq Tryz.func58
theorem b59:Bdq 59 Xf8:=bdq Tryz.func59
theorem b60:Bdq 60 gg6:=bdq Tryz.func60
theorem b61:Bdq 61 gg7:=bdq Tryz.func61
theorem b62:Bdq 62 gg8:=bdq Tryz.func62
theorem b63:Bdq 63 gg9:=bdq Tryz.func63
theorem b64:Bdq 64 hg3:=bdq Tryz.func64
theorem b65:Bdq 65 hg4:=bdq Tryz.func65
theorem b66:Bdq 66 Xf9:=bdq Tryz.func66
theorem b67:Bdq 67 hg5:=bdq Tryz.func67
theorem b69:Bdq 69 Yf0:=bdq Tryz.func69
theorem b70:Bdq 70 Yf1:=bdq Tryz.func70
theorem b71:Bdq 71 Of9:=bdq Tryz.func71
theorem b72:Bdq 72 hg6:=bdq Tryz.func72
theorem b73:Bdq 73 hg7:=bdq Tryz.func73
theorem b75:Bdq 75 hg8:=bdq Tryz.func75
theorem b77:Bdq 77 Pf0:=bdq Tryz.func77
theorem b78:Bdq 78 hg9:=bdq Tryz.func78
theorem b79:kd7 Tryz.prog 79 λE=>ib5 E Pf1:=gd3 (h:=h79) mx Tryz.func79 (by kernel_rfl) Tryz.func99 (by kernel_rfl) (cc3 (by kernel_rfl))
theorem b80:kd7 Tryz.prog 80 λE=>ib5 E xf7:=gd3 (h:=h80) mx Tryz.func80 (by kernel_rfl) Tryz.func124 (by kernel_rfl) (cc3 (by kernel_rfl))
theorem b81:Bdq 81 ig0:=bdq Tryz.func81
theorem b82:Bdq 82 ig1:=bdq Tryz.func82
theorem b83:Bdq 83 ig2:=bdq Tryz.func83
theorem b84:Bdq 84 ig3:=bdq Tryz.func84
theorem b85:Bdq 85 ig4:=bdq Tryz.func85
theorem b86:Bdq 86 Yf2:=bdq Tryz.func86
theorem b87:Bdq 87 ig5:=bdq Tryz.func87
theorem b88:kd7 Tryz.prog 88 λE=>ib5 E Pf2:=gd3 (h:=h88) mx Tryz.func88 (by kernel_rfl) Tryz.func133 (by kernel_rfl) (cc3 (by kernel_rfl))
theorem b89:Bdq 89 ig6:=bdq Tryz.func89
theorem b90:Bdq 90 ig7:=bdq Tryz.func90
theorem b91:Bdq 91 xf8:=bdq Tryz.func91
theorem b92:Bdq 92 ig8:=bdq Tryz.func92
theorem b93:Bdq 93 ig9:=bdq Tryz.func93
theorem b94:Bdq 94 jg0:=bdq Tryz.func94
theorem b95:Bdq 95 jg1:=bdq Tryz.func95
theorem jg2:Bdq 100 Gf7:=bdq Tryz.func100
theorem jg3:Bdq 101 Yf3:=bdq Tryz.func101
theorem jg4:Bdq 102 Yf4:=bdq Tryz.func102
theorem jg5:Bdq 103 Gf8:=bdq Tryz.func103
theorem jg6:Bdq 104 Gf9:=bdq Tryz.func104
theorem jg7:Bdq 105 Yf5:=bdq Tryz.func105
theorem jg8:Bdq 106 Yf6:=bdq Tryz.func106
theorem ag3:Bdq 107 Hf0:=bdq Tryz.func107
theorem jg9:Bdq 108 Hf1:=bdq Tryz.func108
theorem kg0:Bdq 109 Yf7:=bdq Tryz.func109
theorem kg1:Bdq 110 Yf8:=bdq Tryz.func110
theorem ag4:Bdq 111 gf3:=bdq Tryz.func111
theorem kg2:Bdq 112 Hf2:=bdq Tryz.func112
theorem kg3:Bdq 113 Hf3:=bdq Tryz.func113
theorem kg4:Bdq 114 Hf4:=bdq Tryz.func114
theorem kg5:Bdq 115 Yf9:=bdq Tryz.func115
theorem kg6:Bdq 116 Hf5:=bdq Tryz.func116
theorem kg7:Bdq 117 Hf6:=bdq Tryz.func117
theorem xf9:Bdq 118 me1:=bdq Tryz.func118
theorem kg8:Bdq 119 Hf7:=bdq Tryz.func119
theorem kg9:Bdq 120 gf4:=bdq Tryz.func120
theorem lg0:Bdq 124 Hf8:=bdq Tryz.func124
theorem lg1:Bdq 125 Zf0:=bdq Tryz.func125
theorem lg2:Bdq 126 Zf1:=bdq Tryz.func126
theorem lg3:Bdq 127 Zf2:=bdq Tryz.func127
theorem lg4:Bdq 128 gf5:=bdq Tryz.func128
theorem lg5:Bdq 129 Zf3:=bdq Tryz.func129
theorem lg6:Bdq 130 Hf9:=bdq Tryz.func130
theorem lg7:Bdq 131 If0:=bdq Tryz.func131
theorem lg8:Bdq 132 Zf4:=bdq Tryz.func132
theorem lg9:Bdq 134 Zf5:=bdq Tryz.func134
theorem mg0:Bdq 135 Zf6:=bdq Tryz.func135
theorem mg1:Bdq 136 Zf7:=bdq Tryz.func136
theorem mg2:Bdq 137 Zf8:=bdq Tryz.func137
theorem mg3:Bdq 138 Zf9:=bdq Tryz.func138
theorem mg4:Bdq 139 ag0:=bdq Tryz.func139
theorem mg5:Bdq 140 If1:=bdq Tryz.func140
theorem mg6:Bdq 141 ag1:=bdq Tryz.func141
theorem mg7:Bdq 144 If2:=bdq Tryz.func144
theorem mg8:Bdq 152 If3:=bdq Tryz.func152
theorem mg9:Bdq 153 If4:=bdq Tryz.func153
theorem ng0:Bdq 154 ag2:=bdq Tryz.func154
end Go.Ev.Ce
namespace Go.Ev.L
open Go Go.Ev
def qc9:RT->PC->PS2
 |.s a b,.seq x y=>.seq (qc9 a x) (qc9 b y)
 |.c a b,.cond g x y=>.cond g (qc9 a x) (qc9 b y)
 |.b a,.block id x=>.block id (qc9 a x)
 |.i a,.inner f x n c=>.inner f x n (qc9 a c)
 |.u S,_=>.sum S
 |_,c=>.pc c
theorem Xd3{E:Env}{k:Nat}(rt:RT)(c:PC):ib2 (λx=>∀s,ka9 (x.1 s) (P0 E k x.2 s)) (Bc6 rt c)->va4 E k (qc9 rt c) c:=by
 induction rt generalizing c with
 |p=>intro h;cases c<;>exact .pc _
 |s a b iha ihb =>
  intro h;cases c with
  |seq x y=>exact .seq (iha x (ib2.app h).1) (ihb y (ib2.app h).2)
  |_=>exact .pc _
 |c a b iha ihb =>
  intro h;cases c with
  |cond g x y=>exact .cond g (iha x (ib2.app h).1) (ihb y (ib2.app h).2)
  |_=>exact .pc _
 |b a iha =>
  intro h;cases c with
  |block id x=>exact .block id (iha x h)
  |_=>exact .pc _
 |l a iha=>intro h;cases c<;>exact .pc _
 |i a iha =>
  intro h;cases c with
  |inner f x n c=>exact .inner f x n (iha c h)
  |_=>exact .pc _
 |u S =>
  intro h
  have:Bc6 (.u S) c=[(S,c)]:=by cases c<;>rfl
  rw[this] at h;cases h with
  |cons h t =>
   have e:qc9 (.u S) c=.sum S:=by cases c<;>rfl
   rw[e];exact .sum h
section
variable{π σ:Type}{E:Env}{k:Nat}{keep:List Nat}{alts:List (Al2 π σ)}{enc:π->σ->St}{step:π->σ->Stp σ}{xs:Xs π σ}{body:PS2}{c:PC}
theorem pc8.belowM(hb:va4 E k body c)(hN:E.N=rounds+1)(w:pc8 me0 k keep (Yc6 E k body) alts step xs enc)(s:St):ka9 (Nd4 me0 k keep alts step xs s) (P0 E k (.loopM keep c) s):=λr hr=>by
 obtain⟨t,h1,h2⟩:=w.go hr;rw[Be2,hN];exact bc3 hb.le _ _ _ (yc9 h1 h2)
theorem pc8.belowML(hb:va4 E k body c)(hN:E.N=rounds+1)(w:pc8 pc3 k keep (Yc6 E k body) alts step xs enc)(s:St):ka9 (Nd4 pc3 k keep alts step xs s) (P0 E k (.loop keep c) s):=λr hr=>by
 obtain⟨t,h1,h2⟩:=w.go hr;rw[Nd3,hN];exact bc3 hb.le _ _ _ (yc9 h1 h2)
end
end Go.Ev.L
namespace Go.Ev.Ab
open Go Go.Ev
@[reducible] noncomputable def o(d:Nat)(x:PO):PI:=⟨some d,none,[],x⟩
@[reducible] noncomputable def s(x:PO):PI:=⟨none,none,[],x⟩
@[reducible] noncomputable def cb(b:Bool):Arg:=.c (.v (.bool b))
@[reducible] noncomputable def vi(n:Int):c7:=.v (.int .i64 n)
@[reducible] noncomputable def rep{α:Type}(n:Nat)(x:α):List α:=List.replicate n x
@[reducible] noncomputable def ki(n:Nat):List CK:=List.replicate n (.int .i64)
@[reducible] noncomputable def mv(d n:Nat):PI:=o d (.mv (.t n))
@[reducible] noncomputable def mb(d:Nat)(x:Bool):PI:=o d (.mv (cb x))
@[reducible] noncomputable def fd(d k n:Nat):PI:=o d (.fld k (.t n))
@[reducible] noncomputable def bx(d n:Nat):PI:=o d (.box (.t n))
@[reducible] noncomputable def ex(d x k:Nat):PI:=o d (.ext (.t x) k)
@[reducible] noncomputable def ix(d k x y:Nat):PI:=o d (.idxS k (.t x) (.t y))
@[reducible] noncomputable def so(l:List PI)(x:PC):PC:=.seq (.ops l) x
@[reducible] noncomputable def ts(l:List Nat):List Arg:=l.map .t
@[reducible] noncomputable def cA(d f:Nat)(l:List Nat):PI:=o d (.call f (ts l))
@[reducible] noncomputable def cl(f:Nat)(l:List Nat):PO:=.call f (ts l)
@[reducible] noncomputable def wt(a b n:Nat):Nat×Nat×Arg:=(a,b,.t n)
@[reducible] noncomputable def sT(k a b:Nat):PI:=s (.store k (.t a) (.t b))
@[reducible] noncomputable def pa(d c x:Nat):PI:=o d (.pick (.t c) (.t x) (cb false))
@[reducible] noncomputable def po(d c x:Nat):PI:=o d (.pick (.t c) (cb true) (.t x))
@[reducible] noncomputable def al(d k:Nat)(n:Int):PI:=o d (.alloc (rep k (vi n)))
@[reducible] noncomputable def ap(d et es n x y:Nat):PI:=o d (.append et es n (.t x) (.t y))
end Go.Ev.Ab
namespace Go.Ev.L
open Go Go.Ev
def Cps{π σ:Type}(u:∀{α:Type},(σ->α)->(Nat->α)->α->π->σ->α):Prop :=
 ∀{α β:Type} (F:α->β) (k:σ->α) (e:Nat->α) (z:α) (p:π) (s:σ),F (u k e z p s)=u (λx=>F (k x)) (λt=>F (e t)) (F z) p s
@[reducible] noncomputable def foL{π σ:Type}(en:π->σ->St)(xs:Xs π σ)(p:π)(s:σ):Stp σ->Option (d8×St):=pc4 (λs'=>some (.normal,en p s')) (λt=>xOf xs p s t 1) none
structure Lo(π σ:Type) where
 E:Env
 k:Nat
 F:PFn
 at':List Nat
 kp:List Nat
 rt:RT
 al:List (Al2 π σ)
 st:π->σ->Stp σ
 xs:Xs π σ
 en:π->σ->St
namespace Lo
variable{π σ:Type}(L:Lo π σ)
def lc:PC:=eg2 L.at' L.F.body
def ls:St->DT (d8×St):=Nd4 pc3 L.k L.kp L.al L.st L.xs
def lsM:St->DT (d8×St):=Nd4 me0 L.k L.kp L.al L.st L.xs
def pr:(St->DT (d8×St))×PC:=(L.ls,.loop L.kp L.lc)
def prM:(St->DT (d8×St))×PC:=(L.lsM,.loopM L.kp L.lc)
def Ok:Prop:=∀s,qa8 L.k L.F.res (L.pr.1 s) (P0 L.E L.k L.pr.2 s)
def OkE:Prop:=∀s,ka9 (L.pr.1 s) (P0 L.E L.k L.pr.2 s)
def OkM:Prop:=∀s,ka9 (L.prM.1 s) (P0 L.E L.k L.prM.2 s)
def Rd(hd:St->DT St)(bd:St->DT (d8×St))(p:π)(s:σ)(a:St)(b:Stp σ):Prop:=(bc4 hd bd a).run=foL L.en L.xs p s b
def H0:Prop:=∀p s,L.Rd (pc3 L.k L.kp) (He1 L.E L.k L.F.res (Fd7 L.rt L.lc)) p s (L.en p s) (L.st p s)
def H1:Prop:=∀p s,L.Rd (pc3 L.k L.kp) (Yc6 L.E L.k (qc9 L.rt L.lc)) p s (L.en p s) (L.st p s)
def H2:Prop:=∀p s,L.Rd (me0 L.k L.kp) (Yc6 L.E L.k (qc9 L.rt L.lc)) p s (L.en p s) (L.st p s)
def HA:Prop:=ib2 (λx=>∀a H,(⟨Re6 x.sh a,Re7 x.bl H⟩:St)=L.en (x.rd a H).1 (x.rd a H).2) L.al
variable{L}
theorem Rd.of{hd:St->DT St}{bd:St->DT (d8×St)}{p:π}{s:σ}{a:St}(u:∀{α:Type},(σ->α)->(Nat->α)->α->π->σ->α)
  (q:Cps @u) (H:(bc4 hd bd a).run=u (λx=>foL L.en L.xs p s (.next x)) (λt=>foL L.en L.xs p s (.exit t)) (foL L.en L.xs p s .fail) p s):L.Rd hd bd p s a (u .next .exit .fail p s) :=
 H.trans (q (foL L.en L.xs p s) Stp.next Stp.exit Stp.fail p s).symm
theorem Rd.sel{hd:St->DT St}{bd:St->DT (d8×St)}{p:π}{s:σ}{a1 a0:St}{b1 b0:Stp σ}(c:Bool)(h1:L.Rd hd bd p s a1 b1)(h0:L.Rd hd bd p s a0 b0):L.Rd hd bd p s (sel c a1 a0) (sel c b1 b0):=by
 cases c with
 |true=>exact h1
 |false=>exact h0
theorem ok(l:List ((St->DT (d8×St))×PC))(hs:Bc6 L.rt L.lc=l)(hl:ib2 (λx=>∀s,qa8 L.k L.F.res (x.1 s) (P0 L.E L.k x.2 s)) l)(hN:L.E.N=rounds+1)(ha:L.HA)(h:L.H0):L.Ok :=
 pc8.belowC (Ie0 _ _ (by rw[hs];exact hl)) hN ⟨ha,h⟩
theorem okE(l:List ((St->DT (d8×St))×PC))(hs:Bc6 L.rt L.lc=l)(hl:ib2 (λx=>∀s,ka9 (x.1 s) (P0 L.E L.k x.2 s)) l)(hN:L.E.N=rounds+1)(ha:L.HA)(h:L.H1):L.OkE :=
 pc8.belowML (Xd3 _ _ (by rw[hs];exact hl)) hN ⟨ha,h⟩
theorem okM(l:List ((St->DT (d8×St))×PC))(hs:Bc6 L.rt L.lc=l)(hl:ib2 (λx=>∀s,ka9 (x.1 s) (P0 L.E L.k x.2 s)) l)(hN:L.E.N=rounds+1)(ha:L.HA)(h:L.H2):L.OkM :=
 pc8.belowM (Xd3 _ _ (by rw[hs];exact hl)) hN ⟨ha,h⟩
end Lo
theorem Ia8{E:Env}{F:PFn}{args:List c7}{blks:List c8}{o:Option (c7×List c8)}(rt:RT)(l:List ((St->DT (d8×St))×PC))(hs:Bc6 rt F.body=l)
  (hl:ib2 (λx=>∀s,qa8 (len blks) F.res (x.1 s) (P0 E (len blks) x.2 s)) l) (h:(Vf9 E F (Fd7 rt F.body) args blks).run=o) (r:c7×List c8) (hr:o=some r):(Wb0 E F args blks).run=some r :=
 ye9 (Ie0 rt _ (by rw[hs];exact hl)) r (h.trans hr)
theorem Od9{E:Env}{F:PFn}{args:List c7}{blks:List c8}{o:Option (c7×List c8)}(rt:RT)(l:List ((St->DT (d8×St))×PC))(hs:Bc6 rt F.body=l)
  (hl:ib2 (λx=>∀s,ka9 (x.1 s) (P0 E (len blks) x.2 s)) l) (h:(Gf6 E F (qc9 rt F.body) args blks).run=o) (r:c7×List c8) (hr:o=some r):(ib5 E F args blks).run=some r :=
 le9 (Xd3 rt _ (by rw[hs];exact hl)) r (h.trans hr)
theorem B7{A o:Option (c7×List c8)}(h:A=o)(r:c7×List c8)(hr:o=some r):A=some r:=h.trans hr
abbrev upq(x:St)(l:List (Nat×c7)):St:=⟨l.foldl (λa q=>a.set q.1 q.2) x.a,x.H⟩
abbrev sIq:S2:=.s (.o (.int .i64))
abbrev sUq:S2:=.s (.o .unk)
abbrev sBq:S2:=.s (.o .bool)
abbrev sPq(n:Nat):S2:=.s (.o (.ptr n 0 0 0))
abbrev sTq(n:Nat):S2:=.s (.o (.tree n))
abbrev sLq{α:Type}(t:Ty α):S2:=.s (.c t.es (nL t))
abbrev kLq(n:Nat):List K:=List.replicate n (.o (.int .i64))
abbrev aIq(a:List c7)(n:Nat):Int:=toI (slT a n)
abbrev aBq(a:List c7)(n:Nat):Bool:=toB (slT a n)
abbrev aNq(a:List c7)(n:Nat):Nat:=toN (slT a n)
abbrev aGq(a:List c7)(n:Nat):Nat->List c7:=toG (slT a n)
abbrev aLq{α:Type}(t:Ty α)(a:List c7)(n:Nat):List α:=rL t (slT a n)
abbrev hIq(H:List c8)(m r n:Nat):Int:=toI (slT (rwT (elT H m) r) n)
abbrev cIq(a:List c7)(m n:Nat):Int:=toI (slT (cellsOf (slT a m)) n)
abbrev hLq{α:Type}(t:Ty α)(H:List c8)(m r n:Nat):List α:=rL t (slT (rwT (elT H m) r) n)
end Go.Ev.L
namespace Go.Ev.Ce
structure V3 where
 x:Int
 y:Int
 z:Int
structure Pln where
 n:V3
 b:Int
structure Pt where
 px:Int
 py:Int
 pz:Int
 pw:Int
def q7(a b:V3):V3:=⟨a.y*b.z-a.z*b.y,a.z*b.x-a.x*b.z,a.x*b.y-a.y*b.x⟩
def dot(a b:V3):Int:=a.x*b.x+a.y*b.y+a.z*b.z
def mw(p q r:Pln):Int:=dot p.n (q7 q.n r.n)
end Go.Ev.Ce
namespace Go.Ev.Ce
open Go Go.Ev Go.Ev.L Go.Proofs
@[reducible] noncomputable def prog:Program:=Tryz.prog
def G:Nat->List Value:=λ_=>[]
def En(l:List (Nat×Sum)):Env:={ P:=prog,G,fns:=λ_=>none,call:=Mf1 l,own:=λf j=>Bool.and (tb1 f [107,109,111,118]) (Nat.beq j 0),N:=18446744073709551616 }
@[reducible] noncomputable def u:c7:=.v (.tuple #[])
theorem ag5{l:List (Nat×Sum)}(h:i9 prog G l):∀f,g9 (En l).P (En l).G f ((En l).call f):=Ge9 h
theorem bd{l:List (Nat×Sum)}{f:FuncId}{R:Env->Sum}(b:kd7 prog f R)(h:i9 prog G l):g9 prog G f (R (En l)):=b rfl (ag5 h)
def tV:Ty V3 where
 es:=3
 row x:=[i x.x,i x.y,i x.z]
 rd r:=⟨toI (hdA r),toI (hdA (tlA r)),toI (hdA (tlA (tlA r)))⟩
 ok r:=db7 3 r
 cks:=List.replicate 3 (.int .i64)
 d:=⟨0,0,0⟩
 h0 _:=rfl
 h1 _:=rfl
 h2 _:=rfl
 h3 _ h:=.of (ob5 h)
 h4 _:=rfl
 h5 _:=rfl
def r1V:R1 V3:=r1A tV 3 λ_ h=>h
def tP:Ty Pln where
 es:=4
 row x:=[i x.n.x,i x.n.y,i x.n.z,i x.b]
 rd r:=⟨⟨toI (hdA r),toI (hdA (tlA r)),toI (hdA (tlA (tlA r)))⟩,toI (hdA (tlA (tlA (tlA r))))⟩
 ok r:=db7 4 r
 cks:=List.replicate 4 (.int .i64)
 d:=⟨⟨0,0,0⟩,0⟩
 h0 _:=rfl
 h1 _:=rfl
 h2 _:=rfl
 h3 _ h:=.of (ob5 h)
 h4 _:=rfl
 h5 _:=rfl
abbrev PLq:=List Pln
abbrev LPq:=List PLq
abbrev tLq:=tLs tP
abbrev tMq:=tLs tLq
abbrev ROq:=Option (c7×List c8)
def r1P:R1 Pln:=r1A tP 4 λ_ h=>h
def tX:Ty Pt where
 es:=4
 row x:=[i x.px,i x.py,i x.pz,i x.pw]
 rd r:=⟨toI (hdA r),toI (hdA (tlA r)),toI (hdA (tlA (tlA r))),toI (hdA (tlA (tlA (tlA r))))⟩
 ok r:=db7 4 r
 cks:=List.replicate 4 (.int .i64)
 d:=⟨0,0,0,0⟩
 h0 _:=rfl
 h1 _:=rfl
 h2 _:=rfl
 h3 _ h:=.of (ob5 h)
 h4 _:=rfl
 h5 _:=rfl
def r1X:R1 Pt:=r1A tX 4 λ_ h=>h
structure Tp where
 p:Pln
 q:Pln
 r:Pln
def tY:Ty Tp where
 es:=12
 row x:=[i x.p.n.x,i x.p.n.y,i x.p.n.z,i x.p.b,i x.q.n.x,i x.q.n.y,i x.q.n.z,i x.q.b,i x.r.n.x,i x.r.n.y,i x.r.n.z,i x.r.b]
 rd r:=⟨⟨⟨toI (hdA r),toI (hdA (tlA r)),toI (hdA (tlA (tlA r)))⟩,toI (hdA (tlA (tlA (tlA r))))⟩,⟨⟨toI (hdA (tlA (tlA (tlA (tlA r))))),toI (hdA (tlA (tlA (tlA (tlA (tlA r)))))),toI (hdA (tlA (tlA (tlA (tlA (tlA (tlA r)))))))⟩,toI (hdA (tlA (tlA (tlA (tlA (tlA (tlA (tlA r))))))))⟩,⟨⟨toI (hdA (tlA (tlA (tlA (tlA (tlA (tlA (tlA (tlA r))))))))),toI (hdA (tlA (tlA (tlA (tlA (tlA (tlA (tlA (tlA (tlA r)))))))))),toI (hdA (tlA (tlA (tlA (tlA (tlA (tlA (tlA (tlA (tlA (tlA r)))))))))))⟩,toI (hdA (tlA (tlA (tlA (tlA (tlA (tlA (tlA (tlA (tlA (tlA (tlA r))))))))))))⟩⟩
 ok r:=db7 12 r
 cks:=List.replicate 12 (.int .i64)
 d:=⟨⟨⟨0,0,0⟩,0⟩,⟨⟨0,0,0⟩,0⟩,⟨⟨0,0,0⟩,0⟩⟩
 h0 _:=rfl
 h1 _:=rfl
 h2 _:=rfl
 h3 _ h:=.of (ob5 h)
 h4 _:=rfl
 h5 _:=rfl
structure Q2 where
 a:V3
 b:V3
set_option maxRecDepth 100000
def me2:List (Nat×Sum):=[]
theorem Xd4:i9 prog G me2:=trivial
def Hb2(x:Pln)(y:Pt):Int:=(W ((W ((W ((W (x.b*y.pw))-(W (x.n.x*y.px))))-(W (x.n.y*y.py))))-(W (x.n.z*y.pz))))
def Jc1:Sum:=Aa5 (Da1 tP) (Da1 tX) (λx y=>.ret ((one r1I).enc (Hb2 x y),[]))
theorem gd4:g9 prog G 92 Jc1:=Oa1 (bd b92 Xd4) λx y=>B7 (by kernel_rfl)
def Be3:List (Nat×Sum):=[]
theorem me3:i9 prog G Be3:=trivial
def Fb3(x:V3)(y:V3):V3:=(⟨W (x.x+y.x),W (x.y+y.y),W (x.z+y.z)⟩:V3)
def Pd0:Sum:=Aa5 (Da1 tV) (Da1 tV) (λx y=>.ret ((one r1V).enc (Fb3 x y),[]))
theorem Be4:g9 prog G 139 Pd0:=Oa1 (bd mg4 me3) λx y=>B7 (by kernel_rfl)
def Be5:List (Nat×Sum):=[]
theorem me4:i9 prog G Be5:=trivial
def zc5(x:V3)(y:V3):Int:=(W ((W ((W (x.x*y.x))+(W (x.y*y.y))))+(W (x.z*y.z))))
def Pd1:Sum:=Aa5 (Da1 tV) (Da1 tV) (λx y=>.ret ((one r1I).enc (zc5 x y),[]))
theorem Be6:g9 prog G 136 Pd1:=Oa1 (bd mg1 me4) λx y=>B7 (by kernel_rfl)
def Xd5:List (Nat×Sum):=[]
theorem Fd8:i9 prog G Xd5:=trivial
def ta0(x:V3)(y:V3):V3:=(⟨W ((W (x.y*y.z))-(W (x.z*y.y))),W ((W (x.z*y.x))-(W (x.x*y.z))),W ((W (x.x*y.y))-(W (x.y*y.x)))⟩:V3)
def gd5:Sum:=Aa5 (Da1 tV) (Da1 tV) (λx y=>.ret ((one r1V).enc (ta0 x y),[]))
theorem Xd6:g9 prog G 137 gd5:=Oa1 (bd mg2 Fd8) λx y=>B7 (by kernel_rfl)
def Fd9:List (Nat×Sum):=[]
theorem wd9:i9 prog G Fd9:=trivial
def ca2(x:V3)(y:Int):V3:=(⟨W (x.x*y),W (x.y*y),W (x.z*y)⟩:V3)
def Qc6:Sum:=Aa5 (Da1 tV) cI (λx y=>.ret ((one r1V).enc (ca2 x y),[]))
theorem Gd0:g9 prog G 138 Qc6:=Oa1 (bd mg3 wd9) λx y=>B7 (by kernel_rfl)
def Ec7:List (Nat×Sum):=[]
theorem xd0:i9 prog G Ec7:=trivial
structure Pa7 where
structure ma2 where
 (is0 is1:Int)
def jc3(p:Pa7)(s:ma2):St:=⟨i s.is0::i s.is1::ra 10 [],[]⟩
def Da2{α:Type}(k:ma2->α)(e:Nat->α)(z:α)(p:Pa7)(s:ma2):α:=(sl (s.is1 != 0) (sl (s.is1==0) z (k ⟨s.is1,Int.tmod s.is0 s.is1⟩)) (e 1))
def Ia9(p:Pa7)(s:ma2):Stp ma2:=Da2 .next .exit .fail p s
def Hb3:Lo Pa7 ma2:=⟨En Ec7,0,If1,[1,0,4,4],[0,1],.p,[⟨sIq::sIq::ru2 10 [],[],λa H=>(⟨⟩,⟨aIq a 0,aIq a 1⟩)⟩],Ia9,[(some 0,λp s=>upq (jc3 p s) [(5,i s.is1),(6,b (s.is1 != 0))])],jc3⟩
theorem kd8:Hb3.Ok:=Lo.ok [] (by kernel_rfl) .nil rfl (.cons (λa H=>by kernel_rfl) .nil) λp s=>(.of @Da2 (λF _ _ _ _ _=>by unfold Da2;(repeat' apply j6 (f:=F))<;>rfl) (by kernel_rfl))
def ib6(x:Int)(y:Int):ROq:=let t1:=(lp (Ia9 (⟨⟩:Pa7)) (⟨x,y⟩:ma2));(sl (Nat.beq t1.1 1) (some (i t1.2.is0,[])) none)
def ca3(x:Int)(y:Int):Int:=ba8 (one r1I) (ib6 x y)
def ca4(x:Int)(y:Int):Bool:=okO (one r1I) (ib6 x y)
def Qc7:Sum:=Aa5 cI cI (λx y=>.guard (ca4 x y) (.ret ((one r1I).enc (ca3 x y),[])))
theorem Gd1:g9 prog G 140 Qc7:=Sb2 (bd mg5 xd0) (one r1I) (o:=ib6) λx y=>Ia8 (.s .p (.s (.b (.u Hb3.ls)) .p)) [Hb3.pr] (by kernel_rfl) (.cons kd8 .nil) (by kernel_rfl)
def me5:List (Nat×Sum):=[(137,gd5),(136,Pd1),(138,Qc6),(139,Pd0),(140,Qc7)]
theorem Xd7:i9 prog G me5:=⟨Xd6,Be6,Gd0,Be4,Gd1,trivial⟩
def Hb4(x:Pln)(y:Pln)(z:Pln):ROq:=let t1:=(ta0 y.n z.n);let t2:=(zc5 x.n t1);let t3:=(ca2 t1 x.b);let t4:=(ta0 z.n x.n);let t5:=(ca2 t4 y.b);let t6:=(Fb3 t3 t5);let t7:=(ta0 x.n y.n);let t8:=(ca2 t7 z.b);let t9:=(Fb3 t6 t8);let t10:=(ca2 t9 (-1));let t11:=(ca3 (if (W (0-t10.x))>t10.x then (W (0-t10.x)) else t10.x) (if (W (0-t10.y))>t10.y then (W (0-t10.y)) else t10.y));let t12:=(ca3 (if (W (0-t10.z))>t10.z then (W (0-t10.z)) else t10.z) (W (0-t2)));let t13:=(ca3 t11 t12);let t14:=(ca3 (if (W (0-t9.x))>t9.x then (W (0-t9.x)) else t9.x) (if (W (0-t9.y))>t9.y then (W (0-t9.y)) else t9.y));let t15:=(ca3 (if (W (0-t9.z))>t9.z then (W (0-t9.z)) else t9.z) t2);let t16:=(ca3 t14 t15);(sl (t2==0) (some (.tup [.agg [i 0,i 0,i 0,i 0],b false],[])) (sl (decide (t2<0)) (sl (ca4 (if (W (0-t10.x))>t10.x then (W (0-t10.x)) else t10.x) (if (W (0-t10.y))>t10.y then (W (0-t10.y)) else t10.y)) (sl (ca4 (if (W (0-t10.z))>t10.z then (W (0-t10.z)) else t10.z) (W (0-t2))) (sl (ca4 t11 t12) (sl (t13==0) none (sl (t13==0) none (sl (t13==0) none (sl (t13==0) none (some (.tup [.agg [i (W (Int.tdiv t10.x t13)),i (W (Int.tdiv t10.y t13)),i (W (Int.tdiv t10.z t13)),i (W (Int.tdiv (W (0-t2)) t13))],b true],[])))))) none) none) none) (sl (ca4 (if (W (0-t9.x))>t9.x then (W (0-t9.x)) else t9.x) (if (W (0-t9.y))>t9.y then (W (0-t9.y)) else t9.y)) (sl (ca4 (if (W (0-t9.z))>t9.z then (W (0-t9.z)) else t9.z) t2) (sl (ca4 t14 t15) (sl (t16==0) none (sl (t16==0) none (sl (t16==0) none (sl (t16==0) none (some (.tup [.agg [i (W (Int.tdiv t9.x t16)),i (W (Int.tdiv t9.y t16)),i (W (Int.tdiv t9.z t16)),i (W (Int.tdiv t2 t16))],b true],[])))))) none) none) none)))
def Hb5(x:Pln)(y:Pln)(z:Pln):Pt×Bool:=ba8 (two r1X r1B) (Hb4 x y z)
def Hb6(x:Pln)(y:Pln)(z:Pln):Bool:=okO (two r1X r1B) (Hb4 x y z)
def xd1:Sum:=Wd1 (Da1 tP) (Da1 tP) (Da1 tP) (λx y z=>.guard (Hb6 x y z) (.ret ((two r1X r1B).enc (Hb5 x y z),[])))
theorem me6:g9 prog G 115 xd1:=Wf2 (bd kg5 Xd7) (two r1X r1B) (o:=Hb4) λx y z=>B7 (by kernel_rfl)
def Pd2:List (Nat×Sum):=[(92,Jc1)]
theorem Be7:i9 prog G Pd2:=⟨gd4,trivial⟩
structure Hb7 where
 g7:PLq
 (B0 l6 B1 s7:Int)
structure Ga4 where
 is5:Int
def gd6(p:Hb7)(s:Ga4):St:=⟨eL tP p.g7::.unk::.unk::.ptr 0 0 0 0::.unk::i s.is5::ra 13 [],[⟨0,4,[[i p.B0,i p.l6,i p.B1,i p.s7]],true,false,0⟩]⟩
def ib7{α:Type}(k:Ga4->α)(e:Nat->α)(z:α)(p:Hb7)(s:Ga4):α:=let t1:=(Hb2 (gL tP p.g7 s.is5.toNat) (⟨p.B0,p.l6,p.B1,p.s7⟩:Pt));(sl (decide (s.is5<(↑(List.length p.g7):Int))) (sl (inB s.is5 (List.length p.g7)) (sl (decide (t1<0)) (e 1) (k ⟨W (s.is5+1)⟩)) z) (e 2))
def tb4(p:Hb7)(s:Ga4):Stp Ga4:=ib7 .next .exit .fail p s
def Jc2:Lo Hb7 Ga4:=⟨En Pd2,0,Hf5,[1,0,1,4,4],[0,3,5],.p,[⟨sLq tP::sUq::sUq::sPq 0::sUq::sIq::ru2 13 [],[⟨0,4,true,some [kLq 4]⟩],λa H=>(⟨aLq tP a 0,hIq H 0 0 0,hIq H 0 0 1,hIq H 0 0 2,hIq H 0 0 3⟩,⟨aIq a 5⟩)⟩],tb4,[(none,λp s=>⟨[b false],[]⟩),(some 0,λp s=>upq (gd6 p s) [(6,i s.is5),(7,eL tP p.g7),(8,i (↑(List.length p.g7):Int)),(9,b (decide (s.is5<(↑(List.length p.g7):Int))))])],gd6⟩
theorem me7:Jc2.Ok:=Lo.ok [] (by kernel_rfl) .nil rfl (.cons (λa H=>by kernel_rfl) .nil) λp s=>(.of @ib7 (λF _ _ _ _ _=>by unfold ib7;(repeat' apply j6 (f:=F))<;>rfl) (by kernel_rfl))
def rc0(x:PLq)(y:Pt):ROq:=let t1:=(lp (tb4 (⟨rt tP x,y.px,y.py,y.pz,y.pw⟩:Hb7)) (⟨0⟩:Ga4));(sl ((cnE tP x)&&true) (sl (Nat.beq t1.1 1) (some (b false,[])) (sl (Nat.beq t1.1 2) (some (b true,[])) none)) none)
def Wb9(x:PLq)(y:Pt):Bool:=ba8 (one r1B) (rc0 x y)
def Xb0(x:PLq)(y:Pt):Bool:=okO (one r1B) (rc0 x y)
def me8:Sum:=Aa5 (ta2 tP) (Da1 tX) (λx y=>.guard (Xb0 x y) (.ret ((one r1B).enc (Wb9 x y),[])))
theorem Ue2:g9 prog G 116 me8:=Sb2 (bd kg6 Be7) (one r1B) (o:=rc0) λx y=>Ia8 (.s .p (.s (.s .p (.b (.u Jc2.ls))) .p)) [Jc2.pr] (by kernel_rfl) (.cons me7 .nil) (by kernel_rfl)
def Qc8:List (Nat×Sum):=[]
theorem Gd2:i9 prog G Qc8:=trivial
structure Za5 where
 gb0:List Pt
 (B0 l6 B1 s7:Int)
structure la1 where
 is5:Int
def rc1(p:Za5)(s:la1):St:=⟨eL tX p.gb0::.unk::.unk::.ptr 0 0 0 0::.unk::i s.is5::ra 12 [],[⟨0,4,[[i p.B0,i p.l6,i p.B1,i p.s7]],true,false,0⟩]⟩
def Ja0{α:Type}(k:la1->α)(e:Nat->α)(z:α)(p:Za5)(s:la1):α:=let y0:=(gL tX p.gb0 s.is5.toNat);(sl (decide (s.is5<(↑(List.length p.gb0):Int))) (sl (inB s.is5 (List.length p.gb0)) (sl ((y0.px==p.B0)&&((y0.py==p.l6)&&((y0.pz==p.B1)&&((y0.pw==p.s7)&&true)))) (e 1) (k ⟨W (s.is5+1)⟩)) z) (e 2))
def Pa8(p:Za5)(s:la1):Stp la1:=Ja0 .next .exit .fail p s
def Sb4:Lo Za5 la1:=⟨En Qc8,0,Hf6,[1,0,1,4,4],[0,3,5],.p,[⟨sLq tX::sUq::sUq::sPq 0::sUq::sIq::ru2 12 [],[⟨0,4,true,some [kLq 4]⟩],λa H=>(⟨aLq tX a 0,hIq H 0 0 0,hIq H 0 0 1,hIq H 0 0 2,hIq H 0 0 3⟩,⟨aIq a 5⟩)⟩],Pa8,[(none,λp s=>⟨[b true],[]⟩),(some 0,λp s=>upq (rc1 p s) [(6,i s.is5),(7,eL tX p.gb0),(8,i (↑(List.length p.gb0):Int)),(9,b (decide (s.is5<(↑(List.length p.gb0):Int))))])],rc1⟩
theorem xd2:Sb4.Ok:=Lo.ok [] (by kernel_rfl) .nil rfl (.cons (λa H=>by kernel_rfl) .nil) λp s=>(.of @Ja0 (λF _ _ _ _ _=>by unfold Ja0;(repeat' apply j6 (f:=F))<;>rfl) (by kernel_rfl))
def tb5(x:List Pt)(y:Pt):ROq:=let t1:=(lp (Pa8 (⟨rt tX x,y.px,y.py,y.pz,y.pw⟩:Za5)) (⟨0⟩:la1));(sl ((cnE tX x)&&true) (sl (Nat.beq t1.1 1) (some (b true,[])) (sl (Nat.beq t1.1 2) (some (b false,[])) none)) none)
def eb6(x:List Pt)(y:Pt):Bool:=ba8 (one r1B) (tb5 x y)
def eb7(x:List Pt)(y:Pt):Bool:=okO (one r1B) (tb5 x y)
def gd7:Sum:=Aa5 (ta2 tX) (Da1 tX) (λx y=>.guard (eb7 x y) (.ret ((one r1B).enc (eb6 x y),[])))
theorem Xd8:g9 prog G 117 gd7:=Sb2 (bd kg7 Gd2) (one r1B) (o:=tb5) λx y=>Ia8 (.s .p (.s (.s .p (.b (.u Sb4.ls))) .p)) [Sb4.pr] (by kernel_rfl) (.cons xd2 .nil) (by kernel_rfl)
def ib8:List (Nat×Sum):=[(115,xd1),(116,me8),(117,gd7)]
theorem kd9:i9 prog G ib8:=⟨me6,Ue2,Xd8,trivial⟩
structure X7 where
 g7:PLq
 (is4 is5:Int)
structure A7 where
 ph:Nat
 is6:Int
 ns3:Nat
 eh0:List (List c7)
def Pb1(p:X7)(s:A7):St:=⟨eL tP p.g7::.unk::.unk::.v (.slice none 0 0)::i p.is4::i p.is5::i s.is6::ra 57 [],[]⟩
def Pb2(p:X7)(s:A7):St:=⟨eL tP p.g7::.unk::.unk::.sl 0 0 s.ns3 0::i p.is4::i p.is5::i s.is6::ra 57 [],[⟨114,4,s.eh0,true,false,0⟩]⟩
def Yc7(p:X7)(s:A7):St:=(sel (Nat.beq s.ph 1) (Pb2 p s) (Pb1 p s))
def ca5{α:Type}(k:A7->α)(e:Nat->α)(z:α)(p:X7)(s:A7):α:=let y0:=(List.length p.g7);let t1:=(Hb5 (gL tP p.g7 p.is4.toNat) (gL tP p.g7 p.is5.toNat) (gL tP p.g7 s.is6.toNat));let t2:=(Wb9 (rt tP p.g7) t1.1);let t3:=(eb6 [] t1.1);(sl (decide (s.is6<(↑y0:Int))) (sl (inB p.is4 y0) (sl (inB p.is5 y0) (sl (inB s.is6 y0) (sl (Hb6 (gL tP p.g7 p.is4.toNat) (gL tP p.g7 p.is5.toNat) (gL tP p.g7 s.is6.toNat)) (sl t1.2 (sl (okE tP p.g7) (sl (Xb0 (rt tP p.g7) t1.1) (sl t2 (sl (eb7 [] t1.1) (sl (!t3) (k ⟨1,W (s.is6+1),1,[[i t1.1.px,i t1.1.py,i t1.1.pz,i t1.1.pw]]⟩) (k ⟨0,W (s.is6+1),0,[]⟩)) z) (k ⟨0,W (s.is6+1),0,[]⟩)) z) z) (k ⟨0,W (s.is6+1),0,[]⟩)) z) z) z) z) (e 1))
def ca6{α:Type}(k:A7->α)(e:Nat->α)(z:α)(p:X7)(s:A7):α:=let y0:=(List.length p.g7);let t1:=(Hb5 (gL tP p.g7 p.is4.toNat) (gL tP p.g7 p.is5.toNat) (gL tP p.g7 s.is6.toNat));let t2:=(Wb9 (rt tP p.g7) t1.1);let t3:=(eb6 (slR tX s.eh0 0 s.ns3) t1.1);(sl (decide (s.is6<(↑y0:Int))) (sl (inB p.is4 y0) (sl (inB p.is5 y0) (sl (inB s.is6 y0) (sl (Hb6 (gL tP p.g7 p.is4.toNat) (gL tP p.g7 p.is5.toNat) (gL tP p.g7 s.is6.toNat)) (sl t1.2 (sl (okE tP p.g7) (sl (Xb0 (rt tP p.g7) t1.1) (sl t2 (sl (okS tX s.eh0 0 s.ns3) (sl (eb7 (slR tX s.eh0 0 s.ns3) t1.1) (sl (!t3) (sl (Nat.beq s.ns3 (len s.eh0)&&Nat.ble ((s.ns3+1)*32) room) (k ⟨1,W (s.is6+1),s.ns3+1,app s.eh0 [[i t1.1.px,i t1.1.py,i t1.1.pz,i t1.1.pw]]⟩) z) (k ⟨1,W (s.is6+1),s.ns3,s.eh0⟩)) z) z) (k ⟨1,W (s.is6+1),s.ns3,s.eh0⟩)) z) z) (k ⟨1,W (s.is6+1),s.ns3,s.eh0⟩)) z) z) z) z) (e 2))
def aa0(p:X7)(s:A7):Stp A7:=(sel (Nat.beq s.ph 1) (ca6 .next .exit .fail p s) (ca5 .next .exit .fail p s))
def xb4:Lo X7 A7:=⟨En ib8,0,xf8,[1,1,0,1,4,4,1,0,4,1,4,4,1,0,4,1,4,4],[0,3,4,5,6],.p,[⟨sLq tP::sUq::sUq::.s (.o .nil)::sIq::sIq::sIq::ru2 57 [],[],λa H=>(⟨aLq tP a 0,aIq a 4,aIq a 5⟩,⟨0,aIq a 6,0,[]⟩)⟩,⟨sLq tP::sUq::sUq::.s (.o (.sl 0 0 (some 0) none))::sIq::sIq::sIq::ru2 57 [],[⟨114,4,true,none⟩],λa H=>(⟨aLq tP a 0,aIq a 4,aIq a 5⟩,⟨1,aIq a 6,slN (slT a 3),elT H 0⟩)⟩],aa0,[(some 4,λp s=>upq (Pb1 p s) [(25,i s.is6),(26,eL tP p.g7),(27,i (↑(List.length p.g7):Int)),(28,b (decide (s.is6<(↑(List.length p.g7):Int))))]),(some 4,λp s=>upq (Pb2 p s) [(25,i s.is6),(26,eL tP p.g7),(27,i (↑(List.length p.g7):Int)),(28,b (decide (s.is6<(↑(List.length p.g7):Int))))])],Yc7⟩
theorem Yc8:xb4.Ok:=Lo.ok [] (by kernel_rfl) .nil rfl (.cons (λa H=>by kernel_rfl) (.cons (λa H=>by kernel_rfl) .nil)) λp s=>(.sel (Nat.beq s.ph 1) (.of @ca6 (λF _ _ _ _ _=>by unfold ca6;(repeat' apply j6 (f:=F))<;>rfl) (by kernel_rfl)) (.of @ca5 (λF _ _ _ _ _=>by unfold ca5;(repeat' apply j6 (f:=F))<;>rfl) (by kernel_rfl)))
structure X8 where
 is4:Int
structure C7 where
 ph:Nat
 g7:PLq
 is5:Int
 ns3:Nat
 eh0:List (List c7)
def Pb3(p:X8)(s:C7):St:=⟨eL tP s.g7::.unk::.unk::.v (.slice none 0 0)::i p.is4::i s.is5::ra 58 [],[]⟩
def Pb4(p:X8)(s:C7):St:=⟨eL tP s.g7::.unk::.unk::.sl 0 0 s.ns3 0::i p.is4::i s.is5::ra 58 [],[⟨114,4,s.eh0,true,false,0⟩]⟩
def Yc9(p:X8)(s:C7):St:=(sel (Nat.beq s.ph 1) (Pb4 p s) (Pb3 p s))
def ca7{α:Type}(k:C7->α)(e:Nat->α)(z:α)(p:X8)(s:C7):α:=let t1:=(lp (aa0 (⟨rt tP s.g7,p.is4,s.is5⟩:X7)) (⟨0,W (s.is5+1),0,[]⟩:A7));(sl (decide (s.is5<(↑(List.length s.g7):Int))) (sl ((cnE tP s.g7)&&true) (sl (Nat.beq t1.1 1) (k ⟨0,rt tP s.g7,W (s.is5+1),0,[]⟩) (sl (Nat.beq t1.1 2) (k ⟨1,rt tP s.g7,W (s.is5+1),t1.2.ns3,t1.2.eh0⟩) z)) z) (e 1))
def ca8{α:Type}(k:C7->α)(e:Nat->α)(z:α)(p:X8)(s:C7):α:=let t1:=(lp (aa0 (⟨rt tP s.g7,p.is4,s.is5⟩:X7)) (⟨1,W (s.is5+1),s.ns3,s.eh0⟩:A7));(sl (decide (s.is5<(↑(List.length s.g7):Int))) (sl ((cnE tP s.g7)&&true) (sl (Nat.beq t1.1 1) (k ⟨0,rt tP s.g7,W (s.is5+1),0,[]⟩) (sl (Nat.beq t1.1 2) (k ⟨1,rt tP s.g7,W (s.is5+1),t1.2.ns3,t1.2.eh0⟩) z)) z) (e 2))
def T4(p:X8)(s:C7):Stp C7:=(sel (Nat.beq s.ph 1) (ca8 .next .exit .fail p s) (ca7 .next .exit .fail p s))
def xb5:Lo X8 C7:=⟨En ib8,0,xf8,[1,1,0,1,4,4,1,0,4,1,4,4],[0,3,4,5],.s .p (.s (.b (.s .p (.b (.u xb4.ls)))) .p),[⟨sLq tP::sUq::sUq::.s (.o .nil)::sIq::sIq::ru2 58 [],[],λa H=>(⟨aIq a 4⟩,⟨0,aLq tP a 0,aIq a 5,0,[]⟩)⟩,⟨sLq tP::sUq::sUq::.s (.o (.sl 0 0 (some 0) none))::sIq::sIq::ru2 58 [],[⟨114,4,true,none⟩],λa H=>(⟨aIq a 4⟩,⟨1,aLq tP a 0,aIq a 5,slN (slT a 3),elT H 0⟩)⟩],T4,[(some 2,λp s=>upq (Pb3 p s) [(17,i s.is5),(18,eL tP s.g7),(19,i (↑(List.length s.g7):Int)),(20,b (decide (s.is5<(↑(List.length s.g7):Int))))]),(some 2,λp s=>upq (Pb4 p s) [(17,i s.is5),(18,eL tP s.g7),(19,i (↑(List.length s.g7):Int)),(20,b (decide (s.is5<(↑(List.length s.g7):Int))))])],Yc9⟩
theorem Zc0:xb5.Ok:=Lo.ok [xb4.pr] (by kernel_rfl) (.cons Yc8 .nil) rfl (.cons (λa H=>by kernel_rfl) (.cons (λa H=>by kernel_rfl) .nil)) λp s=>(.sel (Nat.beq s.ph 1) (.of @ca8 (λF _ _ _ _ _=>by unfold ca8;(repeat' apply j6 (f:=F))<;>rfl) (by kernel_rfl)) (.of @ca7 (λF _ _ _ _ _=>by unfold ca7;(repeat' apply j6 (f:=F))<;>rfl) (by kernel_rfl)))
structure ga6 where
structure G8 where
 ph:Nat
 g7:PLq
 is4:Int
 ns3:Nat
 eh0:List (List c7)
def Pb5(p:ga6)(s:G8):St:=⟨eL tP s.g7::.unk::.unk::.v (.slice none 0 0)::i s.is4::ra 59 [],[]⟩
def Pb6(p:ga6)(s:G8):St:=⟨eL tP s.g7::.unk::.unk::.sl 0 0 s.ns3 0::i s.is4::ra 59 [],[⟨114,4,s.eh0,true,false,0⟩]⟩
def Zc1(p:ga6)(s:G8):St:=(sel (Nat.beq s.ph 1) (Pb6 p s) (Pb5 p s))
def ca9{α:Type}(k:G8->α)(e:Nat->α)(z:α)(p:ga6)(s:G8):α:=let t1:=(lp (T4 (⟨s.is4⟩:X8)) (⟨0,rt tP s.g7,W (s.is4+1),0,[]⟩:C7));(sl (decide (s.is4<(↑(List.length s.g7):Int))) (sl ((cnE tP s.g7)&&true) (sl (Nat.beq t1.1 1) (k ⟨0,t1.2.g7,W (s.is4+1),0,[]⟩) (sl (Nat.beq t1.1 2) (k ⟨1,t1.2.g7,W (s.is4+1),t1.2.ns3,t1.2.eh0⟩) z)) z) (e 1))
def da0{α:Type}(k:G8->α)(e:Nat->α)(z:α)(p:ga6)(s:G8):α:=let t1:=(lp (T4 (⟨s.is4⟩:X8)) (⟨1,rt tP s.g7,W (s.is4+1),s.ns3,s.eh0⟩:C7));(sl (decide (s.is4<(↑(List.length s.g7):Int))) (sl ((cnE tP s.g7)&&true) (sl (Nat.beq t1.1 1) (k ⟨0,t1.2.g7,W (s.is4+1),0,[]⟩) (sl (Nat.beq t1.1 2) (k ⟨1,t1.2.g7,W (s.is4+1),t1.2.ns3,t1.2.eh0⟩) z)) z) (e 2))
def aa1(p:ga6)(s:G8):Stp G8:=(sel (Nat.beq s.ph 1) (da0 .next .exit .fail p s) (ca9 .next .exit .fail p s))
def xb6:Lo ga6 G8:=⟨En ib8,0,xf8,[1,1,0,1,4,4],[0,3,4],.s .p (.s (.b (.s .p (.b (.u xb5.ls)))) .p),[⟨sLq tP::sUq::sUq::.s (.o .nil)::sIq::ru2 59 [],[],λa H=>(⟨⟩,⟨0,aLq tP a 0,aIq a 4,0,[]⟩)⟩,⟨sLq tP::sUq::sUq::.s (.o (.sl 0 0 (some 0) none))::sIq::ru2 59 [],[⟨114,4,true,none⟩],λa H=>(⟨⟩,⟨1,aLq tP a 0,aIq a 4,slN (slT a 3),elT H 0⟩)⟩],aa1,[(some 0,λp s=>upq (Pb5 p s) [(9,i s.is4),(10,eL tP s.g7),(11,i (↑(List.length s.g7):Int)),(12,b (decide (s.is4<(↑(List.length s.g7):Int))))]),(some 0,λp s=>upq (Pb6 p s) [(9,i s.is4),(10,eL tP s.g7),(11,i (↑(List.length s.g7):Int)),(12,b (decide (s.is4<(↑(List.length s.g7):Int))))])],Zc1⟩
theorem Zc2:xb6.Ok:=Lo.ok [xb5.pr] (by kernel_rfl) (.cons Zc0 .nil) rfl (.cons (λa H=>by kernel_rfl) (.cons (λa H=>by kernel_rfl) .nil)) λp s=>(.sel (Nat.beq s.ph 1) (.of @da0 (λF _ _ _ _ _=>by unfold da0;(repeat' apply j6 (f:=F))<;>rfl) (by kernel_rfl)) (.of @ca9 (λF _ _ _ _ _=>by unfold ca9;(repeat' apply j6 (f:=F))<;>rfl) (by kernel_rfl)))
def Za6(x:PLq):ROq:=let t1:=(lp (aa1 (⟨⟩:ga6)) (⟨0,rt tP x,0,0,[]⟩:G8));(sl ((cnE tP x)&&true) (sl (Nat.beq t1.1 1) (some (.v (.slice none 0 0),[])) (sl (Nat.beq t1.1 2) (some (.sl 0 0 t1.2.ns3 0,[⟨114,4,t1.2.eh0,true,false,0⟩])) none)) none)
def rb8(x:PLq):List Pt:=ba8 (one (r1L tX)) (Za6 x)
def rb9(x:PLq):Bool:=okO (one (r1L tX)) (Za6 x)
def Ec8:Sum:=ga4 (ta2 tP) (λx=>.guard (rb9 x) (.ret ((one (r1L tX)).enc (rb8 x),[])))
theorem xd3:g9 prog G 91 Ec8:=db8 (bd b91 kd9) (one (r1L tX)) (o:=Za6) λx=>Ia8 (.s .p (.s .p (.s (.s .p (.b (.u xb6.ls))) .p))) [xb6.pr] (by kernel_rfl) (.cons Zc2 .nil) (by kernel_rfl)
def Pb7:List (Nat×Sum):=[]
theorem Jc3:i9 prog G Pb7:=trivial
@[reducible] noncomputable def pb0:Sum:=Wb0 (En Pb7) Hf3
theorem Pb8:g9 prog G 113 pb0:=bd kg3 Jc3
def ld0:List (Nat×Sum):=[]
theorem Zc3:i9 prog G ld0:=trivial
def Pa9(x:Int):ROq:=(sl (decide (x<0)) (some (i (W (0-x)),[])) (some (i x,[])))
def Da3(x:Int):Int:=ba8 (one r1I) (Pa9 x)
def Da4(x:Int):Bool:=okO (one r1I) (Pa9 x)
def rc2:Sum:=ga4 cI (λx=>.guard (Da4 x) (.ret ((one r1I).enc (Da3 x),[])))
theorem ld1:g9 prog G 135 rc2:=db8 (bd mg0 Zc3) (one r1I) (o:=Pa9) λx=>B7 (by kernel_rfl)
def gd8:List (Nat×Sum):=[(135,rc2),(113,pb0)]
theorem Xd9:i9 prog G gd8:=⟨ld1,Pb8,trivial⟩
structure xa6 where
 (is6 B0 l6 B1 hc3 W7 hc5:Int)
structure da1 where
 (is5 is7:Int)
def Ec9(p:xa6)(s:da1):St:=⟨.unk::.ptr 0 0 0 0::.ptr 1 0 0 0::.unk::.ptr 2 0 0 0::i s.is5::i p.is6::i s.is7::ra 38 [],[⟨0,3,[[i p.B0,i p.l6,i p.B1]],true,false,0⟩,⟨0,3,[[i 0,i 0,i 0]],true,false,0⟩,⟨0,3,[[i p.hc3,i p.W7,i p.hc5]],true,false,0⟩]⟩
def Qa0{α:Type}(k:da1->α)(e:Nat->α)(z:α)(p:xa6)(s:da1):α:=(sl (decide (s.is7>0)) (sl (s.is7==0) z (k ⟨s.is7,Int.tmod s.is5 s.is7⟩)) (e 1))
def ta1(p:xa6)(s:da1):Stp da1:=Qa0 .next .exit .fail p s
def cc4:Lo xa6 da1:=⟨En gd8,0,Hf4,[1,1,1,0,1,4,4,1,0,4,1,1,4,4],[1,2,4,5,6,7],.p,[⟨sUq::sPq 0::sPq 1::sUq::sPq 2::sIq::sIq::sIq::ru2 38 [],[⟨0,3,true,some [kLq 3]⟩,⟨0,3,true,some [[.o (.lit .i64 0),.o (.lit .i64 0),.o (.lit .i64 0)]]⟩,⟨0,3,true,some [kLq 3]⟩],λa H=>(⟨aIq a 6,hIq H 0 0 0,hIq H 0 0 1,hIq H 0 0 2,hIq H 2 0 0,hIq H 2 0 1,hIq H 2 0 2⟩,⟨aIq a 5,aIq a 7⟩)⟩],ta1,[(some 2,λp s=>upq (Ec9 p s) [(23,i s.is7),(24,b (decide (s.is7>0)))])],Ec9⟩
theorem Gd3:cc4.Ok:=Lo.ok [] (by kernel_rfl) .nil rfl (.cons (λa H=>by kernel_rfl) .nil) λp s=>(.of @Qa0 (λF _ _ _ _ _=>by unfold Qa0;(repeat' apply j6 (f:=F))<;>rfl) (by kernel_rfl))
def Hb8(x:V3):ROq:=let y0:=(.tup [.agg [i 0,i 0,i 0],i 0],[]);let t1:=(Da3 x.x);let t2:=(lp (ta1 (⟨0,x.x,x.y,x.z,x.x,x.y,x.z⟩:xa6)) (⟨0,t1⟩:da1));let t3:=(Da3 x.y);let t4:=(lp (ta1 (⟨1,x.x,x.y,x.z,x.x,x.y,x.z⟩:xa6)) (⟨t2.2.is5,t3⟩:da1));let t5:=(Da3 x.z);let t6:=(lp (ta1 (⟨2,x.x,x.y,x.z,x.x,x.y,x.z⟩:xa6)) (⟨t4.2.is5,t5⟩:da1));(sl (x.x==(-9223372036854775808)) (some y0) (sl (Da4 x.x) (sl (Nat.beq t2.1 1) (sl (x.y==(-9223372036854775808)) (some y0) (sl (Da4 x.y) (sl (Nat.beq t4.1 1) (sl (x.z==(-9223372036854775808)) (some y0) (sl (Da4 x.z) (sl (Nat.beq t6.1 1) (sl (t6.2.is5==0) (some y0) (sl (t6.2.is5==0) none (sl (t6.2.is5==0) none (sl (t6.2.is5==0) none (some (.tup [.agg [i (W (Int.tdiv x.x t6.2.is5)),i (W (Int.tdiv x.y t6.2.is5)),i (W (Int.tdiv x.z t6.2.is5))],i t6.2.is5],[])))))) none) none)) none) none)) none) none))
def cc5(x:V3):V3×Int:=ba8 (two r1V r1I) (Hb8 x)
def cc6(x:V3):Bool:=okO (two r1V r1I) (Hb8 x)
def xd4:Sum:=ga4 (Da1 tV) (λx=>.guard (cc6 x) (.ret ((two r1V r1I).enc (cc5 x),[])))
theorem me9:g9 prog G 114 xd4:=db8 (bd kg4 Xd9) (two r1V r1I) (o:=Hb8) λx=>Ia8 (.s .p (.s .p (.s .p (.s (.s .p (.b (.l (.s .p (.s (.b (.s .p (.s .p (.b (.u cc4.ls))))) .p))))) .p)))) [cc4.pr] (by kernel_rfl) (.cons Gd3 .nil) (by kernel_rfl)
def Yd0:List (Nat×Sum):=[(114,xd4),(113,pb0)]
theorem Gd4:i9 prog G Yd0:=⟨me9,Pb8,trivial⟩
def tb6(x:Pln):ROq:=let t1:=(cc5 x.n);(sl (decide (x.n.x<(-4608))) (some (b false,[])) (sl (decide (x.n.x>4608)) (some (b false,[])) (sl (decide (x.n.y<(-4608))) (some (b false,[])) (sl (decide (x.n.y>4608)) (some (b false,[])) (sl (decide (x.n.z<(-4608))) (some (b false,[])) (sl (decide (x.n.z>4608)) (some (b false,[])) (sl (cc6 x.n) (sl (t1.2==1) (sl (decide (x.b>=(-2097152))) (some (b (decide (x.b<=2097152)),[])) (some (b false,[]))) (some (b false,[]))) none)))))))
def Pb9(x:Pln):Bool:=ba8 (one r1B) (tb6 x)
def Qb0(x:Pln):Bool:=okO (one r1B) (tb6 x)
def gd9:Sum:=ga4 (Da1 tP) (λx=>.guard (Qb0 x) (.ret ((one r1B).enc (Pb9 x),[])))
theorem Yd1:g9 prog G 90 gd9:=db8 (bd b90 Gd4) (one r1B) (o:=tb6) λx=>B7 (by kernel_rfl)
def Qc9:List (Nat×Sum):=[(90,gd9)]
theorem Gd5:i9 prog G Qc9:=⟨Yd1,trivial⟩
structure Za7 where
 g7:PLq
structure la2 where
 is3:Int
def rc3(p:Za7)(s:la2):St:=⟨eL tP p.g7::.unk::.unk::i s.is3::ra 15 [],[]⟩
def Ja1{α:Type}(k:la2->α)(e:Nat->α)(z:α)(p:Za7)(s:la2):α:=let t1:=(Pb9 (gL tP p.g7 s.is3.toNat));(sl (decide (s.is3<(↑(List.length p.g7):Int))) (sl (inB s.is3 (List.length p.g7)) (sl (Qb0 (gL tP p.g7 s.is3.toNat)) (sl (!t1) (e 1) (k ⟨W (s.is3+1)⟩)) z) z) (e 2))
def Qa1(p:Za7)(s:la2):Stp la2:=Ja1 .next .exit .fail p s
def Sb5:Lo Za7 la2:=⟨En Qc9,0,Yf1,[1,1,0,1,4,4],[0,3],.p,[⟨sLq tP::sUq::sUq::sIq::ru2 15 [],[],λa H=>(⟨aLq tP a 0⟩,⟨aIq a 3⟩)⟩],Qa1,[(none,λp s=>⟨[i 12],[]⟩),(some 0,λp s=>upq (rc3 p s) [(7,i s.is3),(8,eL tP p.g7),(9,i (↑(List.length p.g7):Int)),(10,b (decide (s.is3<(↑(List.length p.g7):Int))))])],rc3⟩
theorem xd5:Sb5.Ok:=Lo.ok [] (by kernel_rfl) .nil rfl (.cons (λa H=>by kernel_rfl) .nil) λp s=>(.of @Ja1 (λF _ _ _ _ _=>by unfold Ja1;(repeat' apply j6 (f:=F))<;>rfl) (by kernel_rfl))
def tb7(x:PLq):ROq:=let t1:=(lp (Qa1 (⟨rt tP x⟩:Za7)) (⟨0⟩:la2));(sl (decide ((↑(List.length x):Int)>48)) (some (i 2,[])) (sl ((cnE tP x)&&true) (sl (Nat.beq t1.1 1) (some (i 12,[])) (sl (Nat.beq t1.1 2) (some (i 0,[])) none)) none))
def Qb1(x:PLq):Int:=ba8 (one r1I) (tb7 x)
def Qb2(x:PLq):Bool:=okO (one r1I) (tb7 x)
def hd4:Sum:=ga4 (ta2 tP) (λx=>.guard (Qb2 x) (.ret ((one r1I).enc (Qb1 x),[])))
theorem Yd2:g9 prog G 70 hd4:=db8 (bd b70 Gd5) (one r1I) (o:=tb7) λx=>Ia8 (.s .p (.s .p (.s (.s .p (.b (.u Sb5.ls))) .p))) [Sb5.pr] (by kernel_rfl) (.cons xd5 .nil) (by kernel_rfl)
def Be8:List (Nat×Sum):=[]
theorem ne0:i9 prog G Be8:=trivial
def zc6(x:V3)(y:V3):ROq:=(some (.sl 0 0 6 0,[⟨66,4,[[i 1,i 0,i 0,i y.x],[i (-1),i 0,i 0,i (W (0-x.x))],[i 0,i 1,i 0,i y.y],[i 0,i (-1),i 0,i (W (0-x.y))],[i 0,i 0,i 1,i y.z],[i 0,i 0,i (-1),i (W (0-x.z))]],true,false,0⟩]))
def zc7(x:V3)(y:V3):PLq:=ba8 (one (r1L tP)) (zc6 x y)
def zc8(x:V3)(y:V3):Bool:=okO (one (r1L tP)) (zc6 x y)
def Pd3:Sum:=Aa5 (Da1 tV) (Da1 tV) (λx y=>.guard (zc8 x y) (.ret ((one (r1L tP)).enc (zc7 x y),[])))
theorem Be9:g9 prog G 36 Pd3:=Sb2 (bd b36 ne0) (one (r1L tP)) (o:=zc6) λx y=>B7 (by kernel_rfl)
def Ce0:List (Nat×Sum):=[(36,Pd3)]
theorem ne2:i9 prog G Ce0:=⟨Be9,trivial⟩
def Xb1(x:PLq):ROq:=let y0:=(List.range (List.length x));let t1:=(zc7 (⟨-24,-24,-24⟩:V3) (⟨24,24,24⟩:V3));let y1:=(List.range (List.length t1));(sl (Nat.beq 0 0&&Nat.ble ((0+(len (o7 (λk=>(tP).row (gL tP x k)) y0)))*32) room) (sl (zc8 (⟨-24,-24,-24⟩:V3) (⟨24,24,24⟩:V3)) (sl (Nat.beq (0+(len (o7 (λk=>(tP).row (gL tP x k)) y0))) (len (app [] (o7 (λk=>(tP).row (gL tP x k)) y0)))&&Nat.ble (((0+(len (o7 (λk=>(tP).row (gL tP x k)) y0)))+(len (o7 (λk=>(tP).row (gL tP t1 k)) y1)))*32) room) (some ((.sl 0 0 ((0+(len (o7 (λk=>(tP).row (gL tP x k)) y0)))+(len (o7 (λk=>(tP).row (gL tP t1 k)) y1))) 0),[⟨66,4,(app (app [] (o7 (λk=>(tP).row (gL tP x k)) y0)) (o7 (λk=>(tP).row (gL tP t1 k)) y1)),true,false,0⟩])) none) none) none)
def zc9(x:PLq):PLq:=ba8 (one (r1L tP)) (Xb1 x)
def Ac0(x:PLq):Bool:=okO (one (r1L tP)) (Xb1 x)
def Pd4:Sum:=ga4 (ta2 tP) (λx=>.guard (Ac0 x) (.ret ((one (r1L tP)).enc (zc9 x),[])))
theorem Ce1:g9 prog G 72 Pd4:=db8 (bd b72 ne2) (one (r1L tP)) (o:=Xb1) λx=>B7 (by kernel_rfl)
def rc4:List (Nat×Sum):=[(91,Ec8),(92,Jc1)]
theorem Yd3:i9 prog G rc4:=⟨xd3,gd4,trivial⟩
structure ib9 where
 g7:PLq
 Rb2:List Pt
 is4:Int
structure xa7 where
 bs5:Bool
 is6:Int
def Fc0(p:ib9)(s:xa7):St:=⟨eL tP p.g7::.unk::.unk::eL tX p.Rb2::i p.is4::b s.bs5::i s.is6::ra 29 [],[]⟩
def Qa2{α:Type}(k:xa7->α)(e:Nat->α)(z:α)(p:ib9)(s:xa7):α:=let t1:=(Hb2 (gL tP p.g7 p.is4.toNat) (gL tX p.Rb2 s.is6.toNat));(sl (decide (s.is6<(↑(List.length p.Rb2):Int))) (sl s.bs5 (k ⟨true,W (s.is6+1)⟩) (sl (inB p.is4 (List.length p.g7)) (sl (inB s.is6 (List.length p.Rb2)) (k ⟨decide (t1>0),W (s.is6+1)⟩) z) z)) (e 1))
def La8(p:ib9)(s:xa7):Stp xa7:=Qa2 .next .exit .fail p s
def cc7:Lo ib9 xa7:=⟨En rc4,0,Of9,[1,1,0,1,4,4,1,0,4,1,0,1,4,4],[0,3,4,5,6],.p,[⟨sLq tP::sUq::sUq::sLq tX::sIq::sBq::sIq::ru2 29 [],[],λa H=>(⟨aLq tP a 0,aLq tX a 3,aIq a 4⟩,⟨aBq a 5,aIq a 6⟩)⟩],La8,[(some 2,λp s=>upq (Fc0 p s) [(15,i s.is6),(16,eL tX p.Rb2),(17,i (↑(List.length p.Rb2):Int)),(18,b (decide (s.is6<(↑(List.length p.Rb2):Int))))])],Fc0⟩
theorem Gd6:cc7.Ok:=Lo.ok [] (by kernel_rfl) .nil rfl (.cons (λa H=>by kernel_rfl) .nil) λp s=>(.of @Qa2 (λF _ _ _ _ _=>by unfold Qa2;(repeat' apply j6 (f:=F))<;>rfl) (by kernel_rfl))
structure jb0 where
structure qa9 where
 g7:PLq
 Rb2:List Pt
 is4:Int
def Fc1(p:jb0)(s:qa9):St:=⟨eL tP s.g7::.unk::.unk::eL tX s.Rb2::i s.is4::ra 31 [],[]⟩
def Qa3{α:Type}(k:qa9->α)(e:Nat->α)(z:α)(p:jb0)(s:qa9):α:=let t1:=(lp (La8 (⟨rt tP s.g7,rt tX s.Rb2,s.is4⟩:ib9)) (⟨false,0⟩:xa7));(sl (decide (s.is4<(↑(List.length s.g7):Int))) (sl ((cnE tP s.g7)&&((cnE tX s.Rb2)&&true)) (sl (Nat.beq t1.1 1) (sl (!t1.2.bs5) (e 1) (k ⟨rt tP s.g7,rt tX s.Rb2,W (s.is4+1)⟩)) z) z) (e 2))
def Za8(p:jb0)(s:qa9):Stp qa9:=Qa3 .next .exit .fail p s
def cc8:Lo jb0 qa9:=⟨En rc4,0,Of9,[1,1,0,1,4,4],[0,3,4],.s .p (.s (.b (.s .p (.s (.s .p (.b (.u cc7.ls))) .p))) .p),[⟨sLq tP::sUq::sUq::sLq tX::sIq::ru2 31 [],[],λa H=>(⟨⟩,⟨aLq tP a 0,aLq tX a 3,aIq a 4⟩)⟩],Za8,[(none,λp s=>⟨[b false],[]⟩),(some 0,λp s=>upq (Fc1 p s) [(9,i s.is4),(10,eL tP s.g7),(11,i (↑(List.length s.g7):Int)),(12,b (decide (s.is4<(↑(List.length s.g7):Int))))])],Fc1⟩
theorem Gd7:cc8.Ok:=Lo.ok [cc7.pr] (by kernel_rfl) (.cons Gd6 .nil) rfl (.cons (λa H=>by kernel_rfl) .nil) λp s=>(.of @Qa3 (λF _ _ _ _ _=>by unfold Qa3;(repeat' apply j6 (f:=F))<;>rfl) (by kernel_rfl))
def Hb9(x:PLq):ROq:=let t1:=(rb8 (rt tP x));let t2:=(lp (Za8 (⟨⟩:jb0)) (⟨rt tP x,rt tX t1,0⟩:qa9));(sl (okE tP x) (sl (rb9 (rt tP x)) (sl ((cnE tP x)&&((cnE tX t1)&&true)) (sl (Nat.beq t2.1 1) (some (b false,[])) (sl (Nat.beq t2.1 2) (some (b true,[])) none)) none) none) none)
def cc9(x:PLq):Bool:=ba8 (one r1B) (Hb9 x)
def dc0(x:PLq):Bool:=okO (one r1B) (Hb9 x)
def xd6:Sum:=ga4 (ta2 tP) (λx=>.guard (dc0 x) (.ret ((one r1B).enc (cc9 x),[])))
theorem ne3:g9 prog G 71 xd6:=db8 (bd b71 Yd3) (one r1B) (o:=Hb9) λx=>Ia8 (.s .p (.s .p (.s (.s .p (.b (.u cc8.ls))) .p))) [cc8.pr] (by kernel_rfl) (.cons Gd7 .nil) (by kernel_rfl)
def ne4:List (Nat×Sum):=[(70,hd4),(72,Pd4),(71,xd6)]
theorem Yd4:i9 prog G ne4:=⟨Yd2,Ce1,ne3,trivial⟩
def Ib0(x:PLq):ROq:=let t1:=(Qb1 (rt tP x));let t2:=(zc9 (rt tP x));let t3:=(cc9 (rt tP t2));(sl (okE tP x) (sl (Qb2 (rt tP x)) (sl (t1==0) (sl (okE tP x) (sl (Ac0 (rt tP x)) (sl (okE tP t2) (sl (dc0 (rt tP t2)) (some (b t3,[])) none) none) none) none) (some (b false,[]))) none) none)
def Ib1(x:PLq):Bool:=ba8 (one r1B) (Ib0 x)
def Ib2(x:PLq):Bool:=okO (one r1B) (Ib0 x)
def xd7:Sum:=ga4 (ta2 tP) (λx=>.guard (Ib2 x) (.ret ((one r1B).enc (Ib1 x),[])))
theorem ne5:g9 prog G 40 xd7:=db8 (bd b40 Yd4) (one r1B) (o:=Ib0) λx=>B7 (by kernel_rfl)
def Ce2:List (Nat×Sum):=[]
theorem ne6:i9 prog G Ce2:=trivial
def Xb2(x:Int)(y:Int):ROq:=(sl (decide (y<1)) (some (i 0,[])) (sl (y==0) none (sl (y==0) none (some (i (Int.tmod (W ((Int.tmod x y)+y)) y),[])))))
def Ac1(x:Int)(y:Int):Int:=ba8 (one r1I) (Xb2 x y)
def Ac2(x:Int)(y:Int):Bool:=okO (one r1I) (Xb2 x y)
def Pd5:Sum:=Aa5 cI cI (λx y=>.guard (Ac2 x y) (.ret ((one r1I).enc (Ac1 x y),[])))
theorem Ce3:g9 prog G 34 Pd5:=Sb2 (bd b34 ne6) (one r1I) (o:=Xb2) λx y=>B7 (by kernel_rfl)
def Yd5:List (Nat×Sum):=[]
theorem Gd8:i9 prog G Yd5:=trivial
def eb8(x:V3)(y:V3):Int:=(W ((W ((W (x.x*y.x))+(W (x.y*y.y))))+(W (x.z*y.z))))
def rc5:Sum:=Aa5 (Da1 tV) (Da1 tV) (λx y=>.ret ((one r1I).enc (eb8 x y),[]))
theorem Rc0:g9 prog G 105 rc5:=Oa1 (bd jg7 Gd8) λx y=>B7 (by kernel_rfl)
def Yd6:List (Nat×Sum):=[]
theorem Gd9:i9 prog G Yd6:=trivial
def Fa6(x:V3)(y:V3):V3:=(⟨W (x.x+y.x),W (x.y+y.y),W (x.z+y.z)⟩:V3)
def hd5:Sum:=Aa5 (Da1 tV) (Da1 tV) (λx y=>.ret ((one r1V).enc (Fa6 x y),[]))
theorem Yd7:g9 prog G 126 hd5:=Oa1 (bd lg2 Gd9) λx y=>B7 (by kernel_rfl)
def Hd0:List (Nat×Sum):=[]
theorem xd8:i9 prog G Hd0:=trivial
def xa8(x:V3)(y:Int):V3:=(⟨W (x.x*y),W (x.y*y),W (x.z*y)⟩:V3)
def Rc1:Sum:=Aa5 (Da1 tV) cI (λx y=>.ret ((one r1V).enc (xa8 x y),[]))
theorem Hd1:g9 prog G 127 Rc1:=Oa1 (bd lg3 xd8) λx y=>B7 (by kernel_rfl)
def xd9:List (Nat×Sum):=[]
theorem ld2:i9 prog G xd9:=trivial
def ca0(x:V3)(y:V3):V3:=(⟨W ((W (x.y*y.z))-(W (x.z*y.y))),W ((W (x.z*y.x))-(W (x.x*y.z))),W ((W (x.x*y.y))-(W (x.y*y.x)))⟩:V3)
def Fc2:Sum:=Aa5 (Da1 tV) (Da1 tV) (λx y=>.ret ((one r1V).enc (ca0 x y),[]))
theorem yd0:g9 prog G 125 Fc2:=Oa1 (bd lg1 ld2) λx y=>B7 (by kernel_rfl)
def Yd8:List (Nat×Sum):=[(105,rc5)]
theorem Hd2:i9 prog G Yd8:=⟨Rc0,trivial⟩
def Fa7(x:Pln)(y:Pt):Int:=let t1:=(eb8 x.n (⟨y.px,y.py,y.pz⟩:V3));(W ((W (x.b*y.pw))-t1))
def Qb3:Sum:=Aa5 (Da1 tP) (Da1 tX) (λx y=>.ret ((one r1I).enc (Fa7 x y),[]))
theorem dc1:g9 prog G 85 Qb3:=Oa1 (bd b85 Hd2) λx y=>B7 (by kernel_rfl)
def rc6:List (Nat×Sum):=[]
theorem Yd9:i9 prog G rc6:=trivial
structure Va4 where
 nb6:List Int
 (is7 is8:Int)
structure xa9 where
 (is3 is5:Int)
def Fc3(p:Va4)(s:xa9):St:=⟨ra 3 (i s.is3::.unk::i s.is5::eL tI p.nb6::i p.is7::i p.is8::ra 14 []),[]⟩
def Qa4{α:Type}(k:xa9->α)(e:Nat->α)(z:α)(p:Va4)(s:xa9):α:=(sl (s.is5 != 0) (sl (s.is5==0) z (k ⟨s.is5,Int.tmod s.is3 s.is5⟩)) (e 1))
def Za9(p:Va4)(s:xa9):Stp xa9:=Qa4 .next .exit .fail p s
def dc2:Lo Va4 xa9:=⟨En rc6,0,gf5,[1,1,0,1,4,4,1,1,0,4,1,4,4],[3,5,6,7,8],.p,[⟨ru2 3 (sIq::sUq::sIq::sLq tI::sIq::sIq::ru2 14 []),[],λa H=>(⟨aLq tI a 6,aIq a 7,aIq a 8⟩,⟨aIq a 3,aIq a 5⟩)⟩],Za9,[(some 2,λp s=>upq (Fc3 p s) [(12,i s.is5),(13,b (s.is5 != 0))])],Fc3⟩
theorem Hd3:dc2.Ok:=Lo.ok [] (by kernel_rfl) .nil rfl (.cons (λa H=>by kernel_rfl) .nil) λp s=>(.of @Qa4 (λF _ _ _ _ _=>by unfold Qa4;(repeat' apply j6 (f:=F))<;>rfl) (by kernel_rfl))
structure jb1 where
 is7:Int
structure ya0 where
 is3:Int
 nb6:List Int
 is8:Int
def Fc4(p:jb1)(s:ya0):St:=⟨ra 3 (i s.is3::.unk::.unk::eL tI s.nb6::i p.is7::i s.is8::ra 14 []),[]⟩
def Qa5{α:Type}(k:ya0->α)(e:Nat->α)(z:α)(p:jb1)(s:ya0):α:=let t1:=(lp (Za9 (⟨rt tI s.nb6,p.is7,s.is8⟩:Va4)) (⟨s.is3,gL tI s.nb6 s.is8.toNat⟩:xa9));(sl (decide (s.is8<p.is7)) (sl (inB s.is8 (List.length s.nb6)) (sl ((cnE tI s.nb6)&&true) (sl (Nat.beq t1.1 1) (k ⟨t1.2.is3,rt tI s.nb6,W (s.is8+1)⟩) z) z) z) (e 1))
def La9(p:jb1)(s:ya0):Stp ya0:=Qa5 .next .exit .fail p s
def dc3:Lo jb1 ya0:=⟨En rc6,0,gf5,[1,1,0,1,4,4],[3,6,7,8],.s .p (.s .p (.s (.b (.s .p (.b (.u dc2.ls)))) .p)),[⟨ru2 3 (sIq::sUq::sUq::sLq tI::sIq::sIq::ru2 14 []),[],λa H=>(⟨aIq a 7⟩,⟨aIq a 3,aLq tI a 6,aIq a 8⟩)⟩],La9,[(some 0,λp s=>upq (Fc4 p s) [(9,b (decide (s.is8<p.is7)))])],Fc4⟩
theorem Hd4:dc3.Ok:=Lo.ok [dc2.pr] (by kernel_rfl) (.cons Hd3 .nil) rfl (.cons (λa H=>by kernel_rfl) .nil) λp s=>(.of @Qa5 (λF _ _ _ _ _=>by unfold Qa5;(repeat' apply j6 (f:=F))<;>rfl) (by kernel_rfl))
def Ib3(x:List Int):ROq:=let t1:=(lp (La9 (⟨(↑(List.length x):Int)⟩:jb1)) (⟨0,rt tI x,0⟩:ya0));(sl ((cnE tI x)&&true) (sl (Nat.beq t1.1 1) (some ((i (if (W (0-t1.2.is3))>t1.2.is3 then (W (0-t1.2.is3)) else t1.2.is3)),[])) none) none)
def dc4(x:List Int):Int:=ba8 (one r1I) (Ib3 x)
def dc5(x:List Int):Bool:=okO (one r1I) (Ib3 x)
def yd1:Sum:=ga4 (ta2 tI) (λx=>.guard (dc5 x) (.ret ((one r1I).enc (dc4 x),[])))
theorem ne7:g9 prog G 128 yd1:=db8 (bd lg4 Yd9) (one r1I) (o:=Ib3) λx=>Ia8 (.s .p (.s .p (.s (.s .p (.b (.u dc3.ls))) .p))) [dc3.pr] (by kernel_rfl) (.cons Hd4 .nil) (by kernel_rfl)
def Zd0:List (Nat×Sum):=[(125,Fc2),(105,rc5),(127,Rc1),(126,hd5),(128,yd1)]
theorem Hd5:i9 prog G Zd0:=⟨yd0,Rc0,Hd1,Yd7,ne7,trivial⟩
def tb8(x:Tp):ROq:=let t1:=(ca0 x.q.n x.r.n);let t3:=(xa8 t1 x.p.b);let t4:=(Fa6 (⟨0,0,0⟩:V3) t3);let t5:=(ca0 x.r.n x.p.n);let t7:=(xa8 t5 x.q.b);let t8:=(Fa6 t4 t7);let t9:=(ca0 x.p.n x.q.n);let t10:=(eb8 x.r.n t9);let t11:=(xa8 t9 x.r.b);let t12:=(Fa6 t8 t11);let t13:=(dc4 [t12.x,t12.y,t12.z,t10]);let y0:=((W (0-t13))==0);(sl (t10==0) (some (.tup [.agg [i 0,i 0,i 0,i 0],b false],[])) (sl (dc5 [t12.x,t12.y,t12.z,t10]) (sl (decide (t10<0)) (sl y0 none (sl y0 none (sl y0 none (sl y0 none (some (.tup [.agg [i (W (Int.tdiv t12.x (W (0-t13)))),i (W (Int.tdiv t12.y (W (0-t13)))),i (W (Int.tdiv t12.z (W (0-t13)))),i (W (Int.tdiv t10 (W (0-t13))))],b true],[])))))) (sl (t13==0) none (sl (t13==0) none (sl (t13==0) none (sl (t13==0) none (some (.tup [.agg [i (W (Int.tdiv t12.x t13)),i (W (Int.tdiv t12.y t13)),i (W (Int.tdiv t12.z t13)),i (W (Int.tdiv t10 t13))],b true],[]))))))) none))
def tb9(x:Tp):Pt×Bool:=ba8 (two r1X r1B) (tb8 x)
def ub0(x:Tp):Bool:=okO (two r1X r1B) (tb8 x)
def hd6:Sum:=ga4 (Da1 tY) (λx=>.guard (ub0 x) (.ret ((two r1X r1B).enc (tb9 x),[])))
theorem Zd1:g9 prog G 101 hd6:=db8 (bd jg3 Hd5) (two r1X r1B) (o:=tb8) λx=>B7 (by kernel_rfl)
structure bb8 where
 (wc9 xc0 xc1 xc2 B0 l6 B1 s7:Int)
def Zc4:List (Nat×Sum):=[(85,Qb3)]
theorem Rc2:i9 prog G Zc4:=⟨dc1,trivial⟩
structure Ja2 where
 bs0:Bool
def Ja3{α:Type}(kk:Ja2->α)(x:bb8):α:=let t1:=(Fa7 (⟨(⟨x.wc9,x.xc0,x.xc1⟩:V3),x.xc2⟩:Pln) (⟨x.B0,x.l6,x.B1,x.s7⟩:Pt));(kk ⟨decide (t1<0)⟩)
def xb7(x:bb8):Ja2:=Ja3 (λr=>r) x
def pb1(x:bb8)(r:Ja2):DT (c7×List c8):=.ret (b r.bs0,[⟨0,4,[[i x.B0,i x.l6,i x.B1,i x.s7]],true,false,0⟩])
theorem ld3{α β:Type}(F:α->β)(kk:Ja2->α)(x:bb8):F (Ja3 kk x)=Ja3 (λr=>F (kk r)) x:=by unfold Ja3;(repeat' apply j6 (f:=F))<;>rfl
def jc4:Sum:=Ma9 ⟨[.agg (kLq 4),sPq 0],[⟨0,4,true,some [kLq 4]⟩],λa H=>(⟨cIq a 0 0,cIq a 0 1,cIq a 0 2,cIq a 0 3,hIq H 0 0 0,hIq H 0 0 1,hIq H 0 0 2,hIq H 0 0 3⟩,())⟩ (λx=>pb1 x (xb7 x))
theorem Zc5:g9 prog G 129 jc4:=F6 (enc:=λx=>⟨[.agg [i x.wc9,i x.xc0,i x.xc1,i x.xc2],.ptr 0 0 0 0],[⟨0,4,[[i x.B0,i x.l6,i x.B1,i x.s7]],true,false,0⟩]⟩) (λa H=>by kernel_rfl) (bd lg5 Rc2) λx=>B7 (Qha (b:=Ja3 (λr=>(pb1 x r).run) x) (by kernel_rfl) (ld3 (λr=>(pb1 x r).run) (λr=>r) x).symm)
structure ha0 where
 g7:PLq
 (B0 l6 B1 s7:Int)
def Qa6:List (Nat×Sum):=[(129,jc4)]
theorem Cb4:i9 prog G Qa6:=⟨Zc5,trivial⟩
structure Q3 where
 g7:PLq
 (is7 B0 l6 B1 s7:Int)
structure q9 where
 is8:Int
def Ja4(p:Q3)(s:q9):St:=⟨eL tP p.g7::.fn 129 [.ptr 0 0 0 0]::ra 5 (i p.is7::i s.is8::ra 10 []),[⟨0,4,[[i p.B0,i p.l6,i p.B1,i p.s7]],true,false,0⟩]⟩
def L7{α:Type}(k:q9->α)(e:Nat->α)(z:α)(p:Q3)(s:q9):α:=let y0:=(gL tP p.g7 s.is8.toNat);let t1:=(xb7 ⟨y0.n.x,y0.n.y,y0.n.z,y0.b,p.B0,p.l6,p.B1,p.s7⟩);(sl (decide (s.is8<p.is7)) (sl (inB s.is8 (List.length p.g7)) (sl t1.bs0 (e 1) (k ⟨W (s.is8+1)⟩)) z) (e 2))
def O1(p:Q3)(s:q9):Stp q9:=L7 .next .exit .fail p s
def ra0:Lo Q3 q9:=⟨En Qa6,1,me1,[1,0,1,4,4],[0,1,7,8],.p,[⟨sLq tP::.fn 129 [.o (.ptr 0 0 0 0)]::ru2 5 (sIq::sIq::ru2 10 []),[⟨0,4,true,some [kLq 4]⟩],λa H=>(⟨aLq tP a 0,aIq a 7,hIq H 0 0 0,hIq H 0 0 1,hIq H 0 0 2,hIq H 0 0 3⟩,⟨aIq a 8⟩)⟩],O1,[(none,λp s=>⟨[i s.is8],[⟨0,4,[[i p.B0,i p.l6,i p.B1,i p.s7]],true,false,0⟩]⟩),(some 0,λp s=>upq (Ja4 p s) [(9,b (decide (s.is8<p.is7)))])],Ja4⟩
theorem xb8:ra0.Ok:=Lo.ok [] (by kernel_rfl) .nil rfl (.cons (λa H=>by kernel_rfl) .nil) λp s=>(.of @L7 (λF _ _ _ _ _=>by unfold L7;(repeat' apply j6 (f:=F))<;>rfl) (by kernel_rfl))
structure ha1 where
 alt:Nat
 is0:Int
def M6{α:Type}(kk:ha1->α)(x:ha0):α:=let t1:=(lp (O1 (⟨rt tP x.g7,(↑(List.length x.g7):Int),x.B0,x.l6,x.B1,x.s7⟩:Q3)) (⟨0⟩:q9));(sl ((cnE tP x.g7)&&true) (sl (Nat.beq t1.1 1) (kk ⟨1,t1.2.is8⟩) (sl (Nat.beq t1.1 2) (kk ⟨1,-1⟩) (kk ⟨0,0⟩))) (kk ⟨0,0⟩))
def ha2(x:ha0):ha1:=M6 (λr=>r) x
def ta4(x:ha0)(r:ha1):DT (c7×List c8):=(.ite (Nat.beq r.alt 1) (.ret (i r.is0,[⟨0,4,[[i x.B0,i x.l6,i x.B1,i x.s7]],true,false,0⟩])) .fail)
theorem Mb2{α β:Type}(F:α->β)(kk:ha1->α)(x:ha0):F (M6 kk x)=M6 (λr=>F (kk r)) x:=by unfold M6;(repeat' apply j6 (f:=F))<;>rfl
def Wa4:Sum:=Ma9 ⟨[sLq tP,.fn 129 [.o (.ptr 0 0 0 0)]],[⟨0,4,true,some [kLq 4]⟩],λa H=>(⟨aLq tP a 0,hIq H 0 0 0,hIq H 0 0 1,hIq H 0 0 2,hIq H 0 0 3⟩,())⟩ (λx=>ta4 x (ha2 x))
theorem Ib4:g9 prog G 118 Wa4:=F6 (enc:=λx=>⟨[eL tP x.g7,.fn 129 [.ptr 0 0 0 0]],[⟨0,4,[[i x.B0,i x.l6,i x.B1,i x.s7]],true,false,0⟩]⟩) (λa H=>by kernel_rfl) (bd xf9 Cb4) λx=>Ia8 (.s .p (.s (.s .p (.b (.u ra0.ls))) .p)) [ra0.pr] (by kernel_rfl) (.cons xb8 .nil) (Qha (b:=M6 (λr=>(ta4 x r).run) x) (by kernel_rfl) (Mb2 (λr=>(ta4 x r).run) (λr=>r) x).symm)
structure X9 where
 g7:PLq
 (B0 l6 B1 s7:Int)
def ub1:List (Nat×Sum):=[(118,Wa4)]
theorem pb2:i9 prog G ub1:=⟨Ib4,trivial⟩
structure Y0 where
 alt:Nat
 bs0:Bool
def G9{α:Type}(kk:Y0->α)(x:X9):α:=let t1:=(ha2 ⟨rt tP x.g7,x.B0,x.l6,x.B1,x.s7⟩);(sl ((cnE tP x.g7)&&true) (sl (Nat.beq t1.alt 1) (kk ⟨1,decide (t1.is0>=0)⟩) (kk ⟨0,false⟩)) (kk ⟨0,false⟩))
def oa4(x:X9):Y0:=G9 (λr=>r) x
def ma3(x:X9)(r:Y0):DT (c7×List c8):=(.ite (Nat.beq r.alt 1) (.ret (b r.bs0,[⟨0,4,[[i x.B0,i x.l6,i x.B1,i x.s7]],true,false,0⟩])) .fail)
theorem xb9{α β:Type}(F:α->β)(kk:Y0->α)(x:X9):F (G9 kk x)=G9 (λr=>F (kk r)) x:=by unfold G9;(repeat' apply j6 (f:=F))<;>rfl
def Ja5:Sum:=Ma9 ⟨[sLq tP,.fn 129 [.o (.ptr 0 0 0 0)]],[⟨0,4,true,some [kLq 4]⟩],λa H=>(⟨aLq tP a 0,hIq H 0 0 0,hIq H 0 0 1,hIq H 0 0 2,hIq H 0 0 3⟩,())⟩ (λx=>ma3 x (oa4 x))
theorem ub2:g9 prog G 93 Ja5:=F6 (enc:=λx=>⟨[eL tP x.g7,.fn 129 [.ptr 0 0 0 0]],[⟨0,4,[[i x.B0,i x.l6,i x.B1,i x.s7]],true,false,0⟩]⟩) (λa H=>by kernel_rfl) (bd b93 pb2) λx=>B7 (Qha (b:=G9 (λr=>(ma3 x r).run) x) (by kernel_rfl) (xb9 (λr=>(ma3 x r).run) (λr=>r) x).symm)
def yd2:List (Nat×Sum):=[(93,Ja5)]
theorem ld4:i9 prog G yd2:=⟨ub2,trivial⟩
def ab0(x:PLq)(y:Pt):ROq:=let t1:=(oa4 ⟨rt tP x,y.px,y.py,y.pz,y.pw⟩);(sl ((cnE tP x)&&true) (sl (Nat.beq t1.alt 1) (some (b (!t1.bs0),[])) none) none)
def Ma0(x:PLq)(y:Pt):Bool:=ba8 (one r1B) (ab0 x y)
def Ma1(x:PLq)(y:Pt):Bool:=okO (one r1B) (ab0 x y)
def Fc5:Sum:=Aa5 (ta2 tP) (Da1 tX) (λx y=>.guard (Ma1 x y) (.ret ((one r1B).enc (Ma0 x y),[])))
theorem yd3:g9 prog G 102 Fc5:=Sb2 (bd jg4 ld4) (one r1B) (o:=ab0) λx y=>B7 (by kernel_rfl)
def ab1:List (Nat×Sum):=[]
theorem Mb3:i9 prog G ab1:=trivial
@[reducible] noncomputable def eb9:Sum:=Wb0 (En ab1) Hf8
theorem Sb6:g9 prog G 124 eb9:=bd lg0 Mb3
def jb2:List (Nat×Sum):=[(124,eb9)]
theorem Xb3:i9 prog G jb2:=⟨Sb6,trivial⟩
@[reducible] noncomputable def nb2:Sum:=Wb0 (En jb2) Gf7
theorem dc6:g9 prog G 100 nb2:=bd jg2 Xb3
def ra1:List (Nat×Sum):=[(101,hd6),(102,Fc5),(100,nb2)]
theorem Xb4:i9 prog G ra1:=⟨Zd1,yd3,dc6,trivial⟩
structure j9 where
 is3:Int
 E7:PLq
 (K3 s8:Int)
 Kd4:Nat
 Kd5:Nat->List c7
 (od5 Vb2:Int)
 qf7:Nat
 qf8:Nat->List c7
 Dc5:Int
 d7:PLq
 (Ia2 Ia3 Ia4 Ia5 hc3 W7 hc5 Wc0:Int)
 Wa2:PLq
structure k8 where
 ph:Nat
 od6:Int
 Eb4:Nat
 (eh6 eh7:List (List c7))
def Wa5(p:j9)(s:k8):St:=⟨.unk::.ptr 0 0 0 0::.unk::i p.is3::.ptr 1 0 0 0::.unk::.ptr 2 0 0 0::.unk::.unk::eL tP p.E7::i p.K3::i p.s8::ra 7 (.tree 4 p.Kd4 p.Kd5::i p.od5::i p.Vb2::ra 9 (.tree 4 p.qf7 p.qf8::i p.Dc5::i s.od6::ra 13 (i 0::.unk::.ptr 3 0 0 0::.v (.slice none 0 0)::.ptr 4 0 0 0::.ptr 5 0 0 0::ra 31 []))),[⟨0,1,[[eL tP p.d7]],true,false,0⟩,⟨0,4,[[i p.Ia2,i p.Ia3,i p.Ia4,i p.Ia5]],true,false,0⟩,⟨0,4,[[i p.hc3,i p.W7,i p.hc5,i p.Wc0]],true,false,0⟩,⟨0,1,[[eL tP p.Wa2]],true,false,0⟩,⟨0,0,[[.v (.slice none 0 0)]],true,false,0⟩,⟨0,0,[[.ptr 6 0 0 0]],true,false,0⟩,⟨124,0,[],true,false,0⟩]⟩
def Wa6(p:j9)(s:k8):St:=⟨.unk::.ptr 0 0 0 0::.unk::i p.is3::.ptr 1 0 0 0::.unk::.ptr 2 0 0 0::.unk::.unk::eL tP p.E7::i p.K3::i p.s8::ra 7 (.tree 4 p.Kd4 p.Kd5::i p.od5::i p.Vb2::ra 9 (.tree 4 p.qf7 p.qf8::i p.Dc5::i s.od6::ra 13 (i 0::.unk::.ptr 3 0 0 0::.v (.slice none 0 0)::.ptr 4 0 0 0::.ptr 5 0 0 0::ra 31 []))),[⟨0,1,[[eL tP p.d7]],true,false,0⟩,⟨0,4,[[i p.Ia2,i p.Ia3,i p.Ia4,i p.Ia5]],true,false,0⟩,⟨0,4,[[i p.hc3,i p.W7,i p.hc5,i p.Wc0]],true,false,0⟩,⟨0,1,[[eL tP p.Wa2]],true,false,0⟩,⟨0,0,[[.sl 6 0 s.Eb4 0]],true,false,0⟩,⟨0,0,[[.ptr 7 0 0 0]],true,false,0⟩,⟨114,4,s.eh6,true,false,0⟩,⟨124,0,s.eh7,true,false,0⟩]⟩
def Sb7(p:j9)(s:k8):St:=(sel (Nat.beq s.ph 1) (Wa6 p s) (Wa5 p s))
def F9{α:Type}(k:k8->α)(e:Nat->α)(z:α)(p:j9)(s:k8):α:=let y2:=(W (s.od6+1));let y1:=(p.qf8 s.od6.toNat);let y0:=(⟨(⟨(⟨p.Ia2,p.Ia3,p.Ia4⟩:V3),p.Ia5⟩:Pln),(⟨(⟨p.hc3,p.W7,p.hc5⟩:V3),p.Wc0⟩:Pln),(⟨(⟨toI (hdA y1),toI (hdA (tlA y1)),toI (hdA (tlA (tlA y1)))⟩:V3),toI (hdA (tlA (tlA (tlA y1))))⟩:Pln)⟩:Tp);let t1:=(tb9 y0);let t2:=(Ma0 (rt tP p.Wa2) t1.1);(sl (decide (s.od6<p.Dc5)) (sl (inB s.od6 p.qf7) (sl ((Nat.ble 4 (len y1))&&(Na9 [CK.int .i64,CK.int .i64,CK.int .i64,CK.int .i64] y1)) (sl (ub0 y0) (sl t1.2 (sl (!(Mc9 4 [(0,.int .i64),(1,.int .i64),(2,.int .i64),(3,.int .i64)] [i t1.1.px,i t1.1.py,i t1.1.pz,i t1.1.pw] [])) (sl (okE tP p.Wa2) (sl (Ma1 (rt tP p.Wa2) t1.1) (sl t2 (k ⟨1,y2,1,[[i t1.1.px,i t1.1.py,i t1.1.pz,i t1.1.pw]],Rb5 [(0,.int .i64),(1,.int .i64),(2,.int .i64),(3,.int .i64)] [i t1.1.px,i t1.1.py,i t1.1.pz,i t1.1.pw] [i t1.1.px,i t1.1.py,i t1.1.pz,i t1.1.pw,b true] []⟩) (k ⟨0,y2,0,[],[]⟩)) z) z) (k ⟨0,y2,0,[],[]⟩)) (k ⟨0,y2,0,[],[]⟩)) z) z) z) (e 1))
def G0{α:Type}(k:k8->α)(e:Nat->α)(z:α)(p:j9)(s:k8):α:=let y2:=(W (s.od6+1));let y1:=(p.qf8 s.od6.toNat);let y0:=(⟨(⟨(⟨p.Ia2,p.Ia3,p.Ia4⟩:V3),p.Ia5⟩:Pln),(⟨(⟨p.hc3,p.W7,p.hc5⟩:V3),p.Wc0⟩:Pln),(⟨(⟨toI (hdA y1),toI (hdA (tlA y1)),toI (hdA (tlA (tlA y1)))⟩:V3),toI (hdA (tlA (tlA (tlA y1))))⟩:Pln)⟩:Tp);let t1:=(tb9 y0);let t2:=(Ma0 (rt tP p.Wa2) t1.1);(sl (decide (s.od6<p.Dc5)) (sl (inB s.od6 p.qf7) (sl ((Nat.ble 4 (len y1))&&(Na9 [CK.int .i64,CK.int .i64,CK.int .i64,CK.int .i64] y1)) (sl (ub0 y0) (sl t1.2 (sl (!(Mc9 4 [(0,.int .i64),(1,.int .i64),(2,.int .i64),(3,.int .i64)] [i t1.1.px,i t1.1.py,i t1.1.pz,i t1.1.pw] s.eh7)) (sl (okE tP p.Wa2) (sl (Ma1 (rt tP p.Wa2) t1.1) (sl t2 (sl (Nat.beq s.Eb4 (len s.eh6)&&Nat.ble ((s.Eb4+1)*32) room) (k ⟨1,y2,s.Eb4+1,app s.eh6 [[i t1.1.px,i t1.1.py,i t1.1.pz,i t1.1.pw]],Rb5 [(0,.int .i64),(1,.int .i64),(2,.int .i64),(3,.int .i64)] [i t1.1.px,i t1.1.py,i t1.1.pz,i t1.1.pw] [i t1.1.px,i t1.1.py,i t1.1.pz,i t1.1.pw,b true] s.eh7⟩) z) (k ⟨1,y2,s.Eb4,s.eh6,s.eh7⟩)) z) z) (k ⟨1,y2,s.Eb4,s.eh6,s.eh7⟩)) (k ⟨1,y2,s.Eb4,s.eh6,s.eh7⟩)) z) z) z) (e 2))
def D4(p:j9)(s:k8):Stp k8:=(sel (Nat.beq s.ph 1) (G0 .next .exit .fail p s) (F9 .next .exit .fail p s))
def Da5:Lo j9 k8:=⟨En ra1,0,xf7,[1,1,1,0,1,4,4,1,4,4,1,1,0,4,1,1,4,4,1,1,0,4,1,1,4,4],[1,3,4,6,9,10,11,19,20,21,31,32,33,47,49,50,51,52],.p,[⟨sUq::sPq 0::sUq::sIq::sPq 1::sUq::sPq 2::sUq::sUq::sLq tP::sIq::sIq::ru2 7 (sTq 4::sIq::sIq::ru2 9 (sTq 4::sIq::sIq::ru2 13 (.s (.o (.lit .i64 0))::sUq::sPq 3::.s (.o .nil)::sPq 4::sPq 5::ru2 31 []))),[⟨0,1,true,some [[.c 4 (nL tP)]]⟩,⟨0,4,true,some [kLq 4]⟩,⟨0,4,true,some [kLq 4]⟩,⟨0,1,true,some [[.c 4 (nL tP)]]⟩,⟨0,0,true,some [[.o .nil]]⟩,⟨0,0,true,some [[.o (.ptr 6 0 0 0)]]⟩,⟨124,0,true,some []⟩],λa H=>(⟨aIq a 3,aLq tP a 9,aIq a 10,aIq a 11,aNq a 19,aGq a 19,aIq a 20,aIq a 21,aNq a 31,aGq a 31,aIq a 32,hLq tP H 0 0 0,hIq H 1 0 0,hIq H 1 0 1,hIq H 1 0 2,hIq H 1 0 3,hIq H 2 0 0,hIq H 2 0 1,hIq H 2 0 2,hIq H 2 0 3,hLq tP H 3 0 0⟩,⟨0,aIq a 33,0,[],[]⟩)⟩,⟨sUq::sPq 0::sUq::sIq::sPq 1::sUq::sPq 2::sUq::sUq::sLq tP::sIq::sIq::ru2 7 (sTq 4::sIq::sIq::ru2 9 (sTq 4::sIq::sIq::ru2 13 (.s (.o (.lit .i64 0))::sUq::sPq 3::.s (.o .nil)::sPq 4::sPq 5::ru2 31 []))),[⟨0,1,true,some [[.c 4 (nL tP)]]⟩,⟨0,4,true,some [kLq 4]⟩,⟨0,4,true,some [kLq 4]⟩,⟨0,1,true,some [[.c 4 (nL tP)]]⟩,⟨0,0,true,some [[.o (.sl 6 0 (some 0) none)]]⟩,⟨0,0,true,some [[.o (.ptr 7 0 0 0)]]⟩,⟨114,4,true,none⟩,⟨124,0,true,none⟩],λa H=>(⟨aIq a 3,aLq tP a 9,aIq a 10,aIq a 11,aNq a 19,aGq a 19,aIq a 20,aIq a 21,aNq a 31,aGq a 31,aIq a 32,hLq tP H 0 0 0,hIq H 1 0 0,hIq H 1 0 1,hIq H 1 0 2,hIq H 1 0 3,hIq H 2 0 0,hIq H 2 0 1,hIq H 2 0 2,hIq H 2 0 3,hLq tP H 3 0 0⟩,⟨1,aIq a 33,slN (slT (rwT (elT H 4) 0) 0),elT H 6,elT H 7⟩)⟩],D4,[(some 4,λp s=>upq (Wa5 p s) [(34,b (decide (s.od6<p.Dc5)))]),(some 4,λp s=>upq (Wa6 p s) [(34,b (decide (s.od6<p.Dc5)))])],Sb7⟩
theorem Sb8:Da5.OkM:=Lo.okM [] (by kernel_rfl) .nil rfl (.cons (λa H=>by kernel_rfl) (.cons (λa H=>by kernel_rfl) .nil)) λp s=>(.sel (Nat.beq s.ph 1) (.of @G0 (λF _ _ _ _ _=>by unfold G0;(repeat' apply j6 (f:=F))<;>rfl) (by kernel_rfl)) (.of @F9 (λF _ _ _ _ _=>by unfold F9;(repeat' apply j6 (f:=F))<;>rfl) (by kernel_rfl)))
structure k9 where
 (is3 K3 s8:Int)
 Kd4:Nat
 Kd5:Nat->List c7
 (od5 Ia2 Ia3 Ia4 Ia5:Int)
structure l7 where
 ph:Nat
 E7:PLq
 Vb2:Int
 (d7 Ma6:PLq)
 Wc1:Nat
 (eh5 eh6:List (List c7))
def Wa7(p:k9)(s:l7):St:=⟨.unk::.ptr 0 0 0 0::.unk::i p.is3::.ptr 1 0 0 0::ra 4 (eL tP s.E7::i p.K3::i p.s8::ra 7 (.tree 4 p.Kd4 p.Kd5::i p.od5::i s.Vb2::ra 25 (i 0::.unk::.ptr 2 0 0 0::.v (.slice none 0 0)::.ptr 3 0 0 0::.ptr 4 0 0 0::ra 31 []))),[⟨0,1,[[eL tP s.d7]],true,false,0⟩,⟨0,4,[[i p.Ia2,i p.Ia3,i p.Ia4,i p.Ia5]],true,false,0⟩,⟨0,1,[[eL tP s.Ma6]],true,false,0⟩,⟨0,0,[[.v (.slice none 0 0)]],true,false,0⟩,⟨0,0,[[.ptr 5 0 0 0]],true,false,0⟩,⟨124,0,[],true,false,0⟩]⟩
def Wa8(p:k9)(s:l7):St:=⟨.unk::.ptr 0 0 0 0::.unk::i p.is3::.ptr 1 0 0 0::ra 4 (eL tP s.E7::i p.K3::i p.s8::ra 7 (.tree 4 p.Kd4 p.Kd5::i p.od5::i s.Vb2::ra 25 (i 0::.unk::.ptr 2 0 0 0::.v (.slice none 0 0)::.ptr 3 0 0 0::.ptr 4 0 0 0::ra 31 []))),[⟨0,1,[[eL tP s.d7]],true,false,0⟩,⟨0,4,[[i p.Ia2,i p.Ia3,i p.Ia4,i p.Ia5]],true,false,0⟩,⟨0,1,[[eL tP s.Ma6]],true,false,0⟩,⟨0,0,[[.sl 5 0 s.Wc1 0]],true,false,0⟩,⟨0,0,[[.ptr 6 0 0 0]],true,false,0⟩,⟨114,4,s.eh5,true,false,0⟩,⟨124,0,s.eh6,true,false,0⟩]⟩
def Sb9(p:k9)(s:l7):St:=(sel (Nat.beq s.ph 1) (Wa8 p s) (Wa7 p s))
def G1{α:Type}(k:l7->α)(e:Nat->α)(z:α)(p:k9)(s:l7):α:=let y4:=(rt tP s.Ma6);let y3:=(rt tP s.d7);let y2:=(List.length s.d7);let y1:=(W ((W (p.is3+s.Vb2))+2));let y0:=(p.Kd5 s.Vb2.toNat);let t1:=(lp (D4 (⟨p.is3,rt tP s.E7,p.K3,p.s8,p.Kd4,p.Kd5,p.od5,s.Vb2,y2-y1.toNat,(λk=>(λk=>(tP).row (gL tP s.d7 k)) (y1.toNat+k)),(↑(y2-y1.toNat):Int),y3,p.Ia2,p.Ia3,p.Ia4,p.Ia5,toI (hdA y0),toI (hdA (tlA y0)),toI (hdA (tlA (tlA y0))),toI (hdA (tlA (tlA (tlA y0)))),y4⟩:j9)) (⟨0,0,0,[],[]⟩:k8));(sl (decide (s.Vb2<p.od5)) (sl (inB s.Vb2 p.Kd4) (sl ((Nat.ble 4 (len y0))&&(Na9 [CK.int .i64,CK.int .i64,CK.int .i64,CK.int .i64] y0)) (sl (inB y1 (y2+1)) (sl ((cnE tP s.E7)&&((cnE tP s.d7)&&((cnE tP s.Ma6)&&true))) (sl (Nat.beq t1.1 1) (k ⟨0,rt tP s.E7,W (s.Vb2+1),y3,y4,0,[],[]⟩) (sl (Nat.beq t1.1 2) (k ⟨1,rt tP s.E7,W (s.Vb2+1),y3,y4,t1.2.Eb4,t1.2.eh6,t1.2.eh7⟩) z)) z) z) z) z) (e 1))
def G2{α:Type}(k:l7->α)(e:Nat->α)(z:α)(p:k9)(s:l7):α:=let y4:=(rt tP s.Ma6);let y3:=(rt tP s.d7);let y2:=(List.length s.d7);let y1:=(W ((W (p.is3+s.Vb2))+2));let y0:=(p.Kd5 s.Vb2.toNat);let t1:=(lp (D4 (⟨p.is3,rt tP s.E7,p.K3,p.s8,p.Kd4,p.Kd5,p.od5,s.Vb2,y2-y1.toNat,(λk=>(λk=>(tP).row (gL tP s.d7 k)) (y1.toNat+k)),(↑(y2-y1.toNat):Int),y3,p.Ia2,p.Ia3,p.Ia4,p.Ia5,toI (hdA y0),toI (hdA (tlA y0)),toI (hdA (tlA (tlA y0))),toI (hdA (tlA (tlA (tlA y0)))),y4⟩:j9)) (⟨1,0,s.Wc1,s.eh5,s.eh6⟩:k8));(sl (decide (s.Vb2<p.od5)) (sl (inB s.Vb2 p.Kd4) (sl ((Nat.ble 4 (len y0))&&(Na9 [CK.int .i64,CK.int .i64,CK.int .i64,CK.int .i64] y0)) (sl (inB y1 (y2+1)) (sl ((cnE tP s.E7)&&((cnE tP s.d7)&&((cnE tP s.Ma6)&&true))) (sl (Nat.beq t1.1 1) (k ⟨0,rt tP s.E7,W (s.Vb2+1),y3,y4,0,[],[]⟩) (sl (Nat.beq t1.1 2) (k ⟨1,rt tP s.E7,W (s.Vb2+1),y3,y4,t1.2.Eb4,t1.2.eh6,t1.2.eh7⟩) z)) z) z) z) z) (e 2))
def D5(p:k9)(s:l7):Stp l7:=(sel (Nat.beq s.ph 1) (G2 .next .exit .fail p s) (G1 .next .exit .fail p s))
def Da6:Lo k9 l7:=⟨En ra1,0,xf7,[1,1,1,0,1,4,4,1,4,4,1,1,0,4,1,1,4,4],[1,3,4,9,10,11,19,20,21,47,49,50,51,52],.s .p (.s .p (.s (.b (.s .p (.s .p (.b (.u Da5.lsM))))) .p)),[⟨sUq::sPq 0::sUq::sIq::sPq 1::ru2 4 (sLq tP::sIq::sIq::ru2 7 (sTq 4::sIq::sIq::ru2 25 (.s (.o (.lit .i64 0))::sUq::sPq 2::.s (.o .nil)::sPq 3::sPq 4::ru2 31 []))),[⟨0,1,true,some [[.c 4 (nL tP)]]⟩,⟨0,4,true,some [kLq 4]⟩,⟨0,1,true,some [[.c 4 (nL tP)]]⟩,⟨0,0,true,some [[.o .nil]]⟩,⟨0,0,true,some [[.o (.ptr 5 0 0 0)]]⟩,⟨124,0,true,some []⟩],λa H=>(⟨aIq a 3,aIq a 10,aIq a 11,aNq a 19,aGq a 19,aIq a 20,hIq H 1 0 0,hIq H 1 0 1,hIq H 1 0 2,hIq H 1 0 3⟩,⟨0,aLq tP a 9,aIq a 21,hLq tP H 0 0 0,hLq tP H 2 0 0,0,[],[]⟩)⟩,⟨sUq::sPq 0::sUq::sIq::sPq 1::ru2 4 (sLq tP::sIq::sIq::ru2 7 (sTq 4::sIq::sIq::ru2 25 (.s (.o (.lit .i64 0))::sUq::sPq 2::.s (.o .nil)::sPq 3::sPq 4::ru2 31 []))),[⟨0,1,true,some [[.c 4 (nL tP)]]⟩,⟨0,4,true,some [kLq 4]⟩,⟨0,1,true,some [[.c 4 (nL tP)]]⟩,⟨0,0,true,some [[.o (.sl 5 0 (some 0) none)]]⟩,⟨0,0,true,some [[.o (.ptr 6 0 0 0)]]⟩,⟨114,4,true,none⟩,⟨124,0,true,none⟩],λa H=>(⟨aIq a 3,aIq a 10,aIq a 11,aNq a 19,aGq a 19,aIq a 20,hIq H 1 0 0,hIq H 1 0 1,hIq H 1 0 2,hIq H 1 0 3⟩,⟨1,aLq tP a 9,aIq a 21,hLq tP H 0 0 0,hLq tP H 2 0 0,slN (slT (rwT (elT H 3) 0) 0),elT H 5,elT H 6⟩)⟩],D5,[(some 2,λp s=>upq (Wa7 p s) [(22,b (decide (s.Vb2<p.od5)))]),(some 2,λp s=>upq (Wa8 p s) [(22,b (decide (s.Vb2<p.od5)))])],Sb9⟩
theorem Tb0:Da6.OkM:=Lo.okM [Da5.prM] (by kernel_rfl) (.cons Sb8 .nil) rfl (.cons (λa H=>by kernel_rfl) (.cons (λa H=>by kernel_rfl) .nil)) λp s=>(.sel (Nat.beq s.ph 1) (.of @G2 (λF _ _ _ _ _=>by unfold G2;(repeat' apply j6 (f:=F))<;>rfl) (by kernel_rfl)) (.of @G1 (λF _ _ _ _ _=>by unfold G1;(repeat' apply j6 (f:=F))<;>rfl) (by kernel_rfl)))
structure w7 where
 K3:Int
structure o3 where
 ph:Nat
 E7:PLq
 s8:Int
 (d7 Fb6:PLq)
 F7:Nat
 (eh4 eh5:List (List c7))
def Wa9(p:w7)(s:o3):St:=⟨.unk::.ptr 0 0 0 0::ra 7 (eL tP s.E7::i p.K3::i s.s8::ra 35 (i 0::.unk::.ptr 1 0 0 0::.v (.slice none 0 0)::.ptr 2 0 0 0::.ptr 3 0 0 0::ra 31 [])),[⟨0,1,[[eL tP s.d7]],true,false,0⟩,⟨0,1,[[eL tP s.Fb6]],true,false,0⟩,⟨0,0,[[.v (.slice none 0 0)]],true,false,0⟩,⟨0,0,[[.ptr 4 0 0 0]],true,false,0⟩,⟨124,0,[],true,false,0⟩]⟩
def Xa0(p:w7)(s:o3):St:=⟨.unk::.ptr 0 0 0 0::ra 7 (eL tP s.E7::i p.K3::i s.s8::ra 35 (i 0::.unk::.ptr 1 0 0 0::.v (.slice none 0 0)::.ptr 2 0 0 0::.ptr 3 0 0 0::ra 31 [])),[⟨0,1,[[eL tP s.d7]],true,false,0⟩,⟨0,1,[[eL tP s.Fb6]],true,false,0⟩,⟨0,0,[[.sl 4 0 s.F7 0]],true,false,0⟩,⟨0,0,[[.ptr 5 0 0 0]],true,false,0⟩,⟨114,4,s.eh4,true,false,0⟩,⟨124,0,s.eh5,true,false,0⟩]⟩
def Tb1(p:w7)(s:o3):St:=(sel (Nat.beq s.ph 1) (Xa0 p s) (Wa9 p s))
def G3{α:Type}(k:o3->α)(e:Nat->α)(z:α)(p:w7)(s:o3):α:=let y2:=(List.length s.d7);let y1:=(W (s.s8+1));let y0:=(gL tP s.E7 s.s8.toNat);let t1:=(lp (D5 (⟨s.s8,p.K3,s.s8,y2-y1.toNat,(λk=>(λk=>(tP).row (gL tP s.d7 k)) (y1.toNat+k)),(↑(y2-y1.toNat):Int),y0.n.x,y0.n.y,y0.n.z,y0.b⟩:k9)) (⟨0,rt tP s.E7,0,rt tP s.d7,rt tP s.Fb6,0,[],[]⟩:l7));(sl (decide (s.s8<p.K3)) (sl (inB s.s8 (List.length s.E7)) (sl (inB y1 (y2+1)) (sl ((cnE tP s.E7)&&((cnE tP s.d7)&&((cnE tP s.Fb6)&&true))) (sl (Nat.beq t1.1 1) (k ⟨0,t1.2.E7,y1,t1.2.d7,t1.2.Ma6,0,[],[]⟩) (sl (Nat.beq t1.1 2) (k ⟨1,t1.2.E7,y1,t1.2.d7,t1.2.Ma6,t1.2.Wc1,t1.2.eh5,t1.2.eh6⟩) z)) z) z) z) (e 1))
def G4{α:Type}(k:o3->α)(e:Nat->α)(z:α)(p:w7)(s:o3):α:=let y2:=(List.length s.d7);let y1:=(W (s.s8+1));let y0:=(gL tP s.E7 s.s8.toNat);let t1:=(lp (D5 (⟨s.s8,p.K3,s.s8,y2-y1.toNat,(λk=>(λk=>(tP).row (gL tP s.d7 k)) (y1.toNat+k)),(↑(y2-y1.toNat):Int),y0.n.x,y0.n.y,y0.n.z,y0.b⟩:k9)) (⟨1,rt tP s.E7,0,rt tP s.d7,rt tP s.Fb6,s.F7,s.eh4,s.eh5⟩:l7));(sl (decide (s.s8<p.K3)) (sl (inB s.s8 (List.length s.E7)) (sl (inB y1 (y2+1)) (sl ((cnE tP s.E7)&&((cnE tP s.d7)&&((cnE tP s.Fb6)&&true))) (sl (Nat.beq t1.1 1) (k ⟨0,t1.2.E7,y1,t1.2.d7,t1.2.Ma6,0,[],[]⟩) (sl (Nat.beq t1.1 2) (k ⟨1,t1.2.E7,y1,t1.2.d7,t1.2.Ma6,t1.2.Wc1,t1.2.eh5,t1.2.eh6⟩) z)) z) z) z) (e 2))
def D6(p:w7)(s:o3):Stp o3:=(sel (Nat.beq s.ph 1) (G4 .next .exit .fail p s) (G3 .next .exit .fail p s))
def Da7:Lo w7 o3:=⟨En ra1,0,xf7,[1,1,1,0,1,4,4,1,4,4],[1,9,10,11,47,49,50,51,52],.s .p (.s .p (.s (.b (.s .p (.s .p (.b (.u Da6.lsM))))) .p)),[⟨sUq::sPq 0::ru2 7 (sLq tP::sIq::sIq::ru2 35 (.s (.o (.lit .i64 0))::sUq::sPq 1::.s (.o .nil)::sPq 2::sPq 3::ru2 31 [])),[⟨0,1,true,some [[.c 4 (nL tP)]]⟩,⟨0,1,true,some [[.c 4 (nL tP)]]⟩,⟨0,0,true,some [[.o .nil]]⟩,⟨0,0,true,some [[.o (.ptr 4 0 0 0)]]⟩,⟨124,0,true,some []⟩],λa H=>(⟨aIq a 10⟩,⟨0,aLq tP a 9,aIq a 11,hLq tP H 0 0 0,hLq tP H 1 0 0,0,[],[]⟩)⟩,⟨sUq::sPq 0::ru2 7 (sLq tP::sIq::sIq::ru2 35 (.s (.o (.lit .i64 0))::sUq::sPq 1::.s (.o .nil)::sPq 2::sPq 3::ru2 31 [])),[⟨0,1,true,some [[.c 4 (nL tP)]]⟩,⟨0,1,true,some [[.c 4 (nL tP)]]⟩,⟨0,0,true,some [[.o (.sl 4 0 (some 0) none)]]⟩,⟨0,0,true,some [[.o (.ptr 5 0 0 0)]]⟩,⟨114,4,true,none⟩,⟨124,0,true,none⟩],λa H=>(⟨aIq a 10⟩,⟨1,aLq tP a 9,aIq a 11,hLq tP H 0 0 0,hLq tP H 1 0 0,slN (slT (rwT (elT H 2) 0) 0),elT H 4,elT H 5⟩)⟩],D6,[(some 0,λp s=>upq (Wa9 p s) [(12,b (decide (s.s8<p.K3)))]),(some 0,λp s=>upq (Xa0 p s) [(12,b (decide (s.s8<p.K3)))])],Tb1⟩
theorem Tb2:Da7.OkM:=Lo.okM [Da6.prM] (by kernel_rfl) (.cons Tb0 .nil) rfl (.cons (λa H=>by kernel_rfl) (.cons (λa H=>by kernel_rfl) .nil)) λp s=>(.sel (Nat.beq s.ph 1) (.of @G4 (λF _ _ _ _ _=>by unfold G4;(repeat' apply j6 (f:=F))<;>rfl) (by kernel_rfl)) (.of @G3 (λF _ _ _ _ _=>by unfold G3;(repeat' apply j6 (f:=F))<;>rfl) (by kernel_rfl)))
def ia8(x:PLq):ROq:=let t1:=(lp (D6 (⟨(↑(List.length x):Int)⟩:w7)) (⟨0,rt tP x,0,rt tP x,rt tP x,0,[],[]⟩:o3));(sl ((cnE tP x)&&((cnE tP x)&&((cnE tP x)&&true))) (sl (Nat.beq t1.1 1) (some (.v (.slice none 0 0),[])) (sl (Nat.beq t1.1 2) (some (.sl 0 0 t1.2.F7 0,[⟨114,4,t1.2.eh4,true,false,0⟩])) none)) none)
def ia9(x:PLq):List Pt:=ba8 (one (r1L tX)) (ia8 x)
def ja0(x:PLq):Bool:=okO (one (r1L tX)) (ia8 x)
def Na1:Sum:=ga4 (ta2 tP) (λx=>.guard (ja0 x) (.ret ((one (r1L tX)).enc (ia9 x),[])))
theorem jb3:g9 prog G 80 Na1:=db8 (bd b80 Xb4) (one (r1L tX)) (o:=ia8) λx=>Od9 (.s .p (.s .p (.s .p (.s (.s .p (.b (.i (.s .p (.b (.u Da7.lsM)))))) .p)))) [Da7.prM] (by kernel_rfl) (.cons Tb2 .nil) (by kernel_rfl)
def jc5:List (Nat×Sum):=[]
theorem Zc6:i9 prog G jc5:=trivial
structure Da8 where
 is0:Int
 Oe4:List Int
 is8:Int
structure T5 where
 is9:Int
def Qb4(p:Da8)(s:T5):St:=⟨i p.is0::ra 6 (eL tI p.Oe4::i p.is8::i s.is9::ra 13 []),[]⟩
def ta5{α:Type}(k:T5->α)(e:Nat->α)(z:α)(p:Da8)(s:T5):α:=(sl (decide (s.is9<p.is8)) (sl (inB s.is9 (List.length p.Oe4)) (sl (decide ((gL tI p.Oe4 s.is9.toNat)<(W (0-p.is0)))) (e 1) (sl (decide ((gL tI p.Oe4 s.is9.toNat)>p.is0)) (e 1) (k ⟨W (s.is9+1)⟩))) z) (e 2))
def ya1(p:Da8)(s:T5):Stp T5:=ta5 .next .exit .fail p s
def pb3:Lo Da8 T5:=⟨En jc5,0,Hf7,[1,0,1,4,4],[0,7,8,9],.p,[⟨sIq::ru2 6 (sLq tI::sIq::sIq::ru2 13 []),[],λa H=>(⟨aIq a 0,aLq tI a 7,aIq a 8⟩,⟨aIq a 9⟩)⟩],ya1,[(none,λp s=>⟨[b false],[]⟩),(some 0,λp s=>upq (Qb4 p s) [(10,b (decide (s.is9<p.is8)))])],Qb4⟩
theorem Rc3:pb3.Ok:=Lo.ok [] (by kernel_rfl) .nil rfl (.cons (λa H=>by kernel_rfl) .nil) λp s=>(.of @ta5 (λF _ _ _ _ _=>by unfold ta5;(repeat' apply j6 (f:=F))<;>rfl) (by kernel_rfl))
def Qa7(x:Int)(y:List Int):ROq:=let t1:=(lp (ya1 (⟨x,rt tI y,(↑(List.length y):Int)⟩:Da8)) (⟨0⟩:T5));(sl ((cnE tI y)&&true) (sl (Nat.beq t1.1 1) (some (b false,[])) (sl (Nat.beq t1.1 2) (some (b true,[])) none)) none)
def Qa8(x:Int)(y:List Int):Bool:=ba8 (one r1B) (Qa7 x y)
def Qa9(x:Int)(y:List Int):Bool:=okO (one r1B) (Qa7 x y)
def rc7:Sum:=Aa5 cI (ta2 tI) (λx y=>.guard (Qa9 x y) (.ret ((one r1B).enc (Qa8 x y),[])))
theorem ld5:g9 prog G 119 rc7:=Sb2 (bd kg8 Zc6) (one r1B) (o:=Qa7) λx y=>Ia8 (.s .p (.s (.s .p (.b (.u pb3.ls))) .p)) [pb3.pr] (by kernel_rfl) (.cons Rc3 .nil) (by kernel_rfl)
def Rc4:List (Nat×Sum):=[]
theorem Jc4:i9 prog G Rc4:=trivial
def Va5(x:Int):Int:=(if (W (0-x))>x then (W (0-x)) else x)
def Xb5:Sum:=ga4 cI (λx=>.ret ((one r1I).enc (Va5 x),[]))
theorem Rc5:g9 prog G 141 Xb5:=ib1 (bd mg6 Jc4) λx=>B7 (by kernel_rfl)
def pb4:List (Nat×Sum):=[(141,Xb5)]
theorem Rc6:i9 prog G pb4:=⟨Rc5,trivial⟩
structure na1 where
 nb6:List Int
 (is7 is8:Int)
structure V8 where
 (is3 is5:Int)
def Ib5(p:na1)(s:V8):St:=⟨ra 3 (i s.is3::.unk::i s.is5::eL tI p.nb6::i p.is7::i p.is8::ra 15 []),[]⟩
def pa5{α:Type}(k:V8->α)(e:Nat->α)(z:α)(p:na1)(s:V8):α:=(sl (decide (s.is5>0)) (sl (s.is5==0) z (k ⟨s.is5,Int.tmod s.is3 s.is5⟩)) (e 1))
def ja9(p:na1)(s:V8):Stp V8:=pa5 .next .exit .fail p s
def jb4:Lo na1 V8:=⟨En pb4,0,gf4,[1,1,0,1,4,4,1,1,0,4,1,1,1,4,4],[3,5,6,7,8],.p,[⟨ru2 3 (sIq::sUq::sIq::sLq tI::sIq::sIq::ru2 15 []),[],λa H=>(⟨aLq tI a 6,aIq a 7,aIq a 8⟩,⟨aIq a 3,aIq a 5⟩)⟩],ja9,[(some 2,λp s=>upq (Ib5 p s) [(16,i s.is5),(17,b (decide (s.is5>0)))])],Ib5⟩
theorem Jc5:jb4.Ok:=Lo.ok [] (by kernel_rfl) .nil rfl (.cons (λa H=>by kernel_rfl) .nil) λp s=>(.of @pa5 (λF _ _ _ _ _=>by unfold pa5;(repeat' apply j6 (f:=F))<;>rfl) (by kernel_rfl))
structure ya2 where
 is7:Int
structure Q4 where
 is3:Int
 nb6:List Int
 is8:Int
def Ib6(p:ya2)(s:Q4):St:=⟨ra 3 (i s.is3::.unk::.unk::eL tI s.nb6::i p.is7::i s.is8::ra 15 []),[]⟩
def pa6{α:Type}(k:Q4->α)(e:Nat->α)(z:α)(p:ya2)(s:Q4):α:=let t1:=(Va5 (gL tI s.nb6 s.is8.toNat));let t2:=(lp (ja9 (⟨rt tI s.nb6,p.is7,s.is8⟩:na1)) (⟨s.is3,t1⟩:V8));(sl (decide (s.is8<p.is7)) (sl (inB s.is8 (List.length s.nb6)) (sl ((gL tI s.nb6 s.is8.toNat)==(-9223372036854775808)) (e 1) (sl ((cnE tI s.nb6)&&true) (sl (Nat.beq t2.1 1) (k ⟨t2.2.is3,rt tI s.nb6,W (s.is8+1)⟩) z) z)) z) (e 2))
def ta6(p:ya2)(s:Q4):Stp Q4:=pa6 .next .exit .fail p s
def jb5:Lo ya2 Q4:=⟨En pb4,0,gf4,[1,1,0,1,4,4],[3,6,7,8],.s .p (.s .p (.s (.b (.s .p (.s .p (.s .p (.b (.u jb4.ls)))))) .p)),[⟨ru2 3 (sIq::sUq::sUq::sLq tI::sIq::sIq::ru2 15 []),[],λa H=>(⟨aIq a 7⟩,⟨aIq a 3,aLq tI a 6,aIq a 8⟩)⟩],ta6,[(none,λp s=>⟨[i 0],[]⟩),(some 0,λp s=>upq (Ib6 p s) [(9,b (decide (s.is8<p.is7)))])],Ib6⟩
theorem Jc6:jb5.Ok:=Lo.ok [jb4.pr] (by kernel_rfl) (.cons Jc5 .nil) rfl (.cons (λa H=>by kernel_rfl) .nil) λp s=>(.of @pa6 (λF _ _ _ _ _=>by unfold pa6;(repeat' apply j6 (f:=F))<;>rfl) (by kernel_rfl))
def Ja6(x:List Int):ROq:=let t1:=(lp (ta6 (⟨(↑(List.length x):Int)⟩:ya2)) (⟨0,rt tI x,0⟩:Q4));(sl ((cnE tI x)&&true) (sl (Nat.beq t1.1 1) (some (i 0,[])) (sl (Nat.beq t1.1 2) (some (i t1.2.is3,[])) none)) none)
def bb9(x:List Int):Int:=ba8 (one r1I) (Ja6 x)
def cb0(x:List Int):Bool:=okO (one r1I) (Ja6 x)
def jc6:Sum:=ga4 (ta2 tI) (λx=>.guard (cb0 x) (.ret ((one r1I).enc (bb9 x),[])))
theorem Zc7:g9 prog G 120 jc6:=db8 (bd kg9 Rc6) (one r1I) (o:=Ja6) λx=>Ia8 (.s .p (.s .p (.s (.s .p (.b (.u jb5.ls))) .p))) [jb5.pr] (by kernel_rfl) (.cons Jc6 .nil) (by kernel_rfl)
def yd4:List (Nat×Sum):=[(119,rc7),(120,jc6)]
theorem ld6:i9 prog G yd4:=⟨ld5,Zc7,trivial⟩
def ab2(x:Pln):ROq:=let t1:=(Qa8 4608 [x.n.x,x.n.y,x.n.z]);let t2:=(bb9 [x.n.x,x.n.y,x.n.z]);let t3:=(Qa8 2097152 [x.b]);(sl (Qa9 4608 [x.n.x,x.n.y,x.n.z]) (sl t1 (sl (cb0 [x.n.x,x.n.y,x.n.z]) (sl (t2==1) (sl (Qa9 2097152 [x.b]) (some (b t3,[])) none) (some (b false,[]))) none) (some (b false,[]))) none)
def sb0(x:Pln):Bool:=ba8 (one r1B) (ab2 x)
def sb1(x:Pln):Bool:=okO (one r1B) (ab2 x)
def Fc6:Sum:=ga4 (Da1 tP) (λx=>.guard (sb1 x) (.ret ((one r1B).enc (sb0 x),[])))
theorem yd5:g9 prog G 95 Fc6:=db8 (bd b95 ld6) (one r1B) (o:=ab2) λx=>B7 (by kernel_rfl)
def ld7:List (Nat×Sum):=[(95,Fc6)]
theorem Zc8:i9 prog G ld7:=⟨yd5,trivial⟩
def Ra0(x:Pln):ROq:=let t1:=(sb0 x);(sl (sb1 x) (some (b (!t1),[])) none)
def jb6(x:Pln):Bool:=ba8 (one r1B) (Ra0 x)
def jb7(x:Pln):Bool:=okO (one r1B) (Ra0 x)
def rc8:Sum:=ga4 (Da1 tP) (λx=>.guard (jb7 x) (.ret ((one r1B).enc (jb6 x),[])))
theorem ld8:g9 prog G 94 rc8:=db8 (bd b94 Zc8) (one r1B) (o:=Ra0) λx=>B7 (by kernel_rfl)
structure ha3 where
 g7:PLq
def Ra1:List (Nat×Sum):=[(94,rc8)]
theorem Cb5:i9 prog G Ra1:=⟨ld8,trivial⟩
structure Q5 where
 g7:PLq
 is7:Int
structure r5 where
 is8:Int
def Ja7(p:Q5)(s:r5):St:=⟨eL tP p.g7::.fn 94 []::ra 5 (i p.is7::i s.is8::ra 10 []),[]⟩
def L8{α:Type}(k:r5->α)(e:Nat->α)(z:α)(p:Q5)(s:r5):α:=let t1:=(jb6 (gL tP p.g7 s.is8.toNat));(sl (decide (s.is8<p.is7)) (sl (inB s.is8 (List.length p.g7)) (sl (jb7 (gL tP p.g7 s.is8.toNat)) (sl t1 (e 1) (k ⟨W (s.is8+1)⟩)) z) z) (e 2))
def O2(p:Q5)(s:r5):Stp r5:=L8 .next .exit .fail p s
def ra2:Lo Q5 r5:=⟨En Ra1,0,me1,[1,0,1,4,4],[0,1,7,8],.p,[⟨sLq tP::.s (.o (.fn 94))::ru2 5 (sIq::sIq::ru2 10 []),[],λa H=>(⟨aLq tP a 0,aIq a 7⟩,⟨aIq a 8⟩)⟩],O2,[(none,λp s=>⟨[i s.is8],[]⟩),(some 0,λp s=>upq (Ja7 p s) [(9,b (decide (s.is8<p.is7)))])],Ja7⟩
theorem yb0:ra2.Ok:=Lo.ok [] (by kernel_rfl) .nil rfl (.cons (λa H=>by kernel_rfl) .nil) λp s=>(.of @L8 (λF _ _ _ _ _=>by unfold L8;(repeat' apply j6 (f:=F))<;>rfl) (by kernel_rfl))
structure ha4 where
 alt:Nat
 is0:Int
def M7{α:Type}(kk:ha4->α)(x:ha3):α:=let t1:=(lp (O2 (⟨rt tP x.g7,(↑(List.length x.g7):Int)⟩:Q5)) (⟨0⟩:r5));(sl ((cnE tP x.g7)&&true) (sl (Nat.beq t1.1 1) (kk ⟨1,t1.2.is8⟩) (sl (Nat.beq t1.1 2) (kk ⟨1,-1⟩) (kk ⟨0,0⟩))) (kk ⟨0,0⟩))
def va9(x:ha3):ha4:=M7 (λr=>r) x
def ta7(x:ha3)(r:ha4):DT (c7×List c8):=(.ite (Nat.beq r.alt 1) (.ret (i r.is0,[])) .fail)
theorem Mb4{α β:Type}(F:α->β)(kk:ha4->α)(x:ha3):F (M7 kk x)=M7 (λr=>F (kk r)) x:=by unfold M7;(repeat' apply j6 (f:=F))<;>rfl
def Xa1:Sum:=Ma9 ⟨[sLq tP,.s (.o (.fn 94))],[],λa H=>(⟨aLq tP a 0⟩,())⟩ (λx=>ta7 x (va9 x))
theorem Ib7:g9 prog G 118 Xa1:=F6 (enc:=λx=>⟨[eL tP x.g7,.fn 94 []],[]⟩) (λa H=>by kernel_rfl) (bd xf9 Cb5) λx=>Ia8 (.s .p (.s (.s .p (.b (.u ra2.ls))) .p)) [ra2.pr] (by kernel_rfl) (.cons yb0 .nil) (Qha (b:=M7 (λr=>(ta7 x r).run) x) (by kernel_rfl) (Mb4 (λr=>(ta7 x r).run) (λr=>r) x).symm)
structure Y1 where
 g7:PLq
def ub3:List (Nat×Sum):=[(118,Xa1)]
theorem pb5:i9 prog G ub3:=⟨Ib7,trivial⟩
structure Y2 where
 alt:Nat
 bs0:Bool
def H4{α:Type}(kk:Y2->α)(x:Y1):α:=let t1:=(va9 ⟨rt tP x.g7⟩);(sl ((cnE tP x.g7)&&true) (sl (Nat.beq t1.alt 1) (kk ⟨1,decide (t1.is0>=0)⟩) (kk ⟨0,false⟩)) (kk ⟨0,false⟩))
def oa5(x:Y1):Y2:=H4 (λr=>r) x
def ma4(x:Y1)(r:Y2):DT (c7×List c8):=(.ite (Nat.beq r.alt 1) (.ret (b r.bs0,[])) .fail)
theorem yb1{α β:Type}(F:α->β)(kk:Y2->α)(x:Y1):F (H4 kk x)=H4 (λr=>F (kk r)) x:=by unfold H4;(repeat' apply j6 (f:=F))<;>rfl
def Ja8:Sum:=Ma9 ⟨[sLq tP,.s (.o (.fn 94))],[],λa H=>(⟨aLq tP a 0⟩,())⟩ (λx=>ma4 x (oa5 x))
theorem ub4:g9 prog G 93 Ja8:=F6 (enc:=λx=>⟨[eL tP x.g7,.fn 94 []],[]⟩) (λa H=>by kernel_rfl) (bd b93 pb5) λx=>B7 (Qha (b:=H4 (λr=>(ma4 x r).run) x) (by kernel_rfl) (yb1 (λr=>(ma4 x r).run) (λr=>r) x).symm)
def Hd6:List (Nat×Sum):=[(93,Ja8)]
theorem yd6:i9 prog G Hd6:=⟨ub4,trivial⟩
def jb8(x:PLq):ROq:=let t1:=(oa5 ⟨rt tP x⟩);(sl (decide ((↑(List.length x):Int)>48)) (some (i 2,[])) (sl ((cnE tP x)&&true) (sl (Nat.beq t1.alt 1) (sl t1.bs0 (some (i 12,[])) (some (i 0,[]))) none) none))
def da2(x:PLq):Int:=ba8 (one r1I) (jb8 x)
def Ga5(x:PLq):Bool:=okO (one r1I) (jb8 x)
def jb9:Sum:=ga4 (ta2 tP) (λx=>.guard (Ga5 x) (.ret ((one r1I).enc (da2 x),[])))
theorem sb2:g9 prog G 73 jb9:=db8 (bd b73 yd6) (one r1I) (o:=jb8) λx=>B7 (by kernel_rfl)
def ld9:List (Nat×Sum):=[(73,jb9)]
theorem Zc9:i9 prog G ld9:=⟨sb2,trivial⟩
def Ra2(x:PLq):ROq:=let t1:=(da2 (rt tP x));(sl (okE tP x) (sl (Ga5 (rt tP x)) (some (b (t1 != 0),[])) none) none)
def kb0(x:PLq):Bool:=ba8 (one r1B) (Ra2 x)
def kb1(x:PLq):Bool:=okO (one r1B) (Ra2 x)
def rc9:Sum:=ga4 (ta2 tP) (λx=>.guard (kb1 x) (.ret ((one r1B).enc (kb0 x),[])))
theorem md0:g9 prog G 78 rc9:=db8 (bd b78 Zc9) (one r1B) (o:=Ra2) λx=>B7 (by kernel_rfl)
end Go.Ev.Ce
namespace Go.Proofs
open Go.Shelf
set_option maxRecDepth 100000 in
def Ce.growP_ren:Go.Shelf.Ren:=⟨fun | 4=>99 | n=>n,fun | 22=>35 | 25=>66 | 3=>3 | 4=>4 | 9=>9 | 20=>20 | 0=>0 | n=>n,fun | n=>n⟩
set_option maxRecDepth 100000 in
theorem Ce.growP:Go.Proofs.Lays8.n4 Tryz.prog Ce.growP_ren:={
 mixed:=by kernel_rfl
 f4:=⟨Tryz.f99.name,by decide,Tryz.func99.trans (congrArg some (by kernel_rfl))⟩
 t0:=Tryz.underlying0
 a0:=Tryz.isAgg0
 z0:=Tryz.sizeOf0
 v0:=Tryz.zeroValue0
 t3:=Tryz.underlying3
 a3:=Tryz.isAgg3
 z3:=Tryz.sizeOf3
 v3:=Tryz.zeroValue3
 t4:=Tryz.underlying4
 a4:=Tryz.isAgg4
 z4:=Tryz.sizeOf4
 v4:=Tryz.zeroValue4
 t9:=Tryz.underlying9
 a9:=Tryz.isAgg9
 z9:=Tryz.sizeOf9
 v9:=Tryz.zeroValue9
 t20:=Tryz.underlying20
 a20:=Tryz.isAgg20
 z20:=Tryz.sizeOf20
 v20:=Tryz.zeroValue20
 t22:=Tryz.underlying35
 a22:=Tryz.isAgg35
 z22:=Tryz.sizeOf35
 v22:=Tryz.zeroValue35 }
end Go.Proofs
namespace Go.Ev.Ce
open Go Go.Ev Go.Proofs
def Zd2:List c7:=[i 0,i 0,i 0,i 0]
def Ya6:Sum:=λargs blks=>match args,blks with
 | [.v (.slice none 0 0), .v (.int .i64 n)], [] => .ite (n == 0) (.ret (.v (.slice none 0 0), []))
   (.guard (Bool.and (decide (0<n)) (Nat.ble (n.toNat*32) room)) (.ret (.sl 0 0 0 0,[⟨66,4,List.replicate n.toNat Zd2,true,false,0⟩])))
 |_,_=>.fail
theorem z66:zeT Tryz.prog 66=some Zd2:=by kernel_rfl
theorem s66:szT Tryz.prog 66=4:=by kernel_rfl
theorem y66:byT Tryz.prog 66=32:=by kernel_rfl
theorem t25:Ce.growP_ren.t 25=66:=by kernel_rfl
theorem f4:Ce.growP_ren.f 4=99:=by kernel_rfl
set_option maxRecDepth 100000 in
theorem sc0:g9 prog G 99 Ya6:=by
 intro args blks r out he W ρ F w args' hH hlen hargs hG;refine⟨⟨_,Tryz.func99,by kernel_rfl,of_decide_eq_true (by kernel_rfl)⟩,?_⟩
 unfold Ya6 at he
 split at he
 case h_2=>cases he
 rename_i n
 match args',hlen with
 |[v0,v1],_ =>
 have e0:=ga5 (hargs 0 _ _ rfl rfl);have e1:=ga5 (hargs 1 _ _ rfl rfl);subst e0 e1
 rcases DT.run_ite_some he with⟨h0,he⟩|⟨h0,he⟩
 ·have h0:n=0:=by simpa using h0
  subst h0;injection he with he;injection he with q1 q2;subst q1 q2
  have:=Any8.slices_Grow_room Ce.growP none 0 0 0 w (Qhd _) (by omega) (by omega) (by omega)
  rw[f4] at this;refine this.mono λe w' ⟨h1,h2⟩=>?_
  subst h1 h2;exact⟨_,rfl,ρ,F,.refl,hH,.ofv _⟩
 ·obtain⟨hg,he⟩:=DT.run_guard_some he;rw[Bool.and_eq_true,decide_eq_true_eq] at hg;obtain⟨hpos,hroom⟩:=hg;have hroom:=Nat.le_of_ble_eq_true hroom;unfold room at hroom;obtain⟨m,rfl⟩:=Int.eq_ofNat_of_zero_le (Int.le_of_lt hpos);have hm:0<m:=by omega
  have he:some (c7.sl 0 0 0 0,[(⟨66,4,List.replicate m Zd2,true,false,0⟩:c8)])=some (r,out):=he;injection he with he;injection he with q1 q2;subst q1 q2
  obtain⟨ti,zv,hi,hzz,hzr,hone⟩:=db5 (E:=En []) z66;have hi:Tryz.prog.info? 66=some ti:=hi;have hts:ti.size=4:=by have:=s66;simp only[szT,hi] at this;exact this
  have hby:ti.bytes=32:=by have:=y66;simp only[byT,hi] at this;exact this
  have hzs:zv.cells.size=4:=by
   have:=congrArg List.length hzr
   simpa [Zd2] using this.symm
  have hroom':m*32<=140737488355328:=hroom
  have:=Any8.slices_Grow_grow Ce.growP ti zv (by rw[t25];exact hi) hzz (by omega) none 0 0 m [] w (Qhd _) (by omega) (by rw[hby];omega) (by omega) (by simp) (λ_=>rfl) (λa ha=>by cases ha)
  rw[f4,t25] at this;refine this.mono λe w' ⟨h1,h2⟩=>?_
  have hcap:=grownCap_ge w (0+m) 0 66;have hcap2:=grownCap_le_maxLen w (0+m) 0 66 (by unfold maxLen;omega)
  subst h1;generalize grownCap w (0+m) 0 66=G' at *
  have hsz:∀q,(Builtin.zeroCells zv.cells q).size=q*4:=λq=>by simp[Builtin.zeroCells,hzs]
  have hcc:(#[]++Builtin.zeroCells zv.cells (0+m-0)++Builtin.zeroCells zv.cells (G'-(0+m))).size=G'*4:=by
   rw[Array.size_append,Array.size_append,hsz,hsz];simp;omega
  have hobj:w'.heap[w.heap.size]?=some (.cells (#[]++Builtin.zeroCells zv.cells (0+m-0)++Builtin.zeroCells zv.cells (G'-(0+m))) 66 (0,0)):=by
   rw[h2];exact World.alloc_heap_new w.drew _
  have hold:∀k,k<w.heap.size->w'.heap[k]?=w.heap[k]?:=λk hk=>by
   rw[h2];simp only[World.alloc,Array.getElem?_push,World.drew];rw[if_neg (by omega)]
  have hws:w'.heap.size=w.heap.size+1:=by rw[h2];exact Array.size_push ..
  obtain⟨h6,h7⟩:=hH.newAt (w':=w') (by rw[h2];rfl) (by rw[h2];rfl) (by rw[h2];rfl) (by rw[h2];exact Nat.le_succ _) (by omega) hold w.heap.size (Qhd _) 66 4 (List.replicate m Zd2) _ 66 hobj
   (λj r hr=>by rw[Qhc] at hr;split at hr<;>cases hr;rfl) (by rw[List.length_replicate,hcc];omega)
   (λj r c x hr hx=>by
    have hjm:j<m:=by
     have:=(Qhb.1 hr).1
     simpa using this
    rw[Qhc,if_pos hjm] at hr;injection hr with hr;subst hr;have hc4:c<4:=(Qhb.1 hx).1;rw[hzr,List.getElem?_map] at hx;have hcz:c<zv.cells.size:=by omega
    have hq:zv.cells.toList[c]?=some zv.cells[c]:=by simp[hcz]
    rw[hq] at hx;injection hx with hx;subst hx;refine⟨zv.cells[c],?_,.v _ (hone _ (by simp))⟩
    have hlt:j*4+c<m*4:=by omega
    rw[Array.append_assoc,Array.empty_append,Array.getElem?_append_left (by rw[hsz];omega)]
    have hm4:(j*4+c) % 4=c:=by omega
    simp only[Builtin.zeroCells,hzs];rw[Array.getElem?_map,Array.getElem?_range];rw[if_pos (by omega)]
    simp[hm4,hcz])
   (λ_=>rfl)
  refine⟨_,rfl,_,F,h6,h7,.val (.cell ?_)⟩;refine .sl 0 0 0 0 _ _ { et:=66,es:=4,elems:=List.replicate m Zd2,own:=true,dead:=false,g:=0 } rfl rfl (Qhd _) (Nat.zero_le _) rfl hcap2 λ_=>⟨.inr ?_,?_,by simp⟩
  ·simp[ρnew]
  ·simp only[ρnew,List.length_nil,if_true];rw[hcc,Nat.zero_add]
end Go.Ev.Ce
namespace Go.Ev.Ce
open Go Go.Ev Go.Ev.L Go.Proofs
set_option maxRecDepth 100000
def Ga6:List (Nat×Sum):=[(99,Ya6)]
theorem Xb6:i9 prog G Ga6:=⟨sc0,trivial⟩
structure aa2 where
 (C0 xc3:LPq)
 K3:Int
structure w8 where
 (is3 s8:Int)
def ab3(p:aa2)(s:w8):St:=⟨eL tLq p.C0::.unk::.unk::i s.is3::ra 5 (eL tLq p.xc3::i p.K3::i s.s8::ra 24 []),[]⟩
def U7{α:Type}(k:w8->α)(e:Nat->α)(z:α)(p:aa2)(s:w8):α:=let y0:=(↑(List.length (gL tLq p.xc3 s.s8.toNat)):Int);(sl (decide (s.s8<p.K3)) (sl (inB s.s8 (List.length p.xc3)) (sl (decide ((W (s.is3+y0))<0)) z (k ⟨W (s.is3+y0),W (s.s8+1)⟩)) z) (e 1))
def P3(p:aa2)(s:w8):Stp w8:=U7 .next .exit .fail p s
def Da9:Lo aa2 w8:=⟨En Ga6,0,Pf1,[1,1,0,1,4,4],[0,3,9,10,11],.p,[⟨sLq tLq::sUq::sUq::sIq::ru2 5 (sLq tLq::sIq::sIq::ru2 24 []),[],λa H=>(⟨aLq tLq a 0,aLq tLq a 9,aIq a 10⟩,⟨aIq a 3,aIq a 11⟩)⟩],P3,[(some 0,λp s=>upq (ab3 p s) [(12,b (decide (s.s8<p.K3)))])],ab3⟩
theorem Tb3:Da9.OkM:=Lo.okM [] (by kernel_rfl) .nil rfl (.cons (λa H=>by kernel_rfl) .nil) λp s=>(.of @U7 (λF _ _ _ _ _=>by unfold U7;(repeat' apply j6 (f:=F))<;>rfl) (by kernel_rfl))
structure E8 where
 hc6:LPq
 ed5:Int
structure m9 where
 ph:Nat
 rb2:Int
 ns6:Nat
 eh0:List (List c7)
def Xa2(p:E8)(s:m9):St:=⟨ra 6 (.v (.slice none 0 0)::ra 18 (eL tLq p.hc6::i p.ed5::i s.rb2::ra 8 [])),[]⟩
def Xa3(p:E8)(s:m9):St:=⟨ra 6 (.sl 0 0 s.ns6 0::ra 18 (eL tLq p.hc6::i p.ed5::i s.rb2::ra 8 [])),[⟨66,4,s.eh0,true,false,0⟩]⟩
def Tb4(p:E8)(s:m9):St:=(sel (Nat.beq s.ph 1) (Xa3 p s) (Xa2 p s))
def G5{α:Type}(k:m9->α)(e:Nat->α)(z:α)(p:E8)(s:m9):α:=(sl (decide (s.rb2<p.ed5)) (sl (inB s.rb2 (List.length p.hc6)) (sl (Nat.beq (len (o7 (λk=>(tP).row (gL tP (gL tLq p.hc6 s.rb2.toNat) k)) (List.range (List.length (gL tLq p.hc6 s.rb2.toNat))))) 0) (k ⟨0,W (s.rb2+1),0,[]⟩) z) z) (e 1))
def G6{α:Type}(k:m9->α)(e:Nat->α)(z:α)(p:E8)(s:m9):α:=let y0:=(gL tLq p.hc6 s.rb2.toNat);let y1:=(List.range (List.length y0));(sl (decide (s.rb2<p.ed5)) (sl (inB s.rb2 (List.length p.hc6)) (sl (Nat.ble (s.ns6+(len (o7 (λk=>(tP).row (gL tP y0 k)) y1))) (len s.eh0)) (k ⟨1,W (s.rb2+1),(s.ns6+(len (o7 (λk=>(tP).row (gL tP y0 k)) y1))),(app (J3 s.eh0 s.ns6) (app (o7 (λk=>(tP).row (gL tP y0 k)) y1) (j7 s.eh0 (s.ns6+(len (o7 (λk=>(tP).row (gL tP y0 k)) y1))))))⟩) z) z) (e 2))
def I8(p:E8)(s:m9):Stp m9:=(sel (Nat.beq s.ph 1) (G6 .next .exit .fail p s) (G5 .next .exit .fail p s))
def Ea0:Lo E8 m9:=⟨En Ga6,0,Pf1,[1,1,1,1,0,1,4,4],[6,25,26,27],.p,[⟨ru2 6 (.s (.o .nil)::ru2 18 (sLq tLq::sIq::sIq::ru2 8 [])),[],λa H=>(⟨aLq tLq a 25,aIq a 26⟩,⟨0,aIq a 27,0,[]⟩)⟩,⟨ru2 6 (.s (.o (.sl 0 0 (some 0) none))::ru2 18 (sLq tLq::sIq::sIq::ru2 8 [])),[⟨66,4,true,none⟩],λa H=>(⟨aLq tLq a 25,aIq a 26⟩,⟨1,aIq a 27,slN (slT a 6),elT H 0⟩)⟩],I8,[(some 2,λp s=>upq (Xa2 p s) [(28,b (decide (s.rb2<p.ed5)))]),(some 2,λp s=>upq (Xa3 p s) [(28,b (decide (s.rb2<p.ed5)))])],Tb4⟩
theorem Tb5:Ea0.OkM:=Lo.okM [] (by kernel_rfl) .nil rfl (.cons (λa H=>by kernel_rfl) (.cons (λa H=>by kernel_rfl) .nil)) λp s=>(.sel (Nat.beq s.ph 1) (.of @G6 (λF _ _ _ _ _=>by unfold G6;(repeat' apply j6 (f:=F))<;>rfl) (by kernel_rfl)) (.of @G5 (λF _ _ _ _ _=>by unfold G5;(repeat' apply j6 (f:=F))<;>rfl) (by kernel_rfl)))
structure va5 where
 (alt ns0:Nat)
 eh0:List (List c7)
def P9{α:Type}(kk:va5->α)(x:LPq):α:=let y0:=(⟨rt tLq (rt tLq x),(↑(List.length (rt tLq x)):Int)⟩:E8);let t1:=(lp (P3 (⟨rt tLq x,rt tLq x,(↑(List.length x):Int)⟩:aa2)) (⟨0,0⟩:w8));let t2:=(lp (I8 y0) (⟨0,0,0,[]⟩:m9));let t3:=(lp (I8 y0) (⟨1,0,0,List.replicate t1.2.is3.toNat Zd2⟩:m9));(sl ((cnE tLq x)&&((cnE tLq x)&&true)) (sl (Nat.beq t1.1 1) (sl (t1.2.is3==0) (sl ((cnE tLq (rt tLq x))&&true) (sl (Nat.beq t2.1 1) (kk ⟨1,0,[]⟩) (sl (Nat.beq t2.1 2) (kk ⟨2,t2.2.ns6,t2.2.eh0⟩) (kk ⟨0,0,[]⟩))) (kk ⟨0,0,[]⟩)) (sl (Bool.and (decide (0<t1.2.is3)) (Nat.ble (t1.2.is3.toNat*32) room)) (sl ((cnE tLq (rt tLq x))&&true) (sl (Nat.beq t3.1 1) (kk ⟨1,0,[]⟩) (sl (Nat.beq t3.1 2) (kk ⟨2,t3.2.ns6,t3.2.eh0⟩) (kk ⟨0,0,[]⟩))) (kk ⟨0,0,[]⟩)) (kk ⟨0,0,[]⟩))) (kk ⟨0,0,[]⟩)) (kk ⟨0,0,[]⟩))
def A2(x:LPq):va5:=P9 (λr=>r) x
def Ga7(r:va5):DT (c7×List c8):=(.ite (Nat.beq r.alt 1) (.ret (.v (.slice none 0 0),[])) (.ite (Nat.beq r.alt 2) (.ret (.sl 0 0 r.ns0 0,[⟨66,4,r.eh0,true,false,0⟩])) .fail))
theorem lc5{α β:Type}(F:α->β)(kk:va5->α)(x:LPq):F (P9 kk x)=P9 (λr=>F (kk r)) x:=by unfold P9;(repeat' apply j6 (f:=F))<;>rfl
def Na2:Sum:=ga4 (ta2 tLq) (λx=>Ga7 (A2 x))
theorem kb2:g9 prog G 79 Na2:=ib1 (bd b79 Xb6) λx=>Od9 (.s .p (.s .p (.s (.s .p (.b (.u Da9.lsM))) (.s .p (.s (.s .p (.b (.u Ea0.lsM))) .p))))) [Da9.prM,Ea0.prM] (by kernel_rfl) (.cons Tb3 (.cons Tb5 .nil)) (Qha (b:=P9 (λr=>(Ga7 r).run) x) (by kernel_rfl) (lc5 (λr=>(Ga7 r).run) (λr=>r) x).symm)
def Ce4:List (Nat×Sum):=[(79,Na2)]
theorem ne8:i9 prog G Ce4:=⟨kb2,trivial⟩
def Xb7(x:LPq):ROq:=let t1:=(A2 (rt tLq x));let y6:=((t1.ns0+1)+1);let y2:=(app t1.eh0 [[i 1,i 0,i 0,i 24]]);let y4:=(app y2 [[i (-1),i 0,i 0,i 24]]);let y1:=(y6+1);let y0:=(app y4 [[i 0,i 1,i 0,i 24]]);let y3:=(app y0 [[i 0,i (-1),i 0,i 24]]);let y5:=(app y3 [[i 0,i 0,i 1,i 24]]);(sl (okE tLq x) (sl (Nat.beq t1.alt 1) (some (.sl 0 0 6 0,[⟨66,4,[[i 1,i 0,i 0,i 24],[i (-1),i 0,i 0,i 24],[i 0,i 1,i 0,i 24],[i 0,i (-1),i 0,i 24],[i 0,i 0,i 1,i 24],[i 0,i 0,i (-1),i 24]],true,false,0⟩])) (sl (Nat.beq t1.alt 2) (sl (Nat.beq t1.ns0 (len t1.eh0)&&Nat.ble ((t1.ns0+1)*32) room) (sl (Nat.beq (t1.ns0+1) (len y2)&&Nat.ble (y6*32) room) (sl (Nat.beq y6 (len y4)&&Nat.ble (y1*32) room) (sl (Nat.beq y1 (len y0)&&Nat.ble ((y1+1)*32) room) (sl (Nat.beq (y1+1) (len y3)&&Nat.ble (((y1+1)+1)*32) room) (sl (Nat.beq ((y1+1)+1) (len y5)&&Nat.ble ((((y1+1)+1)+1)*32) room) (some (.sl 0 0 (((y1+1)+1)+1) 0,[⟨66,4,app y5 [[i 0,i 0,i (-1),i 24]],true,false,0⟩])) none) none) none) none) none) none) none)) none)
def pb6(x:LPq):PLq:=ba8 (one (r1L tP)) (Xb7 x)
def pb7(x:LPq):Bool:=okO (one (r1L tP)) (Xb7 x)
def Ac3:Sum:=ga4 (ta2 tLq) (λx=>.guard (pb7 x) (.ret ((one (r1L tP)).enc (pb6 x),[])))
theorem Jc7:g9 prog G 64 Ac3:=db8 (bd b64 ne8) (one (r1L tP)) (o:=Xb7) λx=>B7 (by kernel_rfl)
structure ha5 where
 C0:LPq
def Ra3:List (Nat×Sum):=[(78,rc9)]
theorem Cb6:i9 prog G Ra3:=⟨md0,trivial⟩
structure Q6 where
 C0:LPq
 is7:Int
structure r7 where
 is8:Int
def Ja9(p:Q6)(s:r7):St:=⟨eL tLq p.C0::.fn 78 []::ra 5 (i p.is7::i s.is8::ra 10 []),[]⟩
def L9{α:Type}(k:r7->α)(e:Nat->α)(z:α)(p:Q6)(s:r7):α:=let y0:=(gL tLq p.C0 s.is8.toNat);let t1:=(kb0 (rt tP y0));(sl (decide (s.is8<p.is7)) (sl (inB s.is8 (List.length p.C0)) (sl (okE tP y0) (sl (kb1 (rt tP y0)) (sl t1 (e 1) (k ⟨W (s.is8+1)⟩)) z) z) z) (e 2))
def O3(p:Q6)(s:r7):Stp r7:=L9 .next .exit .fail p s
def ra3:Lo Q6 r7:=⟨En Ra3,0,Pf0,[1,0,1,4,4],[0,1,7,8],.p,[⟨sLq tLq::.s (.o (.fn 78))::ru2 5 (sIq::sIq::ru2 10 []),[],λa H=>(⟨aLq tLq a 0,aIq a 7⟩,⟨aIq a 8⟩)⟩],O3,[(none,λp s=>⟨[i s.is8],[]⟩),(some 0,λp s=>upq (Ja9 p s) [(9,b (decide (s.is8<p.is7)))])],Ja9⟩
theorem yb2:ra3.Ok:=Lo.ok [] (by kernel_rfl) .nil rfl (.cons (λa H=>by kernel_rfl) .nil) λp s=>(.of @L9 (λF _ _ _ _ _=>by unfold L9;(repeat' apply j6 (f:=F))<;>rfl) (by kernel_rfl))
structure ha6 where
 alt:Nat
 is0:Int
def M8{α:Type}(kk:ha6->α)(x:ha5):α:=let t1:=(lp (O3 (⟨rt tLq x.C0,(↑(List.length x.C0):Int)⟩:Q6)) (⟨0⟩:r7));(sl ((cnE tLq x.C0)&&true) (sl (Nat.beq t1.1 1) (kk ⟨1,t1.2.is8⟩) (sl (Nat.beq t1.1 2) (kk ⟨1,-1⟩) (kk ⟨0,0⟩))) (kk ⟨0,0⟩))
def wa0(x:ha5):ha6:=M8 (λr=>r) x
def ta8(x:ha5)(r:ha6):DT (c7×List c8):=(.ite (Nat.beq r.alt 1) (.ret (i r.is0,[])) .fail)
theorem Mb5{α β:Type}(F:α->β)(kk:ha6->α)(x:ha5):F (M8 kk x)=M8 (λr=>F (kk r)) x:=by unfold M8;(repeat' apply j6 (f:=F))<;>rfl
def Xa4:Sum:=Ma9 ⟨[sLq tLq,.s (.o (.fn 78))],[],λa H=>(⟨aLq tLq a 0⟩,())⟩ (λx=>ta8 x (wa0 x))
theorem Ib8:g9 prog G 77 Xa4:=F6 (enc:=λx=>⟨[eL tLq x.C0,.fn 78 []],[]⟩) (λa H=>by kernel_rfl) (bd b77 Cb6) λx=>Ia8 (.s .p (.s (.s .p (.b (.u ra3.ls))) .p)) [ra3.pr] (by kernel_rfl) (.cons yb2 .nil) (Qha (b:=M8 (λr=>(ta8 x r).run) x) (by kernel_rfl) (Mb5 (λr=>(ta8 x r).run) (λr=>r) x).symm)
structure Y3 where
 C0:LPq
def ub5:List (Nat×Sum):=[(77,Xa4)]
theorem pb8:i9 prog G ub5:=⟨Ib8,trivial⟩
structure Y4 where
 alt:Nat
 bs0:Bool
def H5{α:Type}(kk:Y4->α)(x:Y3):α:=let t1:=(wa0 ⟨rt tLq x.C0⟩);(sl ((cnE tLq x.C0)&&true) (sl (Nat.beq t1.alt 1) (kk ⟨1,decide (t1.is0>=0)⟩) (kk ⟨0,false⟩)) (kk ⟨0,false⟩))
def oa6(x:Y3):Y4:=H5 (λr=>r) x
def ma5(x:Y3)(r:Y4):DT (c7×List c8):=(.ite (Nat.beq r.alt 1) (.ret (b r.bs0,[])) .fail)
theorem yb3{α β:Type}(F:α->β)(kk:Y4->α)(x:Y3):F (H5 kk x)=H5 (λr=>F (kk r)) x:=by unfold H5;(repeat' apply j6 (f:=F))<;>rfl
def Ka0:Sum:=Ma9 ⟨[sLq tLq,.s (.o (.fn 78))],[],λa H=>(⟨aLq tLq a 0⟩,())⟩ (λx=>ma5 x (oa6 x))
theorem ub6:g9 prog G 61 Ka0:=F6 (enc:=λx=>⟨[eL tLq x.C0,.fn 78 []],[]⟩) (λa H=>by kernel_rfl) (bd b61 pb8) λx=>B7 (Qha (b:=H5 (λr=>(ma5 x r).run) x) (by kernel_rfl) (yb3 (λr=>(ma5 x r).run) (λr=>r) x).symm)
def Hd7:List (Nat×Sum):=[(61,Ka0)]
theorem yd7:i9 prog G Hd7:=⟨ub6,trivial⟩
def kb3(x:LPq):ROq:=let t1:=(oa6 ⟨rt tLq x⟩);(sl ((cnE tLq x)&&true) (sl (Nat.beq t1.alt 1) (some (b (!t1.bs0),[])) none) none)
def Ga8(x:LPq):Bool:=ba8 (one r1B) (kb3 x)
def Ga9(x:LPq):Bool:=okO (one r1B) (kb3 x)
def Cb7:Sum:=ga4 (ta2 tLq) (λx=>.guard (Ga9 x) (.ret ((one r1B).enc (Ga8 x),[])))
theorem Tb6:g9 prog G 63 Cb7:=db8 (bd b63 yd7) (one r1B) (o:=kb3) λx=>B7 (by kernel_rfl)
structure ra4 where
 (wc9 xc0 xc1 xc2 B0 l6 B1 s7:Int)
def Xb8:List (Nat×Sum):=[(85,Qb3)]
theorem Tb7:i9 prog G Xb8:=⟨dc1,trivial⟩
structure da3 where
 bs0:Bool
def da4{α:Type}(kk:da3->α)(x:ra4):α:=let t1:=(Fa7 (⟨(⟨x.B0,x.l6,x.B1⟩:V3),x.s7⟩:Pln) (⟨x.wc9,x.xc0,x.xc1,x.xc2⟩:Pt));(kk ⟨decide (t1>0)⟩)
def Ha0(x:ra4):da3:=da4 (λr=>r) x
def Ea1(x:ra4)(r:da3):DT (c7×List c8):=.ret (b r.bs0,[⟨0,4,[[i x.B0,i x.l6,i x.B1,i x.s7]],true,false,0⟩])
theorem dc7{α β:Type}(F:α->β)(kk:da3->α)(x:ra4):F (da4 kk x)=da4 (λr=>F (kk r)) x:=by unfold da4;(repeat' apply j6 (f:=F))<;>rfl
def kb4:Sum:=Ma9 ⟨[.agg (kLq 4),sPq 0],[⟨0,4,true,some [kLq 4]⟩],λa H=>(⟨cIq a 0 0,cIq a 0 1,cIq a 0 2,cIq a 0 3,hIq H 0 0 0,hIq H 0 0 1,hIq H 0 0 2,hIq H 0 0 3⟩,())⟩ (λx=>Ea1 x (Ha0 x))
theorem Xb9:g9 prog G 84 kb4:=F6 (enc:=λx=>⟨[.agg [i x.wc9,i x.xc0,i x.xc1,i x.xc2],.ptr 0 0 0 0],[⟨0,4,[[i x.B0,i x.l6,i x.B1,i x.s7]],true,false,0⟩]⟩) (λa H=>by kernel_rfl) (bd b84 Tb7) λx=>B7 (Qha (b:=da4 (λr=>(Ea1 x r).run) x) (by kernel_rfl) (dc7 (λr=>(Ea1 x r).run) (λr=>r) x).symm)
structure la3 where
 gb0:List Pt
 (B0 l6 B1 s7:Int)
def Xa5:List (Nat×Sum):=[(84,kb4)]
theorem Ib9:i9 prog G Xa5:=⟨Xb9,trivial⟩
structure S5 where
 gb0:List Pt
 (is7 B0 l6 B1 s7:Int)
structure u6 where
 is8:Int
def Oa2(p:S5)(s:u6):St:=⟨eL tX p.gb0::.fn 84 [.ptr 0 0 0 0]::ra 5 (i p.is7::i s.is8::ra 10 []),[⟨0,4,[[i p.B0,i p.l6,i p.B1,i p.s7]],true,false,0⟩]⟩
def O4{α:Type}(k:u6->α)(e:Nat->α)(z:α)(p:S5)(s:u6):α:=let y0:=(gL tX p.gb0 s.is8.toNat);let t1:=(Ha0 ⟨y0.px,y0.py,y0.pz,y0.pw,p.B0,p.l6,p.B1,p.s7⟩);(sl (decide (s.is8<p.is7)) (sl (inB s.is8 (List.length p.gb0)) (sl t1.bs0 (e 1) (k ⟨W (s.is8+1)⟩)) z) (e 2))
def Q7(p:S5)(s:u6):Stp u6:=O4 .next .exit .fail p s
def ta9:Lo S5 u6:=⟨En Xa5,1,Gf9,[1,0,1,4,4],[0,1,7,8],.p,[⟨sLq tX::.fn 84 [.o (.ptr 0 0 0 0)]::ru2 5 (sIq::sIq::ru2 10 []),[⟨0,4,true,some [kLq 4]⟩],λa H=>(⟨aLq tX a 0,aIq a 7,hIq H 0 0 0,hIq H 0 0 1,hIq H 0 0 2,hIq H 0 0 3⟩,⟨aIq a 8⟩)⟩],Q7,[(none,λp s=>⟨[i s.is8],[⟨0,4,[[i p.B0,i p.l6,i p.B1,i p.s7]],true,false,0⟩]⟩),(some 0,λp s=>upq (Oa2 p s) [(9,b (decide (s.is8<p.is7)))])],Oa2⟩
theorem Cb8:ta9.Ok:=Lo.ok [] (by kernel_rfl) .nil rfl (.cons (λa H=>by kernel_rfl) .nil) λp s=>(.of @O4 (λF _ _ _ _ _=>by unfold O4;(repeat' apply j6 (f:=F))<;>rfl) (by kernel_rfl))
structure la4 where
 alt:Nat
 is0:Int
def P4{α:Type}(kk:la4->α)(x:la3):α:=let t1:=(lp (Q7 (⟨rt tX x.gb0,(↑(List.length x.gb0):Int),x.B0,x.l6,x.B1,x.s7⟩:S5)) (⟨0⟩:u6));(sl ((cnE tX x.gb0)&&true) (sl (Nat.beq t1.1 1) (kk ⟨1,t1.2.is8⟩) (sl (Nat.beq t1.1 2) (kk ⟨1,-1⟩) (kk ⟨0,0⟩))) (kk ⟨0,0⟩))
def Aa6(x:la3):la4:=P4 (λr=>r) x
def wa1(x:la3)(r:la4):DT (c7×List c8):=(.ite (Nat.beq r.alt 1) (.ret (i r.is0,[⟨0,4,[[i x.B0,i x.l6,i x.B1,i x.s7]],true,false,0⟩])) .fail)
theorem Tb8{α β:Type}(F:α->β)(kk:la4->α)(x:la3):F (P4 kk x)=P4 (λr=>F (kk r)) x:=by unfold P4;(repeat' apply j6 (f:=F))<;>rfl
def ab4:Sum:=Ma9 ⟨[sLq tX,.fn 84 [.o (.ptr 0 0 0 0)]],[⟨0,4,true,some [kLq 4]⟩],λa H=>(⟨aLq tX a 0,hIq H 0 0 0,hIq H 0 0 1,hIq H 0 0 2,hIq H 0 0 3⟩,())⟩ (λx=>wa1 x (Aa6 x))
theorem Mb6:g9 prog G 104 ab4:=F6 (enc:=λx=>⟨[eL tX x.gb0,.fn 84 [.ptr 0 0 0 0]],[⟨0,4,[[i x.B0,i x.l6,i x.B1,i x.s7]],true,false,0⟩]⟩) (λa H=>by kernel_rfl) (bd jg6 Ib9) λx=>Ia8 (.s .p (.s (.s .p (.b (.u ta9.ls))) .p)) [ta9.pr] (by kernel_rfl) (.cons Cb8 .nil) (Qha (b:=P4 (λr=>(wa1 x r).run) x) (by kernel_rfl) (Tb8 (λr=>(wa1 x r).run) (λr=>r) x).symm)
structure ba3 where
 gb0:List Pt
 (B0 l6 B1 s7:Int)
def yb4:List (Nat×Sum):=[(104,ab4)]
theorem ub7:i9 prog G yb4:=⟨Mb6,trivial⟩
structure ba4 where
 alt:Nat
 bs0:Bool
def J2{α:Type}(kk:ba4->α)(x:ba3):α:=let t1:=(Aa6 ⟨rt tX x.gb0,x.B0,x.l6,x.B1,x.s7⟩);(sl ((cnE tX x.gb0)&&true) (sl (Nat.beq t1.alt 1) (kk ⟨1,decide (t1.is0>=0)⟩) (kk ⟨0,false⟩)) (kk ⟨0,false⟩))
def ra5(x:ba3):ba4:=J2 (λr=>r) x
def oa7(x:ba3)(r:ba4):DT (c7×List c8):=(.ite (Nat.beq r.alt 1) (.ret (b r.bs0,[⟨0,4,[[i x.B0,i x.l6,i x.B1,i x.s7]],true,false,0⟩])) .fail)
theorem Cb9{α β:Type}(F:α->β)(kk:ba4->α)(x:ba3):F (J2 kk x)=J2 (λr=>F (kk r)) x:=by unfold J2;(repeat' apply j6 (f:=F))<;>rfl
def Oa3:Sum:=Ma9 ⟨[sLq tX,.fn 84 [.o (.ptr 0 0 0 0)]],[⟨0,4,true,some [kLq 4]⟩],λa H=>(⟨aLq tX a 0,hIq H 0 0 0,hIq H 0 0 1,hIq H 0 0 2,hIq H 0 0 3⟩,())⟩ (λx=>oa7 x (ra5 x))
theorem yb5:g9 prog G 83 Oa3:=F6 (enc:=λx=>⟨[eL tX x.gb0,.fn 84 [.ptr 0 0 0 0]],[⟨0,4,[[i x.B0,i x.l6,i x.B1,i x.s7]],true,false,0⟩]⟩) (λa H=>by kernel_rfl) (bd b83 ub7) λx=>B7 (Qha (b:=J2 (λr=>(oa7 x r).run) x) (by kernel_rfl) (Cb9 (λr=>(oa7 x r).run) (λr=>r) x).symm)
structure ya3 where
 (wc9 xc0 xc1 xc2:Int)
 i7:List Pt
def lc6:List (Nat×Sum):=[(83,Oa3)]
theorem dc8:i9 prog G lc6:=⟨yb5,trivial⟩
structure ma6 where
 alt:Nat
 bs0:Bool
def aa3{α:Type}(kk:ma6->α)(x:ya3):α:=let t1:=(ra5 ⟨rt tX x.i7,x.wc9,x.xc0,x.xc1,x.xc2⟩);(sl ((cnE tX x.i7)&&true) (sl (Nat.beq t1.alt 1) (kk ⟨1,!t1.bs0⟩) (kk ⟨0,false⟩)) (kk ⟨0,false⟩))
def ya4(x:ya3):ma6:=aa3 (λr=>r) x
def Na3(x:ya3)(r:ma6):DT (c7×List c8):=(.ite (Nat.beq r.alt 1) (.ret (b r.bs0,[⟨0,1,[[eL tX x.i7]],true,false,0⟩])) .fail)
theorem sc1{α β:Type}(F:α->β)(kk:ma6->α)(x:ya3):F (aa3 kk x)=aa3 (λr=>F (kk r)) x:=by unfold aa3;(repeat' apply j6 (f:=F))<;>rfl
def ub8:Sum:=Ma9 ⟨[.agg (kLq 4),sPq 0],[⟨0,1,true,some [[.c 4 (nL tX)]]⟩],λa H=>(⟨cIq a 0 0,cIq a 0 1,cIq a 0 2,cIq a 0 3,hLq tX H 0 0 0⟩,())⟩ (λx=>Na3 x (ya4 x))
theorem lc7:g9 prog G 82 ub8:=F6 (enc:=λx=>⟨[.agg [i x.wc9,i x.xc0,i x.xc1,i x.xc2],.ptr 0 0 0 0],[⟨0,1,[[eL tX x.i7]],true,false,0⟩]⟩) (λa H=>by kernel_rfl) (bd b82 dc8) λx=>B7 (Qha (b:=aa3 (λr=>(Na3 x r).run) x) (by kernel_rfl) (sc1 (λr=>(Na3 x r).run) (λr=>r) x).symm)
structure ha7 where
 g7:PLq
 i7:List Pt
def Ra4:List (Nat×Sum):=[(82,ub8)]
theorem Db0:i9 prog G Ra4:=⟨lc7,trivial⟩
structure Q8 where
 g7:PLq
 is7:Int
structure r8 where
 is8:Int
 i7:List Pt
def Ka1(p:Q8)(s:r8):St:=⟨eL tP p.g7::.fn 82 [.ptr 0 0 0 0]::ra 5 (i p.is7::i s.is8::ra 10 []),[⟨0,1,[[eL tX s.i7]],true,false,0⟩]⟩
def M1{α:Type}(k:r8->α)(e:Nat->α)(z:α)(p:Q8)(s:r8):α:=let y0:=(gL tP p.g7 s.is8.toNat);let t1:=(ya4 ⟨y0.n.x,y0.n.y,y0.n.z,y0.b,rt tX s.i7⟩);(sl (decide (s.is8<p.is7)) (sl (inB s.is8 (List.length p.g7)) (sl ((cnE tX s.i7)&&true) (sl (Nat.beq t1.alt 1) (sl t1.bs0 (e 1) (k ⟨W (s.is8+1),rt tX s.i7⟩)) z) z) z) (e 2))
def O5(p:Q8)(s:r8):Stp r8:=M1 .next .exit .fail p s
def ra6:Lo Q8 r8:=⟨En Ra4,1,Gf8,[1,0,1,4,4],[0,1,7,8],.p,[⟨sLq tP::.fn 82 [.o (.ptr 0 0 0 0)]::ru2 5 (sIq::sIq::ru2 10 []),[⟨0,1,true,some [[.c 4 (nL tX)]]⟩],λa H=>(⟨aLq tP a 0,aIq a 7⟩,⟨aIq a 8,hLq tX H 0 0 0⟩)⟩],O5,[(none,λp s=>⟨[i s.is8],[⟨0,1,[[eL tX (rt tX s.i7)]],true,false,0⟩]⟩),(some 0,λp s=>upq (Ka1 p s) [(9,b (decide (s.is8<p.is7)))])],Ka1⟩
theorem yb6:ra6.Ok:=Lo.ok [] (by kernel_rfl) .nil rfl (.cons (λa H=>by kernel_rfl) .nil) λp s=>(.of @M1 (λF _ _ _ _ _=>by unfold M1;(repeat' apply j6 (f:=F))<;>rfl) (by kernel_rfl))
structure ha8 where
 alt:Nat
 is0:Int
 i7:List Pt
def M9{α:Type}(kk:ha8->α)(x:ha7):α:=let t1:=(lp (O5 (⟨rt tP x.g7,(↑(List.length x.g7):Int)⟩:Q8)) (⟨0,rt tX x.i7⟩:r8));(sl ((cnE tP x.g7)&&((cnE tX x.i7)&&true)) (sl (Nat.beq t1.1 1) (kk ⟨1,t1.2.is8,rt tX t1.2.i7⟩) (sl (Nat.beq t1.1 2) (kk ⟨1,-1,t1.2.i7⟩) (kk ⟨0,0,[]⟩))) (kk ⟨0,0,[]⟩))
def wa2(x:ha7):ha8:=M9 (λr=>r) x
def ua0(x:ha7)(r:ha8):DT (c7×List c8):=(.ite (Nat.beq r.alt 1) (.ret (i r.is0,[⟨0,1,[[eL tX r.i7]],true,false,0⟩])) .fail)
theorem Mb7{α β:Type}(F:α->β)(kk:ha8->α)(x:ha7):F (M9 kk x)=M9 (λr=>F (kk r)) x:=by unfold M9;(repeat' apply j6 (f:=F))<;>rfl
def Xa6:Sum:=Ma9 ⟨[sLq tP,.fn 82 [.o (.ptr 0 0 0 0)]],[⟨0,1,true,some [[.c 4 (nL tX)]]⟩],λa H=>(⟨aLq tP a 0,hLq tX H 0 0 0⟩,())⟩ (λx=>ua0 x (wa2 x))
theorem Jb0:g9 prog G 103 Xa6:=F6 (enc:=λx=>⟨[eL tP x.g7,.fn 82 [.ptr 0 0 0 0]],[⟨0,1,[[eL tX x.i7]],true,false,0⟩]⟩) (λa H=>by kernel_rfl) (bd jg5 Db0) λx=>Ia8 (.s .p (.s (.s .p (.b (.u ra6.ls))) .p)) [ra6.pr] (by kernel_rfl) (.cons yb6 .nil) (Qha (b:=M9 (λr=>(ua0 x r).run) x) (by kernel_rfl) (Mb7 (λr=>(ua0 x r).run) (λr=>r) x).symm)
structure Y5 where
 g7:PLq
 i7:List Pt
def ub9:List (Nat×Sum):=[(103,Xa6)]
theorem pb9:i9 prog G ub9:=⟨Jb0,trivial⟩
structure Y6 where
 alt:Nat
 bs0:Bool
 i7:List Pt
def H6{α:Type}(kk:Y6->α)(x:Y5):α:=let t1:=(wa2 ⟨rt tP x.g7,rt tX x.i7⟩);(sl ((cnE tP x.g7)&&((cnE tX x.i7)&&true)) (sl (Nat.beq t1.alt 1) (kk ⟨1,decide (t1.is0>=0),t1.i7⟩) (kk ⟨0,false,[]⟩)) (kk ⟨0,false,[]⟩))
def oa8(x:Y5):Y6:=H6 (λr=>r) x
def ma7(x:Y5)(r:Y6):DT (c7×List c8):=(.ite (Nat.beq r.alt 1) (.ret (b r.bs0,[⟨0,1,[[eL tX r.i7]],true,false,0⟩])) .fail)
theorem yb7{α β:Type}(F:α->β)(kk:Y6->α)(x:Y5):F (H6 kk x)=H6 (λr=>F (kk r)) x:=by unfold H6;(repeat' apply j6 (f:=F))<;>rfl
def Ka2:Sum:=Ma9 ⟨[sLq tP,.fn 82 [.o (.ptr 0 0 0 0)]],[⟨0,1,true,some [[.c 4 (nL tX)]]⟩],λa H=>(⟨aLq tP a 0,hLq tX H 0 0 0⟩,())⟩ (λx=>ma7 x (oa8 x))
theorem vb0:g9 prog G 81 Ka2:=F6 (enc:=λx=>⟨[eL tP x.g7,.fn 82 [.ptr 0 0 0 0]],[⟨0,1,[[eL tX x.i7]],true,false,0⟩]⟩) (λa H=>by kernel_rfl) (bd b81 pb9) λx=>B7 (Qha (b:=H6 (λr=>(ma7 x r).run) x) (by kernel_rfl) (yb7 (λr=>(ma7 x r).run) (λr=>r) x).symm)
def Bc7:List (Nat×Sum):=[(80,Na1),(81,Ka2)]
theorem sc2:i9 prog G Bc7:=⟨jb3,vb0,trivial⟩
def ua1(x:PLq):ROq:=let t1:=(ia9 (rt tP x));let t2:=(oa8 ⟨rt tP x,rt tX t1⟩);(sl (okE tP x) (sl (ja0 (rt tP x)) (sl ((cnE tP x)&&((cnE tX t1)&&true)) (sl (Nat.beq t2.alt 1) (some (b (!t2.bs0),[])) none) none) none) none)
def ua2(x:PLq):Bool:=ba8 (one r1B) (ua1 x)
def ua3(x:PLq):Bool:=okO (one r1B) (ua1 x)
def eb0:Sum:=ga4 (ta2 tP) (λx=>.guard (ua3 x) (.ret ((one r1B).enc (ua2 x),[])))
theorem Ab8:g9 prog G 65 eb0:=db8 (bd b65 sc2) (one r1B) (o:=ua1) λx=>B7 (by kernel_rfl)
def yd8:List (Nat×Sum):=[(63,Cb7),(64,Ac3),(80,Na1)]
theorem md1:i9 prog G yd8:=⟨Tb6,Jc7,jb3,trivial⟩
def ab5(x:PLq):ROq:=let t1:=(Ga8 [rt tP x]);let t2:=(pb6 [rt tP x]);let t3:=(ia9 (rt tP t2));(sl ((okE tP x)&&true) (sl (Ga9 [rt tP x]) (sl (!t1) (some (.v (.slice none 0 0),[])) (sl ((okE tP x)&&true) (sl (pb7 [rt tP x]) (sl (okE tP t2) (sl (ja0 (rt tP t2)) (some (eL tX t3,[])) none) none) none) none)) none) none)
def Ma2(x:PLq):List Pt:=ba8 (one (r1L tX)) (ab5 x)
def Ma3(x:PLq):Bool:=okO (one (r1L tX)) (ab5 x)
def sb3:Sum:=ga4 (ta2 tP) (λx=>.guard (Ma3 x) (.ret ((one (r1L tX)).enc (Ma2 x),[])))
theorem Jb1:g9 prog G 106 sb3:=db8 (bd jg8 md1) (one (r1L tX)) (o:=ab5) λx=>B7 (by kernel_rfl)
def Zd3:List (Nat×Sum):=[(63,Cb7),(64,Ac3),(65,eb0)]
theorem Hd8:i9 prog G Zd3:=⟨Tb6,Jc7,Ab8,trivial⟩
def vb1(x:PLq):ROq:=let t1:=(Ga8 [rt tP x]);let t2:=(pb6 [rt tP x]);let t3:=(ua2 (rt tP t2));(sl ((okE tP x)&&true) (sl (Ga9 [rt tP x]) (sl t1 (sl ((okE tP x)&&true) (sl (pb7 [rt tP x]) (sl (okE tP t2) (sl (ua3 (rt tP t2)) (some (b t3,[])) none) none) none) none) (some (b false,[]))) none) none)
def ya5(x:PLq):Bool:=ba8 (one r1B) (vb1 x)
def ya6(x:PLq):Bool:=okO (one r1B) (vb1 x)
def Ra5:Sum:=ga4 (ta2 tP) (λx=>.guard (ya6 x) (.ret ((one r1B).enc (ya5 x),[])))
theorem Va6:g9 prog G 39 Ra5:=db8 (bd b39 Hd8) (one r1B) (o:=vb1) λx=>B7 (by kernel_rfl)
structure sb4 where
 (wc9 xc0 xc1 xc2:Int)
 i7:List Pt
def sc3:List (Nat×Sum):=[(85,Qb3)]
theorem md2:i9 prog G sc3:=⟨dc1,trivial⟩
structure Ka3 where
 qf9:List Pt
 is8:Int
 i7:List Pt
 (Ia2 Ia3 Ia4 Ia5:Int)
structure Y7 where
 (is4 is9:Int)
def Yb0(p:Ka3)(s:Y7):St:=⟨.unk::.unk::.ptr 1 0 0 0::.unk::i s.is4::.unk::.unk::eL tX p.qf9::i p.is8::i s.is9::ra 12 [],[⟨0,1,[[eL tX p.i7]],true,false,0⟩,⟨0,4,[[i p.Ia2,i p.Ia3,i p.Ia4,i p.Ia5]],true,false,0⟩]⟩
def ya7{α:Type}(k:Y7->α)(e:Nat->α)(z:α)(p:Ka3)(s:Y7):α:=let t1:=(Fa7 (⟨(⟨p.Ia2,p.Ia3,p.Ia4⟩:V3),p.Ia5⟩:Pln) (gL tX p.qf9 s.is9.toNat));(sl (decide (s.is9<p.is8)) (sl (inB s.is9 (List.length p.qf9)) (sl (t1==0) (k ⟨W (s.is4+1),W (s.is9+1)⟩) (k ⟨s.is4,W (s.is9+1)⟩)) z) (e 1))
def Ea2(p:Ka3)(s:Y7):Stp Y7:=ya7 .next .exit .fail p s
def yb8:Lo Ka3 Y7:=⟨En sc3,1,Hf1,[1,1,0,1,4,4],[2,4,7,8,9],.p,[⟨sUq::sUq::sPq 1::sUq::sIq::sUq::sUq::sLq tX::sIq::sIq::ru2 12 [],[⟨0,1,true,some [[.c 4 (nL tX)]]⟩,⟨0,4,true,some [kLq 4]⟩],λa H=>(⟨aLq tX a 7,aIq a 8,hLq tX H 0 0 0,hIq H 1 0 0,hIq H 1 0 1,hIq H 1 0 2,hIq H 1 0 3⟩,⟨aIq a 4,aIq a 9⟩)⟩],Ea2,[(some 0,λp s=>upq (Yb0 p s) [(10,b (decide (s.is9<p.is8)))])],Yb0⟩
theorem ad1:yb8.Ok:=Lo.ok [] (by kernel_rfl) .nil rfl (.cons (λa H=>by kernel_rfl) .nil) λp s=>(.of @ya7 (λF _ _ _ _ _=>by unfold ya7;(repeat' apply j6 (f:=F))<;>rfl) (by kernel_rfl))
structure Ma4 where
 alt:Nat
 bs0:Bool
 i7:List Pt
def Ma5{α:Type}(kk:Ma4->α)(x:sb4):α:=let y0:=(rt tX x.i7);let t1:=(lp (Ea2 (⟨y0,(↑(List.length x.i7):Int),y0,x.wc9,x.xc0,x.xc1,x.xc2⟩:Ka3)) (⟨0,0⟩:Y7));(sl ((cnE tX x.i7)&&((cnE tX x.i7)&&true)) (sl (Nat.beq t1.1 1) (kk ⟨1,decide (t1.2.is4<3),y0⟩) (kk ⟨0,false,[]⟩)) (kk ⟨0,false,[]⟩))
def Aa7(x:sb4):Ma4:=Ma5 (λr=>r) x
def Jb2(x:sb4)(r:Ma4):DT (c7×List c8):=(.ite (Nat.beq r.alt 1) (.ret (b r.bs0,[⟨0,1,[[eL tX r.i7]],true,false,0⟩])) .fail)
theorem Hd9{α β:Type}(F:α->β)(kk:Ma4->α)(x:sb4):F (Ma5 kk x)=Ma5 (λr=>F (kk r)) x:=by unfold Ma5;(repeat' apply j6 (f:=F))<;>rfl
def Tb9:Sum:=Ma9 ⟨[.agg (kLq 4),sPq 0],[⟨0,1,true,some [[.c 4 (nL tX)]]⟩],λa H=>(⟨cIq a 0 0,cIq a 0 1,cIq a 0 2,cIq a 0 3,hLq tX H 0 0 0⟩,())⟩ (λx=>Jb2 x (Aa7 x))
theorem sc4:g9 prog G 108 Tb9:=F6 (enc:=λx=>⟨[.agg [i x.wc9,i x.xc0,i x.xc1,i x.xc2],.ptr 0 0 0 0],[⟨0,1,[[eL tX x.i7]],true,false,0⟩]⟩) (λa H=>by kernel_rfl) (bd jg9 md2) λx=>Ia8 (.s .p (.s .p (.s (.s .p (.b (.u yb8.ls))) .p))) [yb8.pr] (by kernel_rfl) (.cons ad1 .nil) (Qha (b:=Ma5 (λr=>(Jb2 x r).run) x) (by kernel_rfl) (Hd9 (λr=>(Jb2 x r).run) (λr=>r) x).symm)
structure ha9 where
 ns0:Nat
 eh0:List (List c7)
 F4:List Pt
def Ra6:List (Nat×Sum):=[(108,Tb9)]
theorem Db1:i9 prog G Ra6:=⟨sc4,trivial⟩
structure Q9 where
 ns0:Nat
 is7:Int
 eh0:List (List c7)
structure r9 where
 is8:Int
 F4:List Pt
def Ka4(p:Q9)(s:r9):St:=⟨.sl 0 0 p.ns0 0::.fn 108 [.ptr 1 0 0 0]::ra 5 (i p.is7::i s.is8::ra 10 []),[⟨66,4,p.eh0,true,false,0⟩,⟨0,1,[[eL tX s.F4]],true,false,0⟩]⟩
def M2{α:Type}(k:r9->α)(e:Nat->α)(z:α)(p:Q9)(s:r9):α:=let y0:=(rdR tP p.eh0 (0+s.is8.toNat));let t1:=(Aa7 ⟨y0.n.x,y0.n.y,y0.n.z,y0.b,rt tX s.F4⟩);(sl (decide (s.is8<p.is7)) (sl (inB s.is8 p.ns0) (sl (ldR tP p.eh0 (0+s.is8.toNat)) (sl ((cnE tX s.F4)&&true) (sl (Nat.beq t1.alt 1) (sl t1.bs0 (e 1) (k ⟨W (s.is8+1),t1.i7⟩)) z) z) z) z) (e 2))
def O6(p:Q9)(s:r9):Stp r9:=M2 .next .exit .fail p s
def ra7:Lo Q9 r9:=⟨En Ra6,2,me1,[1,0,1,4,4],[0,1,7,8],.p,[⟨.s (.o (.sl 0 0 (some 0) none))::.fn 108 [.o (.ptr 1 0 0 0)]::ru2 5 (sIq::sIq::ru2 10 []),[⟨66,4,true,none⟩,⟨0,1,true,some [[.c 4 (nL tX)]]⟩],λa H=>(⟨slN (slT a 0),aIq a 7,elT H 0⟩,⟨aIq a 8,hLq tX H 1 0 0⟩)⟩],O6,[(none,λp s=>let t1:=(Aa7 ⟨(rdR tP p.eh0 (0+s.is8.toNat)).n.x,(rdR tP p.eh0 (0+s.is8.toNat)).n.y,(rdR tP p.eh0 (0+s.is8.toNat)).n.z,(rdR tP p.eh0 (0+s.is8.toNat)).b,rt tX s.F4⟩);⟨[i s.is8],[⟨66,4,p.eh0,true,false,0⟩,⟨0,1,[[eL tX t1.i7]],true,false,0⟩]⟩),(some 0,λp s=>upq (Ka4 p s) [(9,b (decide (s.is8<p.is7)))])],Ka4⟩
theorem yb9:ra7.Ok:=Lo.ok [] (by kernel_rfl) .nil rfl (.cons (λa H=>by kernel_rfl) .nil) λp s=>(.of @M2 (λF _ _ _ _ _=>by unfold M2;(repeat' apply j6 (f:=F))<;>rfl) (by kernel_rfl))
structure ia0 where
 alt:Nat
 is0:Int
 F4:List Pt
def N0{α:Type}(kk:ia0->α)(x:ha9):α:=let t1:=(lp (O6 (⟨x.ns0,(↑x.ns0:Int),x.eh0⟩:Q9)) (⟨0,rt tX x.F4⟩:r9));let y0:=(rdR tP x.eh0 (0+t1.2.is8.toNat));let t2:=(Aa7 ⟨y0.n.x,y0.n.y,y0.n.z,y0.b,rt tX t1.2.F4⟩);(sl ((cnE tX x.F4)&&true) (sl (Nat.beq t1.1 1) (kk ⟨1,t1.2.is8,t2.i7⟩) (sl (Nat.beq t1.1 2) (kk ⟨1,-1,t1.2.F4⟩) (kk ⟨0,0,[]⟩))) (kk ⟨0,0,[]⟩))
def ia1(x:ha9):ia0:=N0 (λr=>r) x
def ua4(x:ha9)(r:ia0):DT (c7×List c8):=(.ite (Nat.beq r.alt 1) (.ret (i r.is0,[⟨66,4,x.eh0,true,false,0⟩,⟨0,1,[[eL tX r.F4]],true,false,0⟩])) .fail)
theorem Mb8{α β:Type}(F:α->β)(kk:ia0->α)(x:ha9):F (N0 kk x)=N0 (λr=>F (kk r)) x:=by unfold N0;(repeat' apply j6 (f:=F))<;>rfl
def Xa7:Sum:=Ma9 ⟨[.s (.o (.sl 0 0 (some 0) none)),.fn 108 [.o (.ptr 1 0 0 0)]],[⟨66,4,true,none⟩,⟨0,1,true,some [[.c 4 (nL tX)]]⟩],λa H=>(⟨slN (slT a 0),elT H 0,hLq tX H 1 0 0⟩,())⟩ (λx=>ua4 x (ia1 x))
theorem Jb3:g9 prog G 118 Xa7:=F6 (enc:=λx=>⟨[.sl 0 0 x.ns0 0,.fn 108 [.ptr 1 0 0 0]],[⟨66,4,x.eh0,true,false,0⟩,⟨0,1,[[eL tX x.F4]],true,false,0⟩]⟩) (λa H=>by kernel_rfl) (bd xf9 Db1) λx=>Ia8 (.s .p (.s (.s .p (.b (.u ra7.ls))) .p)) [ra7.pr] (by kernel_rfl) (.cons yb9 .nil) (Qha (b:=N0 (λr=>(ua4 x r).run) x) (by kernel_rfl) (Mb8 (λr=>(ua4 x r).run) (λr=>r) x).symm)
structure ia2 where
 ns0:Nat
 eh0:List (List c7)
 F4:List Pt
def Ra7:List (Nat×Sum):=[(118,Xa7),(108,Tb9)]
theorem Db2:i9 prog G Ra7:=⟨Jb3,sc4,trivial⟩
structure R2 where
 ns0:Nat
structure A3 where
 (is5 is6:Int)
 eh0:List (List c7)
 F4:List Pt
def Ka5(p:R2)(s:A3):St:=⟨.sl 0 0 p.ns0 0::.fn 108 [.ptr 1 0 0 0]::ra 3 (i s.is5::i s.is6::ra 35 []),[⟨66,4,s.eh0,true,false,0⟩,⟨0,1,[[eL tX s.F4]],true,false,0⟩]⟩
def M3{α:Type}(k:A3->α)(e:Nat->α)(z:α)(p:R2)(s:A3):α:=let y0:=(rdR tP s.eh0 (0+s.is6.toNat));let t1:=(Aa7 ⟨y0.n.x,y0.n.y,y0.n.z,y0.b,rt tX s.F4⟩);(sl (decide (s.is6<(↑p.ns0:Int))) (sl (inB s.is6 p.ns0) (sl (ldR tP s.eh0 (0+s.is6.toNat)) (sl ((cnE tX s.F4)&&true) (sl (Nat.beq t1.alt 1) (sl (!t1.bs0) (sl (inB s.is5 p.ns0) (sl ((Nat.blt (0+s.is5.toNat) (len s.eh0))&&(Nat.ble (0+4) (len (d9 s.eh0 (0+s.is5.toNat))))) (k ⟨W (s.is5+1),W (s.is6+1),setAt s.eh0 (0+s.is5.toNat) (T1 (d9 s.eh0 (0+s.is5.toNat)) 0 [i y0.n.x,i y0.n.y,i y0.n.z,i y0.b]),t1.i7⟩) z) z) (k ⟨s.is5,W (s.is6+1),s.eh0,t1.i7⟩)) z) z) z) z) (e 1))
def H7(p:R2)(s:A3):Stp A3:=M3 .next .exit .fail p s
def ra8:Lo R2 A3:=⟨En Ra7,2,Hf0,[1,1,1,0,1,4,4],[0,1,5,6],.p,[⟨.s (.o (.sl 0 0 (some 0) none))::.fn 108 [.o (.ptr 1 0 0 0)]::ru2 3 (sIq::sIq::ru2 35 []),[⟨66,4,true,none⟩,⟨0,1,true,some [[.c 4 (nL tX)]]⟩],λa H=>(⟨slN (slT a 0)⟩,⟨aIq a 5,aIq a 6,elT H 0,hLq tX H 1 0 0⟩)⟩],H7,[(some 0,λp s=>upq (Ka5 p s) [(16,i s.is6),(17,.sl 0 0 p.ns0 0),(18,i (↑p.ns0:Int)),(19,b (decide (s.is6<(↑p.ns0:Int))))])],Ka5⟩
theorem zb0:ra8.Ok:=Lo.ok [] (by kernel_rfl) .nil rfl (.cons (λa H=>by kernel_rfl) .nil) λp s=>(.of @M3 (λF _ _ _ _ _=>by unfold M3;(repeat' apply j6 (f:=F))<;>rfl) (by kernel_rfl))
structure ia3 where
 (alt ns0:Nat)
 eh0:List (List c7)
 F4:List Pt
def N1{α:Type}(kk:ia3->α)(x:ia2):α:=let t1:=(ia1 ⟨x.ns0,x.eh0,rt tX x.F4⟩);let t2:=(lp (H7 (⟨x.ns0⟩:R2)) (⟨t1.is0,W (t1.is0+1),x.eh0,rt tX t1.F4⟩:A3));(sl ((cnE tX x.F4)&&true) (sl (Nat.beq t1.alt 1) (sl (t1.is0==(-1)) (kk ⟨1,x.ns0,x.eh0,t1.F4⟩) (sl ((cnE tX t1.F4)&&true) (sl (Nat.beq t2.1 1) (sl (inB t2.2.is5 (x.ns0+1)) (sl (inB t2.2.is5 (x.ns0+1)) (kk ⟨1,t2.2.is5.toNat-0,app (J3 t2.2.eh0 (0+t2.2.is5.toNat)) (app (List.replicate (x.ns0-t2.2.is5.toNat) [i 0,i 0,i 0,i 0]) (j7 t2.2.eh0 ((0+t2.2.is5.toNat)+(x.ns0-t2.2.is5.toNat)))),t2.2.F4⟩) (kk ⟨0,0,[],[]⟩)) (kk ⟨0,0,[],[]⟩)) (kk ⟨0,0,[],[]⟩)) (kk ⟨0,0,[],[]⟩))) (kk ⟨0,0,[],[]⟩)) (kk ⟨0,0,[],[]⟩))
def N2(x:ia2):ia3:=N1 (λr=>r) x
def ua5(x:ia2)(r:ia3):DT (c7×List c8):=(.ite (Nat.beq r.alt 1) (.ret (.sl 0 0 r.ns0 0,[⟨66,4,r.eh0,true,false,0⟩,⟨0,1,[[eL tX r.F4]],true,false,0⟩])) .fail)
theorem Mb9{α β:Type}(F:α->β)(kk:ia3->α)(x:ia2):F (N1 kk x)=N1 (λr=>F (kk r)) x:=by unfold N1;(repeat' apply j6 (f:=F))<;>rfl
def wa3:Sum:=Ma9 ⟨[.s (.o (.sl 0 0 (some 0) none)),.fn 108 [.o (.ptr 1 0 0 0)]],[⟨66,4,true,none⟩,⟨0,1,true,some [[.c 4 (nL tX)]]⟩],λa H=>(⟨slN (slT a 0),elT H 0,hLq tX H 1 0 0⟩,())⟩ (λx=>ua5 x (N2 x))
theorem Ra8:g9 prog G 107 wa3:=F6 (enc:=λx=>⟨[.sl 0 0 x.ns0 0,.fn 108 [.ptr 1 0 0 0]],[⟨66,4,x.eh0,true,false,0⟩,⟨0,1,[[eL tX x.F4]],true,false,0⟩]⟩) (λa H=>by kernel_rfl) (bd ag3 Db2) λx=>Ia8 (.s .p (.s .p (.s .p (.s (.s .p (.b (.u ra8.ls))) .p)))) [ra8.pr] (by kernel_rfl) (.cons zb0 .nil) (Qha (b:=N1 (λr=>(ua5 x r).run) x) (by kernel_rfl) (Mb9 (λr=>(ua5 x r).run) (λr=>r) x).symm)
structure ra9 where
 ns0:Nat
 eh0:List (List c7)
def Ea3:List (Nat×Sum):=[]
theorem Ub0:i9 prog G Ea3:=trivial
structure I9 where
 (ns0 os4 ns4:Nat)
structure u3 where
 (is3 is5:Int)
 eh0:List (List c7)
def Xa8(p:I9)(s:u3):St:=⟨.sl 0 0 p.ns0 0::.unk::.unk::i s.is3::.sl 0 p.os4 p.ns4 0::i s.is5::ra 55 [],[⟨66,4,s.eh0,true,false,0⟩]⟩
def S6{α:Type}(k:u3->α)(e:Nat->α)(z:α)(p:I9)(s:u3):α:=let y2:=(p.os4+s.is5.toNat);let y1:=(rdR tP s.eh0 (p.os4+(W (s.is5-1)).toNat));let y0:=(rdR tP s.eh0 y2);(sl (decide (s.is5<(↑p.ns4:Int))) (sl (inB s.is5 p.ns4) (sl (ldR tP s.eh0 y2) (sl (inB (W (s.is5-1)) p.ns4) (sl (ldR tP s.eh0 (p.os4+(W (s.is5-1)).toNat)) (sl (!((y0.n.x==y1.n.x)&&((y0.n.y==y1.n.y)&&((y0.n.z==y1.n.z)&&((y0.b==y1.b)&&true))))) (sl (inB s.is5 p.ns4) (sl (ldR tP s.eh0 y2) (sl (inB s.is3 p.ns0) (sl ((Nat.blt (0+s.is3.toNat) (len s.eh0))&&(Nat.ble (0+4) (len (d9 s.eh0 (0+s.is3.toNat))))) (k ⟨W (s.is3+1),W (s.is5+1),setAt s.eh0 (0+s.is3.toNat) (T1 (d9 s.eh0 (0+s.is3.toNat)) 0 [i y0.n.x,i y0.n.y,i y0.n.z,i y0.b])⟩) z) z) z) z) (k ⟨s.is3,W (s.is5+1),s.eh0⟩)) z) z) z) z) (e 1))
def w9(p:I9)(s:u3):Stp u3:=S6 .next .exit .fail p s
def Aa8:Lo I9 u3:=⟨En Ea3,1,gf3,[1,1,0,1,4,4,1,0,4,1,2,1,0,1,4,4],[0,3,4,5],.p,[⟨.s (.o (.sl 0 0 (some 0) none))::sUq::sUq::sIq::.s (.o (.sl 0 0 none none))::sIq::ru2 55 [],[⟨66,4,true,none⟩],λa H=>(⟨slN (slT a 0),slO (slT a 4),slN (slT a 4)⟩,⟨aIq a 3,aIq a 5,elT H 0⟩)⟩],w9,[(some 2,λp s=>upq (Xa8 p s) [(29,i s.is5),(30,.sl 0 p.os4 p.ns4 0),(31,i (↑p.ns4:Int)),(32,b (decide (s.is5<(↑p.ns4:Int))))])],Xa8⟩
theorem Nb0:Aa8.Ok:=Lo.ok [] (by kernel_rfl) .nil rfl (.cons (λa H=>by kernel_rfl) .nil) λp s=>(.of @S6 (λF _ _ _ _ _=>by unfold S6;(repeat' apply j6 (f:=F))<;>rfl) (by kernel_rfl))
structure X1 where
 ns0:Nat
 eh0:List (List c7)
structure A8 where
 is3:Int
def Xa9(p:X1)(s:A8):St:=⟨.sl 0 0 p.ns0 0::.unk::.unk::i s.is3::ra 57 [],[⟨66,4,p.eh0,true,false,0⟩]⟩
def S7{α:Type}(k:A8->α)(e:Nat->α)(z:α)(p:X1)(s:A8):α:=let y1:=(rdR tP p.eh0 (0+s.is3.toNat));let y0:=(rdR tP p.eh0 (0+(W (s.is3-1)).toNat));let t1:=(lp (w9 (⟨p.ns0,0+s.is3.toNat,p.ns0-s.is3.toNat⟩:I9)) (⟨s.is3,1,p.eh0⟩:u3));(sl (decide (s.is3<(↑p.ns0:Int))) (sl (inB s.is3 p.ns0) (sl (ldR tP p.eh0 (0+s.is3.toNat)) (sl (inB (W (s.is3-1)) p.ns0) (sl (ldR tP p.eh0 (0+(W (s.is3-1)).toNat)) (sl ((y1.n.x==y0.n.x)&&((y1.n.y==y0.n.y)&&((y1.n.z==y0.n.z)&&((y1.b==y0.b)&&true)))) (sl (inB s.is3 (p.ns0+1)) (sl (Nat.beq t1.1 1) (sl (inB t1.2.is3 (p.ns0+1)) (sl (inB t1.2.is3 (p.ns0+1)) (e 1) z) z) z) z) (k ⟨W (s.is3+1)⟩)) z) z) z) z) (e 2))
def U8(p:X1)(s:A8):Stp A8:=S7 .next .exit .fail p s
def Aa9:Lo X1 A8:=⟨En Ea3,1,gf3,[1,1,0,1,4,4],[0,3],.s .p (.s (.b (.s .p (.c (.s .p (.s (.s .p (.b (.u Aa8.ls))) .p)) .p))) .p),[⟨.s (.o (.sl 0 0 (some 0) none))::sUq::sUq::sIq::ru2 57 [],[⟨66,4,true,none⟩],λa H=>(⟨slN (slT a 0),elT H 0⟩,⟨aIq a 3⟩)⟩],U8,[(none,λp s=>let t1:=(lp (w9 (⟨p.ns0,0+s.is3.toNat,p.ns0-s.is3.toNat⟩:I9)) (⟨s.is3,1,p.eh0⟩:u3));⟨[.sl 0 0 (t1.2.is3.toNat-0) 0],[⟨66,4,app (J3 t1.2.eh0 (0+t1.2.is3.toNat)) (app (List.replicate (p.ns0-t1.2.is3.toNat) [i 0,i 0,i 0,i 0]) (j7 t1.2.eh0 ((0+t1.2.is3.toNat)+(p.ns0-t1.2.is3.toNat)))),true,false,0⟩]⟩),(some 0,λp s=>upq (Xa9 p s) [(10,i s.is3),(11,.sl 0 0 p.ns0 0),(12,i (↑p.ns0:Int)),(13,b (decide (s.is3<(↑p.ns0:Int))))])],Xa9⟩
theorem Nb1:Aa9.Ok:=Lo.ok [Aa8.pr] (by kernel_rfl) (.cons Nb0 .nil) rfl (.cons (λa H=>by kernel_rfl) .nil) λp s=>(.of @S7 (λF _ _ _ _ _=>by unfold S7;(repeat' apply j6 (f:=F))<;>rfl) (by kernel_rfl))
structure sa0 where
 (alt ns0:Nat)
 eh0:List (List c7)
def T6{α:Type}(kk:sa0->α)(x:ra9):α:=let t1:=(lp (U8 (⟨x.ns0,x.eh0⟩:X1)) (⟨1⟩:A8));let t2:=(lp (w9 (⟨x.ns0,0+t1.2.is3.toNat,x.ns0-t1.2.is3.toNat⟩:I9)) (⟨t1.2.is3,1,x.eh0⟩:u3));(sl (decide ((↑x.ns0:Int)<2)) (kk ⟨1,x.ns0,x.eh0⟩) (sl (Nat.beq t1.1 1) (kk ⟨1,t2.2.is3.toNat-0,app (J3 t2.2.eh0 (0+t2.2.is3.toNat)) (app (List.replicate (x.ns0-t2.2.is3.toNat) [i 0,i 0,i 0,i 0]) (j7 t2.2.eh0 ((0+t2.2.is3.toNat)+(x.ns0-t2.2.is3.toNat))))⟩) (sl (Nat.beq t1.1 2) (kk ⟨1,x.ns0,x.eh0⟩) (kk ⟨0,0,[]⟩))))
def da5(x:ra9):sa0:=T6 (λr=>r) x
def Ea4(x:ra9)(r:sa0):DT (c7×List c8):=(.ite (Nat.beq r.alt 1) (.ret (.sl 0 0 r.ns0 0,[⟨66,4,r.eh0,true,false,0⟩])) .fail)
theorem dc9{α β:Type}(F:α->β)(kk:sa0->α)(x:ra9):F (T6 kk x)=T6 (λr=>F (kk r)) x:=by unfold T6;(repeat' apply j6 (f:=F))<;>rfl
def Ha1:Sum:=Ma9 ⟨[.s (.o (.sl 0 0 (some 0) none))],[⟨66,4,true,none⟩],λa H=>(⟨slN (slT a 0),elT H 0⟩,())⟩ (λx=>Ea4 x (da5 x))
theorem fb0:g9 prog G 111 Ha1:=F6 (enc:=λx=>⟨[.sl 0 0 x.ns0 0],[⟨66,4,x.eh0,true,false,0⟩]⟩) (λa H=>by kernel_rfl) (bd ag4 Ub0) λx=>Ia8 (.s .p (.s .p (.s (.s .p (.b (.u Aa9.ls))) .p))) [Aa9.pr] (by kernel_rfl) (.cons Nb1 .nil) (Qha (b:=T6 (λr=>(Ea4 x r).run) x) (by kernel_rfl) (dc9 (λr=>(Ea4 x r).run) (λr=>r) x).symm)
def yd9:List (Nat×Sum):=[]
theorem md3:i9 prog G yd9:=trivial
def ab6(x:Int)(y:Int):ROq:=(sl (decide (x<y)) (some (i (-1),[])) (sl (decide (x>y)) (some (i 1,[])) (some (i 0,[]))))
def Ba0(x:Int)(y:Int):Int:=ba8 (one r1I) (ab6 x y)
def Ba1(x:Int)(y:Int):Bool:=okO (one r1I) (ab6 x y)
def Fc7:Sum:=Aa5 cI cI (λx y=>.guard (Ba1 x y) (.ret ((one r1I).enc (Ba0 x y),[])))
theorem zd0:g9 prog G 132 Fc7:=Sb2 (bd lg8 md3) (one r1I) (o:=ab6) λx y=>B7 (by kernel_rfl)
def ad2:List (Nat×Sum):=[(132,Fc7)]
theorem Rc7:i9 prog G ad2:=⟨zd0,trivial⟩
def Ka6(x:Pln)(y:Pln):ROq:=let t1:=(Ba0 x.n.x y.n.x);let t2:=(Ba0 x.n.y y.n.y);let t3:=(Ba0 x.n.z y.n.z);let t4:=(Ba0 x.b y.b);(sl (Ba1 x.n.x y.n.x) (sl (t1==0) (sl (Ba1 x.n.y y.n.y) (sl (t2==0) (sl (Ba1 x.n.z y.n.z) (sl (t3==0) (sl (Ba1 x.b y.b) (sl (t4==0) (some (i t4,[])) (some (i t4,[]))) none) (some (i t3,[]))) none) (some (i t2,[]))) none) (some (i t1,[]))) none)
def cb1(x:Pln)(y:Pln):Int:=ba8 (one r1I) (Ka6 x y)
def cb2(x:Pln)(y:Pln):Bool:=okO (one r1I) (Ka6 x y)
def zb1:Sum:=Aa5 (Da1 tP) (Da1 tP) (λx y=>.guard (cb2 x y) (.ret ((one r1I).enc (cb1 x y),[])))
theorem ad3:g9 prog G 110 zb1:=Sb2 (bd kg1 Rc7) (one r1I) (o:=Ka6) λx y=>B7 (by kernel_rfl)
def Id0:List (Nat×Sum):=[(63,Cb7),(64,Ac3),(65,eb0)]
theorem zd1:i9 prog G Id0:=⟨Tb6,Jc7,Ab8,trivial⟩
def kb5(x:PLq)(y:PLq):ROq:=let y0:=((okE tP x)&&((okE tP y)&&true));let t1:=(Ga8 [rt tP x,rt tP y]);let t2:=(pb6 [rt tP x,rt tP y]);let t3:=(ua2 (rt tP t2));(sl y0 (sl (Ga9 [rt tP x,rt tP y]) (sl (!t1) (some (b true,[])) (sl y0 (sl (pb7 [rt tP x,rt tP y]) (sl (okE tP t2) (sl (ua3 (rt tP t2)) (some (b (!t3),[])) none) none) none) none)) none) none)
def Ha2(x:PLq)(y:PLq):Bool:=ba8 (one r1B) (kb5 x y)
def Ha3(x:PLq)(y:PLq):Bool:=okO (one r1B) (kb5 x y)
def Db3:Sum:=Aa5 (ta2 tP) (ta2 tP) (λx y=>.guard (Ha3 x y) (.ret ((one r1B).enc (Ha2 x y),[])))
theorem Ub1:g9 prog G 28 Db3:=Sb2 (bd b28 zd1) (one r1B) (o:=kb5) λx y=>B7 (by kernel_rfl)
def ne9:List (Nat×Sum):=[]
theorem Zd4:i9 prog G ne9:=trivial
structure ec0 where
 (s7 Eb5 Eb6 Eb7 Eb8 Eb9:Int)
def Jb4{α:Type}(kk:ec0->α)(x:V3)(y:V3):α:=(kk ⟨y.x,W (0-x.x),y.y,W (0-x.y),y.z,W (0-x.z)⟩)
def eb1(x:V3)(y:V3):ec0:=Jb4 (λr=>r) x y
def sc5(r:ec0):DT (c7×List c8):=.ret (.sl 0 0 6 0,[⟨66,4,[[i 1,i 0,i 0,i r.s7],[i (-1),i 0,i 0,i r.Eb5],[i 0,i 1,i 0,i r.Eb6],[i 0,i (-1),i 0,i r.Eb7],[i 0,i 0,i 1,i r.Eb8],[i 0,i 0,i (-1),i r.Eb9]],true,false,0⟩])
theorem Ce5{α β:Type}(F:α->β)(kk:ec0->α)(x:V3)(y:V3):F (Jb4 kk x y)=Jb4 (λr=>F (kk r)) x y:=by unfold Jb4;(repeat' apply j6 (f:=F))<;>rfl
def Jc8:Sum:=Aa5 (Da1 tV) (Da1 tV) (λx y=>sc5 (eb1 x y))
theorem hd7:g9 prog G 36 Jc8:=Oa1 (bd b36 Zd4) λx y=>B7 (Qha (b:=Jb4 (λr=>(sc5 r).run) x y) (by kernel_rfl) (Ce5 (λr=>(sc5 r).run) (λr=>r) x y).symm)
end Go.Ev.Ce
namespace Go.Proofs
open Go.Shelf
set_option maxRecDepth 100000 in
def Ce.sortLay_ren:Go.Shelf.Ren:=⟨fun | 6=>109 | 15=>131 | 14=>130 | 28=>152 | 29=>153 | 20=>144 | 21=>145 | 22=>146 | 23=>147 | 24=>148 | 25=>149 | 26=>150 | 27=>151 | 46=>155 | 47=>156 | 48=>157 | 49=>158 | 50=>159 | 57=>160 | n=>n,fun | 22=>35 | 24=>66 | 25=>136 | 3=>3 | 39=>154 | 0=>0 | 53=>166 | 55=>168 | 4=>4 | 46=>159 | 45=>158 | 50=>163 | 5=>5 | 9=>9 | 66=>170 | 70=>174 | 76=>176 | 77=>177 | n=>n,fun | n=>n⟩
set_option maxRecDepth 100000 in
theorem Ce.sortLay:Go.Proofs.SlLaysF0.n6 Tryz.prog Ce.sortLay_ren:={
 mixed:=by kernel_rfl
 f6:=⟨Tryz.f109.name,by decide,Tryz.func109.trans (congrArg some (by kernel_rfl))⟩
 f14:=⟨Tryz.f130.name,by decide,Tryz.func130.trans (congrArg some (by kernel_rfl))⟩
 f15:=Tryz.func131.trans (congrArg some (by kernel_rfl))
 f20:=⟨Tryz.f144.name,by decide,Tryz.func144.trans (congrArg some (by kernel_rfl))⟩
 f21:=⟨Tryz.f145.name,by decide,Tryz.func145.trans (congrArg some (by kernel_rfl))⟩
 f22:=⟨Tryz.f146.name,by decide,Tryz.func146.trans (congrArg some (by kernel_rfl))⟩
 f23:=⟨Tryz.f147.name,by decide,Tryz.func147.trans (congrArg some (by kernel_rfl))⟩
 f24:=⟨Tryz.f148.name,by decide,Tryz.func148.trans (congrArg some (by kernel_rfl))⟩
 f25:=⟨Tryz.f149.name,by decide,Tryz.func149.trans (congrArg some (by kernel_rfl))⟩
 f26:=⟨Tryz.f150.name,by decide,Tryz.func150.trans (congrArg some (by kernel_rfl))⟩
 f27:=⟨Tryz.f151.name,by decide,Tryz.func151.trans (congrArg some (by kernel_rfl))⟩
 f28:=Tryz.func152.trans (congrArg some (by kernel_rfl))
 f29:=Tryz.func153.trans (congrArg some (by kernel_rfl))
 f46:=⟨Tryz.f155.name,by decide,Tryz.func155.trans (congrArg some (by kernel_rfl))⟩
 f47:=Tryz.func156.trans (congrArg some (by kernel_rfl))
 f48:=Tryz.func157.trans (congrArg some (by kernel_rfl))
 f49:=⟨Tryz.f158.name,by decide,Tryz.func158.trans (congrArg some (by kernel_rfl))⟩
 f50:=⟨Tryz.f159.name,by decide,Tryz.func159.trans (congrArg some (by kernel_rfl))⟩
 f57:=⟨Tryz.f160.name,by decide,Tryz.func160.trans (congrArg some (by kernel_rfl))⟩
 t0:=Tryz.underlying0
 a0:=Tryz.isAgg0
 z0:=Tryz.sizeOf0
 v0:=Tryz.zeroValue0
 t3:=Tryz.underlying3
 a3:=Tryz.isAgg3
 z3:=Tryz.sizeOf3
 v3:=Tryz.zeroValue3
 t4:=Tryz.underlying4
 a4:=Tryz.isAgg4
 z4:=Tryz.sizeOf4
 v4:=Tryz.zeroValue4
 t5:=Tryz.underlying5
 a5:=Tryz.isAgg5
 z5:=Tryz.sizeOf5
 v5:=Tryz.zeroValue5
 t9:=Tryz.underlying9
 a9:=Tryz.isAgg9
 z9:=Tryz.sizeOf9
 v9:=Tryz.zeroValue9
 t22:=Tryz.underlying35
 a22:=Tryz.isAgg35
 z22:=Tryz.sizeOf35
 v22:=Tryz.zeroValue35
 t25:=Tryz.underlying136
 a25:=Tryz.isAgg136
 z25:=Tryz.sizeOf136
 v25:=Tryz.zeroValue136
 t39:=Tryz.underlying154
 a39:=Tryz.isAgg154
 z39:=Tryz.sizeOf154
 v39:=Tryz.zeroValue154
 t45:=Tryz.underlying158
 a45:=Tryz.isAgg158
 z45:=Tryz.sizeOf158
 v45:=Tryz.zeroValue158
 t46:=Tryz.underlying159
 a46:=Tryz.isAgg159
 z46:=Tryz.sizeOf159
 v46:=Tryz.zeroValue159
 t50:=Tryz.underlying163
 a50:=Tryz.isAgg163
 z50:=Tryz.sizeOf163
 v50:=Tryz.zeroValue163
 t53:=Tryz.underlying166
 a53:=Tryz.isAgg166
 z53:=Tryz.sizeOf166
 v53:=Tryz.zeroValue166
 t55:=Tryz.underlying168
 a55:=Tryz.isAgg168
 z55:=Tryz.sizeOf168
 v55:=Tryz.zeroValue168
 t66:=Tryz.underlying170
 a66:=Tryz.isAgg170
 z66:=Tryz.sizeOf170
 v66:=Tryz.zeroValue170
 t70:=Tryz.underlying174
 a70:=Tryz.isAgg174
 z70:=Tryz.sizeOf174
 v70:=Tryz.zeroValue174
 t76:=Tryz.underlying176
 a76:=Tryz.isAgg176
 z76:=Tryz.sizeOf176
 v76:=Tryz.zeroValue176
 t77:=Tryz.underlying177
 a77:=Tryz.isAgg177
 z77:=Tryz.sizeOf177
 v77:=Tryz.zeroValue177 }
end Go.Proofs
namespace Go.Ev.Ce
open Go Go.Ev Go.Ev.L Go.Proofs Go.Sort
def Rc8(x y:Int):Int:=if x<y then -1 else if x>y then 1 else 0
def Nb2(x y:Pln):Int :=
 if Rc8 x.n.x y.n.x=0 then if Rc8 x.n.y y.n.y=0 then if Rc8 x.n.z y.n.z=0 then Rc8 x.b y.b else Rc8 x.n.z y.n.z else Rc8 x.n.y y.n.y else Rc8 x.n.x y.n.x
theorem qd0(x y:Int):Rc8 x y<0↔x<y:=by unfold Rc8;split<;>(try split)<;>omega
theorem Zd5(x y:Int):Rc8 x y=0↔x=y:=by unfold Rc8;split<;>(try split)<;>omega
def LtP(x y:Pln):Prop:=x.n.x<y.n.x\/x.n.x=y.n.x/\(x.n.y<y.n.y\/x.n.y=y.n.y/\(x.n.z<y.n.z\/x.n.z=y.n.z/\x.b<y.b))
instance(x y:Pln):Decidable (LtP x y):=by unfold LtP;exact inferInstance
theorem Zd6(x y:Pln):Nb2 x y<0↔LtP x y:=by
 have h1:=qd0 x.n.x y.n.x;have h2:=Zd5 x.n.x y.n.x;have h3:=qd0 x.n.y y.n.y;have h4:=Zd5 x.n.y y.n.y;have h5:=qd0 x.n.z y.n.z;have h6:=Zd5 x.n.z y.n.z;have h7:=qd0 x.b y.b;unfold Nb2 LtP;split
 ·split
  ·split<;>omega
  ·omega
 ·omega
theorem qb0(x y:Pln):ltOf Nb2 x y=decide (LtP x y):=by
 unfold ltOf;rw[decide_eq_decide];exact Zd6 x y
theorem ag6:SWO (ltOf Nb2) where
 irrefl x:=by rw[qb0];simp[LtP]
 trans x y z h1 h2:=by rw[qb0,decide_eq_true_eq] at *;unfold LtP at *;omega
 ntrans x y z h1 h2:=by rw[qb0,decide_eq_false_iff_not] at *;unfold LtP at *;omega
theorem ng1(x y:Pln)(h1:ltOf Nb2 x y=false)(h2:ltOf Nb2 y x=false):x=y:=by
 rw[qb0,decide_eq_false_iff_not] at *
 unfold LtP at *
 obtain⟨⟨a,b,c⟩,d⟩:=x;obtain⟨⟨a',b',c'⟩,d'⟩:=y
 simp only at *
 have:a=a'/\b=b'/\c=c'/\d=d':=by omega
 obtain⟨rfl,rfl,rfl,rfl⟩:=this;rfl
theorem oe0(x y:Int):ab6 x y=some (i (Rc8 x y),[]):=by
 unfold ab6 Rc8;simp only[Gb9,decide_eq_true_eq]
 split<;>(try split)<;>rfl
theorem yf0(x y:Int):Ba0 x y=Rc8 x y:=by unfold Ba0;rw[oe0];rfl
theorem yf1(x y:Int):Ba1 x y=true:=by unfold Ba1;rw[oe0];rfl
theorem zd2(x y:Pln):Ka6 x y=some (i (Nb2 x y),[]):=by
 unfold Ka6 Nb2;simp only[yf0,yf1,Gb9,beq_iff_eq,if_true]
 repeat' (first | rfl | split)
theorem ag7(x y:Pln):cb1 x y=Nb2 x y:=by unfold cb1;rw[zd2];rfl
theorem ag8(x y:Pln):cb2 x y=true:=by unfold cb2;rw[zd2];rfl
theorem ag9(x y:Pln):(zb1 [.agg (tP.row x),.agg (tP.row y)] []).run=some (i (Nb2 x y),[]):=by
 have:(zb1 [.agg (tP.row x),.agg (tP.row y)] []).run=sel (cb2 x y) (some (i (cb1 x y),[])) none:=by kernel_rfl
 rw[this,ag8,ag7]
def Yc5(p:Pln):List Value:=[.int .i64 p.n.x,.int .i64 p.n.y,.int .i64 p.n.z,.int .i64 p.b]
instance:Inhabited Pln:=⟨⟨⟨0,0,0⟩,0⟩⟩
def fb1(l:PLq):PLq:=l.mergeSort λx y=>!ltOf Nb2 y x
theorem Ac4(l:PLq):(fb1 l).length=l.length:=List.length_mergeSort l
def Ea5:Sum:=cf3 tP 110 66 fb1
theorem gf6:Ce.sortLay_ren.f 6=109:=by kernel_rfl
theorem Pd6:Ce.sortLay_ren.t 24=66:=by kernel_rfl
set_option maxRecDepth 100000 in
theorem ab7:g9 prog G 109 Ea5:=by
 refine vf6 (enc:=Yc5) (cf:=Nb2) ⟨_,Tryz.func109,by kernel_rfl,of_decide_eq_true (by kernel_rfl)⟩ (by decide) (λ_=>rfl) (λr h=>ob5 (n:=4) h) (λx v hv=>?_) Ac4
  (λblk off size w=>vf5 ad3 ag9 (λ_=>rfl) (λ_=>rfl) _ _ _ _ _) (λblk cap d w hcl hH hb hs=>?_)
 ·simp[Yc5] at hv
  rcases hv with rfl|rfl|rfl|rfl<;>rfl
 ·have eg:∀args w,(callFunc 110 args).run Tryz.prog w=.ok (.enter 110 args) w:=enters_of Tryz.func110 (by kernel_rfl) rfl
  have:=AnyQ.slices_SortFunc Ce.sortLay 4 (by rw[Pd6];exact Tryz.isAgg66) (by rw[Pd6];exact Tryz.sizeOf66) Yc5 (λ_=>rfl) (λx v hv=>by simp[Yc5] at hv;rcases hv with rfl | rfl | rfl | rfl<;>rfl) Nb2 ag6 110 #[] blk 0 cap d w eg (hcl 0 d.size) hH hb hs
  rw[gf6] at this;refine this.mono λe w' ⟨h1,d',n,os,h2,h3,h4⟩=>⟨h1,n,os,?_⟩
  have h5:=sorted_unique_holds ag6 ng1 d d' h2 h3;rw[h4];show _=sortWorldK Yc5 4 w blk 0 n (d.toList.mergeSort λx y=>!ltOf Nb2 y x).toArray os
  rw[<- h5]
end Go.Ev.Ce
namespace Go.Ev.Ce
open Go Go.Ev Go.Ev.L Go.Proofs
set_option maxRecDepth 100000
structure cb3 where
 is1:Int
 Fb7:List Int
 l6:Int
def ad4:List (Nat×Sum):=[(34,Pd5)]
theorem Rc9:i9 prog G ad4:=⟨Ce3,trivial⟩
structure cb4 where
 alt:Nat
 (is0 l6:Int)
def wa9{α:Type}(kk:cb4->α)(x:cb3):α:=let y0:=(W ((W (x.l6+1))-1));let t1:=(Ac1 (gL tI x.Fb7 y0.toNat) x.is1);(sl (decide (x.l6>=(↑(List.length x.Fb7):Int))) (kk ⟨1,0,x.l6⟩) (sl (inB y0 (List.length x.Fb7)) (sl (Ac2 (gL tI x.Fb7 y0.toNat) x.is1) (kk ⟨1,t1,W (x.l6+1)⟩) (kk ⟨0,0,0⟩)) (kk ⟨0,0,0⟩)))
def s9(x:cb3):cb4:=wa9 (λr=>r) x
def qb1(x:cb3)(r:cb4):DT (c7×List c8):=(.ite (Nat.beq r.alt 1) (.ret (i r.is0,[⟨0,2,[[eL tI x.Fb7,i r.l6]],true,false,0⟩])) .fail)
theorem md4{α β:Type}(F:α->β)(kk:cb4->α)(x:cb3):F (wa9 kk x)=wa9 (λr=>F (kk r)) x:=by unfold wa9;(repeat' apply j6 (f:=F))<;>rfl
def jc7:Sum:=Ma9 ⟨[.s (.o (.ptr 0 0 0 0)),.s (.o (.int .i64))],[⟨0,2,true,some [[.c 1 (nL tI),.o (.int .i64)]]⟩],λa H=>(⟨toI (slT a 1),rL tI (slT (rwT (elT H 0) 0) 0),toI (slT (rwT (elT H 0) 0) 1)⟩,())⟩ (λx=>qb1 x (s9 x))
theorem ad5:g9 prog G 43 jc7:=F6 (enc:=λx=>⟨[.ptr 0 0 0 0,i x.is1],[⟨0,2,[[eL tI x.Fb7,i x.l6]],true,false,0⟩]⟩) (λa H=>by kernel_rfl) (bd b43 Rc9) λx=>B7 (Qha (b:=wa9 (λr=>(qb1 x r).run) x) (by kernel_rfl) (md4 (λr=>(qb1 x r).run) (λr=>r) x).symm)
def Ce6:List (Nat×Sum):=[]
theorem oe1:i9 prog G Ce6:=trivial
def ad6(x:V3)(y:V3):V3:=(⟨W (x.x-y.x),W (x.y-y.y),W (x.z-y.z)⟩:V3)
def Pd7:Sum:=Aa5 (Da1 tV) (Da1 tV) (λx y=>.ret ((one r1V).enc (ad6 x y),[]))
theorem Ce7:g9 prog G 89 Pd7:=Oa1 (bd b89 oe1) λx y=>B7 (by kernel_rfl)
def oe2:List (Nat×Sum):=[(89,Pd7)]
theorem Zd7:i9 prog G oe2:=⟨Ce7,trivial⟩
def Jb5(x:Pln):Pln:=let t1:=(ad6 (⟨0,0,0⟩:V3) x.n);(⟨t1,W (0-x.b)⟩:Pln)
def zd3:Sum:=ga4 (Da1 tP) (λx=>.ret ((one r1P).enc (Jb5 x),[]))
theorem oe3:g9 prog G 67 zd3:=ib1 (bd b67 Zd7) λx=>B7 (by kernel_rfl)
structure Ye1 where
 (B0 l6 B1 s7 Ia2 Ia3 Ia4 Ia5:Int)
structure Ye2 where
 is7:Int
end Go.Ev.Ce
