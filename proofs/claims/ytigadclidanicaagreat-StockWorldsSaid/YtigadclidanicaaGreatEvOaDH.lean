/- Own work. -/
import Derived.Test.YtigadclidanicaaGreatChecked
import Derived.Test.YtigadclidanicaaGreatEvOaCePf
import Derived.KernelRfl
import Derived.Shelf.Spec.SlicesGrow
set_option linter.all false
noncomputable section
namespace Go.Ev.Ce
open Go Go.Ev Go.Proofs
set_option maxRecDepth 1000000
theorem mx:(Tryz.prog).follows .mixedOrders=true:=Checked.mixed Tryz.checked
abbrev Bdq(n:Nat)(pf:PFn):Prop:=qd1 Tryz.prog n λE=>Vb8 E pf
theorem bdq{f:FuncId}{fn:Func}(hf:(Tryz.prog).funcs[f]?=some fn)(hn:decide (fn.name ≠ "runtime.NumGoroutine")=true:=by kernel_rfl)(hc:Option.isSome (Ec5 Tryz.prog fn)=true:=by kernel_rfl):Bdq f (got (Ec5 Tryz.prog fn)):=hg7 mx hf hn (jc9 hc)
theorem b3:qd1 Tryz.prog 3 λE=>ib3 E pf3:=md4 (h:=h3) mx Tryz.func3 (by kernel_rfl) Tryz.func124 (by kernel_rfl) (jc9 (by kernel_rfl))
theorem b4:Bdq 4 pf4:=bdq Tryz.func4
theorem b5:Bdq 5 pf5:=bdq Tryz.func5
theorem b6:Bdq 6 pf6:=bdq Tryz.func6
theorem b7:Bdq 7 pf7:=bdq Tryz.func7
theorem b8:Bdq 8 pf8:=bdq Tryz.func8
theorem b9:Bdq 9 pf9:=bdq Tryz.func9
theorem b10:Bdq 10 hg8:=bdq Tryz.func10
theorem b11:qd1 Tryz.prog 11 λE=>ib3 E hg9:=md4 (h:=h11) mx Tryz.func11 (by kernel_rfl) Tryz.func124 (by kernel_rfl) (jc9 (by kernel_rfl))
theorem b12:Bdq 12 Zf7:=bdq Tryz.func12
theorem b15:Bdq 15 ig0:=bdq Tryz.func15
theorem b17:Bdq 17 Zf8:=bdq Tryz.func17
theorem b18:Bdq 18 ig1:=bdq Tryz.func18
theorem b19:qd1 Tryz.prog 19 λE=>ib3 E Zf9:=md4 (h:=h19) mx Tryz.func19 (by kernel_rfl) Tryz.func124 (by kernel_rfl) (jc9 (by kernel_rfl))
theorem b22:Bdq 22 Qf6:=bdq Tryz.func22
theorem b24:Bdq 24 ag0:=bdq Tryz.func24
theorem b25:Bdq 25 ig2:=bdq Tryz.func25
theorem b27:Bdq 27 ig3:=bdq Tryz.func27
theorem b28:Bdq 28 ig4:=bdq Tryz.func28
theorem b29:Bdq 29 ig5:=bdq Tryz.func29
theorem b31:qd1 Tryz.prog 31 λE=>ib3 E Qf7:=md4 (h:=h31) mx Tryz.func31 (by kernel_rfl) Tryz.func124 (by kernel_rfl) (jc9 (by kernel_rfl))
theorem b32:Bdq 32 ig6:=bdq Tryz.func32
theorem b33:Bdq 33 ag1:=bdq Tryz.func33
theorem b34:Bdq 34 ig7:=bdq Tryz.func34
theorem b36:Bdq 36 ig8:=bdq Tryz.func36
theorem b37:Bdq 37 ig9:=bdq Tryz.func37
theorem b38:Bdq 38 jg0:=bdq Tryz.func38
theorem b39:Bdq 39 jg1:=bdq Tryz.func39
theorem b40:Bdq 40 jg2:=bdq Tryz.func40
theorem b43:Bdq 43 jg3:=bdq Tryz.func43
theorem b44:Bdq 44 jg4:=bdq Tryz.func44
theorem b45:Bdq 45 ag2:=bdq Tryz.func45
theorem b46:qd1 Tryz.prog 46 λE=>ib3 E Qf8:=md4 (h:=h46) mx Tryz.func46 (by kernel_rfl) Tryz.func74 (by kernel_rfl) (jc9 (by kernel_rfl))
theorem b47:Bdq 47 jg5:=bdq Tryz.func47
theorem b48:Bdq 48 ag3:=bdq Tryz.func48
theorem b49:Bdq 49 Qf9:=bdq Tryz.func49
theorem b50:Bdq 50 jg6:=bdq Tryz.func50
theorem b56:Bdq 56 jg7:=bdq Tryz.func56
theorem b57:Bdq 57 jg8:=bdq Tryz.func57
theorem b58:Bdq 58 jg9:=bdq Tryz.func58
theorem b59:Bdq 59 ag4:=bdq Tryz.func59
theorem b60:Bdq 60 kg0:=bdq Tryz.func60
theorem b61:Bdq 61 kg1:=bdq Tryz.func61
theorem b62:Bdq 62 kg2:=bdq Tryz.func62
theorem b63:Bdq 63 kg3:=bdq Tryz.func63
theorem b64:Bdq 64 kg4:=bdq Tryz.func64
theorem b65:Bdq 65 kg5:=bdq Tryz.func65
theorem b66:Bdq 66 ag5:=bdq Tryz.func66
theorem b67:Bdq 67 kg6:=bdq Tryz.func67
theorem b69:Bdq 69 ag6:=bdq Tryz.func69
theorem b70:Bdq 70 ag7:=bdq Tryz.func70
theorem b71:Bdq 71 Rf0:=bdq Tryz.func71
theorem b72:Bdq 72 kg7:=bdq Tryz.func72
theorem b73:Bdq 73 kg8:=bdq Tryz.func73
theorem b75:Bdq 75 kg9:=bdq Tryz.func75
theorem b77:Bdq 77 Rf1:=bdq Tryz.func77
theorem b78:Bdq 78 lg0:=bdq Tryz.func78
theorem b79:qd1 Tryz.prog 79 λE=>ib3 E Rf2:=md4 (h:=h79) mx Tryz.func79 (by kernel_rfl) Tryz.func99 (by kernel_rfl) (jc9 (by kernel_rfl))
theorem b80:qd1 Tryz.prog 80 λE=>ib3 E Af6:=md4 (h:=h80) mx Tryz.func80 (by kernel_rfl) Tryz.func124 (by kernel_rfl) (jc9 (by kernel_rfl))
theorem b81:Bdq 81 lg1:=bdq Tryz.func81
theorem b82:Bdq 82 lg2:=bdq Tryz.func82
theorem b83:Bdq 83 lg3:=bdq Tryz.func83
theorem b84:Bdq 84 lg4:=bdq Tryz.func84
theorem b85:Bdq 85 lg5:=bdq Tryz.func85
theorem b86:Bdq 86 ag8:=bdq Tryz.func86
theorem b87:Bdq 87 lg6:=bdq Tryz.func87
theorem b88:qd1 Tryz.prog 88 λE=>ib3 E Rf3:=md4 (h:=h88) mx Tryz.func88 (by kernel_rfl) Tryz.func133 (by kernel_rfl) (jc9 (by kernel_rfl))
theorem b89:Bdq 89 lg7:=bdq Tryz.func89
theorem b90:Bdq 90 lg8:=bdq Tryz.func90
theorem b91:Bdq 91 Af7:=bdq Tryz.func91
theorem b92:Bdq 92 lg9:=bdq Tryz.func92
theorem b93:Bdq 93 mg0:=bdq Tryz.func93
theorem b94:Bdq 94 mg1:=bdq Tryz.func94
theorem b95:Bdq 95 mg2:=bdq Tryz.func95
theorem mg3:Bdq 100 If6:=bdq Tryz.func100
theorem mg4:Bdq 101 ag9:=bdq Tryz.func101
theorem mg5:Bdq 102 bg0:=bdq Tryz.func102
theorem mg6:Bdq 103 If7:=bdq Tryz.func103
theorem mg7:Bdq 104 If8:=bdq Tryz.func104
theorem mg8:Bdq 105 bg1:=bdq Tryz.func105
theorem mg9:Bdq 106 bg2:=bdq Tryz.func106
theorem cg9:Bdq 107 If9:=bdq Tryz.func107
theorem ng0:Bdq 108 Jf0:=bdq Tryz.func108
theorem ng1:Bdq 109 bg3:=bdq Tryz.func109
theorem ng2:Bdq 110 bg4:=bdq Tryz.func110
theorem dg0:Bdq 111 if9:=bdq Tryz.func111
theorem ng3:Bdq 112 Jf1:=bdq Tryz.func112
theorem ng4:Bdq 113 Jf2:=bdq Tryz.func113
theorem ng5:Bdq 114 Jf3:=bdq Tryz.func114
theorem ng6:Bdq 115 bg5:=bdq Tryz.func115
theorem ng7:Bdq 116 Jf4:=bdq Tryz.func116
theorem ng8:Bdq 117 Jf5:=bdq Tryz.func117
theorem Af8:Bdq 118 oe1:=bdq Tryz.func118
theorem ng9:Bdq 119 Jf6:=bdq Tryz.func119
theorem og0:Bdq 120 jf0:=bdq Tryz.func120
theorem og1:Bdq 124 Jf7:=bdq Tryz.func124
theorem og2:Bdq 125 bg6:=bdq Tryz.func125
theorem og3:Bdq 126 bg7:=bdq Tryz.func126
theorem og4:Bdq 127 bg8:=bdq Tryz.func127
theorem og5:Bdq 128 jf1:=bdq Tryz.func128
theorem og6:Bdq 129 bg9:=bdq Tryz.func129
theorem og7:Bdq 130 Jf8:=bdq Tryz.func130
theorem og8:Bdq 131 Jf9:=bdq Tryz.func131
theorem og9:Bdq 132 cg0:=bdq Tryz.func132
theorem pg0:Bdq 134 cg1:=bdq Tryz.func134
theorem pg1:Bdq 135 cg2:=bdq Tryz.func135
theorem pg2:Bdq 136 cg3:=bdq Tryz.func136
theorem pg3:Bdq 137 cg4:=bdq Tryz.func137
theorem pg4:Bdq 138 cg5:=bdq Tryz.func138
theorem pg5:Bdq 139 cg6:=bdq Tryz.func139
theorem pg6:Bdq 140 Kf0:=bdq Tryz.func140
theorem pg7:Bdq 141 cg7:=bdq Tryz.func141
theorem pg8:Bdq 144 Kf1:=bdq Tryz.func144
theorem pg9:Bdq 152 Kf2:=bdq Tryz.func152
theorem qg0:Bdq 153 Kf3:=bdq Tryz.func153
theorem qg1:Bdq 154 cg8:=bdq Tryz.func154
end Go.Ev.Ce
namespace Go.Ev.L
open Go Go.Ev
def qc7:RT->PC->PS2
 |.s a b,.seq x y=>.seq (qc7 a x) (qc7 b y)
 |.c a b,.cond g x y=>.cond g (qc7 a x) (qc7 b y)
 |.b a,.block id x=>.block id (qc7 a x)
 |.i a,.inner f x n c=>.inner f x n (qc7 a c)
 |.u S,_=>.sum S
 |_,c=>.pc c
theorem ae5{E:Env}{k:Nat}(rt:RT)(c:PC):bb4 (λx=>∀s,ga9 (x.1 s) (O4 E k x.2 s)) (ec0 rt c)->va1 E k (qc7 rt c) c:=by
 induction rt generalizing c with
 |p=>intro h;cases c<;>exact .pc _
 |s a b iha ihb =>
  intro h;cases c with
  |seq x y=>exact .seq (iha x (bb4.app h).1) (ihb y (bb4.app h).2)
  |_=>exact .pc _
 |c a b iha ihb =>
  intro h;cases c with
  |cond g x y=>exact .cond g (iha x (bb4.app h).1) (ihb y (bb4.app h).2)
  |_=>exact .pc _
 |b a iha =>
  intro h;cases c with
  |block id x=>exact .block id (iha x h)
  |_=>exact .pc _
 |l a iha=>intro h;cases c<;>exact .pc _
 |i a iha =>
  intro h;cases c with
  |inner f x n c=>exact .inner f x n (iha c h)
  |_=>exact .pc _
 |u S =>
  intro h
  have:ec0 (.u S) c=[(S,c)]:=by cases c<;>rfl
  rw[this] at h;cases h with
  |cons h t =>
   have e:qc7 (.u S) c=.sum S:=by cases c<;>rfl
   rw[e];exact .sum h
section
variable{π σ:Type}{E:Env}{k:Nat}{keep:List Nat}{alts:List (Al2 π σ)}{enc:π->σ->St}{step:π->σ->Stp σ}{xs:Xs π σ}{body:PS2}{c:PC}
theorem wc7.belowM(hb:va1 E k body c)(hN:E.N=rounds+1)(w:wc7 oe0 k keep (ed7 E k body) alts step xs enc)(s:St):ga9 (Qd3 oe0 k keep alts step xs s) (O4 E k (.loopM keep c) s):=λr hr=>by
 obtain⟨t,h1,h2⟩:=w.go hr;rw[Ce7,hN];exact jc1 hb.le _ _ _ (Fc9 h1 h2)
theorem wc7.belowML(hb:va1 E k body c)(hN:E.N=rounds+1)(w:wc7 wc2 k keep (ed7 E k body) alts step xs enc)(s:St):ga9 (Qd3 wc2 k keep alts step xs s) (O4 E k (.loop keep c) s):=λr hr=>by
 obtain⟨t,h1,h2⟩:=w.go hr;rw[Qd2,hN];exact jc1 hb.le _ _ _ (Fc9 h1 h2)
end
end Go.Ev.L
namespace Go.Ev.Ab
open Go Go.Ev
@[reducible] noncomputable def o(d:Nat)(x:PO):PI:=⟨some d,none,[],x⟩
@[reducible] noncomputable def s(x:PO):PI:=⟨none,none,[],x⟩
@[reducible] noncomputable def ci(n:Int):Arg:=.c (.v (.int .i64 n))
@[reducible] noncomputable def cb(b:Bool):Arg:=.c (.v (.bool b))
@[reducible] noncomputable def vi(n:Int):c7:=.v (.int .i64 n)
@[reducible] noncomputable def rep{α:Type}(n:Nat)(x:α):List α:=List.replicate n x
@[reducible] noncomputable def ki(n:Nat):List CK:=List.replicate n (.int .i64)
@[reducible] noncomputable def mv(d n:Nat):PI:=o d (.mv (.t n))
@[reducible] noncomputable def mb(d:Nat)(x:Bool):PI:=o d (.mv (cb x))
@[reducible] noncomputable def fd(d k n:Nat):PI:=o d (.fld k (.t n))
@[reducible] noncomputable def bx(d n:Nat):PI:=o d (.box (.t n))
@[reducible] noncomputable def bc(p:BinOp)(d x:Nat)(y:Int):PI:=o d (.bin p (.t x) (ci y))
@[reducible] noncomputable def ln(d x:Nat):PI:=o d (.len (.t x))
@[reducible] noncomputable def ex(d x k:Nat):PI:=o d (.ext (.t x) k)
@[reducible] noncomputable def ix(d k x y:Nat):PI:=o d (.idxS k (.t x) (.t y))
@[reducible] noncomputable def so(l:List PI)(x:PC):PC:=.seq (.ops l) x
@[reducible] noncomputable def ts(l:List Nat):List Arg:=l.map .t
@[reducible] noncomputable def cl(f:Nat)(l:List Nat):PO:=.call f (ts l)
@[reducible] noncomputable def wt(a b n:Nat):Nat×Nat×Arg:=(a,b,.t n)
@[reducible] noncomputable def sT(k a b:Nat):PI:=s (.store k (.t a) (.t b))
@[reducible] noncomputable def pa(d c x:Nat):PI:=o d (.pick (.t c) (.t x) (cb false))
@[reducible] noncomputable def po(d c x:Nat):PI:=o d (.pick (.t c) (cb true) (.t x))
@[reducible] noncomputable def al(d k:Nat)(n:Int):PI:=o d (.alloc (rep k (vi n)))
@[reducible] noncomputable def ap(d et es n x y:Nat):PI:=o d (.append et es n (.t x) (.t y))
end Go.Ev.Ab
namespace Go.Ev.L
open Go Go.Ev
def Cps{π σ:Type}(u:∀{α:Type},(σ->α)->(Nat->α)->α->π->σ->α):Prop :=
 ∀{α β:Type} (F:α->β) (k:σ->α) (e:Nat->α) (z:α) (p:π) (s:σ),F (u k e z p s)=u (λx=>F (k x)) (λt=>F (e t)) (F z) p s
@[reducible] noncomputable def foL{π σ:Type}(en:π->σ->St)(xs:Xs π σ)(p:π)(s:σ):Stp σ->Option (i7×St):=wc3 (λs'=>some (.normal,en p s')) (λt=>xOf xs p s t 1) none
structure Lo(π σ:Type) where
 E:Env
 k:Nat
 F:PFn
 at':List Nat
 kp:List Nat
 rt:RT
 al:List (Al2 π σ)
 st:π->σ->Stp σ
 xs:Xs π σ
 en:π->σ->St
namespace Lo
variable{π σ:Type}(L:Lo π σ)
def lc:PC:=hg5 L.at' L.F.body
def ls:St->DT (i7×St):=Qd3 wc2 L.k L.kp L.al L.st L.xs
def lsM:St->DT (i7×St):=Qd3 oe0 L.k L.kp L.al L.st L.xs
def pr:(St->DT (i7×St))×PC:=(L.ls,.loop L.kp L.lc)
def prM:(St->DT (i7×St))×PC:=(L.lsM,.loopM L.kp L.lc)
def Ok:Prop:=∀s,ka6 L.k L.F.res (L.pr.1 s) (O4 L.E L.k L.pr.2 s)
def OkE:Prop:=∀s,ga9 (L.pr.1 s) (O4 L.E L.k L.pr.2 s)
def OkM:Prop:=∀s,ga9 (L.prM.1 s) (O4 L.E L.k L.prM.2 s)
def Rd(hd:St->DT St)(bd:St->DT (i7×St))(p:π)(s:σ)(a:St)(b:Stp σ):Prop:=(Wb5 hd bd a).run=foL L.en L.xs p s b
def H0:Prop:=∀p s,L.Rd (wc2 L.k L.kp) (Ie2 L.E L.k L.F.res (zd5 L.rt L.lc)) p s (L.en p s) (L.st p s)
def H1:Prop:=∀p s,L.Rd (wc2 L.k L.kp) (ed7 L.E L.k (qc7 L.rt L.lc)) p s (L.en p s) (L.st p s)
def H2:Prop:=∀p s,L.Rd (oe0 L.k L.kp) (ed7 L.E L.k (qc7 L.rt L.lc)) p s (L.en p s) (L.st p s)
def HA:Prop:=bb4 (λx=>∀a H,(⟨Te1 x.sh a,Te2 x.bl H⟩:St)=L.en (x.rd a H).1 (x.rd a H).2) L.al
variable{L}
theorem Rd.of{hd:St->DT St}{bd:St->DT (i7×St)}{p:π}{s:σ}{a:St}(u:∀{α:Type},(σ->α)->(Nat->α)->α->π->σ->α)
  (q:Cps @u) (H:(Wb5 hd bd a).run=u (λx=>foL L.en L.xs p s (.next x)) (λt=>foL L.en L.xs p s (.exit t)) (foL L.en L.xs p s .fail) p s):L.Rd hd bd p s a (u .next .exit .fail p s) :=
 H.trans (q (foL L.en L.xs p s) Stp.next Stp.exit Stp.fail p s).symm
theorem Rd.sel{hd:St->DT St}{bd:St->DT (i7×St)}{p:π}{s:σ}{a1 a0:St}{b1 b0:Stp σ}(c:Bool)(h1:L.Rd hd bd p s a1 b1)(h0:L.Rd hd bd p s a0 b0):L.Rd hd bd p s (sel c a1 a0) (sel c b1 b0):=by
 cases c with
 |true=>exact h1
 |false=>exact h0
theorem ok(l:List ((St->DT (i7×St))×PC))(hs:ec0 L.rt L.lc=l)(hl:bb4 (λx=>∀s,ka6 L.k L.F.res (x.1 s) (O4 L.E L.k x.2 s)) l)(hN:L.E.N=rounds+1)(ha:L.HA)(h:L.H0):L.Ok :=
 wc7.belowC (Je2 _ _ (by rw[hs];exact hl)) hN ⟨ha,h⟩
theorem okE(l:List ((St->DT (i7×St))×PC))(hs:ec0 L.rt L.lc=l)(hl:bb4 (λx=>∀s,ga9 (x.1 s) (O4 L.E L.k x.2 s)) l)(hN:L.E.N=rounds+1)(ha:L.HA)(h:L.H1):L.OkE :=
 wc7.belowML (ae5 _ _ (by rw[hs];exact hl)) hN ⟨ha,h⟩
theorem okM(l:List ((St->DT (i7×St))×PC))(hs:ec0 L.rt L.lc=l)(hl:bb4 (λx=>∀s,ga9 (x.1 s) (O4 L.E L.k x.2 s)) l)(hN:L.E.N=rounds+1)(ha:L.HA)(h:L.H2):L.OkM :=
 wc7.belowM (ae5 _ _ (by rw[hs];exact hl)) hN ⟨ha,h⟩
end Lo
theorem qg2{E:Env}{F:PFn}{args:List c7}{blks:List c8}{o:Option (c7×List c8)}(rt:RT)(l:List ((St->DT (i7×St))×PC))(hs:ec0 rt F.body=l)
  (hl:bb4 (λx=>∀s,ka6 (len blks) F.res (x.1 s) (O4 E (len blks) x.2 s)) l) (h:(Of3 E F (zd5 rt F.body) args blks).run=o) (r:c7×List c8) (hr:o=some r):(Vb8 E F args blks).run=some r :=
 Ae4 (Je2 rt _ (by rw[hs];exact hl)) r (h.trans hr)
theorem Kf4{E:Env}{F:PFn}{args:List c7}{blks:List c8}{o:Option (c7×List c8)}(rt:RT)(l:List ((St->DT (i7×St))×PC))(hs:ec0 rt F.body=l)
  (hl:bb4 (λx=>∀s,ga9 (x.1 s) (O4 E (len blks) x.2 s)) l) (h:(if8 E F (qc7 rt F.body) args blks).run=o) (r:c7×List c8) (hr:o=some r):(ib3 E F args blks).run=some r :=
 ne8 (ae5 rt _ (by rw[hs];exact hl)) r (h.trans hr)
theorem va5{A o:Option (c7×List c8)}(h:A=o)(r:c7×List c8)(hr:o=some r):A=some r:=h.trans hr
def Cpa{π ρ:Type}(u:∀{α:Type},(ρ->α)->π->α):Prop:=∀{α β:Type} (F:α->β) (k:ρ->α) (p:π),F (u k p)=u (λx=>F (k x)) p
theorem Lo.Rd.ofq{π σ:Type}{L:Lo π σ}{hd:St->DT St}{bd:St->DT (i7×St)}{p:π}{s:σ}{a:St}(u:∀{α:Type},(σ->α)->(Nat->α)->α->π->σ->α)
  (q:Cps @u:=by intro _ _ F _ _ _ _ _;(repeat' apply Ie3 (f:=F))<;>rfl) (H:(Wb5 hd bd a).run=u (λx=>foL L.en L.xs p s (.next x)) (λt=>foL L.en L.xs p s (.exit t)) (foL L.en L.xs p s .fail) p s:=by kernel_rfl):L.Rd hd bd p s a (u .next .exit .fail p s):=Lo.Rd.of @u q H
theorem Lo.okq {π σ : Type} {L : Lo π σ} (l : List ((St → DT (i7 × St)) × PC)) (hl : bb4 (fun x => ∀ s, ka6 L.k L.F.res (x.1 s) (O4 L.E L.k x.2 s)) l) (h : L.H0) (hs : ec0 L.rt L.lc = l := by kernel_rfl) (hN : L.E.N = rounds + 1 := by rfl)
  (ha:L.HA:=by repeat' (first | exact .nil | refine .cons (λa H=>by kernel_rfl) ?_)):L.Ok:=Lo.ok l hs hl hN ha h
theorem Lo.okMq {π σ : Type} {L : Lo π σ} (l : List ((St → DT (i7 × St)) × PC)) (hl : bb4 (fun x => ∀ s, ga9 (x.1 s) (O4 L.E L.k x.2 s)) l) (h : L.H2) (hs : ec0 L.rt L.lc = l := by kernel_rfl) (hN : L.E.N = rounds + 1 := by rfl)
  (ha:L.HA:=by repeat' (first | exact .nil | refine .cons (λa H=>by kernel_rfl) ?_)):L.OkM:=Lo.okM l hs hl hN ha h
theorem da5{E:Env}{F:PFn}{args:List c7}{blks:List c8}{o:Option (c7×List c8)}(rt:RT)(l:List ((St->DT (i7×St))×PC))
  (hl:bb4 (λx=>∀s,ka6 (len blks) F.res (x.1 s) (O4 E (len blks) x.2 s)) l) (h:(Of3 E F (zd5 rt F.body) args blks).run=o:=by kernel_rfl) (hs:ec0 rt F.body=l:=by kernel_rfl) (r:c7×List c8) (hr:o=some r):(Vb8 E F args blks).run=some r:=qg2 rt l hs hl h r hr
theorem Bd4{E:Env}{F:PFn}{args:List c7}{blks:List c8}{o:Option (c7×List c8)}(rt:RT)(l:List ((St->DT (i7×St))×PC))
  (hl:bb4 (λx=>∀s,ga9 (x.1 s) (O4 E (len blks) x.2 s)) l) (h:(if8 E F (qc7 rt F.body) args blks).run=o:=by kernel_rfl) (hs:ec0 rt F.body=l:=by kernel_rfl) (r:c7×List c8) (hr:o=some r):(ib3 E F args blks).run=some r:=Kf4 rt l hs hl h r hr
theorem mEq{π ρ β:Type}(u:∀{α:Type},(ρ->α)->π->α)(FO:ρ->β)(x:π){v:β}(h1:v=u FO x:=by kernel_rfl)(q:Cpa @u:=by intro _ _ F _ _;(repeat' apply Ie3 (f:=F))<;>rfl):v=FO (u (λr=>r) x):=h1.trans (q FO (λr=>r) x).symm
abbrev nlq:c7:=.v (.slice none 0 0)
abbrev bq(et es:Nat)(el:List (List c7)):c8:=⟨et,es,el,true,false,0⟩
abbrev Ca8{α:Type}(a n:Nat)(x:α)(y:DT α):DT α:=.ite (Nat.beq a n) (.ret x) y
theorem cb9{α ρ:Type}{P:Program}{G:Nat->List Value}{f:FuncId}{R0:Sum}{c0:Cod α}(hb:l8 P G f R0)(R:RR ρ){o:α->Option (c7×List c8)}(h:∀a0 r,o a0=some r->(R0 [c0.enc a0] []).run=some r:=by exact λ_=>va5 (by kernel_rfl)):l8 P G f (ba7 c0 λa0=>rdO R (o a0)):=dd5 hb R h
theorem jf2{α:Type}{P:Program}{G:Nat->List Value}{f:FuncId}{R:Sum}{c0:Cod α}{k:α->DT (c7×List c8)}(hb:l8 P G f R)(h:∀a0 r,(k a0).run=some r->(R [c0.enc a0] []).run=some r:=by exact λ_=>va5 (by kernel_rfl)):l8 P G f (ba7 c0 k):=Lb3 hb h
theorem xc8{α β ρ:Type}{P:Program}{G:Nat->List Value}{f:FuncId}{R0:Sum}{c0:Cod α}{c1:Cod β}(hb:l8 P G f R0)(R:RR ρ){o:α->β->Option (c7×List c8)}(h:∀a0 a1 r,o a0 a1=some r->(R0 [c0.enc a0,c1.enc a1] []).run=some r:=by exact λ_ _=>va5 (by kernel_rfl)):l8 P G f (va4 c0 c1 λa0 a1=>rdO R (o a0 a1)):=pd9 hb R h
theorem qc8{α β:Type}{P:Program}{G:Nat->List Value}{f:FuncId}{R:Sum}{c0:Cod α}{c1:Cod β}{k:α->β->DT (c7×List c8)}(hb:l8 P G f R)(h:∀a0 a1 r,(k a0 a1).run=some r->(R [c0.enc a0,c1.enc a1] []).run=some r:=by exact λ_ _=>va5 (by kernel_rfl)):l8 P G f (va4 c0 c1 k):=Zd3 hb h
theorem dg1{α β γ ρ:Type}{P:Program}{G:Nat->List Value}{f:FuncId}{R0:Sum}{c0:Cod α}{c1:Cod β}{c2:Cod γ}(hb:l8 P G f R0)(R:RR ρ){o:α->β->γ->Option (c7×List c8)}(h:∀a0 a1 a2 r,o a0 a1 a2=some r->(R0 [c0.enc a0,c1.enc a1,c2.enc a2] []).run=some r:=by exact λ_ _ _=>va5 (by kernel_rfl)):l8 P G f (Jd5 c0 c1 c2 λa0 a1 a2=>rdO R (o a0 a1 a2)):=Yf7 hb R h
def tbN:List (Nat×Sum):=[]
theorem Aa9{P:Program}{G:Nat->List Value}:C6 P G tbN:=trivial
abbrev upq(x:St)(l:List (Nat×c7)):St:=⟨l.foldl (λa q=>a.set q.1 q.2) x.a,x.H⟩
abbrev sIq:S2:=.s (.o (.int .i64))
abbrev sUq:S2:=.s (.o .unk)
abbrev sBq:S2:=.s (.o .bool)
abbrev sPq(n:Nat):S2:=.s (.o (.ptr n 0 0 0))
abbrev sTq(n:Nat):S2:=.s (.o (.tree n))
abbrev sLq{α:Type}(t:Ty α):S2:=.s (.c t.es (nL t))
abbrev kLq(n:Nat):List K:=List.replicate n (.o (.int .i64))
abbrev aIq(a:List c7)(n:Nat):Int:=toI (slT a n)
abbrev aBq(a:List c7)(n:Nat):Bool:=toB (slT a n)
abbrev aNq(a:List c7)(n:Nat):Nat:=toN (slT a n)
abbrev aGq(a:List c7)(n:Nat):Nat->List c7:=toG (slT a n)
abbrev aLq{α:Type}(t:Ty α)(a:List c7)(n:Nat):List α:=rL t (slT a n)
abbrev hIq(H:List c8)(m r n:Nat):Int:=toI (slT (rwT (elT H m) r) n)
abbrev cIq(a:List c7)(m n:Nat):Int:=toI (slT (cellsOf (slT a m)) n)
abbrev hLq{α:Type}(t:Ty α)(H:List c8)(m r n:Nat):List α:=rL t (slT (rwT (elT H m) r) n)
abbrev wLq{α:Type}(t:Ty α)(H:List c8)(m r k n:Nat):List α:=rL t (slT (cellsOf (slT (rwT (elT H m) r) k)) n)
abbrev dLq{α:Type}(t:Ty α)(a:List c7)(m n:Nat):List α:=rL t (slT (cellsOf (slT a m)) n)
end Go.Ev.L
namespace Go.Ev.Ce
structure V3 where
 x:Int
 y:Int
 z:Int
structure Pln where
 n:V3
 b:Int
structure Pt where
 px:Int
 py:Int
 pz:Int
 pw:Int
def C7(a b:V3):V3:=⟨a.y*b.z-a.z*b.y,a.z*b.x-a.x*b.z,a.x*b.y-a.y*b.x⟩
def dot(a b:V3):Int:=a.x*b.x+a.y*b.y+a.z*b.z
def mw(p q r:Pln):Int:=dot p.n (C7 q.n r.n)
end Go.Ev.Ce
namespace Go.Ev.Ce
open Go Go.Ev Go.Ev.L Go.Proofs
@[reducible] noncomputable def prog:Program:=Tryz.prog
def G:Nat->List Value:=λ_=>[]
def En(l:List (Nat×Sum)):Env:={ P:=prog,G,fns:=λ_=>none,call:=Of0 l,own:=λf j=>Bool.and (Eb8 f [107,109,111,118]) (Nat.beq j 0),N:=18446744073709551616 }
@[reducible] noncomputable def u:c7:=.v (.tuple #[])
theorem dg2{l:List (Nat×Sum)}(h:C6 prog G l):∀f,l8 (En l).P (En l).G f ((En l).call f):=Ie0 h
theorem bd{l:List (Nat×Sum)}{f:FuncId}{R:Env->Sum}(b:qd1 prog f R)(h:C6 prog G l):l8 prog G f (R (En l)):=b rfl (dg2 h)
def tV:Ty V3 where
 es:=3
 row x:=[i x.x,i x.y,i x.z]
 rd r:=⟨toI (hdA r),toI (hdA (tlA r)),toI (hdA (tlA (tlA r)))⟩
 ok r:=bb5 3 r
 cks:=List.replicate 3 (.int .i64)
 d:=⟨0,0,0⟩
 h0 _:=rfl
 h1 _:=rfl
 h2 _:=rfl
 h3 _ h:=.of (wb6 h)
 h4 _:=rfl
 h5 _:=rfl
def r1V:R1 V3:=r1A tV 3 λ_ h=>h
def tP:Ty Pln where
 es:=4
 row x:=[i x.n.x,i x.n.y,i x.n.z,i x.b]
 rd r:=⟨⟨toI (hdA r),toI (hdA (tlA r)),toI (hdA (tlA (tlA r)))⟩,toI (hdA (tlA (tlA (tlA r))))⟩
 ok r:=bb5 4 r
 cks:=List.replicate 4 (.int .i64)
 d:=⟨⟨0,0,0⟩,0⟩
 h0 _:=rfl
 h1 _:=rfl
 h2 _:=rfl
 h3 _ h:=.of (wb6 h)
 h4 _:=rfl
 h5 _:=rfl
abbrev PLq:=List Pln
abbrev LPq:=List PLq
abbrev tLq:=tLs tP
abbrev tMq:=tLs tLq
abbrev ROq:=Option (c7×List c8)
def r1P:R1 Pln:=r1A tP 4 λ_ h=>h
def tX:Ty Pt where
 es:=4
 row x:=[i x.px,i x.py,i x.pz,i x.pw]
 rd r:=⟨toI (hdA r),toI (hdA (tlA r)),toI (hdA (tlA (tlA r))),toI (hdA (tlA (tlA (tlA r))))⟩
 ok r:=bb5 4 r
 cks:=List.replicate 4 (.int .i64)
 d:=⟨0,0,0,0⟩
 h0 _:=rfl
 h1 _:=rfl
 h2 _:=rfl
 h3 _ h:=.of (wb6 h)
 h4 _:=rfl
 h5 _:=rfl
def r1X:R1 Pt:=r1A tX 4 λ_ h=>h
structure Tp where
 p:Pln
 q:Pln
 r:Pln
def tY:Ty Tp where
 es:=12
 row x:=[i x.p.n.x,i x.p.n.y,i x.p.n.z,i x.p.b,i x.q.n.x,i x.q.n.y,i x.q.n.z,i x.q.b,i x.r.n.x,i x.r.n.y,i x.r.n.z,i x.r.b]
 rd r:=⟨⟨⟨toI (hdA r),toI (hdA (tlA r)),toI (hdA (tlA (tlA r)))⟩,toI (hdA (tlA (tlA (tlA r))))⟩,⟨⟨toI (hdA (tlA (tlA (tlA (tlA r))))),toI (hdA (tlA (tlA (tlA (tlA (tlA r)))))),toI (hdA (tlA (tlA (tlA (tlA (tlA (tlA r)))))))⟩,toI (hdA (tlA (tlA (tlA (tlA (tlA (tlA (tlA r))))))))⟩,⟨⟨toI (hdA (tlA (tlA (tlA (tlA (tlA (tlA (tlA (tlA r))))))))),toI (hdA (tlA (tlA (tlA (tlA (tlA (tlA (tlA (tlA (tlA r)))))))))),toI (hdA (tlA (tlA (tlA (tlA (tlA (tlA (tlA (tlA (tlA (tlA r)))))))))))⟩,toI (hdA (tlA (tlA (tlA (tlA (tlA (tlA (tlA (tlA (tlA (tlA (tlA r))))))))))))⟩⟩
 ok r:=bb5 12 r
 cks:=List.replicate 12 (.int .i64)
 d:=⟨⟨⟨0,0,0⟩,0⟩,⟨⟨0,0,0⟩,0⟩,⟨⟨0,0,0⟩,0⟩⟩
 h0 _:=rfl
 h1 _:=rfl
 h2 _:=rfl
 h3 _ h:=.of (wb6 h)
 h4 _:=rfl
 h5 _:=rfl
structure Q2 where
 a:V3
 b:V3
set_option maxRecDepth 100000
def Pb5(x:Pln)(y:Pt):Int:=(W ((W ((W ((W (x.b*y.pw))-(W (x.n.x*y.px))))-(W (x.n.y*y.py))))-(W (x.n.z*y.pz))))
def Pc5:Sum:=va4 (Ea3 tP) (Ea3 tX) (λx y=>.ret ((one r1I).enc (Pb5 x y),[]))
theorem md5:l8 prog G 92 Pc5:=qc8 (bd b92 Aa9)
def Nb7(x:V3)(y:V3):V3:=(⟨W (x.x+y.x),W (x.y+y.y),W (x.z+y.z)⟩:V3)
def Rd8:Sum:=va4 (Ea3 tV) (Ea3 tV) (λx y=>.ret ((one r1V).enc (Nb7 x y),[]))
theorem Ce8:l8 prog G 139 Rd8:=qc8 (bd pg5 Aa9)
def Gc5(x:V3)(y:V3):Int:=(W ((W ((W (x.x*y.x))+(W (x.y*y.y))))+(W (x.z*y.z))))
def Rd9:Sum:=va4 (Ea3 tV) (Ea3 tV) (λx y=>.ret ((one r1I).enc (Gc5 x y),[]))
theorem Ce9:l8 prog G 136 Rd9:=qc8 (bd pg2 Aa9)
def sa7(x:V3)(y:V3):V3:=(⟨W ((W (x.y*y.z))-(W (x.z*y.y))),W ((W (x.z*y.x))-(W (x.x*y.z))),W ((W (x.x*y.y))-(W (x.y*y.x)))⟩:V3)
def md6:Sum:=va4 (Ea3 tV) (Ea3 tV) (λx y=>.ret ((one r1V).enc (sa7 x y),[]))
theorem ae6:l8 prog G 137 md6:=qc8 (bd pg3 Aa9)
def da6(x:V3)(y:Int):V3:=(⟨W (x.x*y),W (x.y*y),W (x.z*y)⟩:V3)
def Wc8:Sum:=va4 (Ea3 tV) cI (λx y=>.ret ((one r1V).enc (da6 x y),[]))
theorem Jd6:l8 prog G 138 Wc8:=qc8 (bd pg4 Aa9)
structure Ra6 where
structure ka8 where
 (is0 is1:Int)
def qc9(p:Ra6)(s:ka8):St:=⟨i s.is0::i s.is1::ra 10 [],[]⟩
def Ya0{α:Type}(k:ka8->α)(e:Nat->α)(z:α)(p:Ra6)(s:ka8):α:=(sl (s.is1 != 0) (sl (s.is1==0) z (k ⟨s.is1,Int.tmod s.is0 s.is1⟩)) (e 1))
def Ka6(p:Ra6)(s:ka8):Stp ka8:=Ya0 .next .exit .fail p s
def Pb6:Lo Ra6 ka8:=⟨En tbN,0,Kf0,[1,0,4,4],[0,1],.p,[⟨sIq::sIq::ru2 10 [],[],λa H=>(⟨⟩,⟨aIq a 0,aIq a 1⟩)⟩],Ka6,[(some 0,λp s=>upq (qc9 p s) [(5,i s.is1),(6,b (s.is1 != 0))])],qc9⟩
theorem qd2:Pb6.Ok:=Lo.okq [] .nil λp s=>(.ofq @Ya0)
def ob8(x:Int)(y:Int):ROq:=let t1:=(lp (Ka6 (⟨⟩:Ra6)) (⟨x,y⟩:ka8));(sl (Nat.beq t1.1 1) (some (i t1.2.is0,[])) none)
def da7(x:Int)(y:Int):Int:=aa3 (one r1I) (ob8 x y)
def da8(x:Int)(y:Int):Bool:=okO (one r1I) (ob8 x y)
def Wc9:Sum:=va4 cI cI (λx y=>.guard (da8 x y) (.ret ((one r1I).enc (da7 x y),[])))
theorem Jd7:l8 prog G 140 Wc9:=pd9 (bd pg6 Aa9) (one r1I) (o:=ob8) λx y=>da5 (.s .p (.s (.b (.u Pb6.ls)) .p)) [Pb6.pr] (.cons qd2 .nil)
def oe2:List (Nat×Sum):=[(137,md6),(136,Rd9),(138,Wc8),(139,Rd8),(140,Wc9)]
theorem ae7:C6 prog G oe2:=⟨ae6,Ce9,Jd6,Ce8,Jd7,trivial⟩
def Pb7(x:Pln)(y:Pln)(z:Pln):ROq:=let t1:=(sa7 y.n z.n);let t2:=(Gc5 x.n t1);let t3:=(da6 t1 x.b);let t4:=(sa7 z.n x.n);let t5:=(da6 t4 y.b);let t6:=(Nb7 t3 t5);let t7:=(sa7 x.n y.n);let t8:=(da6 t7 z.b);let t9:=(Nb7 t6 t8);let t10:=(da6 t9 (-1));let t11:=(da7 (if (W (0-t10.x))>t10.x then (W (0-t10.x)) else t10.x) (if (W (0-t10.y))>t10.y then (W (0-t10.y)) else t10.y));let t12:=(da7 (if (W (0-t10.z))>t10.z then (W (0-t10.z)) else t10.z) (W (0-t2)));let t13:=(da7 t11 t12);let t14:=(da7 (if (W (0-t9.x))>t9.x then (W (0-t9.x)) else t9.x) (if (W (0-t9.y))>t9.y then (W (0-t9.y)) else t9.y));let t15:=(da7 (if (W (0-t9.z))>t9.z then (W (0-t9.z)) else t9.z) t2);let t16:=(da7 t14 t15);(sl (t2==0) (some (.tup [.agg [i 0,i 0,i 0,i 0],b false],[])) (sl (decide (t2<0)) (sl (da8 (if (W (0-t10.x))>t10.x then (W (0-t10.x)) else t10.x) (if (W (0-t10.y))>t10.y then (W (0-t10.y)) else t10.y)) (sl (da8 (if (W (0-t10.z))>t10.z then (W (0-t10.z)) else t10.z) (W (0-t2))) (sl (da8 t11 t12) (sl (t13==0) none (sl (t13==0) none (sl (t13==0) none (sl (t13==0) none (some (.tup [.agg [i (W (Int.tdiv t10.x t13)),i (W (Int.tdiv t10.y t13)),i (W (Int.tdiv t10.z t13)),i (W (Int.tdiv (W (0-t2)) t13))],b true],[])))))) none) none) none) (sl (da8 (if (W (0-t9.x))>t9.x then (W (0-t9.x)) else t9.x) (if (W (0-t9.y))>t9.y then (W (0-t9.y)) else t9.y)) (sl (da8 (if (W (0-t9.z))>t9.z then (W (0-t9.z)) else t9.z) t2) (sl (da8 t14 t15) (sl (t16==0) none (sl (t16==0) none (sl (t16==0) none (sl (t16==0) none (some (.tup [.agg [i (W (Int.tdiv t9.x t16)),i (W (Int.tdiv t9.y t16)),i (W (Int.tdiv t9.z t16)),i (W (Int.tdiv t2 t16))],b true],[])))))) none) none) none)))
def Pb8(x:Pln)(y:Pln)(z:Pln):Pt×Bool:=aa3 (two r1X r1B) (Pb7 x y z)
def Pb9(x:Pln)(y:Pln)(z:Pln):Bool:=okO (two r1X r1B) (Pb7 x y z)
def Bd5:Sum:=Jd5 (Ea3 tP) (Ea3 tP) (Ea3 tP) (λx y z=>.guard (Pb9 x y z) (.ret ((two r1X r1B).enc (Pb8 x y z),[])))
theorem oe3:l8 prog G 115 Bd5:=dg1 (bd ng6 ae7) (two r1X r1B) (o:=Pb7)
def Sd0:List (Nat×Sum):=[(92,Pc5)]
theorem De0:C6 prog G Sd0:=⟨md5,trivial⟩
structure Qb0 where
 j6:PLq
 (G3 j5 G4 C3:Int)
structure Ia4 where
 is5:Int
def md7(p:Qb0)(s:Ia4):St:=⟨eL tP p.j6::.unk::.unk::.ptr 0 0 0 0::.unk::i s.is5::ra 13 [],[bq 0 4 [[i p.G3,i p.j5,i p.G4,i p.C3]]]⟩
def Lb4{α:Type}(k:Ia4->α)(e:Nat->α)(z:α)(p:Qb0)(s:Ia4):α:=let t1:=(Pb5 (gL tP p.j6 s.is5.toNat) (⟨p.G3,p.j5,p.G4,p.C3⟩:Pt));(sl (decide (s.is5<(↑(List.length p.j6):Int))) (sl (inB s.is5 (List.length p.j6)) (sl (decide (t1<0)) (e 1) (k ⟨W (s.is5+1)⟩)) z) (e 2))
def Bb1(p:Qb0)(s:Ia4):Stp Ia4:=Lb4 .next .exit .fail p s
def Pc6:Lo Qb0 Ia4:=⟨En Sd0,0,Jf4,[1,0,1,4,4],[0,3,5],.p,[⟨sLq tP::sUq::sUq::sPq 0::sUq::sIq::ru2 13 [],[⟨0,4,true,some [kLq 4]⟩],λa H=>(⟨aLq tP a 0,hIq H 0 0 0,hIq H 0 0 1,hIq H 0 0 2,hIq H 0 0 3⟩,⟨aIq a 5⟩)⟩],Bb1,[(none,λp s=>⟨[b false],[]⟩),(some 0,λp s=>upq (md7 p s) [(6,i s.is5),(7,eL tP p.j6),(8,i (↑(List.length p.j6):Int)),(9,b (decide (s.is5<(↑(List.length p.j6):Int))))])],md7⟩
theorem oe4:Pc6.Ok:=Lo.okq [] .nil λp s=>(.ofq @Lb4)
def xc9(x:PLq)(y:Pt):ROq:=let t1:=(lp (Bb1 (⟨rt tP x,y.px,y.py,y.pz,y.pw⟩:Qb0)) (⟨0⟩:Ia4));(sl ((cnE tP x)&&true) (sl (Nat.beq t1.1 1) (some (b false,[])) (sl (Nat.beq t1.1 2) (some (b true,[])) none)) none)
def ec5(x:PLq)(y:Pt):Bool:=aa3 (one r1B) (xc9 x y)
def ec6(x:PLq)(y:Pt):Bool:=okO (one r1B) (xc9 x y)
def oe5:Sum:=va4 (pa5 tP) (Ea3 tX) (λx y=>.guard (ec6 x y) (.ret ((one r1B).enc (ec5 x y),[])))
theorem Ve7:l8 prog G 116 oe5:=pd9 (bd ng7 De0) (one r1B) (o:=xc9) λx y=>da5 (.s .p (.s (.s .p (.b (.u Pc6.ls))) .p)) [Pc6.pr] (.cons oe4 .nil)
structure db0 where
 mb2:List Pt
 (G3 j5 G4 C3:Int)
def yc0(p:db0)(s:Ia4):St:=⟨eL tX p.mb2::.unk::.unk::.ptr 0 0 0 0::.unk::i s.is5::ra 12 [],[bq 0 4 [[i p.G3,i p.j5,i p.G4,i p.C3]]]⟩
def fb8{α:Type}(k:Ia4->α)(e:Nat->α)(z:α)(p:db0)(s:Ia4):α:=let y0:=(gL tX p.mb2 s.is5.toNat);(sl (decide (s.is5<(↑(List.length p.mb2):Int))) (sl (inB s.is5 (List.length p.mb2)) (sl ((y0.px==p.G3)&&((y0.py==p.j5)&&((y0.pz==p.G4)&&((y0.pw==p.C3)&&true)))) (e 1) (k ⟨W (s.is5+1)⟩)) z) (e 2))
def Ra7(p:db0)(s:Ia4):Stp Ia4:=fb8 .next .exit .fail p s
def Zb8:Lo db0 Ia4:=⟨En tbN,0,Jf5,[1,0,1,4,4],[0,3,5],.p,[⟨sLq tX::sUq::sUq::sPq 0::sUq::sIq::ru2 12 [],[⟨0,4,true,some [kLq 4]⟩],λa H=>(⟨aLq tX a 0,hIq H 0 0 0,hIq H 0 0 1,hIq H 0 0 2,hIq H 0 0 3⟩,⟨aIq a 5⟩)⟩],Ra7,[(none,λp s=>⟨[b true],[]⟩),(some 0,λp s=>upq (yc0 p s) [(6,i s.is5),(7,eL tX p.mb2),(8,i (↑(List.length p.mb2):Int)),(9,b (decide (s.is5<(↑(List.length p.mb2):Int))))])],yc0⟩
theorem Bd6:Zb8.Ok:=Lo.okq [] .nil λp s=>(.ofq @fb8)
def Bb2(x:List Pt)(y:Pt):ROq:=let t1:=(lp (Ra7 (⟨rt tX x,y.px,y.py,y.pz,y.pw⟩:db0)) (⟨0⟩:Ia4));(sl ((cnE tX x)&&true) (sl (Nat.beq t1.1 1) (some (b true,[])) (sl (Nat.beq t1.1 2) (some (b false,[])) none)) none)
def jb3(x:List Pt)(y:Pt):Bool:=aa3 (one r1B) (Bb2 x y)
def jb4(x:List Pt)(y:Pt):Bool:=okO (one r1B) (Bb2 x y)
def md8:Sum:=va4 (pa5 tX) (Ea3 tX) (λx y=>.guard (jb4 x y) (.ret ((one r1B).enc (jb3 x y),[])))
theorem ae8:l8 prog G 117 md8:=pd9 (bd ng8 Aa9) (one r1B) (o:=Bb2) λx y=>da5 (.s .p (.s (.s .p (.b (.u Zb8.ls))) .p)) [Zb8.pr] (.cons Bd6 .nil)
def ob9:List (Nat×Sum):=[(115,Bd5),(116,oe5),(117,md8)]
theorem qd3:C6 prog G ob9:=⟨oe3,Ve7,ae8,trivial⟩
structure aa4 where
 j6:PLq
 (is4 is5:Int)
structure F8 where
 ph:Nat
 is6:Int
 ns3:Nat
 eh0:List (List c7)
def Wb8(p:aa4)(s:F8):St:=⟨eL tP p.j6::.unk::.unk::nlq::i p.is4::i p.is5::i s.is6::ra 57 [],[]⟩
def Wb9(p:aa4)(s:F8):St:=⟨eL tP p.j6::.unk::.unk::.sl 0 0 s.ns3 0::i p.is4::i p.is5::i s.is6::ra 57 [],[bq 114 4 s.eh0]⟩
def ed8(p:aa4)(s:F8):St:=(sel (Nat.beq s.ph 1) (Wb9 p s) (Wb8 p s))
def ma0{α:Type}(k:F8->α)(e:Nat->α)(z:α)(p:aa4)(s:F8):α:=let y0:=(List.length p.j6);let t1:=(Pb8 (gL tP p.j6 p.is4.toNat) (gL tP p.j6 p.is5.toNat) (gL tP p.j6 s.is6.toNat));let t2:=(ec5 (rt tP p.j6) t1.1);let t3:=(jb3 [] t1.1);(sl (decide (s.is6<(↑y0:Int))) (sl (inB p.is4 y0) (sl (inB p.is5 y0) (sl (inB s.is6 y0) (sl (Pb9 (gL tP p.j6 p.is4.toNat) (gL tP p.j6 p.is5.toNat) (gL tP p.j6 s.is6.toNat)) (sl t1.2 (sl (okE tP p.j6) (sl (ec6 (rt tP p.j6) t1.1) (sl t2 (sl (jb4 [] t1.1) (sl (!t3) (k ⟨1,W (s.is6+1),1,[[i t1.1.px,i t1.1.py,i t1.1.pz,i t1.1.pw]]⟩) (k ⟨0,W (s.is6+1),0,[]⟩)) z) (k ⟨0,W (s.is6+1),0,[]⟩)) z) z) (k ⟨0,W (s.is6+1),0,[]⟩)) z) z) z) z) (e 1))
def ma1{α:Type}(k:F8->α)(e:Nat->α)(z:α)(p:aa4)(s:F8):α:=let y0:=(List.length p.j6);let t1:=(Pb8 (gL tP p.j6 p.is4.toNat) (gL tP p.j6 p.is5.toNat) (gL tP p.j6 s.is6.toNat));let t2:=(ec5 (rt tP p.j6) t1.1);let t3:=(jb3 (slR tX s.eh0 0 s.ns3) t1.1);(sl (decide (s.is6<(↑y0:Int))) (sl (inB p.is4 y0) (sl (inB p.is5 y0) (sl (inB s.is6 y0) (sl (Pb9 (gL tP p.j6 p.is4.toNat) (gL tP p.j6 p.is5.toNat) (gL tP p.j6 s.is6.toNat)) (sl t1.2 (sl (okE tP p.j6) (sl (ec6 (rt tP p.j6) t1.1) (sl t2 (sl (okS tX s.eh0 0 s.ns3) (sl (jb4 (slR tX s.eh0 0 s.ns3) t1.1) (sl (!t3) (sl (Nat.beq s.ns3 (len s.eh0)&&Nat.ble ((s.ns3+1)*32) room) (k ⟨1,W (s.is6+1),s.ns3+1,app s.eh0 [[i t1.1.px,i t1.1.py,i t1.1.pz,i t1.1.pw]]⟩) z) (k ⟨1,W (s.is6+1),s.ns3,s.eh0⟩)) z) z) (k ⟨1,W (s.is6+1),s.ns3,s.eh0⟩)) z) z) (k ⟨1,W (s.is6+1),s.ns3,s.eh0⟩)) z) z) z) z) (e 2))
def ba9(p:aa4)(s:F8):Stp F8:=(sel (Nat.beq s.ph 1) (ma1 .next .exit .fail p s) (ma0 .next .exit .fail p s))
def Fb5:Lo aa4 F8:=⟨En ob9,0,Af7,[1,1,0,1,4,4,1,0,4,1,4,4,1,0,4,1,4,4],[0,3,4,5,6],.p,[⟨sLq tP::sUq::sUq::.s (.o .nil)::sIq::sIq::sIq::ru2 57 [],[],λa H=>(⟨aLq tP a 0,aIq a 4,aIq a 5⟩,⟨0,aIq a 6,0,[]⟩)⟩,⟨sLq tP::sUq::sUq::.s (.o (.sl 0 0 (some 0) none))::sIq::sIq::sIq::ru2 57 [],[⟨114,4,true,none⟩],λa H=>(⟨aLq tP a 0,aIq a 4,aIq a 5⟩,⟨1,aIq a 6,slN (slT a 3),elT H 0⟩)⟩],ba9,[(some 4,λp s=>upq (Wb8 p s) [(25,i s.is6),(26,eL tP p.j6),(27,i (↑(List.length p.j6):Int)),(28,b (decide (s.is6<(↑(List.length p.j6):Int))))]),(some 4,λp s=>upq (Wb9 p s) [(25,i s.is6),(26,eL tP p.j6),(27,i (↑(List.length p.j6):Int)),(28,b (decide (s.is6<(↑(List.length p.j6):Int))))])],ed8⟩
theorem ed9:Fb5.Ok:=Lo.okq [] .nil λp s=>(.sel (Nat.beq s.ph 1) (.ofq @ma1) (.ofq @ma0))
structure aa5 where
 is4:Int
structure I4 where
 ph:Nat
 j6:PLq
 is5:Int
 ns3:Nat
 eh0:List (List c7)
def Xb0(p:aa5)(s:I4):St:=⟨eL tP s.j6::.unk::.unk::nlq::i p.is4::i s.is5::ra 58 [],[]⟩
def Xb1(p:aa5)(s:I4):St:=⟨eL tP s.j6::.unk::.unk::.sl 0 0 s.ns3 0::i p.is4::i s.is5::ra 58 [],[bq 114 4 s.eh0]⟩
def fd0(p:aa5)(s:I4):St:=(sel (Nat.beq s.ph 1) (Xb1 p s) (Xb0 p s))
def ma2{α:Type}(k:I4->α)(e:Nat->α)(z:α)(p:aa5)(s:I4):α:=let t1:=(lp (ba9 (⟨rt tP s.j6,p.is4,s.is5⟩:aa4)) (⟨0,W (s.is5+1),0,[]⟩:F8));(sl (decide (s.is5<(↑(List.length s.j6):Int))) (sl ((cnE tP s.j6)&&true) (sl (Nat.beq t1.1 1) (k ⟨0,rt tP s.j6,W (s.is5+1),0,[]⟩) (sl (Nat.beq t1.1 2) (k ⟨1,rt tP s.j6,W (s.is5+1),t1.2.ns3,t1.2.eh0⟩) z)) z) (e 1))
def ma3{α:Type}(k:I4->α)(e:Nat->α)(z:α)(p:aa5)(s:I4):α:=let t1:=(lp (ba9 (⟨rt tP s.j6,p.is4,s.is5⟩:aa4)) (⟨1,W (s.is5+1),s.ns3,s.eh0⟩:F8));(sl (decide (s.is5<(↑(List.length s.j6):Int))) (sl ((cnE tP s.j6)&&true) (sl (Nat.beq t1.1 1) (k ⟨0,rt tP s.j6,W (s.is5+1),0,[]⟩) (sl (Nat.beq t1.1 2) (k ⟨1,rt tP s.j6,W (s.is5+1),t1.2.ns3,t1.2.eh0⟩) z)) z) (e 2))
def V9(p:aa5)(s:I4):Stp I4:=(sel (Nat.beq s.ph 1) (ma3 .next .exit .fail p s) (ma2 .next .exit .fail p s))
def Fb6:Lo aa5 I4:=⟨En ob9,0,Af7,[1,1,0,1,4,4,1,0,4,1,4,4],[0,3,4,5],.s .p (.s (.b (.s .p (.b (.u Fb5.ls)))) .p),[⟨sLq tP::sUq::sUq::.s (.o .nil)::sIq::sIq::ru2 58 [],[],λa H=>(⟨aIq a 4⟩,⟨0,aLq tP a 0,aIq a 5,0,[]⟩)⟩,⟨sLq tP::sUq::sUq::.s (.o (.sl 0 0 (some 0) none))::sIq::sIq::ru2 58 [],[⟨114,4,true,none⟩],λa H=>(⟨aIq a 4⟩,⟨1,aLq tP a 0,aIq a 5,slN (slT a 3),elT H 0⟩)⟩],V9,[(some 2,λp s=>upq (Xb0 p s) [(17,i s.is5),(18,eL tP s.j6),(19,i (↑(List.length s.j6):Int)),(20,b (decide (s.is5<(↑(List.length s.j6):Int))))]),(some 2,λp s=>upq (Xb1 p s) [(17,i s.is5),(18,eL tP s.j6),(19,i (↑(List.length s.j6):Int)),(20,b (decide (s.is5<(↑(List.length s.j6):Int))))])],fd0⟩
theorem fd1:Fb6.Ok:=Lo.okq [Fb5.pr] (.cons ed9 .nil) λp s=>(.sel (Nat.beq s.ph 1) (.ofq @ma3) (.ofq @ma2))
structure L4 where
 ph:Nat
 j6:PLq
 is4:Int
 ns3:Nat
 eh0:List (List c7)
def Xb2(p:Ra6)(s:L4):St:=⟨eL tP s.j6::.unk::.unk::nlq::i s.is4::ra 59 [],[]⟩
def Xb3(p:Ra6)(s:L4):St:=⟨eL tP s.j6::.unk::.unk::.sl 0 0 s.ns3 0::i s.is4::ra 59 [],[bq 114 4 s.eh0]⟩
def fd2(p:Ra6)(s:L4):St:=(sel (Nat.beq s.ph 1) (Xb3 p s) (Xb2 p s))
def ma4{α:Type}(k:L4->α)(e:Nat->α)(z:α)(p:Ra6)(s:L4):α:=let t1:=(lp (V9 (⟨s.is4⟩:aa5)) (⟨0,rt tP s.j6,W (s.is4+1),0,[]⟩:I4));(sl (decide (s.is4<(↑(List.length s.j6):Int))) (sl ((cnE tP s.j6)&&true) (sl (Nat.beq t1.1 1) (k ⟨0,t1.2.j6,W (s.is4+1),0,[]⟩) (sl (Nat.beq t1.1 2) (k ⟨1,t1.2.j6,W (s.is4+1),t1.2.ns3,t1.2.eh0⟩) z)) z) (e 1))
def ma5{α:Type}(k:L4->α)(e:Nat->α)(z:α)(p:Ra6)(s:L4):α:=let t1:=(lp (V9 (⟨s.is4⟩:aa5)) (⟨1,rt tP s.j6,W (s.is4+1),s.ns3,s.eh0⟩:I4));(sl (decide (s.is4<(↑(List.length s.j6):Int))) (sl ((cnE tP s.j6)&&true) (sl (Nat.beq t1.1 1) (k ⟨0,t1.2.j6,W (s.is4+1),0,[]⟩) (sl (Nat.beq t1.1 2) (k ⟨1,t1.2.j6,W (s.is4+1),t1.2.ns3,t1.2.eh0⟩) z)) z) (e 2))
def ca0(p:Ra6)(s:L4):Stp L4:=(sel (Nat.beq s.ph 1) (ma5 .next .exit .fail p s) (ma4 .next .exit .fail p s))
def Fb7:Lo Ra6 L4:=⟨En ob9,0,Af7,[1,1,0,1,4,4],[0,3,4],.s .p (.s (.b (.s .p (.b (.u Fb6.ls)))) .p),[⟨sLq tP::sUq::sUq::.s (.o .nil)::sIq::ru2 59 [],[],λa H=>(⟨⟩,⟨0,aLq tP a 0,aIq a 4,0,[]⟩)⟩,⟨sLq tP::sUq::sUq::.s (.o (.sl 0 0 (some 0) none))::sIq::ru2 59 [],[⟨114,4,true,none⟩],λa H=>(⟨⟩,⟨1,aLq tP a 0,aIq a 4,slN (slT a 3),elT H 0⟩)⟩],ca0,[(some 0,λp s=>upq (Xb2 p s) [(9,i s.is4),(10,eL tP s.j6),(11,i (↑(List.length s.j6):Int)),(12,b (decide (s.is4<(↑(List.length s.j6):Int))))]),(some 0,λp s=>upq (Xb3 p s) [(9,i s.is4),(10,eL tP s.j6),(11,i (↑(List.length s.j6):Int)),(12,b (decide (s.is4<(↑(List.length s.j6):Int))))])],fd2⟩
theorem fd3:Fb7.Ok:=Lo.okq [Fb6.pr] (.cons fd1 .nil) λp s=>(.sel (Nat.beq s.ph 1) (.ofq @ma5) (.ofq @ma4))
def db1(x:PLq):ROq:=let t1:=(lp (ca0 (⟨⟩:Ra6)) (⟨0,rt tP x,0,0,[]⟩:L4));(sl ((cnE tP x)&&true) (sl (Nat.beq t1.1 1) (some (nlq,[])) (sl (Nat.beq t1.1 2) (some (.sl 0 0 t1.2.ns3 0,[bq 114 4 t1.2.eh0])) none)) none)
def zb7(x:PLq):List Pt:=aa3 (one (r1L tX)) (db1 x)
def zb8(x:PLq):Bool:=okO (one (r1L tX)) (db1 x)
def Lc1:Sum:=ba7 (pa5 tP) (λx=>.guard (zb8 x) (.ret ((one (r1L tX)).enc (zb7 x),[])))
theorem Bd7:l8 prog G 91 Lc1:=dd5 (bd b91 qd3) (one (r1L tX)) (o:=db1) λx=>da5 (.s .p (.s .p (.s (.s .p (.b (.u Fb7.ls))) .p))) [Fb7.pr] (.cons fd3 .nil)
@[reducible] noncomputable def xb1:Sum:=Vb8 (En tbN) Jf2
theorem Xb4:l8 prog G 113 xb1:=bd ng4 Aa9
def Ra8(x:Int):ROq:=(sl (decide (x<0)) (some (i (W (0-x)),[])) (some (i x,[])))
def Ea4(x:Int):Int:=aa3 (one r1I) (Ra8 x)
def Ea5(x:Int):Bool:=okO (one r1I) (Ra8 x)
def yc1:Sum:=ba7 cI (λx=>.guard (Ea5 x) (.ret ((one r1I).enc (Ea4 x),[])))
theorem qd4:l8 prog G 135 yc1:=cb9 (bd pg1 Aa9) (one r1I) (o:=Ra8)
def md9:List (Nat×Sum):=[(135,yc1),(113,xb1)]
theorem ae9:C6 prog G md9:=⟨qd4,Xb4,trivial⟩
structure ya9 where
 (is6 G3 j5 G4 oc9 Z4 pc0:Int)
structure da9 where
 (is5 is7:Int)
def Lc2(p:ya9)(s:da9):St:=⟨.unk::.ptr 0 0 0 0::.ptr 1 0 0 0::.unk::.ptr 2 0 0 0::i s.is5::i p.is6::i s.is7::ra 38 [],[bq 0 3 [[i p.G3,i p.j5,i p.G4]],bq 0 3 [[i 0,i 0,i 0]],bq 0 3 [[i p.oc9,i p.Z4,i p.pc0]]]⟩
def pb0{α:Type}(k:da9->α)(e:Nat->α)(z:α)(p:ya9)(s:da9):α:=(sl (decide (s.is7>0)) (sl (s.is7==0) z (k ⟨s.is7,Int.tmod s.is5 s.is7⟩)) (e 1))
def sa8(p:ya9)(s:da9):Stp da9:=pb0 .next .exit .fail p s
def kc0:Lo ya9 da9:=⟨En md9,0,Jf3,[1,1,1,0,1,4,4,1,0,4,1,1,4,4],[1,2,4,5,6,7],.p,[⟨sUq::sPq 0::sPq 1::sUq::sPq 2::sIq::sIq::sIq::ru2 38 [],[⟨0,3,true,some [kLq 3]⟩,⟨0,3,true,some [[.o (.lit .i64 0),.o (.lit .i64 0),.o (.lit .i64 0)]]⟩,⟨0,3,true,some [kLq 3]⟩],λa H=>(⟨aIq a 6,hIq H 0 0 0,hIq H 0 0 1,hIq H 0 0 2,hIq H 2 0 0,hIq H 2 0 1,hIq H 2 0 2⟩,⟨aIq a 5,aIq a 7⟩)⟩],sa8,[(some 2,λp s=>upq (Lc2 p s) [(23,i s.is7),(24,b (decide (s.is7>0)))])],Lc2⟩
theorem Jd8:kc0.Ok:=Lo.okq [] .nil λp s=>(.ofq @pb0)
def Qb1(x:V3):ROq:=let y0:=(.tup [.agg [i 0,i 0,i 0],i 0],[]);let t1:=(Ea4 x.x);let t2:=(lp (sa8 (⟨0,x.x,x.y,x.z,x.x,x.y,x.z⟩:ya9)) (⟨0,t1⟩:da9));let t3:=(Ea4 x.y);let t4:=(lp (sa8 (⟨1,x.x,x.y,x.z,x.x,x.y,x.z⟩:ya9)) (⟨t2.2.is5,t3⟩:da9));let t5:=(Ea4 x.z);let t6:=(lp (sa8 (⟨2,x.x,x.y,x.z,x.x,x.y,x.z⟩:ya9)) (⟨t4.2.is5,t5⟩:da9));(sl (x.x==(-9223372036854775808)) (some y0) (sl (Ea5 x.x) (sl (Nat.beq t2.1 1) (sl (x.y==(-9223372036854775808)) (some y0) (sl (Ea5 x.y) (sl (Nat.beq t4.1 1) (sl (x.z==(-9223372036854775808)) (some y0) (sl (Ea5 x.z) (sl (Nat.beq t6.1 1) (sl (t6.2.is5==0) (some y0) (sl (t6.2.is5==0) none (sl (t6.2.is5==0) none (sl (t6.2.is5==0) none (some (.tup [.agg [i (W (Int.tdiv x.x t6.2.is5)),i (W (Int.tdiv x.y t6.2.is5)),i (W (Int.tdiv x.z t6.2.is5))],i t6.2.is5],[])))))) none) none)) none) none)) none) none))
def kc4(x:V3):V3×Int:=aa3 (two r1V r1I) (Qb1 x)
def kc5(x:V3):Bool:=okO (two r1V r1I) (Qb1 x)
def Bd8:Sum:=ba7 (Ea3 tV) (λx=>.guard (kc5 x) (.ret ((two r1V r1I).enc (kc4 x),[])))
theorem oe6:l8 prog G 114 Bd8:=dd5 (bd ng5 ae9) (two r1V r1I) (o:=Qb1) λx=>da5 (.s .p (.s .p (.s .p (.s (.s .p (.b (.l (.s .p (.s (.b (.s .p (.s .p (.b (.u kc0.ls))))) .p))))) .p)))) [kc0.pr] (.cons Jd8 .nil)
def be0:List (Nat×Sum):=[(114,Bd8),(113,xb1)]
theorem Jd9:C6 prog G be0:=⟨oe6,Xb4,trivial⟩
def Bb3(x:Pln):ROq:=let t1:=(kc4 x.n);(sl (decide (x.n.x<(-4608))) (some (b false,[])) (sl (decide (x.n.x>4608)) (some (b false,[])) (sl (decide (x.n.y<(-4608))) (some (b false,[])) (sl (decide (x.n.y>4608)) (some (b false,[])) (sl (decide (x.n.z<(-4608))) (some (b false,[])) (sl (decide (x.n.z>4608)) (some (b false,[])) (sl (kc5 x.n) (sl (t1.2==1) (sl (decide (x.b>=(-2097152))) (some (b (decide (x.b<=2097152)),[])) (some (b false,[]))) (some (b false,[]))) none)))))))
def Xb5(x:Pln):Bool:=aa3 (one r1B) (Bb3 x)
def Xb6(x:Pln):Bool:=okO (one r1B) (Bb3 x)
def nd0:Sum:=ba7 (Ea3 tP) (λx=>.guard (Xb6 x) (.ret ((one r1B).enc (Xb5 x),[])))
theorem be1:l8 prog G 90 nd0:=cb9 (bd b90 Jd9) (one r1B) (o:=Bb3)
def Xc0:List (Nat×Sum):=[(90,nd0)]
theorem Kd0:C6 prog G Xc0:=⟨be1,trivial⟩
structure db2 where
 j6:PLq
structure ja7 where
 is3:Int
def yc2(p:db2)(s:ja7):St:=⟨eL tP p.j6::.unk::.unk::i s.is3::ra 15 [],[]⟩
def fb9{α:Type}(k:ja7->α)(e:Nat->α)(z:α)(p:db2)(s:ja7):α:=let t1:=(Xb5 (gL tP p.j6 s.is3.toNat));(sl (decide (s.is3<(↑(List.length p.j6):Int))) (sl (inB s.is3 (List.length p.j6)) (sl (Xb6 (gL tP p.j6 s.is3.toNat)) (sl (!t1) (e 1) (k ⟨W (s.is3+1)⟩)) z) z) (e 2))
def Ra9(p:db2)(s:ja7):Stp ja7:=fb9 .next .exit .fail p s
def Zb9:Lo db2 ja7:=⟨En Xc0,0,ag7,[1,1,0,1,4,4],[0,3],.p,[⟨sLq tP::sUq::sUq::sIq::ru2 15 [],[],λa H=>(⟨aLq tP a 0⟩,⟨aIq a 3⟩)⟩],Ra9,[(none,λp s=>⟨[i 12],[]⟩),(some 0,λp s=>upq (yc2 p s) [(7,i s.is3),(8,eL tP p.j6),(9,i (↑(List.length p.j6):Int)),(10,b (decide (s.is3<(↑(List.length p.j6):Int))))])],yc2⟩
theorem Bd9:Zb9.Ok:=Lo.okq [] .nil λp s=>(.ofq @fb9)
def Bb4(x:PLq):ROq:=let t1:=(lp (Ra9 (⟨rt tP x⟩:db2)) (⟨0⟩:ja7));(sl (decide ((↑(List.length x):Int)>48)) (some (i 2,[])) (sl ((cnE tP x)&&true) (sl (Nat.beq t1.1 1) (some (i 12,[])) (sl (Nat.beq t1.1 2) (some (i 0,[])) none)) none))
def Xb7(x:PLq):Int:=aa3 (one r1I) (Bb4 x)
def Xb8(x:PLq):Bool:=okO (one r1I) (Bb4 x)
def nd1:Sum:=ba7 (pa5 tP) (λx=>.guard (Xb8 x) (.ret ((one r1I).enc (Xb7 x),[])))
theorem be2:l8 prog G 70 nd1:=dd5 (bd b70 Kd0) (one r1I) (o:=Bb4) λx=>da5 (.s .p (.s .p (.s (.s .p (.b (.u Zb9.ls))) .p))) [Zb9.pr] (.cons Bd9 .nil)
def Gc6(x:V3)(y:V3):ROq:=(some (.sl 0 0 6 0,[bq 66 4 [[i 1,i 0,i 0,i y.x],[i (-1),i 0,i 0,i (W (0-x.x))],[i 0,i 1,i 0,i y.y],[i 0,i (-1),i 0,i (W (0-x.y))],[i 0,i 0,i 1,i y.z],[i 0,i 0,i (-1),i (W (0-x.z))]]]))
def Gc7(x:V3)(y:V3):PLq:=aa3 (one (r1L tP)) (Gc6 x y)
def Gc8(x:V3)(y:V3):Bool:=okO (one (r1L tP)) (Gc6 x y)
def Sd1:Sum:=va4 (Ea3 tV) (Ea3 tV) (λx y=>.guard (Gc8 x y) (.ret ((one (r1L tP)).enc (Gc7 x y),[])))
theorem De1:l8 prog G 36 Sd1:=xc8 (bd b36 Aa9) (one (r1L tP)) (o:=Gc6)
def De2:List (Nat×Sum):=[(36,Sd1)]
theorem oe7:C6 prog G De2:=⟨De1,trivial⟩
def ec7(x:PLq):ROq:=let y0:=(List.range (List.length x));let t1:=(Gc7 (⟨-24,-24,-24⟩:V3) (⟨24,24,24⟩:V3));let y1:=(List.range (List.length t1));(sl (Nat.beq 0 0&&Nat.ble ((0+(len (B3 (λk=>(tP).row (gL tP x k)) y0)))*32) room) (sl (Gc8 (⟨-24,-24,-24⟩:V3) (⟨24,24,24⟩:V3)) (sl (Nat.beq (0+(len (B3 (λk=>(tP).row (gL tP x k)) y0))) (len (app [] (B3 (λk=>(tP).row (gL tP x k)) y0)))&&Nat.ble (((0+(len (B3 (λk=>(tP).row (gL tP x k)) y0)))+(len (B3 (λk=>(tP).row (gL tP t1 k)) y1)))*32) room) (some ((.sl 0 0 ((0+(len (B3 (λk=>(tP).row (gL tP x k)) y0)))+(len (B3 (λk=>(tP).row (gL tP t1 k)) y1))) 0),[(bq 66 4 (app (app [] (B3 (λk=>(tP).row (gL tP x k)) y0)) (B3 (λk=>(tP).row (gL tP t1 k)) y1)))])) none) none) none)
def Gc9(x:PLq):PLq:=aa3 (one (r1L tP)) (ec7 x)
def Hc0(x:PLq):Bool:=okO (one (r1L tP)) (ec7 x)
def Sd2:Sum:=ba7 (pa5 tP) (λx=>.guard (Hc0 x) (.ret ((one (r1L tP)).enc (Gc9 x),[])))
theorem De3:l8 prog G 72 Sd2:=cb9 (bd b72 oe7) (one (r1L tP)) (o:=ec7)
def yc3:List (Nat×Sum):=[(91,Lc1),(92,Pc5)]
theorem be3:C6 prog G yc3:=⟨Bd7,md5,trivial⟩
structure pb1 where
 j6:PLq
 Yb8:List Pt
 is4:Int
structure za0 where
 bs5:Bool
 is6:Int
def Lc3(p:pb1)(s:za0):St:=⟨eL tP p.j6::.unk::.unk::eL tX p.Yb8::i p.is4::b s.bs5::i s.is6::ra 29 [],[]⟩
def pb2{α:Type}(k:za0->α)(e:Nat->α)(z:α)(p:pb1)(s:za0):α:=let t1:=(Pb5 (gL tP p.j6 p.is4.toNat) (gL tX p.Yb8 s.is6.toNat));(sl (decide (s.is6<(↑(List.length p.Yb8):Int))) (sl s.bs5 (k ⟨true,W (s.is6+1)⟩) (sl (inB p.is4 (List.length p.j6)) (sl (inB s.is6 (List.length p.Yb8)) (k ⟨decide (t1>0),W (s.is6+1)⟩) z) z)) (e 1))
def Na3(p:pb1)(s:za0):Stp za0:=pb2 .next .exit .fail p s
def kc6:Lo pb1 za0:=⟨En yc3,0,Rf0,[1,1,0,1,4,4,1,0,4,1,0,1,4,4],[0,3,4,5,6],.p,[⟨sLq tP::sUq::sUq::sLq tX::sIq::sBq::sIq::ru2 29 [],[],λa H=>(⟨aLq tP a 0,aLq tX a 3,aIq a 4⟩,⟨aBq a 5,aIq a 6⟩)⟩],Na3,[(some 2,λp s=>upq (Lc3 p s) [(15,i s.is6),(16,eL tX p.Yb8),(17,i (↑(List.length p.Yb8):Int)),(18,b (decide (s.is6<(↑(List.length p.Yb8):Int))))])],Lc3⟩
theorem Kd1:kc6.Ok:=Lo.okq [] .nil λp s=>(.ofq @pb2)
def Lc4(p:Ra6)(s:pb1):St:=⟨eL tP s.j6::.unk::.unk::eL tX s.Yb8::i s.is4::ra 31 [],[]⟩
def pb4{α:Type}(k:pb1->α)(e:Nat->α)(z:α)(p:Ra6)(s:pb1):α:=let t1:=(lp (Na3 (⟨rt tP s.j6,rt tX s.Yb8,s.is4⟩:pb1)) (⟨false,0⟩:za0));(sl (decide (s.is4<(↑(List.length s.j6):Int))) (sl ((cnE tP s.j6)&&((cnE tX s.Yb8)&&true)) (sl (Nat.beq t1.1 1) (sl (!t1.2.bs5) (e 1) (k ⟨rt tP s.j6,rt tX s.Yb8,W (s.is4+1)⟩)) z) z) (e 2))
def db3(p:Ra6)(s:pb1):Stp pb1:=pb4 .next .exit .fail p s
def kc7:Lo Ra6 pb1:=⟨En yc3,0,Rf0,[1,1,0,1,4,4],[0,3,4],.s .p (.s (.b (.s .p (.s (.s .p (.b (.u kc6.ls))) .p))) .p),[⟨sLq tP::sUq::sUq::sLq tX::sIq::ru2 31 [],[],λa H=>(⟨⟩,⟨aLq tP a 0,aLq tX a 3,aIq a 4⟩)⟩],db3,[(none,λp s=>⟨[b false],[]⟩),(some 0,λp s=>upq (Lc4 p s) [(9,i s.is4),(10,eL tP s.j6),(11,i (↑(List.length s.j6):Int)),(12,b (decide (s.is4<(↑(List.length s.j6):Int))))])],Lc4⟩
theorem Kd2:kc7.Ok:=Lo.okq [kc6.pr] (.cons Kd1 .nil) λp s=>(.ofq @pb4)
def Qb2(x:PLq):ROq:=let t1:=(zb7 (rt tP x));let t2:=(lp (db3 (⟨⟩:Ra6)) (⟨rt tP x,rt tX t1,0⟩:pb1));(sl (okE tP x) (sl (zb8 (rt tP x)) (sl ((cnE tP x)&&((cnE tX t1)&&true)) (sl (Nat.beq t2.1 1) (some (b false,[])) (sl (Nat.beq t2.1 2) (some (b true,[])) none)) none) none) none)
def kc8(x:PLq):Bool:=aa3 (one r1B) (Qb2 x)
def kc9(x:PLq):Bool:=okO (one r1B) (Qb2 x)
def Cd0:Sum:=ba7 (pa5 tP) (λx=>.guard (kc9 x) (.ret ((one r1B).enc (kc8 x),[])))
theorem oe8:l8 prog G 71 Cd0:=dd5 (bd b71 be3) (one r1B) (o:=Qb2) λx=>da5 (.s .p (.s .p (.s (.s .p (.b (.u kc7.ls))) .p))) [kc7.pr] (.cons Kd2 .nil)
def oe9:List (Nat×Sum):=[(70,nd1),(72,Sd2),(71,Cd0)]
theorem be4:C6 prog G oe9:=⟨be2,De3,oe8,trivial⟩
def Qb3(x:PLq):ROq:=let t1:=(Xb7 (rt tP x));let t2:=(Gc9 (rt tP x));let t3:=(kc8 (rt tP t2));(sl (okE tP x) (sl (Xb8 (rt tP x)) (sl (t1==0) (sl (okE tP x) (sl (Hc0 (rt tP x)) (sl (okE tP t2) (sl (kc9 (rt tP t2)) (some (b t3,[])) none) none) none) none) (some (b false,[]))) none) none)
def Qb4(x:PLq):Bool:=aa3 (one r1B) (Qb3 x)
def Qb5(x:PLq):Bool:=okO (one r1B) (Qb3 x)
def Cd1:Sum:=ba7 (pa5 tP) (λx=>.guard (Qb5 x) (.ret ((one r1B).enc (Qb4 x),[])))
theorem pe0:l8 prog G 40 Cd1:=cb9 (bd b40 be4) (one r1B) (o:=Qb3)
def ec8(x:Int)(y:Int):ROq:=(sl (decide (y<1)) (some (i 0,[])) (sl (y==0) none (sl (y==0) none (some (i (Int.tmod (W ((Int.tmod x y)+y)) y),[])))))
def Hc1(x:Int)(y:Int):Int:=aa3 (one r1I) (ec8 x y)
def Hc2(x:Int)(y:Int):Bool:=okO (one r1I) (ec8 x y)
def Sd3:Sum:=va4 cI cI (λx y=>.guard (Hc2 x y) (.ret ((one r1I).enc (Hc1 x y),[])))
theorem De4:l8 prog G 34 Sd3:=xc8 (bd b34 Aa9) (one r1I) (o:=ec8)
def jb5(x:V3)(y:V3):Int:=(W ((W ((W (x.x*y.x))+(W (x.y*y.y))))+(W (x.z*y.z))))
def yc4:Sum:=va4 (Ea3 tV) (Ea3 tV) (λx y=>.ret ((one r1I).enc (jb5 x y),[]))
theorem Xc1:l8 prog G 105 yc4:=qc8 (bd mg8 Aa9)
def Ha1(x:V3)(y:V3):V3:=(⟨W (x.x+y.x),W (x.y+y.y),W (x.z+y.z)⟩:V3)
def nd2:Sum:=va4 (Ea3 tV) (Ea3 tV) (λx y=>.ret ((one r1V).enc (Ha1 x y),[]))
theorem be5:l8 prog G 126 nd2:=qc8 (bd og3 Aa9)
def za1(x:V3)(y:Int):V3:=(⟨W (x.x*y),W (x.y*y),W (x.z*y)⟩:V3)
def Xc2:Sum:=va4 (Ea3 tV) cI (λx y=>.ret ((one r1V).enc (za1 x y),[]))
theorem Kd3:l8 prog G 127 Xc2:=qc8 (bd og4 Aa9)
def da3(x:V3)(y:V3):V3:=(⟨W ((W (x.y*y.z))-(W (x.z*y.y))),W ((W (x.z*y.x))-(W (x.x*y.z))),W ((W (x.x*y.y))-(W (x.y*y.x)))⟩:V3)
def Lc5:Sum:=va4 (Ea3 tV) (Ea3 tV) (λx y=>.ret ((one r1V).enc (da3 x y),[]))
theorem Cd2:l8 prog G 125 Lc5:=qc8 (bd og2 Aa9)
def be6:List (Nat×Sum):=[(105,yc4)]
theorem Kd4:C6 prog G be6:=⟨Xc1,trivial⟩
def Ha2(x:Pln)(y:Pt):Int:=let t1:=(jb5 x.n (⟨y.px,y.py,y.pz⟩:V3));(W ((W (x.b*y.pw))-t1))
def Xb9:Sum:=va4 (Ea3 tP) (Ea3 tX) (λx y=>.ret ((one r1I).enc (Ha2 x y),[]))
theorem lc0:l8 prog G 85 Xb9:=qc8 (bd b85 Kd4)
structure Ya1 where
 vb8:List Int
 (is7 is8:Int)
structure za2 where
 (is3 is5:Int)
def Lc6(p:Ya1)(s:za2):St:=⟨ra 3 (i s.is3::.unk::i s.is5::eL tI p.vb8::i p.is7::i p.is8::ra 14 []),[]⟩
def pb5{α:Type}(k:za2->α)(e:Nat->α)(z:α)(p:Ya1)(s:za2):α:=(sl (s.is5 != 0) (sl (s.is5==0) z (k ⟨s.is5,Int.tmod s.is3 s.is5⟩)) (e 1))
def db4(p:Ya1)(s:za2):Stp za2:=pb5 .next .exit .fail p s
def lc1:Lo Ya1 za2:=⟨En tbN,0,jf1,[1,1,0,1,4,4,1,1,0,4,1,4,4],[3,5,6,7,8],.p,[⟨ru2 3 (sIq::sUq::sIq::sLq tI::sIq::sIq::ru2 14 []),[],λa H=>(⟨aLq tI a 6,aIq a 7,aIq a 8⟩,⟨aIq a 3,aIq a 5⟩)⟩],db4,[(some 2,λp s=>upq (Lc6 p s) [(12,i s.is5),(13,b (s.is5 != 0))])],Lc6⟩
theorem Kd5:lc1.Ok:=Lo.okq [] .nil λp s=>(.ofq @pb5)
structure pb6 where
 is7:Int
structure za3 where
 is3:Int
 vb8:List Int
 is8:Int
def Lc7(p:pb6)(s:za3):St:=⟨ra 3 (i s.is3::.unk::.unk::eL tI s.vb8::i p.is7::i s.is8::ra 14 []),[]⟩
def pb7{α:Type}(k:za3->α)(e:Nat->α)(z:α)(p:pb6)(s:za3):α:=let t1:=(lp (db4 (⟨rt tI s.vb8,p.is7,s.is8⟩:Ya1)) (⟨s.is3,gL tI s.vb8 s.is8.toNat⟩:za2));(sl (decide (s.is8<p.is7)) (sl (inB s.is8 (List.length s.vb8)) (sl ((cnE tI s.vb8)&&true) (sl (Nat.beq t1.1 1) (k ⟨t1.2.is3,rt tI s.vb8,W (s.is8+1)⟩) z) z) z) (e 1))
def Na4(p:pb6)(s:za3):Stp za3:=pb7 .next .exit .fail p s
def lc2:Lo pb6 za3:=⟨En tbN,0,jf1,[1,1,0,1,4,4],[3,6,7,8],.s .p (.s .p (.s (.b (.s .p (.b (.u lc1.ls)))) .p)),[⟨ru2 3 (sIq::sUq::sUq::sLq tI::sIq::sIq::ru2 14 []),[],λa H=>(⟨aIq a 7⟩,⟨aIq a 3,aLq tI a 6,aIq a 8⟩)⟩],Na4,[(some 0,λp s=>upq (Lc7 p s) [(9,b (decide (s.is8<p.is7)))])],Lc7⟩
theorem Kd6:lc2.Ok:=Lo.okq [lc1.pr] (.cons Kd5 .nil) λp s=>(.ofq @pb7)
def Qb6(x:List Int):ROq:=let t1:=(lp (Na4 (⟨(↑(List.length x):Int)⟩:pb6)) (⟨0,rt tI x,0⟩:za3));(sl ((cnE tI x)&&true) (sl (Nat.beq t1.1 1) (some ((i (if (W (0-t1.2.is3))>t1.2.is3 then (W (0-t1.2.is3)) else t1.2.is3)),[])) none) none)
def lc3(x:List Int):Int:=aa3 (one r1I) (Qb6 x)
def lc4(x:List Int):Bool:=okO (one r1I) (Qb6 x)
def Cd3:Sum:=ba7 (pa5 tI) (λx=>.guard (lc4 x) (.ret ((one r1I).enc (lc3 x),[])))
theorem pe1:l8 prog G 128 Cd3:=dd5 (bd og5 Aa9) (one r1I) (o:=Qb6) λx=>da5 (.s .p (.s .p (.s (.s .p (.b (.u lc2.ls))) .p))) [lc2.pr] (.cons Kd6 .nil)
def be7:List (Nat×Sum):=[(125,Lc5),(105,yc4),(127,Xc2),(126,nd2),(128,Cd3)]
theorem Kd7:C6 prog G be7:=⟨Cd2,Xc1,Kd3,be5,pe1,trivial⟩
def Bb5(x:Tp):ROq:=let t1:=(da3 x.q.n x.r.n);let t3:=(za1 t1 x.p.b);let t4:=(Ha1 (⟨0,0,0⟩:V3) t3);let t5:=(da3 x.r.n x.p.n);let t7:=(za1 t5 x.q.b);let t8:=(Ha1 t4 t7);let t9:=(da3 x.p.n x.q.n);let t10:=(jb5 x.r.n t9);let t11:=(za1 t9 x.r.b);let t12:=(Ha1 t8 t11);let t13:=(lc3 [t12.x,t12.y,t12.z,t10]);let y0:=((W (0-t13))==0);(sl (t10==0) (some (.tup [.agg [i 0,i 0,i 0,i 0],b false],[])) (sl (lc4 [t12.x,t12.y,t12.z,t10]) (sl (decide (t10<0)) (sl y0 none (sl y0 none (sl y0 none (sl y0 none (some (.tup [.agg [i (W (Int.tdiv t12.x (W (0-t13)))),i (W (Int.tdiv t12.y (W (0-t13)))),i (W (Int.tdiv t12.z (W (0-t13)))),i (W (Int.tdiv t10 (W (0-t13))))],b true],[])))))) (sl (t13==0) none (sl (t13==0) none (sl (t13==0) none (sl (t13==0) none (some (.tup [.agg [i (W (Int.tdiv t12.x t13)),i (W (Int.tdiv t12.y t13)),i (W (Int.tdiv t12.z t13)),i (W (Int.tdiv t10 t13))],b true],[]))))))) none))
def Bb6(x:Tp):Pt×Bool:=aa3 (two r1X r1B) (Bb5 x)
def Bb7(x:Tp):Bool:=okO (two r1X r1B) (Bb5 x)
def nd3:Sum:=ba7 (Ea3 tY) (λx=>.guard (Bb7 x) (.ret ((two r1X r1B).enc (Bb6 x),[])))
theorem be8:l8 prog G 101 nd3:=cb9 (bd mg4 Kd7) (two r1X r1B) (o:=Bb5)
structure Fb8 where
 (Dc6 Dc7 Dc8 Dc9 G3 j5 G4 C3:Int)
def fd4:List (Nat×Sum):=[(85,Xb9)]
theorem Xc3:C6 prog G fd4:=⟨lc0,trivial⟩
structure gb0 where
 bs0:Bool
def rc0{α:Type}(kk:gb0->α)(x:Fb8):α:=let t1:=(Ha2 (⟨(⟨x.Dc6,x.Dc7,x.Dc8⟩:V3),x.Dc9⟩:Pln) (⟨x.G3,x.j5,x.G4,x.C3⟩:Pt));(kk ⟨decide (t1<0)⟩)
def Fb9(x:Fb8):gb0:=rc0 (λr=>r) x
def ec9(x:Fb8)(r:gb0):DT (c7×List c8):=.ret (b r.bs0,[bq 0 4 [[i x.G3,i x.j5,i x.G4,i x.C3]]])
def rc1:Sum:=Oa2 ⟨[.agg (kLq 4),sPq 0],[⟨0,4,true,some [kLq 4]⟩],λa H=>(⟨cIq a 0 0,cIq a 0 1,cIq a 0 2,cIq a 0 3,hIq H 0 0 0,hIq H 0 0 1,hIq H 0 0 2,hIq H 0 0 3⟩,())⟩ (λx=>ec9 x (Fb9 x))
theorem fd5:l8 prog G 129 rc1:=K8 (enc:=λx=>⟨[.agg [i x.Dc6,i x.Dc7,i x.Dc8,i x.Dc9],.ptr 0 0 0 0],[bq 0 4 [[i x.G3,i x.j5,i x.G4,i x.C3]]]⟩) (λa H=>by kernel_rfl) (bd og6 Xc3) λx=>va5 (mEq @rc0 (λr=>(ec9 x r).run) x)
structure va6 where
 j6:PLq
 (G3 j5 G4 C3:Int)
def Sa0:List (Nat×Sum):=[(129,rc1)]
theorem Lb5:C6 prog G Sa0:=⟨fd5,trivial⟩
structure S6 where
 j6:PLq
 (is7 G3 j5 G4 C3:Int)
structure D1 where
 is8:Int
def Ka7(p:S6)(s:D1):St:=⟨eL tP p.j6::.fn 129 [.ptr 0 0 0 0]::ra 5 (i p.is7::i s.is8::ra 10 []),[bq 0 4 [[i p.G3,i p.j5,i p.G4,i p.C3]]]⟩
def Y3{α:Type}(k:D1->α)(e:Nat->α)(z:α)(p:S6)(s:D1):α:=let y0:=(gL tP p.j6 s.is8.toNat);let t1:=(Fb9 ⟨y0.n.x,y0.n.y,y0.n.z,y0.b,p.G3,p.j5,p.G4,p.C3⟩);(sl (decide (s.is8<p.is7)) (sl (inB s.is8 (List.length p.j6)) (sl t1.bs0 (e 1) (k ⟨W (s.is8+1)⟩)) z) (e 2))
def Q3(p:S6)(s:D1):Stp D1:=Y3 .next .exit .fail p s
def qa4:Lo S6 D1:=⟨En Sa0,1,oe1,[1,0,1,4,4],[0,1,7,8],.p,[⟨sLq tP::.fn 129 [.o (.ptr 0 0 0 0)]::ru2 5 (sIq::sIq::ru2 10 []),[⟨0,4,true,some [kLq 4]⟩],λa H=>(⟨aLq tP a 0,aIq a 7,hIq H 0 0 0,hIq H 0 0 1,hIq H 0 0 2,hIq H 0 0 3⟩,⟨aIq a 8⟩)⟩],Q3,[(none,λp s=>⟨[i s.is8],[bq 0 4 [[i p.G3,i p.j5,i p.G4,i p.C3]]]⟩),(some 0,λp s=>upq (Ka7 p s) [(9,b (decide (s.is8<p.is7)))])],Ka7⟩
theorem Gb0:qa4.Ok:=Lo.okq [] .nil λp s=>(.ofq @Y3)
structure va7 where
 alt:Nat
 is0:Int
def va8{α:Type}(kk:va7->α)(x:va6):α:=let t1:=(lp (Q3 (⟨rt tP x.j6,(↑(List.length x.j6):Int),x.G3,x.j5,x.G4,x.C3⟩:S6)) (⟨0⟩:D1));(sl ((cnE tP x.j6)&&true) (sl (Nat.beq t1.1 1) (kk ⟨1,t1.2.is8⟩) (sl (Nat.beq t1.1 2) (kk ⟨1,-1⟩) (kk ⟨0,0⟩))) (kk ⟨0,0⟩))
def ha3(x:va6):va7:=va8 (λr=>r) x
def Sa1(x:va6)(r:va7):DT (c7×List c8):=(Ca8 r.alt 1 (i r.is0,[bq 0 4 [[i x.G3,i x.j5,i x.G4,i x.C3]]]) .fail)
def Za3:Sum:=Oa2 ⟨[sLq tP,.fn 129 [.o (.ptr 0 0 0 0)]],[⟨0,4,true,some [kLq 4]⟩],λa H=>(⟨aLq tP a 0,hIq H 0 0 0,hIq H 0 0 1,hIq H 0 0 2,hIq H 0 0 3⟩,())⟩ (λx=>Sa1 x (ha3 x))
theorem Qb7:l8 prog G 118 Za3:=K8 (enc:=λx=>⟨[eL tP x.j6,.fn 129 [.ptr 0 0 0 0]],[bq 0 4 [[i x.G3,i x.j5,i x.G4,i x.C3]]]⟩) (λa H=>by kernel_rfl) (bd Af8 Lb5) λx=>da5 (.s .p (.s (.s .p (.b (.u qa4.ls))) .p)) [qa4.pr] (.cons Gb0 .nil) (mEq @va8 (λr=>(Sa1 x r).run) x)
def Bb8:List (Nat×Sum):=[(118,Za3)]
theorem xb2:C6 prog G Bb8:=⟨Qb7,trivial⟩
structure na5 where
 alt:Nat
 bs0:Bool
def na6{α:Type}(kk:na5->α)(x:va6):α:=let t1:=(ha3 ⟨rt tP x.j6,x.G3,x.j5,x.G4,x.C3⟩);(sl ((cnE tP x.j6)&&true) (sl (Nat.beq t1.alt 1) (kk ⟨1,decide (t1.is0>=0)⟩) (kk ⟨0,false⟩)) (kk ⟨0,false⟩))
def na7(x:va6):na5:=na6 (λr=>r) x
def Ha3(x:va6)(r:na5):DT (c7×List c8):=(Ca8 r.alt 1 (b r.bs0,[bq 0 4 [[i x.G3,i x.j5,i x.G4,i x.C3]]]) .fail)
def Ka8:Sum:=Oa2 ⟨[sLq tP,.fn 129 [.o (.ptr 0 0 0 0)]],[⟨0,4,true,some [kLq 4]⟩],λa H=>(⟨aLq tP a 0,hIq H 0 0 0,hIq H 0 0 1,hIq H 0 0 2,hIq H 0 0 3⟩,())⟩ (λx=>Ha3 x (na7 x))
theorem Bb9:l8 prog G 93 Ka8:=K8 (enc:=λx=>⟨[eL tP x.j6,.fn 129 [.ptr 0 0 0 0]],[bq 0 4 [[i x.G3,i x.j5,i x.G4,i x.C3]]]⟩) (λa H=>by kernel_rfl) (bd b93 xb2) λx=>va5 (mEq @na6 (λr=>(Ha3 x r).run) x)
def Cd4:List (Nat×Sum):=[(93,Ka8)]
theorem qd5:C6 prog G Cd4:=⟨Bb9,trivial⟩
def db5(x:PLq)(y:Pt):ROq:=let t1:=(na7 ⟨rt tP x,y.px,y.py,y.pz,y.pw⟩);(sl ((cnE tP x)&&true) (sl (Nat.beq t1.alt 1) (some (b (!t1.bs0),[])) none) none)
def Na5(x:PLq)(y:Pt):Bool:=aa3 (one r1B) (db5 x y)
def Na6(x:PLq)(y:Pt):Bool:=okO (one r1B) (db5 x y)
def Lc8:Sum:=va4 (pa5 tP) (Ea3 tX) (λx y=>.guard (Na6 x y) (.ret ((one r1B).enc (Na5 x y),[])))
theorem Cd5:l8 prog G 102 Lc8:=xc8 (bd mg5 qd5) (one r1B) (o:=db5)
@[reducible] noncomputable def jb6:Sum:=Vb8 (En tbN) Jf7
theorem ac0:l8 prog G 124 jb6:=bd og1 Aa9
def pb8:List (Nat×Sum):=[(124,jb6)]
theorem fc0:C6 prog G pb8:=⟨ac0,trivial⟩
@[reducible] noncomputable def ub8:Sum:=Vb8 (En pb8) If6
theorem lc5:l8 prog G 100 ub8:=bd mg3 fc0
def qa5:List (Nat×Sum):=[(101,nd3),(102,Lc8),(100,ub8)]
theorem fc1:C6 prog G qa5:=⟨be8,Cd5,lc5,trivial⟩
structure s5 where
 is3:Int
 K1:PLq
 (N7 D6:Int)
 Nd5:Nat
 Nd6:Nat->List c7
 (sd8 cc8:Int)
 tf5:Nat
 tf6:Nat->List c7
 Ga8:Int
 g7:PLq
 (Ja8 Ja9 Ka0 Ka1 oc9 Z4 pc0 cd1:Int)
 Ya6:PLq
structure s6 where
 ph:Nat
 sd9:Int
 Nb3:Nat
 (eh6 eh7:List (List c7))
def Za4(p:s5)(s:s6):St:=⟨.unk::.ptr 0 0 0 0::.unk::i p.is3::.ptr 1 0 0 0::.unk::.ptr 2 0 0 0::.unk::.unk::eL tP p.K1::i p.N7::i p.D6::ra 7 (.tree 4 p.Nd5 p.Nd6::i p.sd8::i p.cc8::ra 9 (.tree 4 p.tf5 p.tf6::i p.Ga8::i s.sd9::ra 13 (i 0::.unk::.ptr 3 0 0 0::nlq::.ptr 4 0 0 0::.ptr 5 0 0 0::ra 31 []))),[bq 0 1 [[eL tP p.g7]],bq 0 4 [[i p.Ja8,i p.Ja9,i p.Ka0,i p.Ka1]],bq 0 4 [[i p.oc9,i p.Z4,i p.pc0,i p.cd1]],bq 0 1 [[eL tP p.Ya6]],bq 0 0 [[nlq]],bq 0 0 [[.ptr 6 0 0 0]],bq 124 0 []]⟩
def Za5(p:s5)(s:s6):St:=⟨.unk::.ptr 0 0 0 0::.unk::i p.is3::.ptr 1 0 0 0::.unk::.ptr 2 0 0 0::.unk::.unk::eL tP p.K1::i p.N7::i p.D6::ra 7 (.tree 4 p.Nd5 p.Nd6::i p.sd8::i p.cc8::ra 9 (.tree 4 p.tf5 p.tf6::i p.Ga8::i s.sd9::ra 13 (i 0::.unk::.ptr 3 0 0 0::nlq::.ptr 4 0 0 0::.ptr 5 0 0 0::ra 31 []))),[bq 0 1 [[eL tP p.g7]],bq 0 4 [[i p.Ja8,i p.Ja9,i p.Ka0,i p.Ka1]],bq 0 4 [[i p.oc9,i p.Z4,i p.pc0,i p.cd1]],bq 0 1 [[eL tP p.Ya6]],bq 0 0 [[.sl 6 0 s.Nb3 0]],bq 0 0 [[.ptr 7 0 0 0]],bq 114 4 s.eh6,bq 124 0 s.eh7]⟩
def ac4(p:s5)(s:s6):St:=(sel (Nat.beq s.ph 1) (Za5 p s) (Za4 p s))
def O6{α:Type}(k:s6->α)(e:Nat->α)(z:α)(p:s5)(s:s6):α:=let y2:=(W (s.sd9+1));let y1:=(p.tf6 s.sd9.toNat);let y0:=(⟨(⟨(⟨p.Ja8,p.Ja9,p.Ka0⟩:V3),p.Ka1⟩:Pln),(⟨(⟨p.oc9,p.Z4,p.pc0⟩:V3),p.cd1⟩:Pln),(⟨(⟨toI (hdA y1),toI (hdA (tlA y1)),toI (hdA (tlA (tlA y1)))⟩:V3),toI (hdA (tlA (tlA (tlA y1))))⟩:Pln)⟩:Tp);let t1:=(Bb6 y0);let t2:=(Na5 (rt tP p.Ya6) t1.1);(sl (decide (s.sd9<p.Ga8)) (sl (inB s.sd9 p.tf5) (sl ((Nat.ble 4 (len y1))&&(sa5 [CK.int .i64,CK.int .i64,CK.int .i64,CK.int .i64] y1)) (sl (Bb7 y0) (sl t1.2 (sl (!(Tc2 4 [(0,.int .i64),(1,.int .i64),(2,.int .i64),(3,.int .i64)] [i t1.1.px,i t1.1.py,i t1.1.pz,i t1.1.pw] [])) (sl (okE tP p.Ya6) (sl (Na6 (rt tP p.Ya6) t1.1) (sl t2 (k ⟨1,y2,1,[[i t1.1.px,i t1.1.py,i t1.1.pz,i t1.1.pw]],Zb1 [(0,.int .i64),(1,.int .i64),(2,.int .i64),(3,.int .i64)] [i t1.1.px,i t1.1.py,i t1.1.pz,i t1.1.pw] [i t1.1.px,i t1.1.py,i t1.1.pz,i t1.1.pw,b true] []⟩) (k ⟨0,y2,0,[],[]⟩)) z) z) (k ⟨0,y2,0,[],[]⟩)) (k ⟨0,y2,0,[],[]⟩)) z) z) z) (e 1))
def O7{α:Type}(k:s6->α)(e:Nat->α)(z:α)(p:s5)(s:s6):α:=let y2:=(W (s.sd9+1));let y1:=(p.tf6 s.sd9.toNat);let y0:=(⟨(⟨(⟨p.Ja8,p.Ja9,p.Ka0⟩:V3),p.Ka1⟩:Pln),(⟨(⟨p.oc9,p.Z4,p.pc0⟩:V3),p.cd1⟩:Pln),(⟨(⟨toI (hdA y1),toI (hdA (tlA y1)),toI (hdA (tlA (tlA y1)))⟩:V3),toI (hdA (tlA (tlA (tlA y1))))⟩:Pln)⟩:Tp);let t1:=(Bb6 y0);let t2:=(Na5 (rt tP p.Ya6) t1.1);(sl (decide (s.sd9<p.Ga8)) (sl (inB s.sd9 p.tf5) (sl ((Nat.ble 4 (len y1))&&(sa5 [CK.int .i64,CK.int .i64,CK.int .i64,CK.int .i64] y1)) (sl (Bb7 y0) (sl t1.2 (sl (!(Tc2 4 [(0,.int .i64),(1,.int .i64),(2,.int .i64),(3,.int .i64)] [i t1.1.px,i t1.1.py,i t1.1.pz,i t1.1.pw] s.eh7)) (sl (okE tP p.Ya6) (sl (Na6 (rt tP p.Ya6) t1.1) (sl t2 (sl (Nat.beq s.Nb3 (len s.eh6)&&Nat.ble ((s.Nb3+1)*32) room) (k ⟨1,y2,s.Nb3+1,app s.eh6 [[i t1.1.px,i t1.1.py,i t1.1.pz,i t1.1.pw]],Zb1 [(0,.int .i64),(1,.int .i64),(2,.int .i64),(3,.int .i64)] [i t1.1.px,i t1.1.py,i t1.1.pz,i t1.1.pw] [i t1.1.px,i t1.1.py,i t1.1.pz,i t1.1.pw,b true] s.eh7⟩) z) (k ⟨1,y2,s.Nb3,s.eh6,s.eh7⟩)) z) z) (k ⟨1,y2,s.Nb3,s.eh6,s.eh7⟩)) (k ⟨1,y2,s.Nb3,s.eh6,s.eh7⟩)) z) z) z) (e 2))
def J2(p:s5)(s:s6):Stp s6:=(sel (Nat.beq s.ph 1) (O7 .next .exit .fail p s) (O6 .next .exit .fail p s))
def Ea6:Lo s5 s6:=⟨En qa5,0,Af6,[1,1,1,0,1,4,4,1,4,4,1,1,0,4,1,1,4,4,1,1,0,4,1,1,4,4],[1,3,4,6,9,10,11,19,20,21,31,32,33,47,49,50,51,52],.p,[⟨sUq::sPq 0::sUq::sIq::sPq 1::sUq::sPq 2::sUq::sUq::sLq tP::sIq::sIq::ru2 7 (sTq 4::sIq::sIq::ru2 9 (sTq 4::sIq::sIq::ru2 13 (.s (.o (.lit .i64 0))::sUq::sPq 3::.s (.o .nil)::sPq 4::sPq 5::ru2 31 []))),[⟨0,1,true,some [[.c 4 (nL tP)]]⟩,⟨0,4,true,some [kLq 4]⟩,⟨0,4,true,some [kLq 4]⟩,⟨0,1,true,some [[.c 4 (nL tP)]]⟩,⟨0,0,true,some [[.o .nil]]⟩,⟨0,0,true,some [[.o (.ptr 6 0 0 0)]]⟩,⟨124,0,true,some []⟩],λa H=>(⟨aIq a 3,aLq tP a 9,aIq a 10,aIq a 11,aNq a 19,aGq a 19,aIq a 20,aIq a 21,aNq a 31,aGq a 31,aIq a 32,hLq tP H 0 0 0,hIq H 1 0 0,hIq H 1 0 1,hIq H 1 0 2,hIq H 1 0 3,hIq H 2 0 0,hIq H 2 0 1,hIq H 2 0 2,hIq H 2 0 3,hLq tP H 3 0 0⟩,⟨0,aIq a 33,0,[],[]⟩)⟩,⟨sUq::sPq 0::sUq::sIq::sPq 1::sUq::sPq 2::sUq::sUq::sLq tP::sIq::sIq::ru2 7 (sTq 4::sIq::sIq::ru2 9 (sTq 4::sIq::sIq::ru2 13 (.s (.o (.lit .i64 0))::sUq::sPq 3::.s (.o .nil)::sPq 4::sPq 5::ru2 31 []))),[⟨0,1,true,some [[.c 4 (nL tP)]]⟩,⟨0,4,true,some [kLq 4]⟩,⟨0,4,true,some [kLq 4]⟩,⟨0,1,true,some [[.c 4 (nL tP)]]⟩,⟨0,0,true,some [[.o (.sl 6 0 (some 0) none)]]⟩,⟨0,0,true,some [[.o (.ptr 7 0 0 0)]]⟩,⟨114,4,true,none⟩,⟨124,0,true,none⟩],λa H=>(⟨aIq a 3,aLq tP a 9,aIq a 10,aIq a 11,aNq a 19,aGq a 19,aIq a 20,aIq a 21,aNq a 31,aGq a 31,aIq a 32,hLq tP H 0 0 0,hIq H 1 0 0,hIq H 1 0 1,hIq H 1 0 2,hIq H 1 0 3,hIq H 2 0 0,hIq H 2 0 1,hIq H 2 0 2,hIq H 2 0 3,hLq tP H 3 0 0⟩,⟨1,aIq a 33,slN (slT (rwT (elT H 4) 0) 0),elT H 6,elT H 7⟩)⟩],J2,[(some 4,λp s=>upq (Za4 p s) [(34,b (decide (s.sd9<p.Ga8)))]),(some 4,λp s=>upq (Za5 p s) [(34,b (decide (s.sd9<p.Ga8)))])],ac4⟩
theorem ac5:Ea6.OkM:=Lo.okMq [] .nil λp s=>(.sel (Nat.beq s.ph 1) (.ofq @O7) (.ofq @O6))
structure s7 where
 (is3 N7 D6:Int)
 Nd5:Nat
 Nd6:Nat->List c7
 (sd8 Ja8 Ja9 Ka0 Ka1:Int)
structure A0 where
 ph:Nat
 K1:PLq
 cc8:Int
 (g7 Na9:PLq)
 cd2:Nat
 (eh5 eh6:List (List c7))
def Za6(p:s7)(s:A0):St:=⟨.unk::.ptr 0 0 0 0::.unk::i p.is3::.ptr 1 0 0 0::ra 4 (eL tP s.K1::i p.N7::i p.D6::ra 7 (.tree 4 p.Nd5 p.Nd6::i p.sd8::i s.cc8::ra 25 (i 0::.unk::.ptr 2 0 0 0::nlq::.ptr 3 0 0 0::.ptr 4 0 0 0::ra 31 []))),[bq 0 1 [[eL tP s.g7]],bq 0 4 [[i p.Ja8,i p.Ja9,i p.Ka0,i p.Ka1]],bq 0 1 [[eL tP s.Na9]],bq 0 0 [[nlq]],bq 0 0 [[.ptr 5 0 0 0]],bq 124 0 []]⟩
def Za7(p:s7)(s:A0):St:=⟨.unk::.ptr 0 0 0 0::.unk::i p.is3::.ptr 1 0 0 0::ra 4 (eL tP s.K1::i p.N7::i p.D6::ra 7 (.tree 4 p.Nd5 p.Nd6::i p.sd8::i s.cc8::ra 25 (i 0::.unk::.ptr 2 0 0 0::nlq::.ptr 3 0 0 0::.ptr 4 0 0 0::ra 31 []))),[bq 0 1 [[eL tP s.g7]],bq 0 4 [[i p.Ja8,i p.Ja9,i p.Ka0,i p.Ka1]],bq 0 1 [[eL tP s.Na9]],bq 0 0 [[.sl 5 0 s.cd2 0]],bq 0 0 [[.ptr 6 0 0 0]],bq 114 4 s.eh5,bq 124 0 s.eh6]⟩
def ac6(p:s7)(s:A0):St:=(sel (Nat.beq s.ph 1) (Za7 p s) (Za6 p s))
def O8{α:Type}(k:A0->α)(e:Nat->α)(z:α)(p:s7)(s:A0):α:=let y4:=(rt tP s.Na9);let y3:=(rt tP s.g7);let y2:=(List.length s.g7);let y1:=(W ((W (p.is3+s.cc8))+2));let y0:=(p.Nd6 s.cc8.toNat);let t1:=(lp (J2 (⟨p.is3,rt tP s.K1,p.N7,p.D6,p.Nd5,p.Nd6,p.sd8,s.cc8,y2-y1.toNat,(λk=>(λk=>(tP).row (gL tP s.g7 k)) (y1.toNat+k)),(↑(y2-y1.toNat):Int),y3,p.Ja8,p.Ja9,p.Ka0,p.Ka1,toI (hdA y0),toI (hdA (tlA y0)),toI (hdA (tlA (tlA y0))),toI (hdA (tlA (tlA (tlA y0)))),y4⟩:s5)) (⟨0,0,0,[],[]⟩:s6));(sl (decide (s.cc8<p.sd8)) (sl (inB s.cc8 p.Nd5) (sl ((Nat.ble 4 (len y0))&&(sa5 [CK.int .i64,CK.int .i64,CK.int .i64,CK.int .i64] y0)) (sl (inB y1 (y2+1)) (sl ((cnE tP s.K1)&&((cnE tP s.g7)&&((cnE tP s.Na9)&&true))) (sl (Nat.beq t1.1 1) (k ⟨0,rt tP s.K1,W (s.cc8+1),y3,y4,0,[],[]⟩) (sl (Nat.beq t1.1 2) (k ⟨1,rt tP s.K1,W (s.cc8+1),y3,y4,t1.2.Nb3,t1.2.eh6,t1.2.eh7⟩) z)) z) z) z) z) (e 1))
def O9{α:Type}(k:A0->α)(e:Nat->α)(z:α)(p:s7)(s:A0):α:=let y4:=(rt tP s.Na9);let y3:=(rt tP s.g7);let y2:=(List.length s.g7);let y1:=(W ((W (p.is3+s.cc8))+2));let y0:=(p.Nd6 s.cc8.toNat);let t1:=(lp (J2 (⟨p.is3,rt tP s.K1,p.N7,p.D6,p.Nd5,p.Nd6,p.sd8,s.cc8,y2-y1.toNat,(λk=>(λk=>(tP).row (gL tP s.g7 k)) (y1.toNat+k)),(↑(y2-y1.toNat):Int),y3,p.Ja8,p.Ja9,p.Ka0,p.Ka1,toI (hdA y0),toI (hdA (tlA y0)),toI (hdA (tlA (tlA y0))),toI (hdA (tlA (tlA (tlA y0)))),y4⟩:s5)) (⟨1,0,s.cd2,s.eh5,s.eh6⟩:s6));(sl (decide (s.cc8<p.sd8)) (sl (inB s.cc8 p.Nd5) (sl ((Nat.ble 4 (len y0))&&(sa5 [CK.int .i64,CK.int .i64,CK.int .i64,CK.int .i64] y0)) (sl (inB y1 (y2+1)) (sl ((cnE tP s.K1)&&((cnE tP s.g7)&&((cnE tP s.Na9)&&true))) (sl (Nat.beq t1.1 1) (k ⟨0,rt tP s.K1,W (s.cc8+1),y3,y4,0,[],[]⟩) (sl (Nat.beq t1.1 2) (k ⟨1,rt tP s.K1,W (s.cc8+1),y3,y4,t1.2.Nb3,t1.2.eh6,t1.2.eh7⟩) z)) z) z) z) z) (e 2))
def J3(p:s7)(s:A0):Stp A0:=(sel (Nat.beq s.ph 1) (O9 .next .exit .fail p s) (O8 .next .exit .fail p s))
def Ea7:Lo s7 A0:=⟨En qa5,0,Af6,[1,1,1,0,1,4,4,1,4,4,1,1,0,4,1,1,4,4],[1,3,4,9,10,11,19,20,21,47,49,50,51,52],.s .p (.s .p (.s (.b (.s .p (.s .p (.b (.u Ea6.lsM))))) .p)),[⟨sUq::sPq 0::sUq::sIq::sPq 1::ru2 4 (sLq tP::sIq::sIq::ru2 7 (sTq 4::sIq::sIq::ru2 25 (.s (.o (.lit .i64 0))::sUq::sPq 2::.s (.o .nil)::sPq 3::sPq 4::ru2 31 []))),[⟨0,1,true,some [[.c 4 (nL tP)]]⟩,⟨0,4,true,some [kLq 4]⟩,⟨0,1,true,some [[.c 4 (nL tP)]]⟩,⟨0,0,true,some [[.o .nil]]⟩,⟨0,0,true,some [[.o (.ptr 5 0 0 0)]]⟩,⟨124,0,true,some []⟩],λa H=>(⟨aIq a 3,aIq a 10,aIq a 11,aNq a 19,aGq a 19,aIq a 20,hIq H 1 0 0,hIq H 1 0 1,hIq H 1 0 2,hIq H 1 0 3⟩,⟨0,aLq tP a 9,aIq a 21,hLq tP H 0 0 0,hLq tP H 2 0 0,0,[],[]⟩)⟩,⟨sUq::sPq 0::sUq::sIq::sPq 1::ru2 4 (sLq tP::sIq::sIq::ru2 7 (sTq 4::sIq::sIq::ru2 25 (.s (.o (.lit .i64 0))::sUq::sPq 2::.s (.o .nil)::sPq 3::sPq 4::ru2 31 []))),[⟨0,1,true,some [[.c 4 (nL tP)]]⟩,⟨0,4,true,some [kLq 4]⟩,⟨0,1,true,some [[.c 4 (nL tP)]]⟩,⟨0,0,true,some [[.o (.sl 5 0 (some 0) none)]]⟩,⟨0,0,true,some [[.o (.ptr 6 0 0 0)]]⟩,⟨114,4,true,none⟩,⟨124,0,true,none⟩],λa H=>(⟨aIq a 3,aIq a 10,aIq a 11,aNq a 19,aGq a 19,aIq a 20,hIq H 1 0 0,hIq H 1 0 1,hIq H 1 0 2,hIq H 1 0 3⟩,⟨1,aLq tP a 9,aIq a 21,hLq tP H 0 0 0,hLq tP H 2 0 0,slN (slT (rwT (elT H 3) 0) 0),elT H 5,elT H 6⟩)⟩],J3,[(some 2,λp s=>upq (Za6 p s) [(22,b (decide (s.cc8<p.sd8)))]),(some 2,λp s=>upq (Za7 p s) [(22,b (decide (s.cc8<p.sd8)))])],ac6⟩
theorem ac7:Ea7.OkM:=Lo.okMq [Ea6.prM] (.cons ac5 .nil) λp s=>(.sel (Nat.beq s.ph 1) (.ofq @O9) (.ofq @O8))
structure E4 where
 N7:Int
structure B0 where
 ph:Nat
 K1:PLq
 D6:Int
 (g7 Ob0:PLq)
 K9:Nat
 (eh4 eh5:List (List c7))
def Za8(p:E4)(s:B0):St:=⟨.unk::.ptr 0 0 0 0::ra 7 (eL tP s.K1::i p.N7::i s.D6::ra 35 (i 0::.unk::.ptr 1 0 0 0::nlq::.ptr 2 0 0 0::.ptr 3 0 0 0::ra 31 [])),[bq 0 1 [[eL tP s.g7]],bq 0 1 [[eL tP s.Ob0]],bq 0 0 [[nlq]],bq 0 0 [[.ptr 4 0 0 0]],bq 124 0 []]⟩
def Za9(p:E4)(s:B0):St:=⟨.unk::.ptr 0 0 0 0::ra 7 (eL tP s.K1::i p.N7::i s.D6::ra 35 (i 0::.unk::.ptr 1 0 0 0::nlq::.ptr 2 0 0 0::.ptr 3 0 0 0::ra 31 [])),[bq 0 1 [[eL tP s.g7]],bq 0 1 [[eL tP s.Ob0]],bq 0 0 [[.sl 4 0 s.K9 0]],bq 0 0 [[.ptr 5 0 0 0]],bq 114 4 s.eh4,bq 124 0 s.eh5]⟩
def ac8(p:E4)(s:B0):St:=(sel (Nat.beq s.ph 1) (Za9 p s) (Za8 p s))
def P0{α:Type}(k:B0->α)(e:Nat->α)(z:α)(p:E4)(s:B0):α:=let y2:=(List.length s.g7);let y1:=(W (s.D6+1));let y0:=(gL tP s.K1 s.D6.toNat);let t1:=(lp (J3 (⟨s.D6,p.N7,s.D6,y2-y1.toNat,(λk=>(λk=>(tP).row (gL tP s.g7 k)) (y1.toNat+k)),(↑(y2-y1.toNat):Int),y0.n.x,y0.n.y,y0.n.z,y0.b⟩:s7)) (⟨0,rt tP s.K1,0,rt tP s.g7,rt tP s.Ob0,0,[],[]⟩:A0));(sl (decide (s.D6<p.N7)) (sl (inB s.D6 (List.length s.K1)) (sl (inB y1 (y2+1)) (sl ((cnE tP s.K1)&&((cnE tP s.g7)&&((cnE tP s.Ob0)&&true))) (sl (Nat.beq t1.1 1) (k ⟨0,t1.2.K1,y1,t1.2.g7,t1.2.Na9,0,[],[]⟩) (sl (Nat.beq t1.1 2) (k ⟨1,t1.2.K1,y1,t1.2.g7,t1.2.Na9,t1.2.cd2,t1.2.eh5,t1.2.eh6⟩) z)) z) z) z) (e 1))
def P1{α:Type}(k:B0->α)(e:Nat->α)(z:α)(p:E4)(s:B0):α:=let y2:=(List.length s.g7);let y1:=(W (s.D6+1));let y0:=(gL tP s.K1 s.D6.toNat);let t1:=(lp (J3 (⟨s.D6,p.N7,s.D6,y2-y1.toNat,(λk=>(λk=>(tP).row (gL tP s.g7 k)) (y1.toNat+k)),(↑(y2-y1.toNat):Int),y0.n.x,y0.n.y,y0.n.z,y0.b⟩:s7)) (⟨1,rt tP s.K1,0,rt tP s.g7,rt tP s.Ob0,s.K9,s.eh4,s.eh5⟩:A0));(sl (decide (s.D6<p.N7)) (sl (inB s.D6 (List.length s.K1)) (sl (inB y1 (y2+1)) (sl ((cnE tP s.K1)&&((cnE tP s.g7)&&((cnE tP s.Ob0)&&true))) (sl (Nat.beq t1.1 1) (k ⟨0,t1.2.K1,y1,t1.2.g7,t1.2.Na9,0,[],[]⟩) (sl (Nat.beq t1.1 2) (k ⟨1,t1.2.K1,y1,t1.2.g7,t1.2.Na9,t1.2.cd2,t1.2.eh5,t1.2.eh6⟩) z)) z) z) z) (e 2))
def J4(p:E4)(s:B0):Stp B0:=(sel (Nat.beq s.ph 1) (P1 .next .exit .fail p s) (P0 .next .exit .fail p s))
def Ea8:Lo E4 B0:=⟨En qa5,0,Af6,[1,1,1,0,1,4,4,1,4,4],[1,9,10,11,47,49,50,51,52],.s .p (.s .p (.s (.b (.s .p (.s .p (.b (.u Ea7.lsM))))) .p)),[⟨sUq::sPq 0::ru2 7 (sLq tP::sIq::sIq::ru2 35 (.s (.o (.lit .i64 0))::sUq::sPq 1::.s (.o .nil)::sPq 2::sPq 3::ru2 31 [])),[⟨0,1,true,some [[.c 4 (nL tP)]]⟩,⟨0,1,true,some [[.c 4 (nL tP)]]⟩,⟨0,0,true,some [[.o .nil]]⟩,⟨0,0,true,some [[.o (.ptr 4 0 0 0)]]⟩,⟨124,0,true,some []⟩],λa H=>(⟨aIq a 10⟩,⟨0,aLq tP a 9,aIq a 11,hLq tP H 0 0 0,hLq tP H 1 0 0,0,[],[]⟩)⟩,⟨sUq::sPq 0::ru2 7 (sLq tP::sIq::sIq::ru2 35 (.s (.o (.lit .i64 0))::sUq::sPq 1::.s (.o .nil)::sPq 2::sPq 3::ru2 31 [])),[⟨0,1,true,some [[.c 4 (nL tP)]]⟩,⟨0,1,true,some [[.c 4 (nL tP)]]⟩,⟨0,0,true,some [[.o (.sl 4 0 (some 0) none)]]⟩,⟨0,0,true,some [[.o (.ptr 5 0 0 0)]]⟩,⟨114,4,true,none⟩,⟨124,0,true,none⟩],λa H=>(⟨aIq a 10⟩,⟨1,aLq tP a 9,aIq a 11,hLq tP H 0 0 0,hLq tP H 1 0 0,slN (slT (rwT (elT H 2) 0) 0),elT H 4,elT H 5⟩)⟩],J4,[(some 0,λp s=>upq (Za8 p s) [(12,b (decide (s.D6<p.N7)))]),(some 0,λp s=>upq (Za9 p s) [(12,b (decide (s.D6<p.N7)))])],ac8⟩
theorem ac9:Ea8.OkM:=Lo.okMq [Ea7.prM] (.cons ac7 .nil) λp s=>(.sel (Nat.beq s.ph 1) (.ofq @P1) (.ofq @P0))
def ha7(x:PLq):ROq:=let t1:=(lp (J4 (⟨(↑(List.length x):Int)⟩:E4)) (⟨0,rt tP x,0,rt tP x,rt tP x,0,[],[]⟩:B0));(sl ((cnE tP x)&&((cnE tP x)&&((cnE tP x)&&true))) (sl (Nat.beq t1.1 1) (some (nlq,[])) (sl (Nat.beq t1.1 2) (some (.sl 0 0 t1.2.K9 0,[bq 114 4 t1.2.eh4])) none)) none)
def ha8(x:PLq):List Pt:=aa3 (one (r1L tX)) (ha7 x)
def ha9(x:PLq):Bool:=okO (one (r1L tX)) (ha7 x)
def Oa4:Sum:=ba7 (pa5 tP) (λx=>.guard (ha9 x) (.ret ((one (r1L tX)).enc (ha8 x),[])))
theorem pb9:l8 prog G 80 Oa4:=dd5 (bd b80 fc1) (one (r1L tX)) (o:=ha7) λx=>Bd4 (.s .p (.s .p (.s .p (.s (.s .p (.b (.i (.s .p (.b (.u Ea8.lsM)))))) .p)))) [Ea8.prM] (.cons ac9 .nil)
structure Ea9 where
 is0:Int
 Pe8:List Int
 is8:Int
structure W4 where
 is9:Int
def Yb0(p:Ea9)(s:W4):St:=⟨i p.is0::ra 6 (eL tI p.Pe8::i p.is8::i s.is9::ra 13 []),[]⟩
def Ia5{α:Type}(k:W4->α)(e:Nat->α)(z:α)(p:Ea9)(s:W4):α:=(sl (decide (s.is9<p.is8)) (sl (inB s.is9 (List.length p.Pe8)) (sl (decide ((gL tI p.Pe8 s.is9.toNat)<(W (0-p.is0)))) (e 1) (sl (decide ((gL tI p.Pe8 s.is9.toNat)>p.is0)) (e 1) (k ⟨W (s.is9+1)⟩))) z) (e 2))
def za4(p:Ea9)(s:W4):Stp W4:=Ia5 .next .exit .fail p s
def xb3:Lo Ea9 W4:=⟨En tbN,0,Jf6,[1,0,1,4,4],[0,7,8,9],.p,[⟨sIq::ru2 6 (sLq tI::sIq::sIq::ru2 13 []),[],λa H=>(⟨aIq a 0,aLq tI a 7,aIq a 8⟩,⟨aIq a 9⟩)⟩],za4,[(none,λp s=>⟨[b false],[]⟩),(some 0,λp s=>upq (Yb0 p s) [(10,b (decide (s.is9<p.is8)))])],Yb0⟩
theorem Xc4:xb3.Ok:=Lo.okq [] .nil λp s=>(.ofq @Ia5)
def Sa2(x:Int)(y:List Int):ROq:=let t1:=(lp (za4 (⟨x,rt tI y,(↑(List.length y):Int)⟩:Ea9)) (⟨0⟩:W4));(sl ((cnE tI y)&&true) (sl (Nat.beq t1.1 1) (some (b false,[])) (sl (Nat.beq t1.1 2) (some (b true,[])) none)) none)
def Sa3(x:Int)(y:List Int):Bool:=aa3 (one r1B) (Sa2 x y)
def Sa4(x:Int)(y:List Int):Bool:=okO (one r1B) (Sa2 x y)
def yc5:Sum:=va4 cI (pa5 tI) (λx y=>.guard (Sa4 x y) (.ret ((one r1B).enc (Sa3 x y),[])))
theorem qd6:l8 prog G 119 yc5:=pd9 (bd ng9 Aa9) (one r1B) (o:=Sa2) λx y=>da5 (.s .p (.s (.s .p (.b (.u xb3.ls))) .p)) [xb3.pr] (.cons Xc4 .nil)
def Ya2(x:Int):Int:=(if (W (0-x))>x then (W (0-x)) else x)
def fc2:Sum:=ba7 cI (λx=>.ret ((one r1I).enc (Ya2 x),[]))
theorem Xc5:l8 prog G 141 fc2:=jf2 (bd pg7 Aa9)
def xb4:List (Nat×Sum):=[(141,fc2)]
theorem Xc6:C6 prog G xb4:=⟨Xc5,trivial⟩
def Qb8(p:Ya1)(s:za2):St:=⟨ra 3 (i s.is3::.unk::i s.is5::eL tI p.vb8::i p.is7::i p.is8::ra 15 []),[]⟩
def Da0{α:Type}(k:za2->α)(e:Nat->α)(z:α)(p:Ya1)(s:za2):α:=(sl (decide (s.is5>0)) (sl (s.is5==0) z (k ⟨s.is5,Int.tmod s.is3 s.is5⟩)) (e 1))
def ia3(p:Ya1)(s:za2):Stp za2:=Da0 .next .exit .fail p s
def qb0:Lo Ya1 za2:=⟨En xb4,0,jf0,[1,1,0,1,4,4,1,1,0,4,1,1,1,4,4],[3,5,6,7,8],.p,[⟨ru2 3 (sIq::sUq::sIq::sLq tI::sIq::sIq::ru2 15 []),[],λa H=>(⟨aLq tI a 6,aIq a 7,aIq a 8⟩,⟨aIq a 3,aIq a 5⟩)⟩],ia3,[(some 2,λp s=>upq (Qb8 p s) [(16,i s.is5),(17,b (decide (s.is5>0)))])],Qb8⟩
theorem Pc7:qb0.Ok:=Lo.okq [] .nil λp s=>(.ofq @Da0)
def Qb9(p:pb6)(s:za3):St:=⟨ra 3 (i s.is3::.unk::.unk::eL tI s.vb8::i p.is7::i s.is8::ra 15 []),[]⟩
def Da1{α:Type}(k:za3->α)(e:Nat->α)(z:α)(p:pb6)(s:za3):α:=let t1:=(Ya2 (gL tI s.vb8 s.is8.toNat));let t2:=(lp (ia3 (⟨rt tI s.vb8,p.is7,s.is8⟩:Ya1)) (⟨s.is3,t1⟩:za2));(sl (decide (s.is8<p.is7)) (sl (inB s.is8 (List.length s.vb8)) (sl ((gL tI s.vb8 s.is8.toNat)==(-9223372036854775808)) (e 1) (sl ((cnE tI s.vb8)&&true) (sl (Nat.beq t2.1 1) (k ⟨t2.2.is3,rt tI s.vb8,W (s.is8+1)⟩) z) z)) z) (e 2))
def ta2(p:pb6)(s:za3):Stp za3:=Da1 .next .exit .fail p s
def qb1:Lo pb6 za3:=⟨En xb4,0,jf0,[1,1,0,1,4,4],[3,6,7,8],.s .p (.s .p (.s (.b (.s .p (.s .p (.s .p (.b (.u qb0.ls)))))) .p)),[⟨ru2 3 (sIq::sUq::sUq::sLq tI::sIq::sIq::ru2 15 []),[],λa H=>(⟨aIq a 7⟩,⟨aIq a 3,aLq tI a 6,aIq a 8⟩)⟩],ta2,[(none,λp s=>⟨[i 0],[]⟩),(some 0,λp s=>upq (Qb9 p s) [(9,b (decide (s.is8<p.is7)))])],Qb9⟩
theorem Pc8:qb1.Ok:=Lo.okq [qb0.pr] (.cons Pc7 .nil) λp s=>(.ofq @Da1)
def Ka9(x:List Int):ROq:=let t1:=(lp (ta2 (⟨(↑(List.length x):Int)⟩:pb6)) (⟨0,rt tI x,0⟩:za3));(sl ((cnE tI x)&&true) (sl (Nat.beq t1.1 1) (some (i 0,[])) (sl (Nat.beq t1.1 2) (some (i t1.2.is3,[])) none)) none)
def gb1(x:List Int):Int:=aa3 (one r1I) (Ka9 x)
def gb2(x:List Int):Bool:=okO (one r1I) (Ka9 x)
def rc2:Sum:=ba7 (pa5 tI) (λx=>.guard (gb2 x) (.ret ((one r1I).enc (gb1 x),[])))
theorem fd6:l8 prog G 120 rc2:=dd5 (bd og0 Xc6) (one r1I) (o:=Ka9) λx=>da5 (.s .p (.s .p (.s (.s .p (.b (.u qb1.ls))) .p))) [qb1.pr] (.cons Pc8 .nil)
def Cd6:List (Nat×Sum):=[(119,yc5),(120,rc2)]
theorem qd7:C6 prog G Cd6:=⟨qd6,fd6,trivial⟩
def db6(x:Pln):ROq:=let t1:=(Sa3 4608 [x.n.x,x.n.y,x.n.z]);let t2:=(gb1 [x.n.x,x.n.y,x.n.z]);let t3:=(Sa3 2097152 [x.b]);(sl (Sa4 4608 [x.n.x,x.n.y,x.n.z]) (sl t1 (sl (gb2 [x.n.x,x.n.y,x.n.z]) (sl (t2==1) (sl (Sa4 2097152 [x.b]) (some (b t3,[])) none) (some (b false,[]))) none) (some (b false,[]))) none)
def zb9(x:Pln):Bool:=aa3 (one r1B) (db6 x)
def Ab0(x:Pln):Bool:=okO (one r1B) (db6 x)
def Lc9:Sum:=ba7 (Ea3 tP) (λx=>.guard (Ab0 x) (.ret ((one r1B).enc (zb9 x),[])))
theorem Cd7:l8 prog G 95 Lc9:=cb9 (bd b95 qd7) (one r1B) (o:=db6)
def qd8:List (Nat×Sum):=[(95,Lc9)]
theorem fd7:C6 prog G qd8:=⟨Cd7,trivial⟩
def Sa5(x:Pln):ROq:=let t1:=(zb9 x);(sl (Ab0 x) (some (b (!t1),[])) none)
def qb2(x:Pln):Bool:=aa3 (one r1B) (Sa5 x)
def qb3(x:Pln):Bool:=okO (one r1B) (Sa5 x)
def yc6:Sum:=ba7 (Ea3 tP) (λx=>.guard (qb3 x) (.ret ((one r1B).enc (qb2 x),[])))
theorem qd9:l8 prog G 94 yc6:=cb9 (bd b94 fd7) (one r1B) (o:=Sa5)
structure va9 where
 j6:PLq
def Sa6:List (Nat×Sum):=[(94,yc6)]
theorem Lb6:C6 prog G Sa6:=⟨qd9,trivial⟩
structure S8 where
 j6:PLq
 is7:Int
def La0(p:S8)(s:D1):St:=⟨eL tP p.j6::.fn 94 []::ra 5 (i p.is7::i s.is8::ra 10 []),[]⟩
def Y5{α:Type}(k:D1->α)(e:Nat->α)(z:α)(p:S8)(s:D1):α:=let t1:=(qb2 (gL tP p.j6 s.is8.toNat));(sl (decide (s.is8<p.is7)) (sl (inB s.is8 (List.length p.j6)) (sl (qb3 (gL tP p.j6 s.is8.toNat)) (sl t1 (e 1) (k ⟨W (s.is8+1)⟩)) z) z) (e 2))
def Q4(p:S8)(s:D1):Stp D1:=Y5 .next .exit .fail p s
def qa6:Lo S8 D1:=⟨En Sa6,0,oe1,[1,0,1,4,4],[0,1,7,8],.p,[⟨sLq tP::.s (.o (.fn 94))::ru2 5 (sIq::sIq::ru2 10 []),[],λa H=>(⟨aLq tP a 0,aIq a 7⟩,⟨aIq a 8⟩)⟩],Q4,[(none,λp s=>⟨[i s.is8],[]⟩),(some 0,λp s=>upq (La0 p s) [(9,b (decide (s.is8<p.is7)))])],La0⟩
theorem Gb1:qa6.Ok:=Lo.okq [] .nil λp s=>(.ofq @Y5)
def wa1{α:Type}(kk:va7->α)(x:va9):α:=let t1:=(lp (Q4 (⟨rt tP x.j6,(↑(List.length x.j6):Int)⟩:S8)) (⟨0⟩:D1));(sl ((cnE tP x.j6)&&true) (sl (Nat.beq t1.1 1) (kk ⟨1,t1.2.is8⟩) (sl (Nat.beq t1.1 2) (kk ⟨1,-1⟩) (kk ⟨0,0⟩))) (kk ⟨0,0⟩))
def wa2(x:va9):va7:=wa1 (λr=>r) x
def Sa7(x:va9)(r:va7):DT (c7×List c8):=(Ca8 r.alt 1 (i r.is0,[]) .fail)
def ab0:Sum:=Oa2 ⟨[sLq tP,.s (.o (.fn 94))],[],λa H=>(⟨aLq tP a 0⟩,())⟩ (λx=>Sa7 x (wa2 x))
theorem Rb0:l8 prog G 118 ab0:=K8 (enc:=λx=>⟨[eL tP x.j6,.fn 94 []],[]⟩) (λa H=>by kernel_rfl) (bd Af8 Lb6) λx=>da5 (.s .p (.s (.s .p (.b (.u qa6.ls))) .p)) [qa6.pr] (.cons Gb1 .nil) (mEq @wa1 (λr=>(Sa7 x r).run) x)
def Cb0:List (Nat×Sum):=[(118,ab0)]
theorem xb5:C6 prog G Cb0:=⟨Rb0,trivial⟩
def oa0{α:Type}(kk:na5->α)(x:va9):α:=let t1:=(wa2 ⟨rt tP x.j6⟩);(sl ((cnE tP x.j6)&&true) (sl (Nat.beq t1.alt 1) (kk ⟨1,decide (t1.is0>=0)⟩) (kk ⟨0,false⟩)) (kk ⟨0,false⟩))
def oa1(x:va9):na5:=oa0 (λr=>r) x
def Ha4(x:va9)(r:na5):DT (c7×List c8):=(Ca8 r.alt 1 (b r.bs0,[]) .fail)
def La1:Sum:=Oa2 ⟨[sLq tP,.s (.o (.fn 94))],[],λa H=>(⟨aLq tP a 0⟩,())⟩ (λx=>Ha4 x (oa1 x))
theorem Cb1:l8 prog G 93 La1:=K8 (enc:=λx=>⟨[eL tP x.j6,.fn 94 []],[]⟩) (λa H=>by kernel_rfl) (bd b93 xb5) λx=>va5 (mEq @oa0 (λr=>(Ha4 x r).run) x)
def Kd8:List (Nat×Sum):=[(93,La1)]
theorem Cd8:C6 prog G Kd8:=⟨Cb1,trivial⟩
def qb4(x:PLq):ROq:=let t1:=(oa1 ⟨rt tP x⟩);(sl (decide ((↑(List.length x):Int)>48)) (some (i 2,[])) (sl ((cnE tP x)&&true) (sl (Nat.beq t1.alt 1) (sl t1.bs0 (some (i 12,[])) (some (i 0,[]))) none) none))
def ea0(x:PLq):Int:=aa3 (one r1I) (qb4 x)
def Ia6(x:PLq):Bool:=okO (one r1I) (qb4 x)
def qb5:Sum:=ba7 (pa5 tP) (λx=>.guard (Ia6 x) (.ret ((one r1I).enc (ea0 x),[])))
theorem Ab1:l8 prog G 73 qb5:=cb9 (bd b73 Cd8) (one r1I) (o:=qb4)
def rd0:List (Nat×Sum):=[(73,qb5)]
theorem fd8:C6 prog G rd0:=⟨Ab1,trivial⟩
def Sa8(x:PLq):ROq:=let t1:=(ea0 (rt tP x));(sl (okE tP x) (sl (Ia6 (rt tP x)) (some (b (t1 != 0),[])) none) none)
def qb6(x:PLq):Bool:=aa3 (one r1B) (Sa8 x)
def qb7(x:PLq):Bool:=okO (one r1B) (Sa8 x)
def yc7:Sum:=ba7 (pa5 tP) (λx=>.guard (qb7 x) (.ret ((one r1B).enc (qb6 x),[])))
theorem rd1:l8 prog G 78 yc7:=cb9 (bd b78 fd8) (one r1B) (o:=Sa8)
end Go.Ev.Ce
namespace Go.Proofs
open Go.Shelf
set_option maxRecDepth 100000 in
def Ce.growP_ren:Go.Shelf.Ren:=⟨fun | 4=>99 | n=>n,fun | 22=>35 | 25=>66 | 3=>3 | 4=>4 | 9=>9 | 20=>20 | 0=>0 | n=>n,fun | n=>n⟩
set_option maxRecDepth 100000 in
theorem Ce.growP:Go.Proofs.Lays8.n4 Tryz.prog Ce.growP_ren:={
 mixed:=by kernel_rfl
 f4:=⟨Tryz.f99.name,by decide,Tryz.func99.trans (congrArg some (by kernel_rfl))⟩
 t0:=Tryz.underlying0
 a0:=Tryz.isAgg0
 z0:=Tryz.sizeOf0
 v0:=Tryz.zeroValue0
 t3:=Tryz.underlying3
 a3:=Tryz.isAgg3
 z3:=Tryz.sizeOf3
 v3:=Tryz.zeroValue3
 t4:=Tryz.underlying4
 a4:=Tryz.isAgg4
 z4:=Tryz.sizeOf4
 v4:=Tryz.zeroValue4
 t9:=Tryz.underlying9
 a9:=Tryz.isAgg9
 z9:=Tryz.sizeOf9
 v9:=Tryz.zeroValue9
 t20:=Tryz.underlying20
 a20:=Tryz.isAgg20
 z20:=Tryz.sizeOf20
 v20:=Tryz.zeroValue20
 t22:=Tryz.underlying35
 a22:=Tryz.isAgg35
 z22:=Tryz.sizeOf35
 v22:=Tryz.zeroValue35 }
end Go.Proofs
namespace Go.Ev.Ce
open Go Go.Ev Go.Proofs
def be9:List c7:=[i 0,i 0,i 0,i 0]
def bb6:Sum:=λargs blks=>match args,blks with
 | [.v (.slice none 0 0), .v (.int .i64 n)], [] => .ite (n == 0) (.ret (.v (.slice none 0 0), []))
   (.guard (Bool.and (decide (0<n)) (Nat.ble (n.toNat*32) room)) (.ret (.sl 0 0 0 0,[⟨66,4,List.replicate n.toNat be9,true,false,0⟩])))
 |_,_=>.fail
theorem z66:zeT Tryz.prog 66=some be9:=by kernel_rfl
theorem s66:szT Tryz.prog 66=4:=by kernel_rfl
theorem y66:byT Tryz.prog 66=32:=by kernel_rfl
theorem t25:Ce.growP_ren.t 25=66:=by kernel_rfl
theorem f4:Ce.growP_ren.f 4=99:=by kernel_rfl
set_option maxRecDepth 100000 in
theorem yc8:l8 prog G 99 bb6:=by
 intro args blks r out he W ρ F w args' hH hlen hargs hG;refine⟨⟨_,Tryz.func99,by kernel_rfl,of_decide_eq_true (by kernel_rfl)⟩,?_⟩
 unfold bb6 at he
 split at he
 case h_2=>cases he
 rename_i n
 match args',hlen with
 |[v0,v1],_ =>
 have e0:=ga8 (hargs 0 _ _ rfl rfl);have e1:=ga8 (hargs 1 _ _ rfl rfl);subst e0 e1
 rcases DT.run_ite_some he with⟨h0,he⟩|⟨h0,he⟩
 ·have h0:n=0:=by simpa using h0
  subst h0;injection he with he;injection he with q1 q2;subst q1 q2
  have:=Any8.slices_Grow_room Ce.growP none 0 0 0 w (Qaf _) (by omega) (by omega) (by omega)
  rw[f4] at this;refine this.mono λe w' ⟨h1,h2⟩=>?_
  subst h1 h2;exact⟨_,rfl,ρ,F,.refl,hH,.ofv _⟩
 ·obtain⟨hg,he⟩:=DT.run_guard_some he;rw[Qas,decide_eq_true_eq] at hg;obtain⟨hpos,hroom⟩:=hg;have hroom:=Qae hroom;unfold room at hroom;obtain⟨m,rfl⟩:=Int.eq_ofNat_of_zero_le (Int.le_of_lt hpos);have hm:0<m:=by omega
  have he:some (c7.sl 0 0 0 0,[(⟨66,4,List.replicate m be9,true,false,0⟩:c8)])=some (r,out):=he;injection he with he;injection he with q1 q2;subst q1 q2
  obtain⟨ti,zv,hi,hzz,hzr,hone⟩:=ib1 (E:=En []) z66;have hi:Tryz.prog.info? 66=some ti:=hi;have hts:ti.size=4:=by have:=s66;simp only[szT,hi] at this;exact this
  have hby:ti.bytes=32:=by have:=y66;simp only[byT,hi] at this;exact this
  have hzs:zv.cells.size=4:=by
   have:=congrArg List.length hzr
   simpa [be9] using this.symm
  have hroom':m*32<=140737488355328:=hroom
  have:=Any8.slices_Grow_grow Ce.growP ti zv (by rw[t25];exact hi) hzz (by omega) none 0 0 m [] w (Qaf _) (by omega) (by rw[hby];omega) (by omega) (by simp) (λ_=>rfl) (λa ha=>by cases ha)
  rw[f4,t25] at this;refine this.mono λe w' ⟨h1,h2⟩=>?_
  have hcap:=grownCap_ge w (0+m) 0 66;have hcap2:=grownCap_le_maxLen w (0+m) 0 66 (by unfold maxLen;omega)
  subst h1;generalize grownCap w (0+m) 0 66=G' at *
  have hsz:∀q,(Builtin.zeroCells zv.cells q).size=q*4:=λq=>by simp[Builtin.zeroCells,hzs]
  have hcc:(#[]++Builtin.zeroCells zv.cells (0+m-0)++Builtin.zeroCells zv.cells (G'-(0+m))).size=G'*4:=by
   rw[Array.size_append,Array.size_append,hsz,hsz];simp;omega
  have hobj:w'.heap[w.heap.size]?=some (.cells (#[]++Builtin.zeroCells zv.cells (0+m-0)++Builtin.zeroCells zv.cells (G'-(0+m))) 66 (0,0)):=by
   rw[h2];exact World.alloc_heap_new w.drew _
  have hold:∀k,k<w.heap.size->w'.heap[k]?=w.heap[k]?:=λk hk=>by
   rw[h2];simp only[World.alloc,Qau,World.drew];rw[if_neg (by omega)]
  have hws:w'.heap.size=w.heap.size+1:=by rw[h2];exact Array.size_push ..
  obtain⟨h6,h7⟩:=hH.newAt (w':=w') (by rw[h2];rfl) (by rw[h2];rfl) (by rw[h2];rfl) (by rw[h2];exact Nat.le_succ _) (by omega) hold w.heap.size (Qaf _) 66 4 (List.replicate m be9) _ 66 hobj
   (λj r hr=>by rw[Qbu] at hr;split at hr<;>cases hr;rfl) (by rw[Qbm,hcc];omega)
   (λj r c x hr hx=>by
    have hjm:j<m:=by
     have:=(Qab.1 hr).1
     simpa using this
    rw[Qbu,if_pos hjm] at hr;injection hr with hr;subst hr;have hc4:c<4:=(Qab.1 hx).1;rw[hzr,Qbe] at hx;have hcz:c<zv.cells.size:=by omega
    have hq:zv.cells.toList[c]?=some zv.cells[c]:=by simp[hcz]
    rw[hq] at hx;injection hx with hx;subst hx;refine⟨zv.cells[c],?_,.v _ (hone _ (by simp))⟩
    have hlt:j*4+c<m*4:=by omega
    rw[Array.append_assoc,Array.empty_append,Qdb (by rw[hsz];omega)]
    have hm4:(j*4+c) % 4=c:=by omega
    simp only[Builtin.zeroCells,hzs];rw[Array.getElem?_map,Array.getElem?_range];rw[if_pos (by omega)]
    simp[hm4,hcz])
   (λ_=>rfl)
  refine⟨_,rfl,_,F,h6,h7,.val (.cell ?_)⟩;refine .sl 0 0 0 0 _ _ { et:=66,es:=4,elems:=List.replicate m be9,own:=true,dead:=false,g:=0 } rfl rfl (Qaf _) (Qbw _) rfl hcap2 λ_=>⟨.inr ?_,?_,by simp⟩
  ·simp[ρnew]
  ·simp only[ρnew,List.length_nil,if_true];rw[hcc,Qar]
end Go.Ev.Ce
namespace Go.Ev.Ce
open Go Go.Ev Go.Ev.L Go.Proofs
set_option maxRecDepth 100000
def Ia7:List (Nat×Sum):=[(99,bb6)]
theorem fc3:C6 prog G Ia7:=⟨yc8,trivial⟩
structure ca1 where
 (H5 Ec0:LPq)
 N7:Int
structure E5 where
 (is3 D6:Int)
def db7(p:ca1)(s:E5):St:=⟨eL tLq p.H5::.unk::.unk::i s.is3::ra 5 (eL tLq p.Ec0::i p.N7::i s.D6::ra 24 []),[]⟩
def ha4{α:Type}(k:E5->α)(e:Nat->α)(z:α)(p:ca1)(s:E5):α:=let y0:=(↑(List.length (gL tLq p.Ec0 s.D6.toNat)):Int);(sl (decide (s.D6<p.N7)) (sl (inB s.D6 (List.length p.Ec0)) (sl (decide ((W (s.is3+y0))<0)) z (k ⟨W (s.is3+y0),W (s.D6+1)⟩)) z) (e 1))
def R5(p:ca1)(s:E5):Stp E5:=ha4 .next .exit .fail p s
def Fa0:Lo ca1 E5:=⟨En Ia7,0,Rf2,[1,1,0,1,4,4],[0,3,9,10,11],.p,[⟨sLq tLq::sUq::sUq::sIq::ru2 5 (sLq tLq::sIq::sIq::ru2 24 []),[],λa H=>(⟨aLq tLq a 0,aLq tLq a 9,aIq a 10⟩,⟨aIq a 3,aIq a 11⟩)⟩],R5,[(some 0,λp s=>upq (db7 p s) [(12,b (decide (s.D6<p.N7)))])],db7⟩
theorem bc0:Fa0.OkM:=Lo.okMq [] .nil λp s=>(.ofq @ha4)
structure K2 where
 pc1:LPq
 kd6:Int
structure A5 where
 ph:Nat
 zb0:Int
 ns6:Nat
 eh0:List (List c7)
def ab1(p:K2)(s:A5):St:=⟨ra 6 (nlq::ra 18 (eL tLq p.pc1::i p.kd6::i s.zb0::ra 8 [])),[]⟩
def ab2(p:K2)(s:A5):St:=⟨ra 6 (.sl 0 0 s.ns6 0::ra 18 (eL tLq p.pc1::i p.kd6::i s.zb0::ra 8 [])),[bq 66 4 s.eh0]⟩
def bc1(p:K2)(s:A5):St:=(sel (Nat.beq s.ph 1) (ab2 p s) (ab1 p s))
def P3{α:Type}(k:A5->α)(e:Nat->α)(z:α)(p:K2)(s:A5):α:=(sl (decide (s.zb0<p.kd6)) (sl (inB s.zb0 (List.length p.pc1)) (sl (Nat.beq (len (B3 (λk=>(tP).row (gL tP (gL tLq p.pc1 s.zb0.toNat) k)) (List.range (List.length (gL tLq p.pc1 s.zb0.toNat))))) 0) (k ⟨0,W (s.zb0+1),0,[]⟩) z) z) (e 1))
def P4{α:Type}(k:A5->α)(e:Nat->α)(z:α)(p:K2)(s:A5):α:=let y0:=(gL tLq p.pc1 s.zb0.toNat);let y1:=(List.range (List.length y0));(sl (decide (s.zb0<p.kd6)) (sl (inB s.zb0 (List.length p.pc1)) (sl (Nat.ble (s.ns6+(len (B3 (λk=>(tP).row (gL tP y0 k)) y1))) (len s.eh0)) (k ⟨1,W (s.zb0+1),(s.ns6+(len (B3 (λk=>(tP).row (gL tP y0 k)) y1))),(app (N0 s.eh0 s.ns6) (app (B3 (λk=>(tP).row (gL tP y0 k)) y1) (l9 s.eh0 (s.ns6+(len (B3 (λk=>(tP).row (gL tP y0 k)) y1))))))⟩) z) z) (e 2))
def M4(p:K2)(s:A5):Stp A5:=(sel (Nat.beq s.ph 1) (P4 .next .exit .fail p s) (P3 .next .exit .fail p s))
def Fa1:Lo K2 A5:=⟨En Ia7,0,Rf2,[1,1,1,1,0,1,4,4],[6,25,26,27],.p,[⟨ru2 6 (.s (.o .nil)::ru2 18 (sLq tLq::sIq::sIq::ru2 8 [])),[],λa H=>(⟨aLq tLq a 25,aIq a 26⟩,⟨0,aIq a 27,0,[]⟩)⟩,⟨ru2 6 (.s (.o (.sl 0 0 (some 0) none))::ru2 18 (sLq tLq::sIq::sIq::ru2 8 [])),[⟨66,4,true,none⟩],λa H=>(⟨aLq tLq a 25,aIq a 26⟩,⟨1,aIq a 27,slN (slT a 6),elT H 0⟩)⟩],M4,[(some 2,λp s=>upq (ab1 p s) [(28,b (decide (s.zb0<p.kd6)))]),(some 2,λp s=>upq (ab2 p s) [(28,b (decide (s.zb0<p.kd6)))])],bc1⟩
theorem bc2:Fa1.OkM:=Lo.okMq [] .nil λp s=>(.sel (Nat.beq s.ph 1) (.ofq @P4) (.ofq @P3))
structure Oa5 where
 (alt ns0:Nat)
 eh0:List (List c7)
def va2{α:Type}(kk:Oa5->α)(x:LPq):α:=let y0:=(⟨rt tLq (rt tLq x),(↑(List.length (rt tLq x)):Int)⟩:K2);let t1:=(lp (R5 (⟨rt tLq x,rt tLq x,(↑(List.length x):Int)⟩:ca1)) (⟨0,0⟩:E5));let t2:=(lp (M4 y0) (⟨0,0,0,[]⟩:A5));let t3:=(lp (M4 y0) (⟨1,0,0,List.replicate t1.2.is3.toNat be9⟩:A5));(sl ((cnE tLq x)&&((cnE tLq x)&&true)) (sl (Nat.beq t1.1 1) (sl (t1.2.is3==0) (sl ((cnE tLq (rt tLq x))&&true) (sl (Nat.beq t2.1 1) (kk ⟨1,0,[]⟩) (sl (Nat.beq t2.1 2) (kk ⟨2,t2.2.ns6,t2.2.eh0⟩) (kk ⟨0,0,[]⟩))) (kk ⟨0,0,[]⟩)) (sl (Bool.and (decide (0<t1.2.is3)) (Nat.ble (t1.2.is3.toNat*32) room)) (sl ((cnE tLq (rt tLq x))&&true) (sl (Nat.beq t3.1 1) (kk ⟨1,0,[]⟩) (sl (Nat.beq t3.1 2) (kk ⟨2,t3.2.ns6,t3.2.eh0⟩) (kk ⟨0,0,[]⟩))) (kk ⟨0,0,[]⟩)) (kk ⟨0,0,[]⟩))) (kk ⟨0,0,[]⟩)) (kk ⟨0,0,[]⟩))
def F4(x:LPq):Oa5:=va2 (λr=>r) x
def qb8(r:Oa5):DT (c7×List c8):=(Ca8 r.alt 1 (nlq,[]) (Ca8 r.alt 2 (.sl 0 0 r.ns0 0,[bq 66 4 r.eh0]) .fail))
def Oa6:Sum:=ba7 (pa5 tLq) (λx=>qb8 (F4 x))
theorem qb9:l8 prog G 79 Oa6:=Lb3 (bd b79 fc3) λx=>Bd4 (.s .p (.s .p (.s (.s .p (.b (.u Fa0.lsM))) (.s .p (.s (.s .p (.b (.u Fa1.lsM))) .p))))) [Fa0.prM,Fa1.prM] (.cons bc0 (.cons bc2 .nil)) (mEq @va2 (λr=>(qb8 r).run) x)
def De5:List (Nat×Sum):=[(79,Oa6)]
theorem pe2:C6 prog G De5:=⟨qb9,trivial⟩
def fc4(x:LPq):ROq:=let t1:=(F4 (rt tLq x));let y6:=((t1.ns0+1)+1);let y2:=(app t1.eh0 [[i 1,i 0,i 0,i 24]]);let y4:=(app y2 [[i (-1),i 0,i 0,i 24]]);let y1:=(y6+1);let y0:=(app y4 [[i 0,i 1,i 0,i 24]]);let y3:=(app y0 [[i 0,i (-1),i 0,i 24]]);let y5:=(app y3 [[i 0,i 0,i 1,i 24]]);(sl (okE tLq x) (sl (Nat.beq t1.alt 1) (some (.sl 0 0 6 0,[bq 66 4 [[i 1,i 0,i 0,i 24],[i (-1),i 0,i 0,i 24],[i 0,i 1,i 0,i 24],[i 0,i (-1),i 0,i 24],[i 0,i 0,i 1,i 24],[i 0,i 0,i (-1),i 24]]])) (sl (Nat.beq t1.alt 2) (sl (Nat.beq t1.ns0 (len t1.eh0)&&Nat.ble ((t1.ns0+1)*32) room) (sl (Nat.beq (t1.ns0+1) (len y2)&&Nat.ble (y6*32) room) (sl (Nat.beq y6 (len y4)&&Nat.ble (y1*32) room) (sl (Nat.beq y1 (len y0)&&Nat.ble ((y1+1)*32) room) (sl (Nat.beq (y1+1) (len y3)&&Nat.ble (((y1+1)+1)*32) room) (sl (Nat.beq ((y1+1)+1) (len y5)&&Nat.ble ((((y1+1)+1)+1)*32) room) (some (.sl 0 0 (((y1+1)+1)+1) 0,[bq 66 4 (app y5 [[i 0,i 0,i (-1),i 24]])])) none) none) none) none) none) none) none)) none)
def xb6(x:LPq):PLq:=aa3 (one (r1L tP)) (fc4 x)
def xb7(x:LPq):Bool:=okO (one (r1L tP)) (fc4 x)
def Hc3:Sum:=ba7 (pa5 tLq) (λx=>.guard (xb7 x) (.ret ((one (r1L tP)).enc (xb6 x),[])))
theorem Pc9:l8 prog G 64 Hc3:=cb9 (bd b64 pe2) (one (r1L tP)) (o:=fc4)
structure wa3 where
 H5:LPq
def Sa9:List (Nat×Sum):=[(78,yc7)]
theorem Lb7:C6 prog G Sa9:=⟨rd1,trivial⟩
structure S9 where
 H5:LPq
 is7:Int
def La2(p:S9)(s:D1):St:=⟨eL tLq p.H5::.fn 78 []::ra 5 (i p.is7::i s.is8::ra 10 []),[]⟩
def Y6{α:Type}(k:D1->α)(e:Nat->α)(z:α)(p:S9)(s:D1):α:=let y0:=(gL tLq p.H5 s.is8.toNat);let t1:=(qb6 (rt tP y0));(sl (decide (s.is8<p.is7)) (sl (inB s.is8 (List.length p.H5)) (sl (okE tP y0) (sl (qb7 (rt tP y0)) (sl t1 (e 1) (k ⟨W (s.is8+1)⟩)) z) z) z) (e 2))
def Q5(p:S9)(s:D1):Stp D1:=Y6 .next .exit .fail p s
def qa7:Lo S9 D1:=⟨En Sa9,0,Rf1,[1,0,1,4,4],[0,1,7,8],.p,[⟨sLq tLq::.s (.o (.fn 78))::ru2 5 (sIq::sIq::ru2 10 []),[],λa H=>(⟨aLq tLq a 0,aIq a 7⟩,⟨aIq a 8⟩)⟩],Q5,[(none,λp s=>⟨[i s.is8],[]⟩),(some 0,λp s=>upq (La2 p s) [(9,b (decide (s.is8<p.is7)))])],La2⟩
theorem Gb2:qa7.Ok:=Lo.okq [] .nil λp s=>(.ofq @Y6)
def wa5{α:Type}(kk:va7->α)(x:wa3):α:=let t1:=(lp (Q5 (⟨rt tLq x.H5,(↑(List.length x.H5):Int)⟩:S9)) (⟨0⟩:D1));(sl ((cnE tLq x.H5)&&true) (sl (Nat.beq t1.1 1) (kk ⟨1,t1.2.is8⟩) (sl (Nat.beq t1.1 2) (kk ⟨1,-1⟩) (kk ⟨0,0⟩))) (kk ⟨0,0⟩))
def wa6(x:wa3):va7:=wa5 (λr=>r) x
def Ta0(x:wa3)(r:va7):DT (c7×List c8):=(Ca8 r.alt 1 (i r.is0,[]) .fail)
def ab3:Sum:=Oa2 ⟨[sLq tLq,.s (.o (.fn 78))],[],λa H=>(⟨aLq tLq a 0⟩,())⟩ (λx=>Ta0 x (wa6 x))
theorem Rb1:l8 prog G 77 ab3:=K8 (enc:=λx=>⟨[eL tLq x.H5,.fn 78 []],[]⟩) (λa H=>by kernel_rfl) (bd b77 Lb7) λx=>da5 (.s .p (.s (.s .p (.b (.u qa7.ls))) .p)) [qa7.pr] (.cons Gb2 .nil) (mEq @wa5 (λr=>(Ta0 x r).run) x)
def Cb2:List (Nat×Sum):=[(77,ab3)]
theorem xb8:C6 prog G Cb2:=⟨Rb1,trivial⟩
def oa4{α:Type}(kk:na5->α)(x:wa3):α:=let t1:=(wa6 ⟨rt tLq x.H5⟩);(sl ((cnE tLq x.H5)&&true) (sl (Nat.beq t1.alt 1) (kk ⟨1,decide (t1.is0>=0)⟩) (kk ⟨0,false⟩)) (kk ⟨0,false⟩))
def oa5(x:wa3):na5:=oa4 (λr=>r) x
def Ha5(x:wa3)(r:na5):DT (c7×List c8):=(Ca8 r.alt 1 (b r.bs0,[]) .fail)
def La3:Sum:=Oa2 ⟨[sLq tLq,.s (.o (.fn 78))],[],λa H=>(⟨aLq tLq a 0⟩,())⟩ (λx=>Ha5 x (oa5 x))
theorem Cb3:l8 prog G 61 La3:=K8 (enc:=λx=>⟨[eL tLq x.H5,.fn 78 []],[]⟩) (λa H=>by kernel_rfl) (bd b61 xb8) λx=>va5 (mEq @oa4 (λr=>(Ha5 x r).run) x)
def Kd9:List (Nat×Sum):=[(61,La3)]
theorem Cd9:C6 prog G Kd9:=⟨Cb3,trivial⟩
def rb0(x:LPq):ROq:=let t1:=(oa5 ⟨rt tLq x⟩);(sl ((cnE tLq x)&&true) (sl (Nat.beq t1.alt 1) (some (b (!t1.bs0),[])) none) none)
def Ia8(x:LPq):Bool:=aa3 (one r1B) (rb0 x)
def Ia9(x:LPq):Bool:=okO (one r1B) (rb0 x)
def Lb8:Sum:=ba7 (pa5 tLq) (λx=>.guard (Ia9 x) (.ret ((one r1B).enc (Ia8 x),[])))
theorem bc3:l8 prog G 63 Lb8:=cb9 (bd b63 Cd9) (one r1B) (o:=rb0)
def fc5:List (Nat×Sum):=[(85,Xb9)]
theorem bc4:C6 prog G fc5:=⟨lc0,trivial⟩
def rb1{α:Type}(kk:gb0->α)(x:Fb8):α:=let t1:=(Ha2 (⟨(⟨x.G3,x.j5,x.G4⟩:V3),x.C3⟩:Pln) (⟨x.Dc6,x.Dc7,x.Dc8,x.Dc9⟩:Pt));(kk ⟨decide (t1>0)⟩)
def Ja1(x:Fb8):gb0:=rb1 (λr=>r) x
def jb7(x:Fb8)(r:gb0):DT (c7×List c8):=.ret (b r.bs0,[bq 0 4 [[i x.G3,i x.j5,i x.G4,i x.C3]]])
def rb2:Sum:=Oa2 ⟨[.agg (kLq 4),sPq 0],[⟨0,4,true,some [kLq 4]⟩],λa H=>(⟨cIq a 0 0,cIq a 0 1,cIq a 0 2,cIq a 0 3,hIq H 0 0 0,hIq H 0 0 1,hIq H 0 0 2,hIq H 0 0 3⟩,())⟩ (λx=>jb7 x (Ja1 x))
theorem fc6:l8 prog G 84 rb2:=K8 (enc:=λx=>⟨[.agg [i x.Dc6,i x.Dc7,i x.Dc8,i x.Dc9],.ptr 0 0 0 0],[bq 0 4 [[i x.G3,i x.j5,i x.G4,i x.C3]]]⟩) (λa H=>by kernel_rfl) (bd b84 bc4) λx=>va5 (mEq @rb1 (λr=>(jb7 x r).run) x)
structure Ba0 where
 mb2:List Pt
 (G3 j5 G4 C3:Int)
def ab4:List (Nat×Sum):=[(84,rb2)]
theorem Rb2:C6 prog G ab4:=⟨fc6,trivial⟩
structure V2 where
 mb2:List Pt
 (is7 G3 j5 G4 C3:Int)
def Pa9(p:V2)(s:D1):St:=⟨eL tX p.mb2::.fn 84 [.ptr 0 0 0 0]::ra 5 (i p.is7::i s.is8::ra 10 []),[bq 0 4 [[i p.G3,i p.j5,i p.G4,i p.C3]]]⟩
def aa6{α:Type}(k:D1->α)(e:Nat->α)(z:α)(p:V2)(s:D1):α:=let y0:=(gL tX p.mb2 s.is8.toNat);let t1:=(Ja1 ⟨y0.px,y0.py,y0.pz,y0.pw,p.G3,p.j5,p.G4,p.C3⟩);(sl (decide (s.is8<p.is7)) (sl (inB s.is8 (List.length p.mb2)) (sl t1.bs0 (e 1) (k ⟨W (s.is8+1)⟩)) z) (e 2))
def T0(p:V2)(s:D1):Stp D1:=aa6 .next .exit .fail p s
def ta3:Lo V2 D1:=⟨En ab4,1,If8,[1,0,1,4,4],[0,1,7,8],.p,[⟨sLq tX::.fn 84 [.o (.ptr 0 0 0 0)]::ru2 5 (sIq::sIq::ru2 10 []),[⟨0,4,true,some [kLq 4]⟩],λa H=>(⟨aLq tX a 0,aIq a 7,hIq H 0 0 0,hIq H 0 0 1,hIq H 0 0 2,hIq H 0 0 3⟩,⟨aIq a 8⟩)⟩],T0,[(none,λp s=>⟨[i s.is8],[bq 0 4 [[i p.G3,i p.j5,i p.G4,i p.C3]]]⟩),(some 0,λp s=>upq (Pa9 p s) [(9,b (decide (s.is8<p.is7)))])],Pa9⟩
theorem Lb9:ta3.Ok:=Lo.okq [] .nil λp s=>(.ofq @aa6)
def Ba2{α:Type}(kk:va7->α)(x:Ba0):α:=let t1:=(lp (T0 (⟨rt tX x.mb2,(↑(List.length x.mb2):Int),x.G3,x.j5,x.G4,x.C3⟩:V2)) (⟨0⟩:D1));(sl ((cnE tX x.mb2)&&true) (sl (Nat.beq t1.1 1) (kk ⟨1,t1.2.is8⟩) (sl (Nat.beq t1.1 2) (kk ⟨1,-1⟩) (kk ⟨0,0⟩))) (kk ⟨0,0⟩))
def Ba3(x:Ba0):va7:=Ba2 (λr=>r) x
def ab5(x:Ba0)(r:va7):DT (c7×List c8):=(Ca8 r.alt 1 (i r.is0,[bq 0 4 [[i x.G3,i x.j5,i x.G4,i x.C3]]]) .fail)
def db8:Sum:=Oa2 ⟨[sLq tX,.fn 84 [.o (.ptr 0 0 0 0)]],[⟨0,4,true,some [kLq 4]⟩],λa H=>(⟨aLq tX a 0,hIq H 0 0 0,hIq H 0 0 1,hIq H 0 0 2,hIq H 0 0 3⟩,())⟩ (λx=>ab5 x (Ba3 x))
theorem Ub4:l8 prog G 104 db8:=K8 (enc:=λx=>⟨[eL tX x.mb2,.fn 84 [.ptr 0 0 0 0]],[bq 0 4 [[i x.G3,i x.j5,i x.G4,i x.C3]]]⟩) (λa H=>by kernel_rfl) (bd mg7 Rb2) λx=>da5 (.s .p (.s (.s .p (.b (.u ta3.ls))) .p)) [ta3.pr] (.cons Lb9 .nil) (mEq @Ba2 (λr=>(ab5 x r).run) x)
def Gb3:List (Nat×Sum):=[(104,db8)]
theorem Cb4:C6 prog G Gb3:=⟨Ub4,trivial⟩
def ra1{α:Type}(kk:na5->α)(x:Ba0):α:=let t1:=(Ba3 ⟨rt tX x.mb2,x.G3,x.j5,x.G4,x.C3⟩);(sl ((cnE tX x.mb2)&&true) (sl (Nat.beq t1.alt 1) (kk ⟨1,decide (t1.is0>=0)⟩) (kk ⟨0,false⟩)) (kk ⟨0,false⟩))
def ra2(x:Ba0):na5:=ra1 (λr=>r) x
def La4(x:Ba0)(r:na5):DT (c7×List c8):=(Ca8 r.alt 1 (b r.bs0,[bq 0 4 [[i x.G3,i x.j5,i x.G4,i x.C3]]]) .fail)
def Qa0:Sum:=Oa2 ⟨[sLq tX,.fn 84 [.o (.ptr 0 0 0 0)]],[⟨0,4,true,some [kLq 4]⟩],λa H=>(⟨aLq tX a 0,hIq H 0 0 0,hIq H 0 0 1,hIq H 0 0 2,hIq H 0 0 3⟩,())⟩ (λx=>La4 x (ra2 x))
theorem Gb4:l8 prog G 83 Qa0:=K8 (enc:=λx=>⟨[eL tX x.mb2,.fn 84 [.ptr 0 0 0 0]],[bq 0 4 [[i x.G3,i x.j5,i x.G4,i x.C3]]]⟩) (λa H=>by kernel_rfl) (bd b83 Cb4) λx=>va5 (mEq @ra1 (λr=>(La4 x r).run) x)
structure Ta1 where
 (Dc6 Dc7 Dc8 Dc9:Int)
 m8:List Pt
def sc9:List (Nat×Sum):=[(83,Qa0)]
theorem lc6:C6 prog G sc9:=⟨Gb4,trivial⟩
def Ta2{α:Type}(kk:na5->α)(x:Ta1):α:=let t1:=(ra2 ⟨rt tX x.m8,x.Dc6,x.Dc7,x.Dc8,x.Dc9⟩);(sl ((cnE tX x.m8)&&true) (sl (Nat.beq t1.alt 1) (kk ⟨1,!t1.bs0⟩) (kk ⟨0,false⟩)) (kk ⟨0,false⟩))
def za7(x:Ta1):na5:=Ta2 (λr=>r) x
def ub9(x:Ta1)(r:na5):DT (c7×List c8):=(Ca8 r.alt 1 (b r.bs0,[bq 0 1 [[eL tX x.m8]]]) .fail)
def Cb5:Sum:=Oa2 ⟨[.agg (kLq 4),sPq 0],[⟨0,1,true,some [[.c 4 (nL tX)]]⟩],λa H=>(⟨cIq a 0 0,cIq a 0 1,cIq a 0 2,cIq a 0 3,hLq tX H 0 0 0⟩,())⟩ (λx=>ub9 x (za7 x))
theorem tc0:l8 prog G 82 Cb5:=K8 (enc:=λx=>⟨[.agg [i x.Dc6,i x.Dc7,i x.Dc8,i x.Dc9],.ptr 0 0 0 0],[bq 0 1 [[eL tX x.m8]]]⟩) (λa H=>by kernel_rfl) (bd b82 lc6) λx=>va5 (mEq @Ta2 (λr=>(ub9 x r).run) x)
structure wa7 where
 j6:PLq
 m8:List Pt
def Ta3:List (Nat×Sum):=[(82,Cb5)]
theorem Mb0:C6 prog G Ta3:=⟨tc0,trivial⟩
structure D4 where
 is8:Int
 m8:List Pt
def La5(p:S8)(s:D4):St:=⟨eL tP p.j6::.fn 82 [.ptr 0 0 0 0]::ra 5 (i p.is7::i s.is8::ra 10 []),[bq 0 1 [[eL tX s.m8]]]⟩
def Y7{α:Type}(k:D4->α)(e:Nat->α)(z:α)(p:S8)(s:D4):α:=let y0:=(gL tP p.j6 s.is8.toNat);let t1:=(za7 ⟨y0.n.x,y0.n.y,y0.n.z,y0.b,rt tX s.m8⟩);(sl (decide (s.is8<p.is7)) (sl (inB s.is8 (List.length p.j6)) (sl ((cnE tX s.m8)&&true) (sl (Nat.beq t1.alt 1) (sl t1.bs0 (e 1) (k ⟨W (s.is8+1),rt tX s.m8⟩)) z) z) z) (e 2))
def Q6(p:S8)(s:D4):Stp D4:=Y7 .next .exit .fail p s
def ra3:Lo S8 D4:=⟨En Ta3,1,If7,[1,0,1,4,4],[0,1,7,8],.p,[⟨sLq tP::.fn 82 [.o (.ptr 0 0 0 0)]::ru2 5 (sIq::sIq::ru2 10 []),[⟨0,1,true,some [[.c 4 (nL tX)]]⟩],λa H=>(⟨aLq tP a 0,aIq a 7⟩,⟨aIq a 8,hLq tX H 0 0 0⟩)⟩],Q6,[(none,λp s=>⟨[i s.is8],[bq 0 1 [[eL tX (rt tX s.m8)]]]⟩),(some 0,λp s=>upq (La5 p s) [(9,b (decide (s.is8<p.is7)))])],La5⟩
theorem Gb5:ra3.Ok:=Lo.okq [] .nil λp s=>(.ofq @Y7)
structure wa8 where
 alt:Nat
 is0:Int
 m8:List Pt
def wa9{α:Type}(kk:wa8->α)(x:wa7):α:=let t1:=(lp (Q6 (⟨rt tP x.j6,(↑(List.length x.j6):Int)⟩:S8)) (⟨0,rt tX x.m8⟩:D4));(sl ((cnE tP x.j6)&&((cnE tX x.m8)&&true)) (sl (Nat.beq t1.1 1) (kk ⟨1,t1.2.is8,rt tX t1.2.m8⟩) (sl (Nat.beq t1.1 2) (kk ⟨1,-1,t1.2.m8⟩) (kk ⟨0,0,[]⟩))) (kk ⟨0,0,[]⟩))
def xa0(x:wa7):wa8:=wa9 (λr=>r) x
def Ta4(x:wa7)(r:wa8):DT (c7×List c8):=(Ca8 r.alt 1 (i r.is0,[bq 0 1 [[eL tX r.m8]]]) .fail)
def ab6:Sum:=Oa2 ⟨[sLq tP,.fn 82 [.o (.ptr 0 0 0 0)]],[⟨0,1,true,some [[.c 4 (nL tX)]]⟩],λa H=>(⟨aLq tP a 0,hLq tX H 0 0 0⟩,())⟩ (λx=>Ta4 x (xa0 x))
theorem Rb3:l8 prog G 103 ab6:=K8 (enc:=λx=>⟨[eL tP x.j6,.fn 82 [.ptr 0 0 0 0]],[bq 0 1 [[eL tX x.m8]]]⟩) (λa H=>by kernel_rfl) (bd mg6 Mb0) λx=>da5 (.s .p (.s (.s .p (.b (.u ra3.ls))) .p)) [ra3.pr] (.cons Gb5 .nil) (mEq @wa9 (λr=>(Ta4 x r).run) x)
def Cb6:List (Nat×Sum):=[(103,ab6)]
theorem xb9:C6 prog G Cb6:=⟨Rb3,trivial⟩
structure oa7 where
 alt:Nat
 bs0:Bool
 m8:List Pt
def oa8{α:Type}(kk:oa7->α)(x:wa7):α:=let t1:=(xa0 ⟨rt tP x.j6,rt tX x.m8⟩);(sl ((cnE tP x.j6)&&((cnE tX x.m8)&&true)) (sl (Nat.beq t1.alt 1) (kk ⟨1,decide (t1.is0>=0),t1.m8⟩) (kk ⟨0,false,[]⟩)) (kk ⟨0,false,[]⟩))
def oa9(x:wa7):oa7:=oa8 (λr=>r) x
def Ha6(x:wa7)(r:oa7):DT (c7×List c8):=(Ca8 r.alt 1 (b r.bs0,[bq 0 1 [[eL tX r.m8]]]) .fail)
def La6:Sum:=Oa2 ⟨[sLq tP,.fn 82 [.o (.ptr 0 0 0 0)]],[⟨0,1,true,some [[.c 4 (nL tX)]]⟩],λa H=>(⟨aLq tP a 0,hLq tX H 0 0 0⟩,())⟩ (λx=>Ha6 x (oa9 x))
theorem Cb7:l8 prog G 81 La6:=K8 (enc:=λx=>⟨[eL tP x.j6,.fn 82 [.ptr 0 0 0 0]],[bq 0 1 [[eL tX x.m8]]]⟩) (λa H=>by kernel_rfl) (bd b81 xb9) λx=>va5 (mEq @oa8 (λr=>(Ha6 x r).run) x)
def Ic8:List (Nat×Sum):=[(80,Oa4),(81,La6)]
theorem yc9:C6 prog G Ic8:=⟨pb9,Cb7,trivial⟩
def ta4(x:PLq):ROq:=let t1:=(ha8 (rt tP x));let t2:=(oa9 ⟨rt tP x,rt tX t1⟩);(sl (okE tP x) (sl (ha9 (rt tP x)) (sl ((cnE tP x)&&((cnE tX t1)&&true)) (sl (Nat.beq t2.alt 1) (some (b (!t2.bs0),[])) none) none) none) none)
def ta5(x:PLq):Bool:=aa3 (one r1B) (ta4 x)
def ta6(x:PLq):Bool:=okO (one r1B) (ta4 x)
def ib5:Sum:=ba7 (pa5 tP) (λx=>.guard (ta6 x) (.ret ((one r1B).enc (ta5 x),[])))
theorem Jb5:l8 prog G 65 ib5:=cb9 (bd b65 yc9) (one r1B) (o:=ta4)
def Dd0:List (Nat×Sum):=[(63,Lb8),(64,Hc3),(80,Oa4)]
theorem rd2:C6 prog G Dd0:=⟨bc3,Pc9,pb9,trivial⟩
def db9(x:PLq):ROq:=let t1:=(Ia8 [rt tP x]);let t2:=(xb6 [rt tP x]);let t3:=(ha8 (rt tP t2));(sl ((okE tP x)&&true) (sl (Ia9 [rt tP x]) (sl (!t1) (some (nlq,[])) (sl ((okE tP x)&&true) (sl (xb7 [rt tP x]) (sl (okE tP t2) (sl (ha9 (rt tP t2)) (some (eL tX t3,[])) none) none) none) none)) none) none)
def Na7(x:PLq):List Pt:=aa3 (one (r1L tX)) (db9 x)
def Na8(x:PLq):Bool:=okO (one (r1L tX)) (db9 x)
def Ab2:Sum:=ba7 (pa5 tP) (λx=>.guard (Na8 x) (.ret ((one (r1L tX)).enc (Na7 x),[])))
theorem Rb4:l8 prog G 106 Ab2:=cb9 (bd mg9 rd2) (one (r1L tX)) (o:=db9)
def ce0:List (Nat×Sum):=[(63,Lb8),(64,Hc3),(65,ib5)]
theorem Ld0:C6 prog G ce0:=⟨bc3,Pc9,Jb5,trivial⟩
def Cb8(x:PLq):ROq:=let t1:=(Ia8 [rt tP x]);let t2:=(xb6 [rt tP x]);let t3:=(ta5 (rt tP t2));(sl ((okE tP x)&&true) (sl (Ia9 [rt tP x]) (sl t1 (sl ((okE tP x)&&true) (sl (xb7 [rt tP x]) (sl (okE tP t2) (sl (ta6 (rt tP t2)) (some (b t3,[])) none) none) none) none) (some (b false,[]))) none) none)
def za8(x:PLq):Bool:=aa3 (one r1B) (Cb8 x)
def za9(x:PLq):Bool:=okO (one r1B) (Cb8 x)
def Ta5:Sum:=ba7 (pa5 tP) (λx=>.guard (za9 x) (.ret ((one r1B).enc (za8 x),[])))
theorem Ya3:l8 prog G 39 Ta5:=cb9 (bd b39 Ld0) (one r1B) (o:=Cb8)
def zc0:List (Nat×Sum):=[(85,Xb9)]
theorem rd3:C6 prog G zc0:=⟨lc0,trivial⟩
structure La7 where
 tf7:List Pt
 is8:Int
 m8:List Pt
 (Ja8 Ja9 Ka0 Ka1:Int)
structure aa7 where
 (is4 is9:Int)
def fc7(p:La7)(s:aa7):St:=⟨.unk::.unk::.ptr 1 0 0 0::.unk::i s.is4::.unk::.unk::eL tX p.tf7::i p.is8::i s.is9::ra 12 [],[bq 0 1 [[eL tX p.m8]],bq 0 4 [[i p.Ja8,i p.Ja9,i p.Ka0,i p.Ka1]]]⟩
def Qa1{α:Type}(k:aa7->α)(e:Nat->α)(z:α)(p:La7)(s:aa7):α:=let t1:=(Ha2 (⟨(⟨p.Ja8,p.Ja9,p.Ka0⟩:V3),p.Ka1⟩:Pln) (gL tX p.tf7 s.is9.toNat));(sl (decide (s.is9<p.is8)) (sl (inB s.is9 (List.length p.tf7)) (sl (t1==0) (k ⟨W (s.is4+1),W (s.is9+1)⟩) (k ⟨s.is4,W (s.is9+1)⟩)) z) (e 1))
def Fa2(p:La7)(s:aa7):Stp aa7:=Qa1 .next .exit .fail p s
def Gb6:Lo La7 aa7:=⟨En zc0,1,Jf0,[1,1,0,1,4,4],[2,4,7,8,9],.p,[⟨sUq::sUq::sPq 1::sUq::sIq::sUq::sUq::sLq tX::sIq::sIq::ru2 12 [],[⟨0,1,true,some [[.c 4 (nL tX)]]⟩,⟨0,4,true,some [kLq 4]⟩],λa H=>(⟨aLq tX a 7,aIq a 8,hLq tX H 0 0 0,hIq H 1 0 0,hIq H 1 0 1,hIq H 1 0 2,hIq H 1 0 3⟩,⟨aIq a 4,aIq a 9⟩)⟩],Fa2,[(some 0,λp s=>upq (fc7 p s) [(10,b (decide (s.is9<p.is8)))])],fc7⟩
theorem fd9:Gb6.Ok:=Lo.okq [] .nil λp s=>(.ofq @Qa1)
def bc6{α:Type}(kk:oa7->α)(x:Ta1):α:=let y0:=(rt tX x.m8);let t1:=(lp (Fa2 (⟨y0,(↑(List.length x.m8):Int),y0,x.Dc6,x.Dc7,x.Dc8,x.Dc9⟩:La7)) (⟨0,0⟩:aa7));(sl ((cnE tX x.m8)&&((cnE tX x.m8)&&true)) (sl (Nat.beq t1.1 1) (kk ⟨1,decide (t1.2.is4<3),y0⟩) (kk ⟨0,false,[]⟩)) (kk ⟨0,false,[]⟩))
def Ba4(x:Ta1):oa7:=bc6 (λr=>r) x
def zc1(x:Ta1)(r:oa7):DT (c7×List c8):=(Ca8 r.alt 1 (b r.bs0,[bq 0 1 [[eL tX r.m8]]]) .fail)
def bc7:Sum:=Oa2 ⟨[.agg (kLq 4),sPq 0],[⟨0,1,true,some [[.c 4 (nL tX)]]⟩],λa H=>(⟨cIq a 0 0,cIq a 0 1,cIq a 0 2,cIq a 0 3,hLq tX H 0 0 0⟩,())⟩ (λx=>zc1 x (Ba4 x))
theorem zc2:l8 prog G 108 bc7:=K8 (enc:=λx=>⟨[.agg [i x.Dc6,i x.Dc7,i x.Dc8,i x.Dc9],.ptr 0 0 0 0],[bq 0 1 [[eL tX x.m8]]]⟩) (λa H=>by kernel_rfl) (bd ng0 rd3) λx=>da5 (.s .p (.s .p (.s (.s .p (.b (.u Gb6.ls))) .p))) [Gb6.pr] (.cons fd9 .nil) (mEq @bc6 (λr=>(zc1 x r).run) x)
structure xa1 where
 ns0:Nat
 eh0:List (List c7)
 K4:List Pt
def Ta6:List (Nat×Sum):=[(108,bc7)]
theorem Mb1:C6 prog G Ta6:=⟨zc2,trivial⟩
structure T2 where
 ns0:Nat
 is7:Int
 eh0:List (List c7)
structure D5 where
 is8:Int
 K4:List Pt
def La8(p:T2)(s:D5):St:=⟨.sl 0 0 p.ns0 0::.fn 108 [.ptr 1 0 0 0]::ra 5 (i p.is7::i s.is8::ra 10 []),[bq 66 4 p.eh0,bq 0 1 [[eL tX s.K4]]]⟩
def Y8{α:Type}(k:D5->α)(e:Nat->α)(z:α)(p:T2)(s:D5):α:=let y0:=(rdR tP p.eh0 (0+s.is8.toNat));let t1:=(Ba4 ⟨y0.n.x,y0.n.y,y0.n.z,y0.b,rt tX s.K4⟩);(sl (decide (s.is8<p.is7)) (sl (inB s.is8 p.ns0) (sl (ldR tP p.eh0 (0+s.is8.toNat)) (sl ((cnE tX s.K4)&&true) (sl (Nat.beq t1.alt 1) (sl t1.bs0 (e 1) (k ⟨W (s.is8+1),t1.m8⟩)) z) z) z) z) (e 2))
def Q7(p:T2)(s:D5):Stp D5:=Y8 .next .exit .fail p s
def ra4:Lo T2 D5:=⟨En Ta6,2,oe1,[1,0,1,4,4],[0,1,7,8],.p,[⟨.s (.o (.sl 0 0 (some 0) none))::.fn 108 [.o (.ptr 1 0 0 0)]::ru2 5 (sIq::sIq::ru2 10 []),[⟨66,4,true,none⟩,⟨0,1,true,some [[.c 4 (nL tX)]]⟩],λa H=>(⟨slN (slT a 0),aIq a 7,elT H 0⟩,⟨aIq a 8,hLq tX H 1 0 0⟩)⟩],Q7,[(none,λp s=>let t1:=(Ba4 ⟨(rdR tP p.eh0 (0+s.is8.toNat)).n.x,(rdR tP p.eh0 (0+s.is8.toNat)).n.y,(rdR tP p.eh0 (0+s.is8.toNat)).n.z,(rdR tP p.eh0 (0+s.is8.toNat)).b,rt tX s.K4⟩);⟨[i s.is8],[bq 66 4 p.eh0,bq 0 1 [[eL tX t1.m8]]]⟩),(some 0,λp s=>upq (La8 p s) [(9,b (decide (s.is8<p.is7)))])],La8⟩
theorem Gb7:ra4.Ok:=Lo.okq [] .nil λp s=>(.ofq @Y8)
structure xa2 where
 alt:Nat
 is0:Int
 K4:List Pt
def xa3{α:Type}(kk:xa2->α)(x:xa1):α:=let t1:=(lp (Q7 (⟨x.ns0,(↑x.ns0:Int),x.eh0⟩:T2)) (⟨0,rt tX x.K4⟩:D5));let y0:=(rdR tP x.eh0 (0+t1.2.is8.toNat));let t2:=(Ba4 ⟨y0.n.x,y0.n.y,y0.n.z,y0.b,rt tX t1.2.K4⟩);(sl ((cnE tX x.K4)&&true) (sl (Nat.beq t1.1 1) (kk ⟨1,t1.2.is8,t2.m8⟩) (sl (Nat.beq t1.1 2) (kk ⟨1,-1,t1.2.K4⟩) (kk ⟨0,0,[]⟩))) (kk ⟨0,0,[]⟩))
def ha5(x:xa1):xa2:=xa3 (λr=>r) x
def Ta7(x:xa1)(r:xa2):DT (c7×List c8):=(Ca8 r.alt 1 (i r.is0,[bq 66 4 x.eh0,bq 0 1 [[eL tX r.K4]]]) .fail)
def ab7:Sum:=Oa2 ⟨[.s (.o (.sl 0 0 (some 0) none)),.fn 108 [.o (.ptr 1 0 0 0)]],[⟨66,4,true,none⟩,⟨0,1,true,some [[.c 4 (nL tX)]]⟩],λa H=>(⟨slN (slT a 0),elT H 0,hLq tX H 1 0 0⟩,())⟩ (λx=>Ta7 x (ha5 x))
theorem Rb5:l8 prog G 118 ab7:=K8 (enc:=λx=>⟨[.sl 0 0 x.ns0 0,.fn 108 [.ptr 1 0 0 0]],[bq 66 4 x.eh0,bq 0 1 [[eL tX x.K4]]]⟩) (λa H=>by kernel_rfl) (bd Af8 Mb1) λx=>da5 (.s .p (.s (.s .p (.b (.u ra4.ls))) .p)) [ra4.pr] (.cons Gb7 .nil) (mEq @xa3 (λr=>(Ta7 x r).run) x)
def Ta8:List (Nat×Sum):=[(118,ab7),(108,bc7)]
theorem Mb2:C6 prog G Ta8:=⟨Rb5,zc2,trivial⟩
structure T3 where
 ns0:Nat
structure F5 where
 (is5 is6:Int)
 eh0:List (List c7)
 K4:List Pt
def La9(p:T3)(s:F5):St:=⟨.sl 0 0 p.ns0 0::.fn 108 [.ptr 1 0 0 0]::ra 3 (i s.is5::i s.is6::ra 35 []),[bq 66 4 s.eh0,bq 0 1 [[eL tX s.K4]]]⟩
def Y9{α:Type}(k:F5->α)(e:Nat->α)(z:α)(p:T3)(s:F5):α:=let y0:=(rdR tP s.eh0 (0+s.is6.toNat));let t1:=(Ba4 ⟨y0.n.x,y0.n.y,y0.n.z,y0.b,rt tX s.K4⟩);(sl (decide (s.is6<(↑p.ns0:Int))) (sl (inB s.is6 p.ns0) (sl (ldR tP s.eh0 (0+s.is6.toNat)) (sl ((cnE tX s.K4)&&true) (sl (Nat.beq t1.alt 1) (sl (!t1.bs0) (sl (inB s.is5 p.ns0) (sl ((Nat.blt (0+s.is5.toNat) (len s.eh0))&&(Nat.ble (0+4) (len (g8 s.eh0 (0+s.is5.toNat))))) (k ⟨W (s.is5+1),W (s.is6+1),setAt s.eh0 (0+s.is5.toNat) (V6 (g8 s.eh0 (0+s.is5.toNat)) 0 [i y0.n.x,i y0.n.y,i y0.n.z,i y0.b]),t1.m8⟩) z) z) (k ⟨s.is5,W (s.is6+1),s.eh0,t1.m8⟩)) z) z) z) z) (e 1))
def L5(p:T3)(s:F5):Stp F5:=Y9 .next .exit .fail p s
def ra5:Lo T3 F5:=⟨En Ta8,2,If9,[1,1,1,0,1,4,4],[0,1,5,6],.p,[⟨.s (.o (.sl 0 0 (some 0) none))::.fn 108 [.o (.ptr 1 0 0 0)]::ru2 3 (sIq::sIq::ru2 35 []),[⟨66,4,true,none⟩,⟨0,1,true,some [[.c 4 (nL tX)]]⟩],λa H=>(⟨slN (slT a 0)⟩,⟨aIq a 5,aIq a 6,elT H 0,hLq tX H 1 0 0⟩)⟩],L5,[(some 0,λp s=>upq (La9 p s) [(16,i s.is6),(17,.sl 0 0 p.ns0 0),(18,i (↑p.ns0:Int)),(19,b (decide (s.is6<(↑p.ns0:Int))))])],La9⟩
theorem Gb8:ra5.Ok:=Lo.okq [] .nil λp s=>(.ofq @Y9)
structure xa5 where
 (alt ns0:Nat)
 eh0:List (List c7)
 K4:List Pt
def xa6{α:Type}(kk:xa5->α)(x:xa1):α:=let t1:=(ha5 ⟨x.ns0,x.eh0,rt tX x.K4⟩);let t2:=(lp (L5 (⟨x.ns0⟩:T3)) (⟨t1.is0,W (t1.is0+1),x.eh0,rt tX t1.K4⟩:F5));(sl ((cnE tX x.K4)&&true) (sl (Nat.beq t1.alt 1) (sl (t1.is0==(-1)) (kk ⟨1,x.ns0,x.eh0,t1.K4⟩) (sl ((cnE tX t1.K4)&&true) (sl (Nat.beq t2.1 1) (sl (inB t2.2.is5 (x.ns0+1)) (sl (inB t2.2.is5 (x.ns0+1)) (kk ⟨1,t2.2.is5.toNat-0,app (N0 t2.2.eh0 (0+t2.2.is5.toNat)) (app (List.replicate (x.ns0-t2.2.is5.toNat) [i 0,i 0,i 0,i 0]) (l9 t2.2.eh0 ((0+t2.2.is5.toNat)+(x.ns0-t2.2.is5.toNat)))),t2.2.K4⟩) (kk ⟨0,0,[],[]⟩)) (kk ⟨0,0,[],[]⟩)) (kk ⟨0,0,[],[]⟩)) (kk ⟨0,0,[],[]⟩))) (kk ⟨0,0,[],[]⟩)) (kk ⟨0,0,[],[]⟩))
def P5(x:xa1):xa5:=xa6 (λr=>r) x
def Ta9(x:xa1)(r:xa5):DT (c7×List c8):=(Ca8 r.alt 1 (.sl 0 0 r.ns0 0,[bq 66 4 r.eh0,bq 0 1 [[eL tX r.K4]]]) .fail)
def xa7:Sum:=Oa2 ⟨[.s (.o (.sl 0 0 (some 0) none)),.fn 108 [.o (.ptr 1 0 0 0)]],[⟨66,4,true,none⟩,⟨0,1,true,some [[.c 4 (nL tX)]]⟩],λa H=>(⟨slN (slT a 0),elT H 0,hLq tX H 1 0 0⟩,())⟩ (λx=>Ta9 x (P5 x))
theorem Ua0:l8 prog G 107 xa7:=K8 (enc:=λx=>⟨[.sl 0 0 x.ns0 0,.fn 108 [.ptr 1 0 0 0]],[bq 66 4 x.eh0,bq 0 1 [[eL tX x.K4]]]⟩) (λa H=>by kernel_rfl) (bd cg9 Mb2) λx=>da5 (.s .p (.s .p (.s .p (.s (.s .p (.b (.u ra5.ls))) .p)))) [ra5.pr] (.cons Gb8 .nil) (mEq @xa6 (λr=>(Ta9 x r).run) x)
structure Ja2 where
 ns0:Nat
 eh0:List (List c7)
structure M5 where
 (ns0 os4 ns4:Nat)
structure D8 where
 (is3 is5:Int)
 eh0:List (List c7)
def ab8(p:M5)(s:D8):St:=⟨.sl 0 0 p.ns0 0::.unk::.unk::i s.is3::.sl 0 p.os4 p.ns4 0::i s.is5::ra 55 [],[bq 66 4 s.eh0]⟩
def ea1{α:Type}(k:D8->α)(e:Nat->α)(z:α)(p:M5)(s:D8):α:=let y2:=(p.os4+s.is5.toNat);let y1:=(rdR tP s.eh0 (p.os4+(W (s.is5-1)).toNat));let y0:=(rdR tP s.eh0 y2);(sl (decide (s.is5<(↑p.ns4:Int))) (sl (inB s.is5 p.ns4) (sl (ldR tP s.eh0 y2) (sl (inB (W (s.is5-1)) p.ns4) (sl (ldR tP s.eh0 (p.os4+(W (s.is5-1)).toNat)) (sl (!((y0.n.x==y1.n.x)&&((y0.n.y==y1.n.y)&&((y0.n.z==y1.n.z)&&((y0.b==y1.b)&&true))))) (sl (inB s.is5 p.ns4) (sl (ldR tP s.eh0 y2) (sl (inB s.is3 p.ns0) (sl ((Nat.blt (0+s.is3.toNat) (len s.eh0))&&(Nat.ble (0+4) (len (g8 s.eh0 (0+s.is3.toNat))))) (k ⟨W (s.is3+1),W (s.is5+1),setAt s.eh0 (0+s.is3.toNat) (V6 (g8 s.eh0 (0+s.is3.toNat)) 0 [i y0.n.x,i y0.n.y,i y0.n.z,i y0.b])⟩) z) z) z) z) (k ⟨s.is3,W (s.is5+1),s.eh0⟩)) z) z) z) z) (e 1))
def E6(p:M5)(s:D8):Stp D8:=ea1 .next .exit .fail p s
def Ba5:Lo M5 D8:=⟨En tbN,1,if9,[1,1,0,1,4,4,1,0,4,1,2,1,0,1,4,4],[0,3,4,5],.p,[⟨.s (.o (.sl 0 0 (some 0) none))::sUq::sUq::sIq::.s (.o (.sl 0 0 none none))::sIq::ru2 55 [],[⟨66,4,true,none⟩],λa H=>(⟨slN (slT a 0),slO (slT a 4),slN (slT a 4)⟩,⟨aIq a 3,aIq a 5,elT H 0⟩)⟩],E6,[(some 2,λp s=>upq (ab8 p s) [(29,i s.is5),(30,.sl 0 p.os4 p.ns4 0),(31,i (↑p.ns4:Int)),(32,b (decide (s.is5<(↑p.ns4:Int))))])],ab8⟩
theorem Ub5:Ba5.Ok:=Lo.okq [] .nil λp s=>(.ofq @ea1)
def ab9(p:Ja2)(s:ja7):St:=⟨.sl 0 0 p.ns0 0::.unk::.unk::i s.is3::ra 57 [],[bq 66 4 p.eh0]⟩
def ea2{α:Type}(k:ja7->α)(e:Nat->α)(z:α)(p:Ja2)(s:ja7):α:=let y1:=(rdR tP p.eh0 (0+s.is3.toNat));let y0:=(rdR tP p.eh0 (0+(W (s.is3-1)).toNat));let t1:=(lp (E6 (⟨p.ns0,0+s.is3.toNat,p.ns0-s.is3.toNat⟩:M5)) (⟨s.is3,1,p.eh0⟩:D8));(sl (decide (s.is3<(↑p.ns0:Int))) (sl (inB s.is3 p.ns0) (sl (ldR tP p.eh0 (0+s.is3.toNat)) (sl (inB (W (s.is3-1)) p.ns0) (sl (ldR tP p.eh0 (0+(W (s.is3-1)).toNat)) (sl ((y1.n.x==y0.n.x)&&((y1.n.y==y0.n.y)&&((y1.n.z==y0.n.z)&&((y1.b==y0.b)&&true)))) (sl (inB s.is3 (p.ns0+1)) (sl (Nat.beq t1.1 1) (sl (inB t1.2.is3 (p.ns0+1)) (sl (inB t1.2.is3 (p.ns0+1)) (e 1) z) z) z) z) (k ⟨W (s.is3+1)⟩)) z) z) z) z) (e 2))
def X4(p:Ja2)(s:ja7):Stp ja7:=ea2 .next .exit .fail p s
def Ba6:Lo Ja2 ja7:=⟨En tbN,1,if9,[1,1,0,1,4,4],[0,3],.s .p (.s (.b (.s .p (.c (.s .p (.s (.s .p (.b (.u Ba5.ls))) .p)) .p))) .p),[⟨.s (.o (.sl 0 0 (some 0) none))::sUq::sUq::sIq::ru2 57 [],[⟨66,4,true,none⟩],λa H=>(⟨slN (slT a 0),elT H 0⟩,⟨aIq a 3⟩)⟩],X4,[(none,λp s=>let t1:=(lp (E6 (⟨p.ns0,0+s.is3.toNat,p.ns0-s.is3.toNat⟩:M5)) (⟨s.is3,1,p.eh0⟩:D8));⟨[.sl 0 0 (t1.2.is3.toNat-0) 0],[bq 66 4 (app (N0 t1.2.eh0 (0+t1.2.is3.toNat)) (app (List.replicate (p.ns0-t1.2.is3.toNat) [i 0,i 0,i 0,i 0]) (l9 t1.2.eh0 ((0+t1.2.is3.toNat)+(p.ns0-t1.2.is3.toNat)))))]⟩),(some 0,λp s=>upq (ab9 p s) [(10,i s.is3),(11,.sl 0 0 p.ns0 0),(12,i (↑p.ns0:Int)),(13,b (decide (s.is3<(↑p.ns0:Int))))])],ab9⟩
theorem Ub6:Ba6.Ok:=Lo.okq [Ba5.pr] (.cons Ub5 .nil) λp s=>(.ofq @ea2)
def Ja4{α:Type}(kk:Oa5->α)(x:Ja2):α:=let t1:=(lp (X4 (⟨x.ns0,x.eh0⟩:Ja2)) (⟨1⟩:ja7));let t2:=(lp (E6 (⟨x.ns0,0+t1.2.is3.toNat,x.ns0-t1.2.is3.toNat⟩:M5)) (⟨t1.2.is3,1,x.eh0⟩:D8));(sl (decide ((↑x.ns0:Int)<2)) (kk ⟨1,x.ns0,x.eh0⟩) (sl (Nat.beq t1.1 1) (kk ⟨1,t2.2.is3.toNat-0,app (N0 t2.2.eh0 (0+t2.2.is3.toNat)) (app (List.replicate (x.ns0-t2.2.is3.toNat) [i 0,i 0,i 0,i 0]) (l9 t2.2.eh0 ((0+t2.2.is3.toNat)+(x.ns0-t2.2.is3.toNat))))⟩) (sl (Nat.beq t1.1 2) (kk ⟨1,x.ns0,x.eh0⟩) (kk ⟨0,0,[]⟩))))
def ea3(x:Ja2):Oa5:=Ja4 (λr=>r) x
def jb8(x:Ja2)(r:Oa5):DT (c7×List c8):=(Ca8 r.alt 1 (.sl 0 0 r.ns0 0,[bq 66 4 r.eh0]) .fail)
def Ja5:Sum:=Oa2 ⟨[.s (.o (.sl 0 0 (some 0) none))],[⟨66,4,true,none⟩],λa H=>(⟨slN (slT a 0),elT H 0⟩,())⟩ (λx=>jb8 x (ea3 x))
theorem jb9:l8 prog G 111 Ja5:=K8 (enc:=λx=>⟨[.sl 0 0 x.ns0 0],[bq 66 4 x.eh0]⟩) (λa H=>by kernel_rfl) (bd dg0 Aa9) λx=>da5 (.s .p (.s .p (.s (.s .p (.b (.u Ba6.ls))) .p))) [Ba6.pr] (.cons Ub6 .nil) (mEq @Ja4 (λr=>(jb8 x r).run) x)
def eb1(x:Int)(y:Int):ROq:=(sl (decide (x<y)) (some (i (-1),[])) (sl (decide (x>y)) (some (i 1,[])) (some (i 0,[]))))
def Ba7(x:Int)(y:Int):Int:=aa3 (one r1I) (eb1 x y)
def Ba8(x:Int)(y:Int):Bool:=okO (one r1I) (eb1 x y)
def Mc0:Sum:=va4 cI cI (λx y=>.guard (Ba8 x y) (.ret ((one r1I).enc (Ba7 x y),[])))
theorem Dd1:l8 prog G 132 Mc0:=xc8 (bd og9 Aa9) (one r1I) (o:=eb1)
def gd0:List (Nat×Sum):=[(132,Mc0)]
theorem Xc7:C6 prog G gd0:=⟨Dd1,trivial⟩
def Ma0(x:Pln)(y:Pln):ROq:=let t1:=(Ba7 x.n.x y.n.x);let t2:=(Ba7 x.n.y y.n.y);let t3:=(Ba7 x.n.z y.n.z);let t4:=(Ba7 x.b y.b);(sl (Ba8 x.n.x y.n.x) (sl (t1==0) (sl (Ba8 x.n.y y.n.y) (sl (t2==0) (sl (Ba8 x.n.z y.n.z) (sl (t3==0) (sl (Ba8 x.b y.b) (sl (t4==0) (some (i t4,[])) (some (i t4,[]))) none) (some (i t3,[]))) none) (some (i t2,[]))) none) (some (i t1,[]))) none)
def gb3(x:Pln)(y:Pln):Int:=aa3 (one r1I) (Ma0 x y)
def gb4(x:Pln)(y:Pln):Bool:=okO (one r1I) (Ma0 x y)
def Gb9:Sum:=va4 (Ea3 tP) (Ea3 tP) (λx y=>.guard (gb4 x y) (.ret ((one r1I).enc (gb3 x y),[])))
theorem gd1:l8 prog G 110 Gb9:=xc8 (bd ng2 Xc7) (one r1I) (o:=Ma0)
def Ld1:List (Nat×Sum):=[(63,Lb8),(64,Hc3),(65,ib5)]
theorem Dd2:C6 prog G Ld1:=⟨bc3,Pc9,Jb5,trivial⟩
def rb3(x:PLq)(y:PLq):ROq:=let y0:=((okE tP x)&&((okE tP y)&&true));let t1:=(Ia8 [rt tP x,rt tP y]);let t2:=(xb6 [rt tP x,rt tP y]);let t3:=(ta5 (rt tP t2));(sl y0 (sl (Ia9 [rt tP x,rt tP y]) (sl (!t1) (some (b true,[])) (sl y0 (sl (xb7 [rt tP x,rt tP y]) (sl (okE tP t2) (sl (ta6 (rt tP t2)) (some (b (!t3),[])) none) none) none) none)) none) none)
def ra6(x:PLq)(y:PLq):Bool:=aa3 (one r1B) (rb3 x y)
def ra7(x:PLq)(y:PLq):Bool:=okO (one r1B) (rb3 x y)
def rb4:Sum:=va4 (pa5 tP) (pa5 tP) (λx y=>.guard (ra7 x y) (.ret ((one r1B).enc (ra6 x y),[])))
theorem Ab3:l8 prog G 28 rb4:=xc8 (bd b28 Dd2) (one r1B) (o:=rb3)
structure lc7 where
 (C3 Ya7 Ya8 Ya9 Za0 Za1:Int)
def Rb6{α:Type}(kk:lc7->α)(x:V3)(y:V3):α:=(kk ⟨y.x,W (0-x.x),y.y,W (0-x.y),y.z,W (0-x.z)⟩)
def ta7(x:V3)(y:V3):lc7:=Rb6 (λr=>r) x y
def zc3(r:lc7):DT (c7×List c8):=.ret (.sl 0 0 6 0,[bq 66 4 [[i 1,i 0,i 0,i r.C3],[i (-1),i 0,i 0,i r.Ya7],[i 0,i 1,i 0,i r.Ya8],[i 0,i (-1),i 0,i r.Ya9],[i 0,i 0,i 1,i r.Za0],[i 0,i 0,i (-1),i r.Za1]]])
theorem De6{α β:Type}(F:α->β)(kk:lc7->α)(x:V3)(y:V3):F (Rb6 kk x y)=Rb6 (λr=>F (kk r)) x y:=by unfold Rb6;(repeat' apply Ie3 (f:=F))<;>rfl
def lc8:Sum:=va4 (Ea3 tV) (Ea3 tV) (λx y=>zc3 (ta7 x y))
theorem zc4:l8 prog G 36 lc8:=Zd3 (bd b36 Aa9) λx y=>va5 (Eq.trans (b:=Rb6 (λr=>(zc3 r).run) x y) (by kernel_rfl) (De6 (λr=>(zc3 r).run) (λr=>r) x y).symm)
end Go.Ev.Ce
namespace Go.Proofs
open Go.Shelf
set_option maxRecDepth 100000 in
def Ce.sortLay_ren:Go.Shelf.Ren:=⟨fun | 6=>109 | 15=>131 | 14=>130 | 28=>152 | 29=>153 | 20=>144 | 21=>145 | 22=>146 | 23=>147 | 24=>148 | 25=>149 | 26=>150 | 27=>151 | 46=>155 | 47=>156 | 48=>157 | 49=>158 | 50=>159 | 57=>160 | n=>n,fun | 22=>35 | 24=>66 | 25=>136 | 3=>3 | 39=>154 | 0=>0 | 53=>166 | 55=>168 | 4=>4 | 46=>159 | 45=>158 | 50=>163 | 5=>5 | 9=>9 | 66=>170 | 70=>174 | 76=>176 | 77=>177 | n=>n,fun | n=>n⟩
set_option maxRecDepth 100000 in
theorem Ce.sortLay:Go.Proofs.SlLaysF0.n6 Tryz.prog Ce.sortLay_ren:={
 mixed:=by kernel_rfl
 f6:=⟨Tryz.f109.name,by decide,Tryz.func109.trans (congrArg some (by kernel_rfl))⟩
 f14:=⟨Tryz.f130.name,by decide,Tryz.func130.trans (congrArg some (by kernel_rfl))⟩
 f15:=Tryz.func131.trans (congrArg some (by kernel_rfl))
 f20:=⟨Tryz.f144.name,by decide,Tryz.func144.trans (congrArg some (by kernel_rfl))⟩
 f21:=⟨Tryz.f145.name,by decide,Tryz.func145.trans (congrArg some (by kernel_rfl))⟩
 f22:=⟨Tryz.f146.name,by decide,Tryz.func146.trans (congrArg some (by kernel_rfl))⟩
 f23:=⟨Tryz.f147.name,by decide,Tryz.func147.trans (congrArg some (by kernel_rfl))⟩
 f24:=⟨Tryz.f148.name,by decide,Tryz.func148.trans (congrArg some (by kernel_rfl))⟩
 f25:=⟨Tryz.f149.name,by decide,Tryz.func149.trans (congrArg some (by kernel_rfl))⟩
 f26:=⟨Tryz.f150.name,by decide,Tryz.func150.trans (congrArg some (by kernel_rfl))⟩
 f27:=⟨Tryz.f151.name,by decide,Tryz.func151.trans (congrArg some (by kernel_rfl))⟩
 f28:=Tryz.func152.trans (congrArg some (by kernel_rfl))
 f29:=Tryz.func153.trans (congrArg some (by kernel_rfl))
 f46:=⟨Tryz.f155.name,by decide,Tryz.func155.trans (congrArg some (by kernel_rfl))⟩
 f47:=Tryz.func156.trans (congrArg some (by kernel_rfl))
 f48:=Tryz.func157.trans (congrArg some (by kernel_rfl))
 f49:=⟨Tryz.f158.name,by decide,Tryz.func158.trans (congrArg some (by kernel_rfl))⟩
 f50:=⟨Tryz.f159.name,by decide,Tryz.func159.trans (congrArg some (by kernel_rfl))⟩
 f57:=⟨Tryz.f160.name,by decide,Tryz.func160.trans (congrArg some (by kernel_rfl))⟩
 t0:=Tryz.underlying0
 a0:=Tryz.isAgg0
 z0:=Tryz.sizeOf0
 v0:=Tryz.zeroValue0
 t3:=Tryz.underlying3
 a3:=Tryz.isAgg3
 z3:=Tryz.sizeOf3
 v3:=Tryz.zeroValue3
 t4:=Tryz.underlying4
 a4:=Tryz.isAgg4
 z4:=Tryz.sizeOf4
 v4:=Tryz.zeroValue4
 t5:=Tryz.underlying5
 a5:=Tryz.isAgg5
 z5:=Tryz.sizeOf5
 v5:=Tryz.zeroValue5
 t9:=Tryz.underlying9
 a9:=Tryz.isAgg9
 z9:=Tryz.sizeOf9
 v9:=Tryz.zeroValue9
 t22:=Tryz.underlying35
 a22:=Tryz.isAgg35
 z22:=Tryz.sizeOf35
 v22:=Tryz.zeroValue35
 t25:=Tryz.underlying136
 a25:=Tryz.isAgg136
 z25:=Tryz.sizeOf136
 v25:=Tryz.zeroValue136
 t39:=Tryz.underlying154
 a39:=Tryz.isAgg154
 z39:=Tryz.sizeOf154
 v39:=Tryz.zeroValue154
 t45:=Tryz.underlying158
 a45:=Tryz.isAgg158
 z45:=Tryz.sizeOf158
 v45:=Tryz.zeroValue158
 t46:=Tryz.underlying159
 a46:=Tryz.isAgg159
 z46:=Tryz.sizeOf159
 v46:=Tryz.zeroValue159
 t50:=Tryz.underlying163
 a50:=Tryz.isAgg163
 z50:=Tryz.sizeOf163
 v50:=Tryz.zeroValue163
 t53:=Tryz.underlying166
 a53:=Tryz.isAgg166
 z53:=Tryz.sizeOf166
 v53:=Tryz.zeroValue166
 t55:=Tryz.underlying168
 a55:=Tryz.isAgg168
 z55:=Tryz.sizeOf168
 v55:=Tryz.zeroValue168
 t66:=Tryz.underlying170
 a66:=Tryz.isAgg170
 z66:=Tryz.sizeOf170
 v66:=Tryz.zeroValue170
 t70:=Tryz.underlying174
 a70:=Tryz.isAgg174
 z70:=Tryz.sizeOf174
 v70:=Tryz.zeroValue174
 t76:=Tryz.underlying176
 a76:=Tryz.isAgg176
 z76:=Tryz.sizeOf176
 v76:=Tryz.zeroValue176
 t77:=Tryz.underlying177
 a77:=Tryz.isAgg177
 z77:=Tryz.sizeOf177
 v77:=Tryz.zeroValue177 }
end Go.Proofs
namespace Go.Ev.Ce
open Go Go.Ev Go.Ev.L Go.Proofs Go.Sort
def Xc8(x y:Int):Int:=if x<y then -1 else if x>y then 1 else 0
def Ub7(x y:Pln):Int :=
 if Xc8 x.n.x y.n.x=0 then if Xc8 x.n.y y.n.y=0 then if Xc8 x.n.z y.n.z=0 then Xc8 x.b y.b else Xc8 x.n.z y.n.z else Xc8 x.n.y y.n.y else Xc8 x.n.x y.n.x
theorem ud3(x y:Int):Xc8 x y<0↔x<y:=by unfold Xc8;split<;>(try split)<;>omega
theorem ce1(x y:Int):Xc8 x y=0↔x=y:=by unfold Xc8;split<;>(try split)<;>omega
def LtP(x y:Pln):Prop:=x.n.x<y.n.x\/x.n.x=y.n.x/\(x.n.y<y.n.y\/x.n.y=y.n.y/\(x.n.z<y.n.z\/x.n.z=y.n.z/\x.b<y.b))
instance(x y:Pln):Decidable (LtP x y):=by unfold LtP;exact inferInstance
theorem ce2(x y:Pln):Ub7 x y<0↔LtP x y:=by
 have h1:=ud3 x.n.x y.n.x;have h2:=ce1 x.n.x y.n.x;have h3:=ud3 x.n.y y.n.y;have h4:=ce1 x.n.y y.n.y;have h5:=ud3 x.n.z y.n.z;have h6:=ce1 x.n.z y.n.z;have h7:=ud3 x.b y.b;unfold Ub7 LtP;split
 ·split
  ·split<;>omega
  ·omega
 ·omega
theorem yb0(x y:Pln):ltOf Ub7 x y=decide (LtP x y):=by
 unfold ltOf;rw[decide_eq_decide];exact ce2 x y
theorem dg3:SWO (ltOf Ub7) where
 irrefl x:=by rw[yb0];simp[LtP]
 trans x y z h1 h2:=by rw[yb0,decide_eq_true_eq] at *;unfold LtP at *;omega
 ntrans x y z h1 h2:=by rw[yb0,decide_eq_false_iff_not] at *;unfold LtP at *;omega
theorem qg3(x y:Pln)(h1:ltOf Ub7 x y=false)(h2:ltOf Ub7 y x=false):x=y:=by
 rw[yb0,decide_eq_false_iff_not] at *
 unfold LtP at *
 obtain⟨⟨a,b,c⟩,d⟩:=x;obtain⟨⟨a',b',c'⟩,d'⟩:=y
 simp only at *
 have:a=a'/\b=b'/\c=c'/\d=d':=by omega
 obtain⟨rfl,rfl,rfl,rfl⟩:=this;rfl
theorem pe3(x y:Int):eb1 x y=some (i (Xc8 x y),[]):=by
 unfold eb1 Xc8;simp only[Pb2,decide_eq_true_eq]
 split<;>(try split)<;>rfl
theorem Af9(x y:Int):Ba7 x y=Xc8 x y:=by unfold Ba7;rw[pe3];rfl
theorem Bf0(x y:Int):Ba8 x y=true:=by unfold Ba8;rw[pe3];rfl
theorem Dd3(x y:Pln):Ma0 x y=some (i (Ub7 x y),[]):=by
 unfold Ma0 Ub7;simp only[Af9,Bf0,Pb2,beq_iff_eq,if_true]
 repeat' (first | rfl | split)
theorem dg4(x y:Pln):gb3 x y=Ub7 x y:=by unfold gb3;rw[Dd3];rfl
theorem dg5(x y:Pln):gb4 x y=true:=by unfold gb4;rw[Dd3];rfl
theorem dg6(x y:Pln):(Gb9 [.agg (tP.row x),.agg (tP.row y)] []).run=some (i (Ub7 x y),[]):=by
 have:(Gb9 [.agg (tP.row x),.agg (tP.row y)] []).run=sel (gb4 x y) (some (i (gb3 x y),[])) none:=by kernel_rfl
 rw[this,dg5,dg4]
def ed6(p:Pln):List Value:=[.int .i64 p.n.x,.int .i64 p.n.y,.int .i64 p.n.z,.int .i64 p.b]
instance:Inhabited Pln:=⟨⟨⟨0,0,0⟩,0⟩⟩
def kb0(l:PLq):PLq:=l.mergeSort λx y=>!ltOf Ub7 y x
theorem Hc4(l:PLq):(kb0 l).length=l.length:=List.length_mergeSort l
def Fa3:Sum:=ef5 tP 110 66 kb0
theorem jf3:Ce.sortLay_ren.f 6=109:=by kernel_rfl
theorem Sd4:Ce.sortLay_ren.t 24=66:=by kernel_rfl
set_option maxRecDepth 100000 in
theorem eb2:l8 prog G 109 Fa3:=by
 refine yf4 (enc:=ed6) (cf:=Ub7) ⟨_,Tryz.func109,by kernel_rfl,of_decide_eq_true (by kernel_rfl)⟩ (by decide) (λ_=>rfl) (λr h=>wb6 (n:=4) h) (λx v hv=>?_) Hc4
  (λblk off size w=>yf3 gd1 dg6 (λ_=>rfl) (λ_=>rfl) _ _ _ _ _) (λblk cap d w hcl hH hb hs=>?_)
 ·simp[ed6] at hv
  rcases hv with rfl|rfl|rfl|rfl<;>rfl
 ·have eg:∀args w,(callFunc 110 args).run Tryz.prog w=.ok (.enter 110 args) w:=enters_of Tryz.func110 (by kernel_rfl) rfl
  have:=AnyQ.slices_SortFunc Ce.sortLay 4 (by rw[Sd4];exact Tryz.isAgg66) (by rw[Sd4];exact Tryz.sizeOf66) ed6 (λ_=>rfl) (λx v hv=>by simp[ed6] at hv;rcases hv with rfl | rfl | rfl | rfl<;>rfl) Ub7 dg3 110 #[] blk 0 cap d w eg (hcl 0 d.size) hH hb hs
  rw[jf3] at this;refine this.mono λe w' ⟨h1,d',n,os,h2,h3,h4⟩=>⟨h1,n,os,?_⟩
  have h5:=sorted_unique_holds dg3 qg3 d d' h2 h3;rw[h4];show _=sortWorldK ed6 4 w blk 0 n (d.toList.mergeSort λx y=>!ltOf Ub7 y x).toArray os
  rw[<- h5]
end Go.Ev.Ce
namespace Go.Ev.Ce
open Go Go.Ev Go.Ev.L Go.Proofs
set_option maxRecDepth 100000
structure Hb0 where
 is1:Int
 P7:List Int
 j5:Int
def gd2:List (Nat×Sum):=[(34,Sd3)]
theorem Xc9:C6 prog G gd2:=⟨De4,trivial⟩
structure Hb1 where
 alt:Nat
 (is0 j5:Int)
def Hb2{α:Type}(kk:Hb1->α)(x:Hb0):α:=let y0:=(W ((W (x.j5+1))-1));let t1:=(Hc1 (gL tI x.P7 y0.toNat) x.is1);(sl (decide (x.j5>=(↑(List.length x.P7):Int))) (kk ⟨1,0,x.j5⟩) (sl (inB y0 (List.length x.P7)) (sl (Hc2 (gL tI x.P7 y0.toNat) x.is1) (kk ⟨1,t1,W (x.j5+1)⟩) (kk ⟨0,0,0⟩)) (kk ⟨0,0,0⟩)))
def g9(x:Hb0):Hb1:=Hb2 (λr=>r) x
def fc8(x:Hb0)(r:Hb1):DT (c7×List c8):=(Ca8 r.alt 1 (i r.is0,[bq 0 2 [[eL tI x.P7,i r.j5]]]) .fail)
def Hb3:Sum:=Oa2 ⟨[.s (.o (.ptr 0 0 0 0)),.s (.o (.int .i64))],[⟨0,2,true,some [[.c 1 (nL tI),.o (.int .i64)]]⟩],λa H=>(⟨toI (slT a 1),rL tI (slT (rwT (elT H 0) 0) 0),toI (slT (rwT (elT H 0) 0) 1)⟩,())⟩ (λx=>fc8 x (g9 x))
theorem fc9:l8 prog G 43 Hb3:=K8 (enc:=λx=>⟨[.ptr 0 0 0 0,i x.is1],[bq 0 2 [[eL tI x.P7,i x.j5]]]⟩) (λa H=>by kernel_rfl) (bd b43 Xc9) λx=>va5 (mEq @Hb2 (λr=>(fc8 x r).run) x)
def gd3(x:V3)(y:V3):V3:=(⟨W (x.x-y.x),W (x.y-y.y),W (x.z-y.z)⟩:V3)
def Sd5:Sum:=va4 (Ea3 tV) (Ea3 tV) (λx y=>.ret ((one r1V).enc (gd3 x y),[]))
theorem De7:l8 prog G 89 Sd5:=qc8 (bd b89 Aa9)
def pe4:List (Nat×Sum):=[(89,Sd5)]
theorem ce3:C6 prog G pe4:=⟨De7,trivial⟩
def Rb7(x:Pln):Pln:=let t1:=(gd3 (⟨0,0,0⟩:V3) x.n);(⟨t1,W (0-x.b)⟩:Pln)
def Dd4:Sum:=ba7 (Ea3 tP) (λx=>.ret ((one r1P).enc (Rb7 x),[]))
theorem pe5:l8 prog G 67 Dd4:=jf2 (bd b67 ce3)
structure af1 where
 (G3 j5 G4 C3 Ja8 Ja9 Ka0 Ka1:Int)
structure af2 where
 is7:Int
structure rb5 where
 (j6 da0:PLq)
def Mc1(p:rb5)(s:Ia4):St:=⟨eL tP p.j6::eL tP p.da0::ra 3 (i s.is5::ra 20 []),[]⟩
def rb6{α:Type}(k:Ia4->α)(e:Nat->α)(z:α)(p:rb5)(s:Ia4):α:=let y1:=(gL tP p.da0 s.is5.toNat);let y0:=(gL tP p.j6 s.is5.toNat);(sl (decide (s.is5<(↑(List.length p.j6):Int))) (sl (inB s.is5 (List.length p.j6)) (sl (inB s.is5 (List.length p.da0)) (sl (!((y0.n.x==y1.n.x)&&((y0.n.y==y1.n.y)&&((y0.n.z==y1.n.z)&&((y0.b==y1.b)&&true))))) (e 1) (k ⟨W (s.is5+1)⟩)) z) z) (e 2))
def eb3(p:rb5)(s:Ia4):Stp Ia4:=rb6 .next .exit .fail p s
def lc9:Lo rb5 Ia4:=⟨En tbN,0,ag4,[1,1,0,1,4,4],[0,1,5],.p,[⟨sLq tP::sLq tP::ru2 3 (sIq::ru2 20 []),[],λa H=>(⟨aLq tP a 0,aLq tP a 1⟩,⟨aIq a 5⟩)⟩],eb3,[(none,λp s=>⟨[b false],[]⟩),(some 0,λp s=>upq (Mc1 p s) [(11,i s.is5),(12,eL tP p.j6),(13,i (↑(List.length p.j6):Int)),(14,b (decide (s.is5<(↑(List.length p.j6):Int))))])],Mc1⟩
theorem Ld2:lc9.Ok:=Lo.okq [] .nil λp s=>(.ofq @rb6)
def Rb8(x:PLq)(y:PLq):ROq:=let t1:=(lp (eb3 (⟨rt tP x,rt tP y⟩:rb5)) (⟨0⟩:Ia4));(sl ((↑(List.length x):Int) != (↑(List.length y):Int)) (some (b false,[])) (sl ((cnE tP x)&&((cnE tP y)&&true)) (sl (Nat.beq t1.1 1) (some (b false,[])) (sl (Nat.beq t1.1 2) (some (b true,[])) none)) none))
def mc0(x:PLq)(y:PLq):Bool:=aa3 (one r1B) (Rb8 x y)
def mc1(x:PLq)(y:PLq):Bool:=okO (one r1B) (Rb8 x y)
def Dd5:Sum:=va4 (pa5 tP) (pa5 tP) (λx y=>.guard (mc1 x y) (.ret ((one r1B).enc (mc0 x y),[])))
theorem pe6:l8 prog G 59 Dd5:=pd9 (bd b59 Aa9) (one r1B) (o:=Rb8) λx y=>da5 (.s .p (.s .p (.s (.s .p (.b (.u lc9.ls))) .p))) [lc9.pr] (.cons Ld2 .nil)
structure Kf5 where
 is6:Int
structure Kf6 where
 ns5:Nat
 eh0:List (List c7)
def Ua2{α:Type}(kk:Oa5->α)(x:Pln×PLq):α:=let y0:=(List.range (List.length x.2+1));(sl (Nat.beq 0 0&&Nat.ble ((0+(len (B3 (λk=>(tP).row (gL tP (x.1::x.2) k)) y0)))*32) room) (kk ⟨1,(0+(len (B3 (λk=>(tP).row (gL tP (x.1::x.2) k)) y0))),(app [] (B3 (λk=>(tP).row (gL tP (x.1::x.2) k)) y0))⟩) (kk ⟨0,0,[]⟩))
def Aa0(x:Pln×PLq):Oa5:=Ua2 (λr=>r) x
def vb0(r:Oa5):DT (c7×List c8):=(Ca8 r.alt 1 (.sl 0 0 r.ns0 0,[bq 66 4 r.eh0]) .fail)
def Cb9:Sum:=ba7 (df8 tP) (λx=>vb0 (Aa0 x))
theorem tc1:l8 prog G 75 Cb9:=Lb3 (bd b75 Aa9) λx=>va5 (mEq @Ua2 (λr=>(vb0 r).run) x)
def ce4:List (Nat×Sum):=[(39,Ta5),(106,Ab2),(75,Cb9),(107,xa7),(109,Fa3),(111,Ja5)]
theorem Ld3:C6 prog G ce4:=⟨Ya3,Rb4,tc1,Ua0,eb2,jb9,trivial⟩
def Db0(x:Pln×PLq):ROq:=let y0:=(rt tP (x.1::x.2));let t1:=(za8 y0);let t2:=(Na7 y0);let t3:=(Aa0 (hC tP (λk=>(tP).row (gL tP (x.1::x.2) k)),tC tP (List.length x.2) (λk=>(tP).row (gL tP (x.1::x.2) k))));let t4:=(P5 ⟨t3.ns0,t3.eh0,rt tX t2⟩);let t5:=(ea3 ⟨t4.ns0,app (bL tP (kb0 (slR tP t4.eh0 0 t4.ns0))) (l9 t4.eh0 t4.ns0)⟩);(sl (okE tP (x.1::x.2)) (sl (za9 y0) (sl (!t1) (some (nlq,[])) (sl (okE tP (x.1::x.2)) (sl (Na8 y0) (sl (okL tP (List.length x.2+1) (λk=>(tP).row (gL tP (x.1::x.2) k))) (sl (Nat.beq t3.alt 1) (sl ((cnE tX t2)&&true) (sl (Nat.beq t4.alt 1) (sl (Bool.and (Nat.ble t4.ns0 room) (Bool.and (Nat.ble t4.ns0 (len t4.eh0)) (okS tP t4.eh0 0 t4.ns0))) (sl (Nat.beq t5.alt 1) (some (.sl 0 0 t5.ns0 0,[bq 66 4 t5.eh0])) none) none) none) none) none) none) none) none)) none) none)
def nd4(x:Pln×PLq):PLq:=aa3 (one (r1L tP)) (Db0 x)
def nd5(x:Pln×PLq):Bool:=okO (one (r1L tP)) (Db0 x)
def pe7:Sum:=ba7 (df8 tP) (λx=>.guard (nd5 x) (.ret ((one (r1L tP)).enc (nd4 x),[])))
theorem ce5:l8 prog G 87 pe7:=cb9 (bd b87 Ld3) (one (r1L tP)) (o:=Db0)
structure Kf7 where
 j6:PLq
 (G3 j5 G4 C3:Int)
structure Kf8 where
 is5:Int
def zc5(x:V3)(y:V3):V3:=(⟨W (x.x-y.x),W (x.y-y.y),W (x.z-y.z)⟩:V3)
def nd6:Sum:=va4 (Ea3 tV) (Ea3 tV) (λx y=>.ret ((one r1V).enc (zc5 x y),[]))
theorem ce6:l8 prog G 154 nd6:=qc8 (bd qg1 Aa9)
def Ld4:List (Nat×Sum):=[(154,nd6)]
theorem Dd6:C6 prog G Ld4:=⟨ce6,trivial⟩
def rb7(x:Pln):Pln:=let t1:=(zc5 (⟨0,0,0⟩:V3) x.n);(⟨t1,W (0-x.b)⟩:Pln)
def Yc0:Sum:=ba7 (Ea3 tP) (λx=>.ret ((one r1P).enc (rb7 x),[]))
theorem Ld5:l8 prog G 134 Yc0:=jf2 (bd pg0 Dd6)
end Go.Ev.Ce
