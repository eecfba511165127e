/- Own work. -/
import Derived.Test.YtekgjjgbdcgldaaGreatChecked
import Derived.Test.YtekgjjgbdcgldaaGreatEvOCePf
import Derived.KernelRfl
import Derived.Shelf.Spec.SlicesGrow
set_option linter.all false
def Qha:=@Eq.trans
def Qhb:=@Nat.gcd_pos_of_pos_right
def Qhc:=@List.getElem?_eq_some_iff
def Qhd:=@Nat.gcd_le_right
def Qhe:=@List.getElem?_replicate
def Qhf:=@Nat.le_refl
namespace Go.Ev.Ce
open Go Go.Ev Go.Proofs
set_option maxRecDepth 1000000
theorem mx:(Tryz.prog).follows .mixedOrders=true:=Checked.mixed Tryz.checked
abbrev Bdq(n:Nat)(pf:PFn):Prop:=Be0 Tryz.prog n λE=>Vb9 E pf
theorem bdq{f:FuncId}{fn:Func}(hf:(Tryz.prog).funcs[f]?=some fn)(hn:decide (fn.name ≠ "runtime.NumGoroutine")=true:=by kernel_rfl)(hc:Option.isSome (e7 Tryz.prog fn)=true:=by kernel_rfl):Bdq f (got (e7 Tryz.prog fn)):=bg3 mx hf hn (Yd1 hc)
theorem b3:Bdq 3 pf3:=bdq Tryz.func3
theorem b4:Bdq 4 pf4:=bdq Tryz.func4
theorem b5:Bdq 5 pf5:=bdq Tryz.func5
theorem b6:Bdq 6 pf6:=bdq Tryz.func6
theorem b7:Bdq 7 pf7:=bdq Tryz.func7
theorem b11:Bdq 11 bg4:=bdq Tryz.func11
theorem b16:Bdq 16 bg5:=bdq Tryz.func16
theorem b17:Bdq 17 Sf0:=bdq Tryz.func17
theorem b21:Bdq 21 bg6:=bdq Tryz.func21
theorem b22:Bdq 22 bg7:=bdq Tryz.func22
theorem b23:Bdq 23 Sf1:=bdq Tryz.func23
theorem b25:Bdq 25 Sf2:=bdq Tryz.func25
theorem b27:Bdq 27 bg8:=bdq Tryz.func27
theorem b34:Bdq 34 bg9:=bdq Tryz.func34
theorem b37:Bdq 37 cg0:=bdq Tryz.func37
theorem b38:Bdq 38 cg1:=bdq Tryz.func38
theorem b39:Bdq 39 cg2:=bdq Tryz.func39
theorem b40:Bdq 40 Sf3:=bdq Tryz.func40
theorem b41:Bdq 41 Sf4:=bdq Tryz.func41
theorem b42:Bdq 42 cg3:=bdq Tryz.func42
theorem b43:Bdq 43 cg4:=bdq Tryz.func43
theorem b44:Bdq 44 Sf5:=bdq Tryz.func44
theorem b45:Bdq 45 cg5:=bdq Tryz.func45
theorem b46:Bdq 46 Sf6:=bdq Tryz.func46
theorem b47:Bdq 47 Sf7:=bdq Tryz.func47
theorem b48:Bdq 48 cg6:=bdq Tryz.func48
theorem b49:Bdq 49 Sf8:=bdq Tryz.func49
theorem b50:Bdq 50 Sf9:=bdq Tryz.func50
theorem b51:Bdq 51 cg7:=bdq Tryz.func51
theorem b52:Bdq 52 cg8:=bdq Tryz.func52
theorem b53:Bdq 53 cg9:=bdq Tryz.func53
theorem b54:Bdq 54 dg0:=bdq Tryz.func54
theorem b55:Bdq 55 dg1:=bdq Tryz.func55
theorem b56:Bdq 56 dg2:=bdq Tryz.func56
theorem b63:Bdq 63 dg3:=bdq Tryz.func63
theorem b68:Bdq 68 dg4:=bdq Tryz.func68
theorem b69:Bdq 69 dg5:=bdq Tryz.func69
theorem b70:Bdq 70 dg6:=bdq Tryz.func70
theorem b71:Bdq 71 uf4:=bdq Tryz.func71
theorem b72:Bdq 72 dg7:=bdq Tryz.func72
theorem b73:Bdq 73 dg8:=bdq Tryz.func73
theorem b78:Bdq 78 cf7:=bdq Tryz.func78
theorem b80:Bdq 80 dg9:=bdq Tryz.func80
theorem b83:Bdq 83 eg0:=bdq Tryz.func83
theorem b84:Bdq 84 eg1:=bdq Tryz.func84
theorem b86:Bdq 86 eg2:=bdq Tryz.func86
theorem b93:Bdq 93 eg3:=bdq Tryz.func93
theorem b94:Bdq 94 Tf0:=bdq Tryz.func94
theorem b95:Bdq 95 Tf1:=bdq Tryz.func95
theorem b96:Bdq 96 Tf2:=bdq Tryz.func96
theorem b97:Bdq 97 eg4:=bdq Tryz.func97
theorem b98:Bdq 98 eg5:=bdq Tryz.func98
theorem b99:Be0 Tryz.prog 99 λE=>cc2 E Kf5:=cf6 (h:=h99) mx Tryz.func99 (by kernel_rfl) Tryz.func190 (by kernel_rfl) (Yd1 (by kernel_rfl))
theorem eg6:Bdq 100 Df0:=bdq Tryz.func100
theorem eg7:Bdq 101 cf8:=bdq Tryz.func101
theorem eg8:Bdq 102 Df1:=bdq Tryz.func102
theorem Xf2:Bdq 103 Tf3:=bdq Tryz.func103
theorem eg9:Bdq 104 Tf4:=bdq Tryz.func104
theorem fg0:Bdq 105 Tf5:=bdq Tryz.func105
theorem fg1:Bdq 106 Df2:=bdq Tryz.func106
theorem fg2:Bdq 107 Tf6:=bdq Tryz.func107
theorem fg3:Bdq 108 Tf7:=bdq Tryz.func108
theorem fg4:Bdq 109 Tf8:=bdq Tryz.func109
theorem fg5:Bdq 110 Tf9:=bdq Tryz.func110
theorem fg6:Bdq 111 Uf0:=bdq Tryz.func111
theorem fg7:Bdq 112 Uf1:=bdq Tryz.func112
theorem fg8:Bdq 113 Uf2:=bdq Tryz.func113
theorem fg9:Bdq 115 Uf3:=bdq Tryz.func115
theorem gg0:Bdq 116 Uf4:=bdq Tryz.func116
theorem gg1:Bdq 121 Uf5:=bdq Tryz.func121
theorem gg2:Bdq 122 Uf6:=bdq Tryz.func122
theorem gg3:Bdq 123 cf9:=bdq Tryz.func123
theorem gg4:Bdq 124 Uf7:=bdq Tryz.func124
theorem gg5:Bdq 125 Df3:=bdq Tryz.func125
theorem gg6:Bdq 126 Df4:=bdq Tryz.func126
theorem gg7:Bdq 127 Df5:=bdq Tryz.func127
theorem gg8:Bdq 128 Uf8:=bdq Tryz.func128
theorem gg9:Bdq 135 Uf9:=bdq Tryz.func135
theorem hg3:Bdq 138 Df6:=bdq Tryz.func138
theorem uf5:Bdq 139 me2:=bdq Tryz.func139
theorem hg4:Bdq 140 Vf0:=bdq Tryz.func140
theorem hg5:Bdq 141 Vf1:=bdq Tryz.func141
theorem hg6:Bdq 142 Vf2:=bdq Tryz.func142
theorem hg7:Bdq 149 Vf3:=bdq Tryz.func149
theorem Xf3:Bdq 150 Df7:=bdq Tryz.func150
theorem Kf6:Bdq 151 Vf4:=bdq Tryz.func151
theorem hg8:Bdq 152 Df8:=bdq Tryz.func152
theorem hg9:Bdq 153 Vf5:=bdq Tryz.func153
theorem Xf4:Bdq 154 df0:=bdq Tryz.func154
theorem ig0:Bdq 155 Df9:=bdq Tryz.func155
theorem ig1:Bdq 156 Vf6:=bdq Tryz.func156
theorem ig2:Bdq 157 Vf7:=bdq Tryz.func157
theorem ig3:Bdq 158 Vf8:=bdq Tryz.func158
theorem ig4:Bdq 159 Ef0:=bdq Tryz.func159
theorem ig5:Bdq 160 Ef1:=bdq Tryz.func160
theorem Xf5:Bdq 161 df1:=bdq Tryz.func161
theorem ig6:Bdq 162 Vf9:=bdq Tryz.func162
theorem ig7:Bdq 163 Ef2:=bdq Tryz.func163
theorem ig8:Bdq 164 Wf0:=bdq Tryz.func164
theorem ig9:Bdq 165 Wf1:=bdq Tryz.func165
theorem jg0:Be0 Tryz.prog 166 λE=>cc2 E df2:=cf6 (h:=Rf9) mx Tryz.func166 (by kernel_rfl) Tryz.func193 (by kernel_rfl) (Yd1 (by kernel_rfl))
theorem jg1:Be0 Tryz.prog 167 λE=>cc2 E Ie2:=cf6 (h:=Rf8) mx Tryz.func167 (by kernel_rfl) Tryz.func221 (by kernel_rfl) (Yd1 (by kernel_rfl))
theorem jg2:Bdq 168 Wf2:=bdq Tryz.func168
theorem jg3:Bdq 169 Wf3:=bdq Tryz.func169
theorem jg4:Bdq 170 Wf4:=bdq Tryz.func170
theorem jg5:Bdq 171 Ef3:=bdq Tryz.func171
theorem jg6:Bdq 172 Wf5:=bdq Tryz.func172
theorem jg7:Bdq 179 Ef4:=bdq Tryz.func179
theorem jg8:Bdq 180 Ef5:=bdq Tryz.func180
theorem jg9:Bdq 181 Ie3:=bdq Tryz.func181
theorem kg0:Bdq 182 Ef6:=bdq Tryz.func182
theorem kg1:Bdq 183 Wf6:=bdq Tryz.func183
theorem kg2:Bdq 184 Wf7:=bdq Tryz.func184
theorem kg3:Bdq 186 df3:=bdq Tryz.func186
theorem kg4:Bdq 191 Ef7:=bdq Tryz.func191
theorem kg5:Bdq 192 Wf8:=bdq Tryz.func192
theorem kg6:Bdq 194 Ef8:=bdq Tryz.func194
theorem kg7:Bdq 195 Wf9:=bdq Tryz.func195
theorem kg8:Bdq 196 Ef9:=bdq Tryz.func196
theorem kg9:Bdq 199 Ff0:=bdq Tryz.func199
theorem lg0:Bdq 207 Ff1:=bdq Tryz.func207
theorem lg1:Bdq 208 Ff2:=bdq Tryz.func208
theorem lg2:Bdq 209 Xf0:=bdq Tryz.func209
theorem lg3:Bdq 210 Ff3:=bdq Tryz.func210
theorem lg4:Bdq 211 Ff4:=bdq Tryz.func211
theorem lg5:Bdq 221 Ff5:=bdq Tryz.func221
theorem lg6:Bdq 222 df4:=bdq Tryz.func222
theorem lg7:Bdq 228 Xf1:=bdq Tryz.func228
theorem lg8:Bdq 229 Ff6:=bdq Tryz.func229
end Go.Ev.Ce
namespace Go.Ev.L
open Go Go.Ev
noncomputable def pc0:RT->PC->PS2
 |.s a b,.seq x y=>.seq (pc0 a x) (pc0 b y)
 |.c a b,.cond g x y=>.cond g (pc0 a x) (pc0 b y)
 |.b a,.block id x=>.block id (pc0 a x)
 |.i a,.inner f x n c=>.inner f x n (pc0 a c)
 |.u S,_=>.sum S
 |_,c=>.pc c
theorem Yd2{E:Env}{k:Nat}(rt:RT)(c:PC):eb7 (λx=>∀s,ha5 (x.1 s) (V0 E k x.2 s)) (zc2 rt c)->ta0 E k (pc0 rt c) c:=by
 induction rt generalizing c with
 |p=>intro h;cases c<;>exact .pc _
 |s a b iha ihb =>
  intro h;cases c with
  |seq x y=>exact .seq (iha x (eb7.app h).1) (ihb y (eb7.app h).2)
  |_=>exact .pc _
 |c a b iha ihb =>
  intro h;cases c with
  |cond g x y=>exact .cond g (iha x (eb7.app h).1) (ihb y (eb7.app h).2)
  |_=>exact .pc _
 |b a iha =>
  intro h;cases c with
  |block id x=>exact .block id (iha x h)
  |_=>exact .pc _
 |l a iha=>intro h;cases c<;>exact .pc _
 |i a iha =>
  intro h;cases c with
  |inner f x n c=>exact .inner f x n (iha c h)
  |_=>exact .pc _
 |u S =>
  intro h
  have:zc2 (.u S) c=[(S,c)]:=by cases c<;>rfl
  rw[this] at h;cases h with
  |cons h t =>
   have e:pc0 (.u S) c=.sum S:=by cases c<;>rfl
   rw[e];exact .sum h
section
variable{π σ:Type}{E:Env}{k:Nat}{keep:List Nat}{alts:List (Al2 π σ)}{enc:π->σ->St}{step:π->σ->Stp σ}{xs:Xs π σ}{body:PS2}{c:PC}
theorem nc8.belowM(hb:ta0 E k body c)(hN:E.N=rounds+1)(w:nc8 me1 k keep (Wc1 E k body) alts step xs enc)(s:St):ha5 (Nd5 me1 k keep alts step xs s) (V0 E k (.loopM keep c) s):=λr hr=>by
 obtain⟨t,h1,h2⟩:=w.go hr;rw[Ae9,hN];exact bc5 hb.le _ _ _ (wc4 h1 h2)
theorem nc8.belowML(hb:ta0 E k body c)(hN:E.N=rounds+1)(w:nc8 nc5 k keep (Wc1 E k body) alts step xs enc)(s:St):ha5 (Nd5 nc5 k keep alts step xs s) (V0 E k (.loop keep c) s):=λr hr=>by
 obtain⟨t,h1,h2⟩:=w.go hr;rw[Nd4,hN];exact bc5 hb.le _ _ _ (wc4 h1 h2)
end
end Go.Ev.L
namespace Go.Ev.Ab
open Go Go.Ev
@[reducible] def o(d:Nat)(x:PO):PI:=⟨some d,none,[],x⟩
@[reducible] def s(x:PO):PI:=⟨none,none,[],x⟩
@[reducible] def ci(n:Int):Arg:=.c (.v (.int .i64 n))
@[reducible] def cb(b:Bool):Arg:=.c (.v (.bool b))
@[reducible] def vi(n:Int):b8:=.v (.int .i64 n)
@[reducible] def rep{α:Type}(n:Nat)(x:α):List α:=List.replicate n x
@[reducible] def ki(n:Nat):List CK:=List.replicate n (.int .i64)
@[reducible] def mv(d n:Nat):PI:=o d (.mv (.t n))
@[reducible] def mc(d:Nat)(n:Int):PI:=o d (.mv (ci n))
@[reducible] def mb(d:Nat)(x:Bool):PI:=o d (.mv (cb x))
@[reducible] def fd(d k n:Nat):PI:=o d (.fld k (.t n))
@[reducible] def bx(d n:Nat):PI:=o d (.box (.t n))
@[reducible] def lf(d k n:Nat):PI:=o d (.load (ki k) k false (.t n))
@[reducible] def ex(d x k:Nat):PI:=o d (.ext (.t x) k)
@[reducible] def gf(n:Nat)(x:PI):PI:=⟨x.dst,some (n,false),x.hide,x.op⟩
@[reducible] def so(l:List PI)(x:PC):PC:=.seq (.ops l) x
@[reducible] def ts(l:List Nat):List Arg:=l.map .t
@[reducible] def cl(f:Nat)(l:List Nat):PO:=.call f (ts l)
@[reducible] def sT(k a b:Nat):PI:=s (.store k (.t a) (.t b))
@[reducible] def pa(d c x:Nat):PI:=o d (.pick (.t c) (.t x) (cb false))
@[reducible] def po(d c x:Nat):PI:=o d (.pick (.t c) (cb true) (.t x))
@[reducible] def al(d k:Nat)(n:Int):PI:=o d (.alloc (rep k (vi n)))
@[reducible] def ap(d et es n x y:Nat):PI:=o d (.append et es n (.t x) (.t y))
end Go.Ev.Ab
namespace Go.Ev.L
open Go Go.Ev
def Cps{π σ:Type}(u:∀{α:Type},(σ->α)->(Nat->α)->α->π->σ->α):Prop :=
 ∀{α β:Type} (F:α->β) (k:σ->α) (e:Nat->α) (z:α) (p:π) (s:σ),F (u k e z p s)=u (λx=>F (k x)) (λt=>F (e t)) (F z) p s
@[reducible] noncomputable def foL{π σ:Type}(en:π->σ->St)(xs:Xs π σ)(p:π)(s:σ):Stp σ->Option (g8×St):=nc6 (λs'=>some (.normal,en p s')) (λt=>xOf xs p s t 1) none
structure Lo(π σ:Type) where
 E:Env
 k:Nat
 F:PFn
 at':List Nat
 kp:List Nat
 rt:RT
 al:List (Al2 π σ)
 st:π->σ->Stp σ
 xs:Xs π σ
 en:π->σ->St
namespace Lo
variable{π σ:Type}(L:Lo π σ)
noncomputable def lc:PC:=bg1 L.at' L.F.body
noncomputable def ls:St->DT (g8×St):=Nd5 nc5 L.k L.kp L.al L.st L.xs
noncomputable def lsM:St->DT (g8×St):=Nd5 me1 L.k L.kp L.al L.st L.xs
noncomputable def pr:(St->DT (g8×St))×PC:=(L.ls,.loop L.kp L.lc)
noncomputable def prM:(St->DT (g8×St))×PC:=(L.lsM,.loopM L.kp L.lc)
def Ok:Prop:=∀s,ma9 L.k L.F.res (L.pr.1 s) (V0 L.E L.k L.pr.2 s)
def OkE:Prop:=∀s,ha5 (L.pr.1 s) (V0 L.E L.k L.pr.2 s)
def OkM:Prop:=∀s,ha5 (L.prM.1 s) (V0 L.E L.k L.prM.2 s)
def Rd(hd:St->DT St)(bd:St->DT (g8×St))(p:π)(s:σ)(a:St)(b:Stp σ):Prop:=(bc6 hd bd a).run=foL L.en L.xs p s b
def H0:Prop:=∀p s,L.Rd (nc5 L.k L.kp) (Ge7 L.E L.k L.F.res (Ed1 L.rt L.lc)) p s (L.en p s) (L.st p s)
def H1:Prop:=∀p s,L.Rd (nc5 L.k L.kp) (Wc1 L.E L.k (pc0 L.rt L.lc)) p s (L.en p s) (L.st p s)
def H2:Prop:=∀p s,L.Rd (me1 L.k L.kp) (Wc1 L.E L.k (pc0 L.rt L.lc)) p s (L.en p s) (L.st p s)
def HA:Prop:=eb7 (λx=>∀a H,(⟨Qe5 x.sh a,Qe6 x.bl H⟩:St)=L.en (x.rd a H).1 (x.rd a H).2) L.al
variable{L}
theorem Rd.of {hd : St → DT St} {bd : St → DT (g8 × St)} {p : π} {s : σ} {a : St} (u : ∀ {α : Type}, (σ → α) → (Nat → α) → α → π → σ → α)
  (q:Cps @u) (H:(bc6 hd bd a).run=u (λx=>foL L.en L.xs p s (.next x)) (λt=>foL L.en L.xs p s (.exit t)) (foL L.en L.xs p s .fail) p s):L.Rd hd bd p s a (u .next .exit .fail p s) :=
 H.trans (q (foL L.en L.xs p s) Stp.next Stp.exit Stp.fail p s).symm
theorem Rd.sel{hd:St->DT St}{bd:St->DT (g8×St)}{p:π}{s:σ}{a1 a0:St}{b1 b0:Stp σ}(c:Bool)(h1:L.Rd hd bd p s a1 b1)(h0:L.Rd hd bd p s a0 b0):L.Rd hd bd p s (sel c a1 a0) (sel c b1 b0):=by
 cases c with
 |true=>exact h1
 |false=>exact h0
theorem ok(l:List ((St->DT (g8×St))×PC))(hs:zc2 L.rt L.lc=l)(hl:eb7 (λx=>∀s,ma9 L.k L.F.res (x.1 s) (V0 L.E L.k x.2 s)) l)(hN:L.E.N=rounds+1)(ha:L.HA)(h:L.H0):L.Ok :=
 nc8.belowC (He4 _ _ (by rw[hs];exact hl)) hN ⟨ha,h⟩
theorem okE(l:List ((St->DT (g8×St))×PC))(hs:zc2 L.rt L.lc=l)(hl:eb7 (λx=>∀s,ha5 (x.1 s) (V0 L.E L.k x.2 s)) l)(hN:L.E.N=rounds+1)(ha:L.HA)(h:L.H1):L.OkE :=
 nc8.belowML (Yd2 _ _ (by rw[hs];exact hl)) hN ⟨ha,h⟩
theorem okM(l:List ((St->DT (g8×St))×PC))(hs:zc2 L.rt L.lc=l)(hl:eb7 (λx=>∀s,ha5 (x.1 s) (V0 L.E L.k x.2 s)) l)(hN:L.E.N=rounds+1)(ha:L.HA)(h:L.H2):L.OkM :=
 nc8.belowM (Yd2 _ _ (by rw[hs];exact hl)) hN ⟨ha,h⟩
end Lo
theorem ma5 {E : Env} {F : PFn} {args : List b8} {blks : List b9} {o : Option (b8 × List b9)} (rt : RT) (l : List ((St → DT (g8 × St)) × PC)) (hs : zc2 rt F.body = l)
  (hl:eb7 (λx=>∀s,ma9 (len blks) F.res (x.1 s) (V0 E (len blks) x.2 s)) l) (h:(Qf7 E F (Ed1 rt F.body) args blks).run=o) (r:b8×List b9) (hr:o=some r):(Vb9 E F args blks).run=some r :=
 ze4 (He4 rt _ (by rw[hs];exact hl)) r (h.trans hr)
theorem df5 {E : Env} {F : PFn} {args : List b8} {blks : List b9} {o : Option (b8 × List b9)} (rt : RT) (l : List ((St → DT (g8 × St)) × PC)) (hs : zc2 rt F.body = l)
  (hl:eb7 (λx=>∀s,ha5 (x.1 s) (V0 E (len blks) x.2 s)) l) (h:(Cf9 E F (pc0 rt F.body) args blks).run=o) (r:b8×List b9) (hr:o=some r):(cc2 E F args blks).run=some r :=
 me0 (Yd2 rt _ (by rw[hs];exact hl)) r (h.trans hr)
theorem w9{A o:Option (b8×List b9)}(h:A=o)(r:b8×List b9)(hr:o=some r):A=some r:=h.trans hr
noncomputable abbrev upq(x:St)(l:List (Nat×b8)):St:=⟨l.foldl (λa q=>a.set q.1 q.2) x.a,x.H⟩
noncomputable abbrev sIq:S2:=.s (.o (.int .i64))
noncomputable abbrev sUq:S2:=.s (.o .unk)
noncomputable abbrev sBq:S2:=.s (.o .bool)
noncomputable abbrev sPq(n:Nat):S2:=.s (.o (.ptr n 0 0 0))
noncomputable abbrev sTq(n:Nat):S2:=.s (.o (.tree n))
noncomputable abbrev sLq{α:Type}(t:Ty α):S2:=.s (.c t.es (nL t))
noncomputable abbrev kLq(n:Nat):List K:=List.replicate n (.o (.int .i64))
noncomputable abbrev aIq(a:List b8)(n:Nat):Int:=toI (slT a n)
noncomputable abbrev aBq(a:List b8)(n:Nat):Bool:=toB (slT a n)
noncomputable abbrev aNq(a:List b8)(n:Nat):Nat:=toN (slT a n)
noncomputable abbrev aGq(a:List b8)(n:Nat):Nat->List b8:=toG (slT a n)
noncomputable abbrev aLq{α:Type}(t:Ty α)(a:List b8)(n:Nat):List α:=rL t (slT a n)
noncomputable abbrev hIq(H:List b9)(m r n:Nat):Int:=toI (slT (rwT (elT H m) r) n)
noncomputable abbrev cIq(a:List b8)(m n:Nat):Int:=toI (slT (cellsOf (slT a m)) n)
noncomputable abbrev hNq(H:List b9)(m r n:Nat):Nat:=toN (slT (rwT (elT H m) r) n)
noncomputable abbrev hGq(H:List b9)(m r n:Nat):Nat->List b8:=toG (slT (rwT (elT H m) r) n)
noncomputable abbrev hLq{α:Type}(t:Ty α)(H:List b9)(m r n:Nat):List α:=rL t (slT (rwT (elT H m) r) n)
end Go.Ev.L
namespace Go.Ev.Ce
structure V3 where
 x:Int
 y:Int
 z:Int
structure Pln where
 n:V3
 b:Int
structure Pt where
 px:Int
 py:Int
 pz:Int
 pw:Int
def g7(a b:V3):V3:=⟨a.y*b.z-a.z*b.y,a.z*b.x-a.x*b.z,a.x*b.y-a.y*b.x⟩
def dot(a b:V3):Int:=a.x*b.x+a.y*b.y+a.z*b.z
def mw(p q r:Pln):Int:=dot p.n (g7 q.n r.n)
end Go.Ev.Ce
namespace Go.Ev.Ce
open Go Go.Ev Go.Ev.L Go.Proofs
@[reducible] noncomputable def prog:Program:=Tryz.prog
noncomputable def G:Nat->List Value:=λ_=>[]
noncomputable def En(l:List (Nat×Sum)):Env:={ P:=prog,G,fns:=λ_=>none,call:=If6 l,own:=λf j=>Bool.and (rb9 f [150,121,154,91,139,144,146,148]) (Nat.beq j 0),N:=18446744073709551616 }
@[reducible] def u:b8:=.v (.tuple #[])
theorem Xf6{l:List (Nat×Sum)}(h:i8 prog G l):∀f,i7 (En l).P (En l).G f ((En l).call f):=Ge6 h
theorem bd{l:List (Nat×Sum)}{f:FuncId}{R:Env->Sum}(b:Be0 prog f R)(h:i8 prog G l):i7 prog G f (R (En l)):=b rfl (Xf6 h)
noncomputable def tV:Ty V3 where
 es:=3
 row x:=[i x.x,i x.y,i x.z]
 rd r:=⟨toI (hdA r),toI (hdA (tlA r)),toI (hdA (tlA (tlA r)))⟩
 ok r:=Ja9 3 r
 cks:=List.replicate 3 (.int .i64)
 d:=⟨0,0,0⟩
 h0 _:=rfl
 h1 _:=rfl
 h2 _:=rfl
 h3 _ h:=.of (nb2 h)
 h4 _:=rfl
 h5 _:=rfl
noncomputable def r1V:R1 V3:=r1A tV 3 λ_ h=>h
noncomputable def tP:Ty Pln where
 es:=4
 row x:=[i x.n.x,i x.n.y,i x.n.z,i x.b]
 rd r:=⟨⟨toI (hdA r),toI (hdA (tlA r)),toI (hdA (tlA (tlA r)))⟩,toI (hdA (tlA (tlA (tlA r))))⟩
 ok r:=Ja9 4 r
 cks:=List.replicate 4 (.int .i64)
 d:=⟨⟨0,0,0⟩,0⟩
 h0 _:=rfl
 h1 _:=rfl
 h2 _:=rfl
 h3 _ h:=.of (nb2 h)
 h4 _:=rfl
 h5 _:=rfl
noncomputable def r1P:R1 Pln:=r1A tP 4 λ_ h=>h
noncomputable def tX:Ty Pt where
 es:=4
 row x:=[i x.px,i x.py,i x.pz,i x.pw]
 rd r:=⟨toI (hdA r),toI (hdA (tlA r)),toI (hdA (tlA (tlA r))),toI (hdA (tlA (tlA (tlA r))))⟩
 ok r:=Ja9 4 r
 cks:=List.replicate 4 (.int .i64)
 d:=⟨0,0,0,0⟩
 h0 _:=rfl
 h1 _:=rfl
 h2 _:=rfl
 h3 _ h:=.of (nb2 h)
 h4 _:=rfl
 h5 _:=rfl
noncomputable def r1X:R1 Pt:=r1A tX 4 λ_ h=>h
structure Tp where
 p:Pln
 q:Pln
 r:Pln
noncomputable def tY:Ty Tp where
 es:=12
 row x:=[i x.p.n.x,i x.p.n.y,i x.p.n.z,i x.p.b,i x.q.n.x,i x.q.n.y,i x.q.n.z,i x.q.b,i x.r.n.x,i x.r.n.y,i x.r.n.z,i x.r.b]
 rd r:=⟨⟨⟨toI (hdA r),toI (hdA (tlA r)),toI (hdA (tlA (tlA r)))⟩,toI (hdA (tlA (tlA (tlA r))))⟩,⟨⟨toI (hdA (tlA (tlA (tlA (tlA r))))),toI (hdA (tlA (tlA (tlA (tlA (tlA r)))))),toI (hdA (tlA (tlA (tlA (tlA (tlA (tlA r)))))))⟩,toI (hdA (tlA (tlA (tlA (tlA (tlA (tlA (tlA r))))))))⟩,⟨⟨toI (hdA (tlA (tlA (tlA (tlA (tlA (tlA (tlA (tlA r))))))))),toI (hdA (tlA (tlA (tlA (tlA (tlA (tlA (tlA (tlA (tlA r)))))))))),toI (hdA (tlA (tlA (tlA (tlA (tlA (tlA (tlA (tlA (tlA (tlA r)))))))))))⟩,toI (hdA (tlA (tlA (tlA (tlA (tlA (tlA (tlA (tlA (tlA (tlA (tlA r))))))))))))⟩⟩
 ok r:=Ja9 12 r
 cks:=List.replicate 12 (.int .i64)
 d:=⟨⟨⟨0,0,0⟩,0⟩,⟨⟨0,0,0⟩,0⟩,⟨⟨0,0,0⟩,0⟩⟩
 h0 _:=rfl
 h1 _:=rfl
 h2 _:=rfl
 h3 _ h:=.of (nb2 h)
 h4 _:=rfl
 h5 _:=rfl
structure Q2 where
 a:V3
 b:V3
set_option maxRecDepth 100000
noncomputable def me3:List (Nat×Sum):=[]
theorem Yd3:i8 prog G me3:=trivial
noncomputable def ab8(x:Pln)(y:Pt):Int:=(W ((W ((W ((W (x.b*y.pw))-(W (x.n.x*y.px))))-(W (x.n.y*y.py))))-(W (x.n.z*y.pz))))
noncomputable def cc5:Sum:=ga1 (da1 tP) (da1 tX) (λx y=>.ret ((one r1I).enc (ab8 x y),[]))
theorem pc1:i7 prog G 158 cc5:=Ka8 (bd ig3 Yd3) λx y=>w9 (by kernel_rfl)
noncomputable def Be1:List (Nat×Sum):=[]
theorem me4:i8 prog G Be1:=trivial
noncomputable def Db0(x:V3)(y:V3):V3:=(⟨W (x.x+y.x),W (x.y+y.y),W (x.z+y.z)⟩:V3)
noncomputable def Od5:Sum:=ga1 (da1 tV) (da1 tV) (λx y=>.ret ((one r1V).enc (Db0 x y),[]))
theorem Be2:i7 prog G 80 Od5:=Ka8 (bd b80 me4) λx y=>w9 (by kernel_rfl)
noncomputable def Be3:List (Nat×Sum):=[]
theorem me5:i8 prog G Be3:=trivial
noncomputable def Ia4(x:V3)(y:V3):Int:=(W ((W ((W (x.x*y.x))+(W (x.y*y.y))))+(W (x.z*y.z))))
noncomputable def xc2:Sum:=ga1 (da1 tV) (da1 tV) (λx y=>.ret ((one r1I).enc (Ia4 x y),[]))
theorem Gc2:i7 prog G 84 xc2:=Ka8 (bd b84 me5) λx y=>w9 (by kernel_rfl)
noncomputable def Yd4:List (Nat×Sum):=[]
theorem Ed3:i8 prog G Yd4:=trivial
noncomputable def da3(x:V3)(y:V3):V3:=(⟨W ((W (x.y*y.z))-(W (x.z*y.y))),W ((W (x.z*y.x))-(W (x.x*y.z))),W ((W (x.x*y.y))-(W (x.y*y.x)))⟩:V3)
noncomputable def pc2:Sum:=ga1 (da1 tV) (da1 tV) (λx y=>.ret ((one r1V).enc (da3 x y),[]))
theorem Nc8:i7 prog G 164 pc2:=Ka8 (bd ig8 Ed3) λx y=>w9 (by kernel_rfl)
noncomputable def Ed4:List (Nat×Sum):=[]
theorem sd5:i8 prog G Ed4:=trivial
noncomputable def aa1(x:V3)(y:Int):V3:=(⟨W (x.x*y),W (x.y*y),W (x.z*y)⟩:V3)
noncomputable def Nc9:Sum:=ga1 (da1 tV) cI (λx y=>.ret ((one r1V).enc (aa1 x y),[]))
theorem Ed5:i7 prog G 228 Nc9:=Ka8 (bd lg7 sd5) λx y=>w9 (by kernel_rfl)
noncomputable def Bc1:List (Nat×Sum):=[]
theorem sd6:i8 prog G Bc1:=trivial
structure Ma2 where
structure ja1 where
 (is0 is1:Int)
noncomputable def hc6(p:Ma2)(s:ja1):St:=⟨i s.is0::i s.is1::ra 10 [],[]⟩
noncomputable def za7{α:Type}(k:ja1->α)(e:Nat->α)(z:α)(p:Ma2)(s:ja1):α:=(sl (s.is1 != 0) (sl (s.is1==0) z (k ⟨s.is1,Int.tmod s.is0 s.is1⟩)) (e 1))
noncomputable def Fa2(p:Ma2)(s:ja1):Stp ja1:=za7 .next .exit .fail p s
noncomputable def Fb6:Lo Ma2 ja1:=⟨En Bc1,0,Ff6,[1,0,4,4],[0,1],.p,[⟨sIq::sIq::ru2 10 [],[],λa H=>(⟨⟩,⟨aIq a 0,aIq a 1⟩)⟩],Fa2,[(some 0,λp s=>upq (hc6 p s) [(5,i s.is1),(6,b (s.is1 != 0))])],hc6⟩
theorem gd4:Fb6.Ok:=Lo.ok [] (by kernel_rfl) .nil rfl (.cons (λa H=>by kernel_rfl) .nil) λp s=>(.of @za7 (λF _ _ _ _ _=>by unfold za7;(repeat' apply l5 (f:=F))<;>rfl) (by kernel_rfl))
noncomputable def fb1(x:Int)(y:Int):Option (b8×List b9):=let t1:=(lp (Fa2 (⟨⟩:Ma2)) (⟨x,y⟩:ja1));(sl (Nat.beq t1.1 1) (some (i t1.2.is0,[])) none)
noncomputable def aa2(x:Int)(y:Int):Int:=I6 (one r1I) (fb1 x y)
noncomputable def aa3(x:Int)(y:Int):Bool:=okO (one r1I) (fb1 x y)
noncomputable def Oc0:Sum:=ga1 cI cI (λx y=>.guard (aa3 x y) (.ret ((one r1I).enc (aa2 x y),[])))
theorem Ed6:i7 prog G 229 Oc0:=La5 (bd lg8 sd6) (one r1I) (o:=fb1) λx y=>ma5 (.s .p (.s (.b (.u Fb6.ls)) .p)) [Fb6.pr] (by kernel_rfl) (.cons gd4 .nil) (by kernel_rfl)
noncomputable def me6:List (Nat×Sum):=[(164,pc2),(84,xc2),(228,Nc9),(80,Od5),(229,Oc0)]
theorem Yd5:i8 prog G me6:=⟨Nc8,Gc2,Ed5,Be2,Ed6,trivial⟩
noncomputable def Fb7(x:Pln)(y:Pln)(z:Pln):Option (b8×List b9):=let t1:=(da3 y.n z.n);let t2:=(Ia4 x.n t1);let t3:=(aa1 t1 x.b);let t4:=(da3 z.n x.n);let t5:=(aa1 t4 y.b);let t6:=(Db0 t3 t5);let t7:=(da3 x.n y.n);let t8:=(aa1 t7 z.b);let t9:=(Db0 t6 t8);let t10:=(aa1 t9 (-1));let t11:=(aa2 (if (W (0-t10.x))>t10.x then (W (0-t10.x)) else t10.x) (if (W (0-t10.y))>t10.y then (W (0-t10.y)) else t10.y));let t12:=(aa2 (if (W (0-t10.z))>t10.z then (W (0-t10.z)) else t10.z) (W (0-t2)));let t13:=(aa2 t11 t12);let t14:=(aa2 (if (W (0-t9.x))>t9.x then (W (0-t9.x)) else t9.x) (if (W (0-t9.y))>t9.y then (W (0-t9.y)) else t9.y));let t15:=(aa2 (if (W (0-t9.z))>t9.z then (W (0-t9.z)) else t9.z) t2);let t16:=(aa2 t14 t15);(sl (t2==0) (some (.tup [.agg [i 0,i 0,i 0,i 0],b false],[])) (sl (decide (t2<0)) (sl (aa3 (if (W (0-t10.x))>t10.x then (W (0-t10.x)) else t10.x) (if (W (0-t10.y))>t10.y then (W (0-t10.y)) else t10.y)) (sl (aa3 (if (W (0-t10.z))>t10.z then (W (0-t10.z)) else t10.z) (W (0-t2))) (sl (aa3 t11 t12) (sl (t13==0) none (sl (t13==0) none (sl (t13==0) none (sl (t13==0) none (some (.tup [.agg [i (W (Int.tdiv t10.x t13)),i (W (Int.tdiv t10.y t13)),i (W (Int.tdiv t10.z t13)),i (W (Int.tdiv (W (0-t2)) t13))],b true],[])))))) none) none) none) (sl (aa3 (if (W (0-t9.x))>t9.x then (W (0-t9.x)) else t9.x) (if (W (0-t9.y))>t9.y then (W (0-t9.y)) else t9.y)) (sl (aa3 (if (W (0-t9.z))>t9.z then (W (0-t9.z)) else t9.z) t2) (sl (aa3 t14 t15) (sl (t16==0) none (sl (t16==0) none (sl (t16==0) none (sl (t16==0) none (some (.tup [.agg [i (W (Int.tdiv t9.x t16)),i (W (Int.tdiv t9.y t16)),i (W (Int.tdiv t9.z t16)),i (W (Int.tdiv t2 t16))],b true],[])))))) none) none) none)))
noncomputable def Fb8(x:Pln)(y:Pln)(z:Pln):Pt×Bool:=I6 (two r1X r1B) (Fb7 x y z)
noncomputable def Fb9(x:Pln)(y:Pln)(z:Pln):Bool:=okO (two r1X r1B) (Fb7 x y z)
noncomputable def sd7:Sum:=gd3 (da1 tP) (da1 tP) (da1 tP) (λx y z=>.guard (Fb9 x y z) (.ret ((two r1X r1B).enc (Fb8 x y z),[])))
theorem me7:i7 prog G 209 sd7:=Ye8 (bd lg2 Yd5) (two r1X r1B) (o:=Fb7) λx y z=>w9 (by kernel_rfl)
noncomputable def Od6:List (Nat×Sum):=[(158,cc5)]
theorem Be4:i8 prog G Od6:=⟨pc1,trivial⟩
structure Gb0 where
 d7:List Pln
 (j7 e8 j8 l8:Int)
structure Da4 where
 is5:Int
noncomputable def cd5(p:Gb0)(s:Da4):St:=⟨eL tP p.d7::.unk::.unk::.ptr 0 0 0 0::.unk::i s.is5::ra 13 [],[⟨0,4,[[i p.j7,i p.e8,i p.j8,i p.l8]],true,false,0⟩]⟩
noncomputable def fb2{α:Type}(k:Da4->α)(e:Nat->α)(z:α)(p:Gb0)(s:Da4):α:=let t1:=(ab8 (gL tP p.d7 s.is5.toNat) (⟨p.j7,p.e8,p.j8,p.l8⟩:Pt));(sl (decide (s.is5<(↑(List.length p.d7):Int))) (sl (inB s.is5 (List.length p.d7)) (sl (decide (t1<0)) (e 1) (k ⟨W (s.is5+1)⟩)) z) (e 2))
noncomputable def sb1(p:Gb0)(s:Da4):Stp Da4:=fb2 .next .exit .fail p s
noncomputable def Gc3:Lo Gb0 Da4:=⟨En Od6,0,Ff3,[1,0,1,4,4],[0,3,5],.p,[⟨sLq tP::sUq::sUq::sPq 0::sUq::sIq::ru2 13 [],[⟨0,4,true,some [kLq 4]⟩],λa H=>(⟨aLq tP a 0,hIq H 0 0 0,hIq H 0 0 1,hIq H 0 0 2,hIq H 0 0 3⟩,⟨aIq a 5⟩)⟩],sb1,[(none,λp s=>⟨[b false],[]⟩),(some 0,λp s=>upq (cd5 p s) [(6,i s.is5),(7,eL tP p.d7),(8,i (↑(List.length p.d7):Int)),(9,b (decide (s.is5<(↑(List.length p.d7):Int))))])],cd5⟩
theorem me8:Gc3.Ok:=Lo.ok [] (by kernel_rfl) .nil rfl (.cons (λa H=>by kernel_rfl) .nil) λp s=>(.of @fb2 (λF _ _ _ _ _=>by unfold fb2;(repeat' apply l5 (f:=F))<;>rfl) (by kernel_rfl))
noncomputable def pc3(x:List Pln)(y:Pt):Option (b8×List b9):=let t1:=(lp (sb1 (⟨rt tP x,y.px,y.py,y.pz,y.pw⟩:Gb0)) (⟨0⟩:Da4));(sl ((cnE tP x)&&true) (sl (Nat.beq t1.1 1) (some (b false,[])) (sl (Nat.beq t1.1 2) (some (b true,[])) none)) none)
noncomputable def Wb8(x:List Pln)(y:Pt):Bool:=I6 (one r1B) (pc3 x y)
noncomputable def Wb9(x:List Pln)(y:Pt):Bool:=okO (one r1B) (pc3 x y)
noncomputable def me9:Sum:=ga1 (G4 tP) (da1 tX) (λx y=>.guard (Wb9 x y) (.ret ((one r1B).enc (Wb8 x y),[])))
theorem Se5:i7 prog G 210 me9:=La5 (bd lg3 Be4) (one r1B) (o:=pc3) λx y=>ma5 (.s .p (.s (.s .p (.b (.u Gc3.ls))) .p)) [Gc3.pr] (by kernel_rfl) (.cons me8 .nil) (by kernel_rfl)
noncomputable def Oc1:List (Nat×Sum):=[]
theorem Ed7:i8 prog G Oc1:=trivial
structure Va6 where
 xa1:List Pt
 (j7 e8 j8 l8:Int)
structure ha7 where
 is5:Int
noncomputable def pc4(p:Va6)(s:ha7):St:=⟨eL tX p.xa1::.unk::.unk::.ptr 0 0 0 0::.unk::i s.is5::ra 12 [],[⟨0,4,[[i p.j7,i p.e8,i p.j8,i p.l8]],true,false,0⟩]⟩
noncomputable def Fa3{α:Type}(k:ha7->α)(e:Nat->α)(z:α)(p:Va6)(s:ha7):α:=(sl (decide (s.is5<(↑(List.length p.xa1):Int))) (sl (inB s.is5 (List.length p.xa1)) (sl (((gL tX p.xa1 s.is5.toNat).px==p.j7)&&(((gL tX p.xa1 s.is5.toNat).py==p.e8)&&(((gL tX p.xa1 s.is5.toNat).pz==p.j8)&&(((gL tX p.xa1 s.is5.toNat).pw==p.l8)&&true)))) (e 1) (k ⟨W (s.is5+1)⟩)) z) (e 2))
noncomputable def Ma3(p:Va6)(s:ha7):Stp ha7:=Fa3 .next .exit .fail p s
noncomputable def Sb3:Lo Va6 ha7:=⟨En Oc1,0,Ff4,[1,0,1,4,4],[0,3,5],.p,[⟨sLq tX::sUq::sUq::sPq 0::sUq::sIq::ru2 12 [],[⟨0,4,true,some [kLq 4]⟩],λa H=>(⟨aLq tX a 0,hIq H 0 0 0,hIq H 0 0 1,hIq H 0 0 2,hIq H 0 0 3⟩,⟨aIq a 5⟩)⟩],Ma3,[(none,λp s=>⟨[b true],[]⟩),(some 0,λp s=>upq (pc4 p s) [(6,i s.is5),(7,eL tX p.xa1),(8,i (↑(List.length p.xa1):Int)),(9,b (decide (s.is5<(↑(List.length p.xa1):Int))))])],pc4⟩
theorem sd8:Sb3.Ok:=Lo.ok [] (by kernel_rfl) .nil rfl (.cons (λa H=>by kernel_rfl) .nil) λp s=>(.of @Fa3 (λF _ _ _ _ _=>by unfold Fa3;(repeat' apply l5 (f:=F))<;>rfl) (by kernel_rfl))
noncomputable def sb2(x:List Pt)(y:Pt):Option (b8×List b9):=let t1:=(lp (Ma3 (⟨rt tX x,y.px,y.py,y.pz,y.pw⟩:Va6)) (⟨0⟩:ha7));(sl ((cnE tX x)&&true) (sl (Nat.beq t1.1 1) (some (b true,[])) (sl (Nat.beq t1.1 2) (some (b false,[])) none)) none)
noncomputable def cb0(x:List Pt)(y:Pt):Bool:=I6 (one r1B) (sb2 x y)
noncomputable def cb1(x:List Pt)(y:Pt):Bool:=okO (one r1B) (sb2 x y)
noncomputable def cd6:Sum:=ga1 (G4 tX) (da1 tX) (λx y=>.guard (cb1 x y) (.ret ((one r1B).enc (cb0 x y),[])))
theorem Yd6:i7 prog G 211 cd6:=La5 (bd lg4 Ed7) (one r1B) (o:=sb2) λx y=>ma5 (.s .p (.s (.s .p (.b (.u Sb3.ls))) .p)) [Sb3.pr] (by kernel_rfl) (.cons sd8 .nil) (by kernel_rfl)
noncomputable def fb3:List (Nat×Sum):=[(209,sd7),(210,me9),(211,cd6)]
theorem gd5:i8 prog G fb3:=⟨me7,Se5,Yd6,trivial⟩
structure W4 where
 d7:List Pln
 (is4 is5:Int)
structure A1 where
 ph:Nat
 is6:Int
 ns3:Nat
 eh0:List (List b8)
noncomputable def Ob4(p:W4)(s:A1):St:=⟨eL tP p.d7::.unk::.unk::.v (.slice none 0 0)::i p.is4::i p.is5::i s.is6::ra 57 [],[]⟩
noncomputable def Ob5(p:W4)(s:A1):St:=⟨eL tP p.d7::.unk::.unk::.sl 0 0 s.ns3 0::i p.is4::i p.is5::i s.is6::ra 57 [],[⟨136,4,s.eh0,true,false,0⟩]⟩
noncomputable def Wc2(p:W4)(s:A1):St:=(sel (Nat.beq s.ph 1) (Ob5 p s) (Ob4 p s))
noncomputable def aa4{α:Type}(k:A1->α)(e:Nat->α)(z:α)(p:W4)(s:A1):α:=let t1:=(Fb8 (gL tP p.d7 p.is4.toNat) (gL tP p.d7 p.is5.toNat) (gL tP p.d7 s.is6.toNat));let t2:=(Wb8 (rt tP p.d7) t1.1);let t3:=(cb0 [] t1.1);(sl (decide (s.is6<(↑(List.length p.d7):Int))) (sl (inB p.is4 (List.length p.d7)) (sl (inB p.is5 (List.length p.d7)) (sl (inB s.is6 (List.length p.d7)) (sl (Fb9 (gL tP p.d7 p.is4.toNat) (gL tP p.d7 p.is5.toNat) (gL tP p.d7 s.is6.toNat)) (sl t1.2 (sl (okE tP p.d7) (sl (Wb9 (rt tP p.d7) t1.1) (sl t2 (sl (cb1 [] t1.1) (sl (!t3) (k ⟨1,W (s.is6+1),1,[[i t1.1.px,i t1.1.py,i t1.1.pz,i t1.1.pw]]⟩) (k ⟨0,W (s.is6+1),0,[]⟩)) z) (k ⟨0,W (s.is6+1),0,[]⟩)) z) z) (k ⟨0,W (s.is6+1),0,[]⟩)) z) z) z) z) (e 1))
noncomputable def aa5{α:Type}(k:A1->α)(e:Nat->α)(z:α)(p:W4)(s:A1):α:=let t1:=(Fb8 (gL tP p.d7 p.is4.toNat) (gL tP p.d7 p.is5.toNat) (gL tP p.d7 s.is6.toNat));let t2:=(Wb8 (rt tP p.d7) t1.1);let t3:=(cb0 (slR tX s.eh0 0 s.ns3) t1.1);(sl (decide (s.is6<(↑(List.length p.d7):Int))) (sl (inB p.is4 (List.length p.d7)) (sl (inB p.is5 (List.length p.d7)) (sl (inB s.is6 (List.length p.d7)) (sl (Fb9 (gL tP p.d7 p.is4.toNat) (gL tP p.d7 p.is5.toNat) (gL tP p.d7 s.is6.toNat)) (sl t1.2 (sl (okE tP p.d7) (sl (Wb9 (rt tP p.d7) t1.1) (sl t2 (sl (okS tX s.eh0 0 s.ns3) (sl (cb1 (slR tX s.eh0 0 s.ns3) t1.1) (sl (!t3) (sl (Nat.beq s.ns3 (len s.eh0)&&Nat.ble ((s.ns3+1)*32) room) (k ⟨1,W (s.is6+1),s.ns3+1,app s.eh0 [[i t1.1.px,i t1.1.py,i t1.1.pz,i t1.1.pw]]⟩) z) (k ⟨1,W (s.is6+1),s.ns3,s.eh0⟩)) z) z) (k ⟨1,W (s.is6+1),s.ns3,s.eh0⟩)) z) z) (k ⟨1,W (s.is6+1),s.ns3,s.eh0⟩)) z) z) z) z) (e 2))
noncomputable def Y3(p:W4)(s:A1):Stp A1:=(sel (Nat.beq s.ph 1) (aa5 .next .exit .fail p s) (aa4 .next .exit .fail p s))
noncomputable def wb6:Lo W4 A1:=⟨En fb3,0,Ie3,[1,1,0,1,4,4,1,0,4,1,4,4,1,0,4,1,4,4],[0,3,4,5,6],.p,[⟨sLq tP::sUq::sUq::.s (.o .nil)::sIq::sIq::sIq::ru2 57 [],[],λa H=>(⟨aLq tP a 0,aIq a 4,aIq a 5⟩,⟨0,aIq a 6,0,[]⟩)⟩,⟨sLq tP::sUq::sUq::.s (.o (.sl 0 0 (some 0) none))::sIq::sIq::sIq::ru2 57 [],[⟨136,4,true,none⟩],λa H=>(⟨aLq tP a 0,aIq a 4,aIq a 5⟩,⟨1,aIq a 6,slN (slT a 3),elT H 0⟩)⟩],Y3,[(some 4,λp s=>upq (Ob4 p s) [(25,i s.is6),(26,eL tP p.d7),(27,i (↑(List.length p.d7):Int)),(28,b (decide (s.is6<(↑(List.length p.d7):Int))))]),(some 4,λp s=>upq (Ob5 p s) [(25,i s.is6),(26,eL tP p.d7),(27,i (↑(List.length p.d7):Int)),(28,b (decide (s.is6<(↑(List.length p.d7):Int))))])],Wc2⟩
theorem Wc3:wb6.Ok:=Lo.ok [] (by kernel_rfl) .nil rfl (.cons (λa H=>by kernel_rfl) (.cons (λa H=>by kernel_rfl) .nil)) λp s=>(.sel (Nat.beq s.ph 1) (.of @aa5 (λF _ _ _ _ _=>by unfold aa5;(repeat' apply l5 (f:=F))<;>rfl) (by kernel_rfl)) (.of @aa4 (λF _ _ _ _ _=>by unfold aa4;(repeat' apply l5 (f:=F))<;>rfl) (by kernel_rfl)))
structure W5 where
 is4:Int
structure B8 where
 ph:Nat
 d7:List Pln
 is5:Int
 ns3:Nat
 eh0:List (List b8)
noncomputable def Ob6(p:W5)(s:B8):St:=⟨eL tP s.d7::.unk::.unk::.v (.slice none 0 0)::i p.is4::i s.is5::ra 58 [],[]⟩
noncomputable def Ob7(p:W5)(s:B8):St:=⟨eL tP s.d7::.unk::.unk::.sl 0 0 s.ns3 0::i p.is4::i s.is5::ra 58 [],[⟨136,4,s.eh0,true,false,0⟩]⟩
noncomputable def Wc4(p:W5)(s:B8):St:=(sel (Nat.beq s.ph 1) (Ob7 p s) (Ob6 p s))
noncomputable def aa6{α:Type}(k:B8->α)(e:Nat->α)(z:α)(p:W5)(s:B8):α:=let t1:=(lp (Y3 (⟨rt tP s.d7,p.is4,s.is5⟩:W4)) (⟨0,W (s.is5+1),0,[]⟩:A1));(sl (decide (s.is5<(↑(List.length s.d7):Int))) (sl ((cnE tP s.d7)&&true) (sl (Nat.beq t1.1 1) (k ⟨0,rt tP s.d7,W (s.is5+1),0,[]⟩) (sl (Nat.beq t1.1 2) (k ⟨1,rt tP s.d7,W (s.is5+1),t1.2.ns3,t1.2.eh0⟩) z)) z) (e 1))
noncomputable def aa7{α:Type}(k:B8->α)(e:Nat->α)(z:α)(p:W5)(s:B8):α:=let t1:=(lp (Y3 (⟨rt tP s.d7,p.is4,s.is5⟩:W4)) (⟨1,W (s.is5+1),s.ns3,s.eh0⟩:A1));(sl (decide (s.is5<(↑(List.length s.d7):Int))) (sl ((cnE tP s.d7)&&true) (sl (Nat.beq t1.1 1) (k ⟨0,rt tP s.d7,W (s.is5+1),0,[]⟩) (sl (Nat.beq t1.1 2) (k ⟨1,rt tP s.d7,W (s.is5+1),t1.2.ns3,t1.2.eh0⟩) z)) z) (e 2))
noncomputable def S5(p:W5)(s:B8):Stp B8:=(sel (Nat.beq s.ph 1) (aa7 .next .exit .fail p s) (aa6 .next .exit .fail p s))
noncomputable def wb7:Lo W5 B8:=⟨En fb3,0,Ie3,[1,1,0,1,4,4,1,0,4,1,4,4],[0,3,4,5],.s .p (.s (.b (.s .p (.b (.u wb6.ls)))) .p),[⟨sLq tP::sUq::sUq::.s (.o .nil)::sIq::sIq::ru2 58 [],[],λa H=>(⟨aIq a 4⟩,⟨0,aLq tP a 0,aIq a 5,0,[]⟩)⟩,⟨sLq tP::sUq::sUq::.s (.o (.sl 0 0 (some 0) none))::sIq::sIq::ru2 58 [],[⟨136,4,true,none⟩],λa H=>(⟨aIq a 4⟩,⟨1,aLq tP a 0,aIq a 5,slN (slT a 3),elT H 0⟩)⟩],S5,[(some 2,λp s=>upq (Ob6 p s) [(17,i s.is5),(18,eL tP s.d7),(19,i (↑(List.length s.d7):Int)),(20,b (decide (s.is5<(↑(List.length s.d7):Int))))]),(some 2,λp s=>upq (Ob7 p s) [(17,i s.is5),(18,eL tP s.d7),(19,i (↑(List.length s.d7):Int)),(20,b (decide (s.is5<(↑(List.length s.d7):Int))))])],Wc4⟩
theorem Wc5:wb7.Ok:=Lo.ok [wb6.pr] (by kernel_rfl) (.cons Wc3 .nil) rfl (.cons (λa H=>by kernel_rfl) (.cons (λa H=>by kernel_rfl) .nil)) λp s=>(.sel (Nat.beq s.ph 1) (.of @aa7 (λF _ _ _ _ _=>by unfold aa7;(repeat' apply l5 (f:=F))<;>rfl) (by kernel_rfl)) (.of @aa6 (λF _ _ _ _ _=>by unfold aa6;(repeat' apply l5 (f:=F))<;>rfl) (by kernel_rfl)))
structure da4 where
structure F6 where
 ph:Nat
 d7:List Pln
 is4:Int
 ns3:Nat
 eh0:List (List b8)
noncomputable def Ob8(p:da4)(s:F6):St:=⟨eL tP s.d7::.unk::.unk::.v (.slice none 0 0)::i s.is4::ra 59 [],[]⟩
noncomputable def Ob9(p:da4)(s:F6):St:=⟨eL tP s.d7::.unk::.unk::.sl 0 0 s.ns3 0::i s.is4::ra 59 [],[⟨136,4,s.eh0,true,false,0⟩]⟩
noncomputable def Wc6(p:da4)(s:F6):St:=(sel (Nat.beq s.ph 1) (Ob9 p s) (Ob8 p s))
noncomputable def aa8{α:Type}(k:F6->α)(e:Nat->α)(z:α)(p:da4)(s:F6):α:=let t1:=(lp (S5 (⟨s.is4⟩:W5)) (⟨0,rt tP s.d7,W (s.is4+1),0,[]⟩:B8));(sl (decide (s.is4<(↑(List.length s.d7):Int))) (sl ((cnE tP s.d7)&&true) (sl (Nat.beq t1.1 1) (k ⟨0,t1.2.d7,W (s.is4+1),0,[]⟩) (sl (Nat.beq t1.1 2) (k ⟨1,t1.2.d7,W (s.is4+1),t1.2.ns3,t1.2.eh0⟩) z)) z) (e 1))
noncomputable def aa9{α:Type}(k:F6->α)(e:Nat->α)(z:α)(p:da4)(s:F6):α:=let t1:=(lp (S5 (⟨s.is4⟩:W5)) (⟨1,rt tP s.d7,W (s.is4+1),s.ns3,s.eh0⟩:B8));(sl (decide (s.is4<(↑(List.length s.d7):Int))) (sl ((cnE tP s.d7)&&true) (sl (Nat.beq t1.1 1) (k ⟨0,t1.2.d7,W (s.is4+1),0,[]⟩) (sl (Nat.beq t1.1 2) (k ⟨1,t1.2.d7,W (s.is4+1),t1.2.ns3,t1.2.eh0⟩) z)) z) (e 2))
noncomputable def Y4(p:da4)(s:F6):Stp F6:=(sel (Nat.beq s.ph 1) (aa9 .next .exit .fail p s) (aa8 .next .exit .fail p s))
noncomputable def wb8:Lo da4 F6:=⟨En fb3,0,Ie3,[1,1,0,1,4,4],[0,3,4],.s .p (.s (.b (.s .p (.b (.u wb7.ls)))) .p),[⟨sLq tP::sUq::sUq::.s (.o .nil)::sIq::ru2 59 [],[],λa H=>(⟨⟩,⟨0,aLq tP a 0,aIq a 4,0,[]⟩)⟩,⟨sLq tP::sUq::sUq::.s (.o (.sl 0 0 (some 0) none))::sIq::ru2 59 [],[⟨136,4,true,none⟩],λa H=>(⟨⟩,⟨1,aLq tP a 0,aIq a 4,slN (slT a 3),elT H 0⟩)⟩],Y4,[(some 0,λp s=>upq (Ob8 p s) [(9,i s.is4),(10,eL tP s.d7),(11,i (↑(List.length s.d7):Int)),(12,b (decide (s.is4<(↑(List.length s.d7):Int))))]),(some 0,λp s=>upq (Ob9 p s) [(9,i s.is4),(10,eL tP s.d7),(11,i (↑(List.length s.d7):Int)),(12,b (decide (s.is4<(↑(List.length s.d7):Int))))])],Wc6⟩
theorem Wc7:wb8.Ok:=Lo.ok [wb7.pr] (by kernel_rfl) (.cons Wc5 .nil) rfl (.cons (λa H=>by kernel_rfl) (.cons (λa H=>by kernel_rfl) .nil)) λp s=>(.sel (Nat.beq s.ph 1) (.of @aa9 (λF _ _ _ _ _=>by unfold aa9;(repeat' apply l5 (f:=F))<;>rfl) (by kernel_rfl)) (.of @aa8 (λF _ _ _ _ _=>by unfold aa8;(repeat' apply l5 (f:=F))<;>rfl) (by kernel_rfl)))
noncomputable def Va7(x:List Pln):Option (b8×List b9):=let t1:=(lp (Y4 (⟨⟩:da4)) (⟨0,rt tP x,0,0,[]⟩:F6));(sl ((cnE tP x)&&true) (sl (Nat.beq t1.1 1) (some (.v (.slice none 0 0),[])) (sl (Nat.beq t1.1 2) (some (.sl 0 0 t1.2.ns3 0,[⟨136,4,t1.2.eh0,true,false,0⟩])) none)) none)
noncomputable def Va8(x:List Pln):List Pt:=I6 (one (r1L tX)) (Va7 x)
noncomputable def Va9(x:List Pln):Bool:=okO (one (r1L tX)) (Va7 x)
noncomputable def Sb4:Sum:=Z5 (G4 tP) (λx=>.guard (Va9 x) (.ret ((one (r1L tX)).enc (Va8 x),[])))
theorem pc5:i7 prog G 181 Sb4:=La4 (bd jg9 gd5) (one (r1L tX)) (o:=Va7) λx=>ma5 (.s .p (.s .p (.s (.s .p (.b (.u wb8.ls))) .p))) [wb8.pr] (by kernel_rfl) (.cons Wc7 .nil) (by kernel_rfl)
noncomputable def Pb0:List (Nat×Sum):=[]
theorem Gc4:i8 prog G Pb0:=trivial
@[reducible] noncomputable def Ra5:Sum:=Vb9 (En Pb0) Ef7
theorem fb4:i7 prog G 191 Ra5:=bd kg4 Gc4
noncomputable def gd6:List (Nat×Sum):=[]
theorem Wc8:i8 prog G gd6:=trivial
noncomputable def Ma4(x:Int):Option (b8×List b9):=(sl (decide (x<0)) (some (i (W (0-x)),[])) (some (i x,[])))
noncomputable def za8(x:Int):Int:=I6 (one r1I) (Ma4 x)
noncomputable def za9(x:Int):Bool:=okO (one r1I) (Ma4 x)
noncomputable def pc6:Sum:=Z5 cI (λx=>.guard (za9 x) (.ret ((one r1I).enc (za8 x),[])))
theorem gd7:i7 prog G 184 pc6:=La4 (bd kg2 Wc8) (one r1I) (o:=Ma4) λx=>w9 (by kernel_rfl)
noncomputable def cd7:List (Nat×Sum):=[(184,pc6),(191,Ra5)]
theorem Yd7:i8 prog G cd7:=⟨gd7,fb4,trivial⟩
structure va1 where
 (is6 j7 e8 j8 rb5 rb6 rb7:Int)
structure ba0 where
 (is5 is7:Int)
noncomputable def Bc2(p:va1)(s:ba0):St:=⟨.unk::.ptr 0 0 0 0::.ptr 1 0 0 0::.unk::.ptr 2 0 0 0::i s.is5::i p.is6::i s.is7::ra 38 [],[⟨0,3,[[i p.j7,i p.e8,i p.j8]],true,false,0⟩,⟨0,3,[[i 0,i 0,i 0]],true,false,0⟩,⟨0,3,[[i p.rb5,i p.rb6,i p.rb7]],true,false,0⟩]⟩
noncomputable def Ma5{α:Type}(k:ba0->α)(e:Nat->α)(z:α)(p:va1)(s:ba0):α:=(sl (decide (s.is7>0)) (sl (s.is7==0) z (k ⟨s.is7,Int.tmod s.is5 s.is7⟩)) (e 1))
noncomputable def pa5(p:va1)(s:ba0):Stp ba0:=Ma5 .next .exit .fail p s
noncomputable def cc6:Lo va1 ba0:=⟨En cd7,0,Ef2,[1,1,1,0,1,4,4,1,0,4,1,1,4,4],[1,2,4,5,6,7],.p,[⟨sUq::sPq 0::sPq 1::sUq::sPq 2::sIq::sIq::sIq::ru2 38 [],[⟨0,3,true,some [kLq 3]⟩,⟨0,3,true,some [[.o (.lit .i64 0),.o (.lit .i64 0),.o (.lit .i64 0)]]⟩,⟨0,3,true,some [kLq 3]⟩],λa H=>(⟨aIq a 6,hIq H 0 0 0,hIq H 0 0 1,hIq H 0 0 2,hIq H 2 0 0,hIq H 2 0 1,hIq H 2 0 2⟩,⟨aIq a 5,aIq a 7⟩)⟩],pa5,[(some 2,λp s=>upq (Bc2 p s) [(23,i s.is7),(24,b (decide (s.is7>0)))])],Bc2⟩
theorem Ed8:cc6.Ok:=Lo.ok [] (by kernel_rfl) .nil rfl (.cons (λa H=>by kernel_rfl) .nil) λp s=>(.of @Ma5 (λF _ _ _ _ _=>by unfold Ma5;(repeat' apply l5 (f:=F))<;>rfl) (by kernel_rfl))
noncomputable def Gb1(x:V3):Option (b8×List b9):=let t1:=(za8 x.x);let t2:=(lp (pa5 (⟨0,x.x,x.y,x.z,x.x,x.y,x.z⟩:va1)) (⟨0,t1⟩:ba0));let t3:=(za8 x.y);let t4:=(lp (pa5 (⟨1,x.x,x.y,x.z,x.x,x.y,x.z⟩:va1)) (⟨t2.2.is5,t3⟩:ba0));let t5:=(za8 x.z);let t6:=(lp (pa5 (⟨2,x.x,x.y,x.z,x.x,x.y,x.z⟩:va1)) (⟨t4.2.is5,t5⟩:ba0));(sl (x.x==(-9223372036854775808)) (some (.tup [.agg [i 0,i 0,i 0],i 0],[])) (sl (za9 x.x) (sl (Nat.beq t2.1 1) (sl (x.y==(-9223372036854775808)) (some (.tup [.agg [i 0,i 0,i 0],i 0],[])) (sl (za9 x.y) (sl (Nat.beq t4.1 1) (sl (x.z==(-9223372036854775808)) (some (.tup [.agg [i 0,i 0,i 0],i 0],[])) (sl (za9 x.z) (sl (Nat.beq t6.1 1) (sl (t6.2.is5==0) (some (.tup [.agg [i 0,i 0,i 0],i 0],[])) (sl (t6.2.is5==0) none (sl (t6.2.is5==0) none (sl (t6.2.is5==0) none (some (.tup [.agg [i (W (Int.tdiv x.x t6.2.is5)),i (W (Int.tdiv x.y t6.2.is5)),i (W (Int.tdiv x.z t6.2.is5))],i t6.2.is5],[])))))) none) none)) none) none)) none) none))
noncomputable def ab9(x:V3):V3×Int:=I6 (two r1V r1I) (Gb1 x)
noncomputable def Gb2(x:V3):Bool:=okO (two r1V r1I) (Gb1 x)
noncomputable def Gc5:Sum:=Z5 (da1 tV) (λx=>.guard (Gb2 x) (.ret ((two r1V r1I).enc (ab9 x),[])))
theorem cd8:i7 prog G 163 Gc5:=La4 (bd ig7 Yd7) (two r1V r1I) (o:=Gb1) λx=>ma5 (.s .p (.s .p (.s .p (.s (.s .p (.b (.l (.s .p (.s (.b (.s .p (.s .p (.b (.u cc6.ls))))) .p))))) .p)))) [cc6.pr] (by kernel_rfl) (.cons Ed8 .nil) (by kernel_rfl)
noncomputable def Yd8:List (Nat×Sum):=[(163,Gc5),(191,Ra5)]
theorem Ed9:i8 prog G Yd8:=⟨cd8,fb4,trivial⟩
noncomputable def sb3(x:Pln):Option (b8×List b9):=let t1:=(ab9 x.n);(sl (decide (x.n.x<(-4608))) (some (b false,[])) (sl (decide (x.n.x>4608)) (some (b false,[])) (sl (decide (x.n.y<(-4608))) (some (b false,[])) (sl (decide (x.n.y>4608)) (some (b false,[])) (sl (decide (x.n.z<(-4608))) (some (b false,[])) (sl (decide (x.n.z>4608)) (some (b false,[])) (sl (Gb2 x.n) (sl (t1.2==1) (sl (decide (x.b>=(-2097152))) (some (b (decide (x.b<=2097152)),[])) (some (b false,[]))) (some (b false,[]))) none)))))))
noncomputable def sb4(x:Pln):Bool:=I6 (one r1B) (sb3 x)
noncomputable def sb5(x:Pln):Bool:=okO (one r1B) (sb3 x)
noncomputable def pc7:Sum:=Z5 (da1 tP) (λx=>.guard (sb5 x) (.ret ((one r1B).enc (sb4 x),[])))
theorem Oc2:i7 prog G 156 pc7:=La4 (bd ig1 Ed9) (one r1B) (o:=sb3) λx=>w9 (by kernel_rfl)
noncomputable def Oc3:List (Nat×Sum):=[(156,pc7)]
theorem Fd0:i8 prog G Oc3:=⟨Oc2,trivial⟩
structure Wa0 where
 d7:List Pln
structure ha8 where
 is3:Int
noncomputable def pc8(p:Wa0)(s:ha8):St:=⟨eL tP p.d7::.unk::.unk::i s.is3::ra 15 [],[]⟩
noncomputable def Fa4{α:Type}(k:ha8->α)(e:Nat->α)(z:α)(p:Wa0)(s:ha8):α:=let t1:=(sb4 (gL tP p.d7 s.is3.toNat));(sl (decide (s.is3<(↑(List.length p.d7):Int))) (sl (inB s.is3 (List.length p.d7)) (sl (sb5 (gL tP p.d7 s.is3.toNat)) (sl (!t1) (e 1) (k ⟨W (s.is3+1)⟩)) z) z) (e 2))
noncomputable def Ma6(p:Wa0)(s:ha8):Stp ha8:=Fa4 .next .exit .fail p s
noncomputable def Sb5:Lo Wa0 ha8:=⟨En Oc3,0,Df0,[1,1,0,1,4,4],[0,3],.p,[⟨sLq tP::sUq::sUq::sIq::ru2 15 [],[],λa H=>(⟨aLq tP a 0⟩,⟨aIq a 3⟩)⟩],Ma6,[(none,λp s=>⟨[i 12],[]⟩),(some 0,λp s=>upq (pc8 p s) [(7,i s.is3),(8,eL tP p.d7),(9,i (↑(List.length p.d7):Int)),(10,b (decide (s.is3<(↑(List.length p.d7):Int))))])],pc8⟩
theorem sd9:Sb5.Ok:=Lo.ok [] (by kernel_rfl) .nil rfl (.cons (λa H=>by kernel_rfl) .nil) λp s=>(.of @Fa4 (λF _ _ _ _ _=>by unfold Fa4;(repeat' apply l5 (f:=F))<;>rfl) (by kernel_rfl))
noncomputable def sb6(x:List Pln):Option (b8×List b9):=let t1:=(lp (Ma6 (⟨rt tP x⟩:Wa0)) (⟨0⟩:ha8));(sl (decide ((↑(List.length x):Int)>48)) (some (i 2,[])) (sl ((cnE tP x)&&true) (sl (Nat.beq t1.1 1) (some (i 12,[])) (sl (Nat.beq t1.1 2) (some (i 0,[])) none)) none))
noncomputable def ja2(x:List Pln):Int:=I6 (one r1I) (sb6 x)
noncomputable def va2(x:List Pln):Bool:=okO (one r1I) (sb6 x)
noncomputable def cb2:Sum:=Z5 (G4 tP) (λx=>.guard (va2 x) (.ret ((one r1I).enc (ja2 x),[])))
theorem fb5:i7 prog G 100 cb2:=La4 (bd eg6 Fd0) (one r1I) (o:=sb6) λx=>ma5 (.s .p (.s .p (.s (.s .p (.b (.u Sb5.ls))) .p))) [Sb5.pr] (by kernel_rfl) (.cons sd9 .nil) (by kernel_rfl)
noncomputable def Be5:List (Nat×Sum):=[]
theorem ne0:i8 prog G Be5:=trivial
noncomputable def xc3(x:V3)(y:V3):Option (b8×List b9):=(some (.sl 0 0 6 0,[⟨73,4,[[i 1,i 0,i 0,i y.x],[i (-1),i 0,i 0,i (W (0-x.x))],[i 0,i 1,i 0,i y.y],[i 0,i (-1),i 0,i (W (0-x.y))],[i 0,i 0,i 1,i y.z],[i 0,i 0,i (-1),i (W (0-x.z))]],true,false,0⟩]))
noncomputable def Xb0(x:V3)(y:V3):List Pln:=I6 (one (r1L tP)) (xc3 x y)
noncomputable def Xb1(x:V3)(y:V3):Bool:=okO (one (r1L tP)) (xc3 x y)
noncomputable def Wc9:Sum:=ga1 (da1 tV) (da1 tV) (λx y=>.guard (Xb1 x y) (.ret ((one (r1L tP)).enc (Xb0 x y),[])))
theorem td0:i7 prog G 63 Wc9:=La5 (bd b63 ne0) (one (r1L tP)) (o:=xc3) λx y=>w9 (by kernel_rfl)
noncomputable def Be6:List (Nat×Sum):=[(63,Wc9)]
theorem ne2:i8 prog G Be6:=⟨td0,trivial⟩
noncomputable def Xb2(x:List Pln):Option (b8×List b9):=let t1:=(Xb0 (⟨-24,-24,-24⟩:V3) (⟨24,24,24⟩:V3));(sl (Nat.beq 0 0&&Nat.ble ((0+(len (n9 (λk=>(tP).row (gL tP x k)) (List.range (List.length x)))))*32) room) (sl (Xb1 (⟨-24,-24,-24⟩:V3) (⟨24,24,24⟩:V3)) (sl (Nat.beq (0+(len (n9 (λk=>(tP).row (gL tP x k)) (List.range (List.length x))))) (len (app [] (n9 (λk=>(tP).row (gL tP x k)) (List.range (List.length x)))))&&Nat.ble (((0+(len (n9 (λk=>(tP).row (gL tP x k)) (List.range (List.length x)))))+(len (n9 (λk=>(tP).row (gL tP t1 k)) (List.range (List.length t1)))))*32) room) (some ((.sl 0 0 ((0+(len (n9 (λk=>(tP).row (gL tP x k)) (List.range (List.length x)))))+(len (n9 (λk=>(tP).row (gL tP t1 k)) (List.range (List.length t1))))) 0),[⟨73,4,(app (app [] (n9 (λk=>(tP).row (gL tP x k)) (List.range (List.length x)))) (n9 (λk=>(tP).row (gL tP t1 k)) (List.range (List.length t1)))),true,false,0⟩])) none) none) none)
noncomputable def Db1(x:List Pln):List Pln:=I6 (one (r1L tP)) (Xb2 x)
noncomputable def Db2(x:List Pln):Bool:=okO (one (r1L tP)) (Xb2 x)
noncomputable def xc4:Sum:=Z5 (G4 tP) (λx=>.guard (Db2 x) (.ret ((one (r1L tP)).enc (Db1 x),[])))
theorem Gc6:i7 prog G 124 xc4:=La4 (bd gg4 ne2) (one (r1L tP)) (o:=Xb2) λx=>w9 (by kernel_rfl)
noncomputable def Fd1:List (Nat×Sum):=[(100,cb2),(124,xc4),(181,Sb4)]
theorem td1:i8 prog G Fd1:=⟨fb5,Gc6,pc5,trivial⟩
noncomputable def fb6(x:List Pln):Option (b8×List b9):=let t1:=(ja2 (rt tP x));let t2:=(Db1 (rt tP x));let t3:=(Va8 (rt tP t2));(sl (okE tP x) (sl (va2 (rt tP x)) (sl (t1 != 0) (some (.v (.slice none 0 0),[])) (sl (okE tP x) (sl (Db2 (rt tP x)) (sl (okE tP t2) (sl (Va9 (rt tP t2)) (some (eL tX t3,[])) none) none) none) none)) none) none)
noncomputable def Ab3(x:List Pln):List Pt:=I6 (one (r1L tX)) (fb6 x)
noncomputable def Ab4(x:List Pln):Bool:=okO (one (r1L tX)) (fb6 x)
noncomputable def Oc4:Sum:=Z5 (G4 tP) (λx=>.guard (Ab4 x) (.ret ((one (r1L tX)).enc (Ab3 x),[])))
theorem Fd2:i7 prog G 157 Oc4:=La4 (bd ig2 td1) (one (r1L tX)) (o:=fb6) λx=>w9 (by kernel_rfl)
noncomputable def pc9:List (Nat×Sum):=[(181,Sb4),(158,cc5)]
theorem Yd9:i8 prog G pc9:=⟨pc5,pc1,trivial⟩
structure fb7 where
 d7:List Pln
 X8:List Pt
 is4:Int
structure va3 where
 bs5:Bool
 is6:Int
noncomputable def Bc3(p:fb7)(s:va3):St:=⟨eL tP p.d7::.unk::.unk::eL tX p.X8::i p.is4::b s.bs5::i s.is6::ra 29 [],[]⟩
noncomputable def Ma7{α:Type}(k:va3->α)(e:Nat->α)(z:α)(p:fb7)(s:va3):α:=let t1:=(ab8 (gL tP p.d7 p.is4.toNat) (gL tX p.X8 s.is6.toNat));(sl (decide (s.is6<(↑(List.length p.X8):Int))) (sl s.bs5 (k ⟨true,W (s.is6+1)⟩) (sl (inB p.is4 (List.length p.d7)) (sl (inB s.is6 (List.length p.X8)) (k ⟨decide (t1>0),W (s.is6+1)⟩) z) z)) (e 1))
noncomputable def Ia5(p:fb7)(s:va3):Stp va3:=Ma7 .next .exit .fail p s
noncomputable def cc7:Lo fb7 va3:=⟨En pc9,0,cf9,[1,1,0,1,4,4,1,0,4,1,0,1,4,4],[0,3,4,5,6],.p,[⟨sLq tP::sUq::sUq::sLq tX::sIq::sBq::sIq::ru2 29 [],[],λa H=>(⟨aLq tP a 0,aLq tX a 3,aIq a 4⟩,⟨aBq a 5,aIq a 6⟩)⟩],Ia5,[(some 2,λp s=>upq (Bc3 p s) [(15,i s.is6),(16,eL tX p.X8),(17,i (↑(List.length p.X8):Int)),(18,b (decide (s.is6<(↑(List.length p.X8):Int))))])],Bc3⟩
theorem Fd3:cc7.Ok:=Lo.ok [] (by kernel_rfl) .nil rfl (.cons (λa H=>by kernel_rfl) .nil) λp s=>(.of @Ma7 (λF _ _ _ _ _=>by unfold Ma7;(repeat' apply l5 (f:=F))<;>rfl) (by kernel_rfl))
structure fb8 where
structure na0 where
 d7:List Pln
 X8:List Pt
 is4:Int
noncomputable def Bc4(p:fb8)(s:na0):St:=⟨eL tP s.d7::.unk::.unk::eL tX s.X8::i s.is4::ra 31 [],[]⟩
noncomputable def Ma8{α:Type}(k:na0->α)(e:Nat->α)(z:α)(p:fb8)(s:na0):α:=let t1:=(lp (Ia5 (⟨rt tP s.d7,rt tX s.X8,s.is4⟩:fb7)) (⟨false,0⟩:va3));(sl (decide (s.is4<(↑(List.length s.d7):Int))) (sl ((cnE tP s.d7)&&((cnE tX s.X8)&&true)) (sl (Nat.beq t1.1 1) (sl (!t1.2.bs5) (e 1) (k ⟨rt tP s.d7,rt tX s.X8,W (s.is4+1)⟩)) z) z) (e 2))
noncomputable def Wa1(p:fb8)(s:na0):Stp na0:=Ma8 .next .exit .fail p s
noncomputable def cc8:Lo fb8 na0:=⟨En pc9,0,cf9,[1,1,0,1,4,4],[0,3,4],.s .p (.s (.b (.s .p (.s (.s .p (.b (.u cc7.ls))) .p))) .p),[⟨sLq tP::sUq::sUq::sLq tX::sIq::ru2 31 [],[],λa H=>(⟨⟩,⟨aLq tP a 0,aLq tX a 3,aIq a 4⟩)⟩],Wa1,[(none,λp s=>⟨[b false],[]⟩),(some 0,λp s=>upq (Bc4 p s) [(9,i s.is4),(10,eL tP s.d7),(11,i (↑(List.length s.d7):Int)),(12,b (decide (s.is4<(↑(List.length s.d7):Int))))])],Bc4⟩
theorem Fd4:cc8.Ok:=Lo.ok [cc7.pr] (by kernel_rfl) (.cons Fd3 .nil) rfl (.cons (λa H=>by kernel_rfl) .nil) λp s=>(.of @Ma8 (λF _ _ _ _ _=>by unfold Ma8;(repeat' apply l5 (f:=F))<;>rfl) (by kernel_rfl))
noncomputable def Gb3(x:List Pln):Option (b8×List b9):=let t1:=(Va8 (rt tP x));let t2:=(lp (Wa1 (⟨⟩:fb8)) (⟨rt tP x,rt tX t1,0⟩:na0));(sl (okE tP x) (sl (Va9 (rt tP x)) (sl ((cnE tP x)&&((cnE tX t1)&&true)) (sl (Nat.beq t2.1 1) (some (b false,[])) (sl (Nat.beq t2.1 2) (some (b true,[])) none)) none) none) none)
noncomputable def Gb4(x:List Pln):Bool:=I6 (one r1B) (Gb3 x)
noncomputable def Gb5(x:List Pln):Bool:=okO (one r1B) (Gb3 x)
noncomputable def Gc7:Sum:=Z5 (G4 tP) (λx=>.guard (Gb5 x) (.ret ((one r1B).enc (Gb4 x),[])))
theorem cd9:i7 prog G 123 Gc7:=La4 (bd gg3 Yd9) (one r1B) (o:=Gb3) λx=>ma5 (.s .p (.s .p (.s (.s .p (.b (.u cc8.ls))) .p))) [cc8.pr] (by kernel_rfl) (.cons Fd4 .nil) (by kernel_rfl)
noncomputable def ne3:List (Nat×Sum):=[(100,cb2),(124,xc4),(123,Gc7)]
theorem Zd0:i8 prog G ne3:=⟨fb5,Gc6,cd9,trivial⟩
noncomputable def Gb6(x:List Pln):Option (b8×List b9):=let t1:=(ja2 (rt tP x));let t2:=(Db1 (rt tP x));let t3:=(Gb4 (rt tP t2));(sl (okE tP x) (sl (va2 (rt tP x)) (sl (t1==0) (sl (okE tP x) (sl (Db2 (rt tP x)) (sl (okE tP t2) (sl (Gb5 (rt tP t2)) (some (b t3,[])) none) none) none) none) (some (b false,[]))) none) none)
noncomputable def Ma9(x:List Pln):Bool:=I6 (one r1B) (Gb6 x)
noncomputable def Na0(x:List Pln):Bool:=okO (one r1B) (Gb6 x)
noncomputable def Gb7:Sum:=Z5 (G4 tP) (λx=>.guard (Na0 x) (.ret ((one r1B).enc (Ma9 x),[])))
theorem Pb1:i7 prog G 70 Gb7:=La4 (bd b70 Zd0) (one r1B) (o:=Gb6) λx=>w9 (by kernel_rfl)
noncomputable def Be7:List (Nat×Sum):=[]
theorem ne4:i8 prog G Be7:=trivial
noncomputable def Xb3(x:Int)(y:Int):Option (b8×List b9):=(sl (decide (y<1)) (some (i 0,[])) (sl (y==0) none (sl (y==0) none (some (i (Int.tmod (W ((Int.tmod x y)+y)) y),[])))))
noncomputable def Ia6(x:Int)(y:Int):Int:=I6 (one r1I) (Xb3 x y)
noncomputable def Ia7(x:Int)(y:Int):Bool:=okO (one r1I) (Xb3 x y)
noncomputable def Xb4:Sum:=ga1 cI cI (λx y=>.guard (Ia7 x y) (.ret ((one r1I).enc (Ia6 x y),[])))
theorem cc9:i7 prog G 27 Xb4:=La5 (bd b27 ne4) (one r1I) (o:=Xb3) λx y=>w9 (by kernel_rfl)
noncomputable def Zd1:List (Nat×Sum):=[]
theorem Fd5:i8 prog G Zd1:=trivial
noncomputable def cb3(x:V3)(y:V3):Int:=(W ((W ((W (x.x*y.x))+(W (x.y*y.y))))+(W (x.z*y.z))))
noncomputable def qc0:Sum:=ga1 (da1 tV) (da1 tV) (λx y=>.ret ((one r1I).enc (cb3 x y),[]))
theorem Oc5:i7 prog G 83 qc0:=Ka8 (bd b83 Fd5) λx y=>w9 (by kernel_rfl)
noncomputable def Zd2:List (Nat×Sum):=[]
theorem Fd6:i8 prog G Zd2:=trivial
noncomputable def Ca3(x:V3)(y:V3):V3:=(⟨W (x.x+y.x),W (x.y+y.y),W (x.z+y.z)⟩:V3)
noncomputable def dd0:Sum:=ga1 (da1 tV) (da1 tV) (λx y=>.ret ((one r1V).enc (Ca3 x y),[]))
theorem Zd3:i7 prog G 34 dd0:=Ka8 (bd b34 Fd6) λx y=>w9 (by kernel_rfl)
noncomputable def Fd7:List (Nat×Sum):=[]
theorem td2:i8 prog G Fd7:=trivial
noncomputable def va4(x:V3)(y:Int):V3:=(⟨W (x.x*y),W (x.y*y),W (x.z*y)⟩:V3)
noncomputable def Oc6:Sum:=ga1 (da1 tV) cI (λx y=>.ret ((one r1V).enc (va4 x y),[]))
theorem Fd8:i7 prog G 116 Oc6:=Ka8 (bd gg0 td2) λx y=>w9 (by kernel_rfl)
noncomputable def td3:List (Nat×Sum):=[]
theorem gd8:i8 prog G td3:=trivial
noncomputable def Z6(x:V3)(y:V3):V3:=(⟨W ((W (x.y*y.z))-(W (x.z*y.y))),W ((W (x.z*y.x))-(W (x.x*y.z))),W ((W (x.x*y.y))-(W (x.y*y.x)))⟩:V3)
noncomputable def Bc5:Sum:=ga1 (da1 tV) (da1 tV) (λx y=>.ret ((one r1V).enc (Z6 x y),[]))
theorem td4:i7 prog G 142 Bc5:=Ka8 (bd hg6 gd8) λx y=>w9 (by kernel_rfl)
noncomputable def Zd4:List (Nat×Sum):=[(83,qc0)]
theorem Fd9:i8 prog G Zd4:=⟨Oc5,trivial⟩
noncomputable def Ca4(x:Pln)(y:Pt):Int:=let t1:=(cb3 x.n (⟨y.px,y.py,y.pz⟩:V3));(W ((W (x.b*y.pw))-t1))
noncomputable def Pb2:Sum:=ga1 (da1 tP) (da1 tX) (λx y=>.ret ((one r1I).enc (Ca4 x y),[]))
theorem dc0:i7 prog G 153 Pb2:=Ka8 (bd hg9 Fd9) λx y=>w9 (by kernel_rfl)
noncomputable def qc1:List (Nat×Sum):=[]
theorem Zd5:i8 prog G qc1:=trivial
structure Ra6 where
 mb4:List Int
 (is7 is8:Int)
structure va5 where
 (is3 is5:Int)
noncomputable def Bc6(p:Ra6)(s:va5):St:=⟨ra 3 (i s.is3::.unk::i s.is5::eL tI p.mb4::i p.is7::i p.is8::ra 14 []),[]⟩
noncomputable def Na1{α:Type}(k:va5->α)(e:Nat->α)(z:α)(p:Ra6)(s:va5):α:=(sl (s.is5 != 0) (sl (s.is5==0) z (k ⟨s.is5,Int.tmod s.is3 s.is5⟩)) (e 1))
noncomputable def Wa2(p:Ra6)(s:va5):Stp va5:=Na1 .next .exit .fail p s
noncomputable def dc1:Lo Ra6 va5:=⟨En qc1,0,df4,[1,1,0,1,4,4,1,1,0,4,1,4,4],[3,5,6,7,8],.p,[⟨ru2 3 (sIq::sUq::sIq::sLq tI::sIq::sIq::ru2 14 []),[],λa H=>(⟨aLq tI a 6,aIq a 7,aIq a 8⟩,⟨aIq a 3,aIq a 5⟩)⟩],Wa2,[(some 2,λp s=>upq (Bc6 p s) [(12,i s.is5),(13,b (s.is5 != 0))])],Bc6⟩
theorem Gd0:dc1.Ok:=Lo.ok [] (by kernel_rfl) .nil rfl (.cons (λa H=>by kernel_rfl) .nil) λp s=>(.of @Na1 (λF _ _ _ _ _=>by unfold Na1;(repeat' apply l5 (f:=F))<;>rfl) (by kernel_rfl))
structure fb9 where
 is7:Int
structure va6 where
 is3:Int
 mb4:List Int
 is8:Int
noncomputable def Bc7(p:fb9)(s:va6):St:=⟨ra 3 (i s.is3::.unk::.unk::eL tI s.mb4::i p.is7::i s.is8::ra 14 []),[]⟩
noncomputable def Na2{α:Type}(k:va6->α)(e:Nat->α)(z:α)(p:fb9)(s:va6):α:=let t1:=(lp (Wa2 (⟨rt tI s.mb4,p.is7,s.is8⟩:Ra6)) (⟨s.is3,gL tI s.mb4 s.is8.toNat⟩:va5));(sl (decide (s.is8<p.is7)) (sl (inB s.is8 (List.length s.mb4)) (sl ((cnE tI s.mb4)&&true) (sl (Nat.beq t1.1 1) (k ⟨t1.2.is3,rt tI s.mb4,W (s.is8+1)⟩) z) z) z) (e 1))
noncomputable def Ia8(p:fb9)(s:va6):Stp va6:=Na2 .next .exit .fail p s
noncomputable def dc2:Lo fb9 va6:=⟨En qc1,0,df4,[1,1,0,1,4,4],[3,6,7,8],.s .p (.s .p (.s (.b (.s .p (.b (.u dc1.ls)))) .p)),[⟨ru2 3 (sIq::sUq::sUq::sLq tI::sIq::sIq::ru2 14 []),[],λa H=>(⟨aIq a 7⟩,⟨aIq a 3,aLq tI a 6,aIq a 8⟩)⟩],Ia8,[(some 0,λp s=>upq (Bc7 p s) [(9,b (decide (s.is8<p.is7)))])],Bc7⟩
theorem Gd1:dc2.Ok:=Lo.ok [dc1.pr] (by kernel_rfl) (.cons Gd0 .nil) rfl (.cons (λa H=>by kernel_rfl) .nil) λp s=>(.of @Na2 (λF _ _ _ _ _=>by unfold Na2;(repeat' apply l5 (f:=F))<;>rfl) (by kernel_rfl))
noncomputable def Gb8(x:List Int):Option (b8×List b9):=let t1:=(lp (Ia8 (⟨(↑(List.length x):Int)⟩:fb9)) (⟨0,rt tI x,0⟩:va6));(sl ((cnE tI x)&&true) (sl (Nat.beq t1.1 1) (some ((i (if (W (0-t1.2.is3))>t1.2.is3 then (W (0-t1.2.is3)) else t1.2.is3)),[])) none) none)
noncomputable def dc3(x:List Int):Int:=I6 (one r1I) (Gb8 x)
noncomputable def dc4(x:List Int):Bool:=okO (one r1I) (Gb8 x)
noncomputable def td5:Sum:=Z5 (G4 tI) (λx=>.guard (dc4 x) (.ret ((one r1I).enc (dc3 x),[])))
theorem ne5:i7 prog G 222 td5:=La4 (bd lg6 Zd5) (one r1I) (o:=Gb8) λx=>ma5 (.s .p (.s .p (.s (.s .p (.b (.u dc2.ls))) .p))) [dc2.pr] (by kernel_rfl) (.cons Gd1 .nil) (by kernel_rfl)
noncomputable def Zd6:List (Nat×Sum):=[(142,Bc5),(83,qc0),(116,Oc6),(34,dd0),(222,td5)]
theorem Gd2:i8 prog G Zd6:=⟨td4,Oc5,Fd8,Zd3,ne5,trivial⟩
noncomputable def sb7(x:Tp):Option (b8×List b9):=let t1:=(Z6 x.q.n x.r.n);let t3:=(va4 t1 x.p.b);let t4:=(Ca3 (⟨0,0,0⟩:V3) t3);let t5:=(Z6 x.r.n x.p.n);let t7:=(va4 t5 x.q.b);let t8:=(Ca3 t4 t7);let t9:=(Z6 x.p.n x.q.n);let t10:=(cb3 x.r.n t9);let t11:=(va4 t9 x.r.b);let t12:=(Ca3 t8 t11);let t13:=(dc3 [t12.x,t12.y,t12.z,t10]);(sl (t10==0) (some (.tup [.agg [i 0,i 0,i 0,i 0],b false],[])) (sl (dc4 [t12.x,t12.y,t12.z,t10]) (sl (decide (t10<0)) (sl ((W (0-t13))==0) none (sl ((W (0-t13))==0) none (sl ((W (0-t13))==0) none (sl ((W (0-t13))==0) none (some (.tup [.agg [i (W (Int.tdiv t12.x (W (0-t13)))),i (W (Int.tdiv t12.y (W (0-t13)))),i (W (Int.tdiv t12.z (W (0-t13)))),i (W (Int.tdiv t10 (W (0-t13))))],b true],[])))))) (sl (t13==0) none (sl (t13==0) none (sl (t13==0) none (sl (t13==0) none (some (.tup [.agg [i (W (Int.tdiv t12.x t13)),i (W (Int.tdiv t12.y t13)),i (W (Int.tdiv t12.z t13)),i (W (Int.tdiv t10 t13))],b true],[]))))))) none))
noncomputable def sb8(x:Tp):Pt×Bool:=I6 (two r1X r1B) (sb7 x)
noncomputable def sb9(x:Tp):Bool:=okO (two r1X r1B) (sb7 x)
noncomputable def dd1:Sum:=Z5 (da1 tY) (λx=>.guard (sb9 x) (.ret ((two r1X r1B).enc (sb8 x),[])))
theorem Zd7:i7 prog G 195 dd1:=La4 (bd kg7 Gd2) (two r1X r1B) (o:=sb7) λx=>w9 (by kernel_rfl)
structure Za3 where
 (Ia0 Ia1 Ia2 jc9 j7 e8 j8 l8:Int)
noncomputable def Xc0:List (Nat×Sum):=[(153,Pb2)]
theorem Oc7:i8 prog G Xc0:=⟨dc0,trivial⟩
structure Fa5 where
 bs0:Bool
noncomputable def Fa6{α:Type}(kk:Fa5->α)(x:Za3):α:=let t1:=(Ca4 (⟨(⟨x.Ia0,x.Ia1,x.Ia2⟩:V3),x.jc9⟩:Pln) (⟨x.j7,x.e8,x.j8,x.l8⟩:Pt));(kk ⟨decide (t1<0)⟩)
noncomputable def wb9(x:Za3):Fa5:=Fa6 (λr=>r) x
noncomputable def nb3(x:Za3)(r:Fa5):DT (b8×List b9):=.ret (b r.bs0,[⟨0,4,[[i x.j7,i x.e8,i x.j8,i x.l8]],true,false,0⟩])
theorem gd9{α β:Type}(F:α->β)(kk:Fa5->α)(x:Za3):F (Fa6 kk x)=Fa6 (λr=>F (kk r)) x:=by unfold Fa6;(repeat' apply l5 (f:=F))<;>rfl
noncomputable def hc7:Sum:=eb9 ⟨[.agg (kLq 4),sPq 0],[⟨0,4,true,some [kLq 4]⟩],λa H=>(⟨cIq a 0 0,cIq a 0 1,cIq a 0 2,cIq a 0 3,hIq H 0 0 0,hIq H 0 0 1,hIq H 0 0 2,hIq H 0 0 3⟩,())⟩ (λx=>nb3 x (wb9 x))
theorem Xc1:i7 prog G 172 hc7:=Q9 (enc:=λx=>⟨[.agg [i x.Ia0,i x.Ia1,i x.Ia2,i x.jc9],.ptr 0 0 0 0],[⟨0,4,[[i x.j7,i x.e8,i x.j8,i x.l8]],true,false,0⟩]⟩) (λa H=>by kernel_rfl) (bd jg6 Oc7) λx=>w9 (Qha (b:=Fa6 (λr=>(nb3 x r).run) x) (by kernel_rfl) (gd9 (λr=>(nb3 x r).run) (λr=>r) x).symm)
structure ea1 where
 d7:List Pln
 (j7 e8 j8 l8:Int)
noncomputable def Na3:List (Nat×Sum):=[(172,hc7)]
theorem Ab5:i8 prog G Na3:=⟨Xc1,trivial⟩
structure P5 where
 d7:List Pln
 (is7 j7 e8 j8 l8:Int)
structure p9 where
 is8:Int
noncomputable def Fa7(p:P5)(s:p9):St:=⟨eL tP p.d7::.fn 172 [.ptr 0 0 0 0]::ra 5 (i p.is7::i s.is8::ra 10 []),[⟨0,4,[[i p.j7,i p.e8,i p.j8,i p.l8]],true,false,0⟩]⟩
noncomputable def K0{α:Type}(k:p9->α)(e:Nat->α)(z:α)(p:P5)(s:p9):α:=let t1:=(wb9 ⟨(gL tP p.d7 s.is8.toNat).n.x,(gL tP p.d7 s.is8.toNat).n.y,(gL tP p.d7 s.is8.toNat).n.z,(gL tP p.d7 s.is8.toNat).b,p.j7,p.e8,p.j8,p.l8⟩);(sl (decide (s.is8<p.is7)) (sl (inB s.is8 (List.length p.d7)) (sl t1.bs0 (e 1) (k ⟨W (s.is8+1)⟩)) z) (e 2))
noncomputable def M5(p:P5)(s:p9):Stp p9:=K0 .next .exit .fail p s
noncomputable def na1:Lo P5 p9:=⟨En Na3,1,me2,[1,0,1,4,4],[0,1,7,8],.p,[⟨sLq tP::.fn 172 [.o (.ptr 0 0 0 0)]::ru2 5 (sIq::sIq::ru2 10 []),[⟨0,4,true,some [kLq 4]⟩],λa H=>(⟨aLq tP a 0,aIq a 7,hIq H 0 0 0,hIq H 0 0 1,hIq H 0 0 2,hIq H 0 0 3⟩,⟨aIq a 8⟩)⟩],M5,[(none,λp s=>⟨[i s.is8],[⟨0,4,[[i p.j7,i p.e8,i p.j8,i p.l8]],true,false,0⟩]⟩),(some 0,λp s=>upq (Fa7 p s) [(9,b (decide (s.is8<p.is7)))])],Fa7⟩
theorem xb0:na1.Ok:=Lo.ok [] (by kernel_rfl) .nil rfl (.cons (λa H=>by kernel_rfl) .nil) λp s=>(.of @K0 (λF _ _ _ _ _=>by unfold K0;(repeat' apply l5 (f:=F))<;>rfl) (by kernel_rfl))
structure ea2 where
 alt:Nat
 is0:Int
noncomputable def L0{α:Type}(kk:ea2->α)(x:ea1):α:=let t1:=(lp (M5 (⟨rt tP x.d7,(↑(List.length x.d7):Int),x.j7,x.e8,x.j8,x.l8⟩:P5)) (⟨0⟩:p9));(sl ((cnE tP x.d7)&&true) (sl (Nat.beq t1.1 1) (kk ⟨1,t1.2.is8⟩) (sl (Nat.beq t1.1 2) (kk ⟨1,-1⟩) (kk ⟨0,0⟩))) (kk ⟨0,0⟩))
noncomputable def ea3(x:ea1):ea2:=L0 (λr=>r) x
noncomputable def qa2(x:ea1)(r:ea2):DT (b8×List b9):=(.ite (Nat.beq r.alt 1) (.ret (i r.is0,[⟨0,4,[[i x.j7,i x.e8,i x.j8,i x.l8]],true,false,0⟩])) .fail)
theorem Mb0{α β:Type}(F:α->β)(kk:ea2->α)(x:ea1):F (L0 kk x)=L0 (λr=>F (kk r)) x:=by unfold L0;(repeat' apply l5 (f:=F))<;>rfl
noncomputable def Sa8:Sum:=eb9 ⟨[sLq tP,.fn 172 [.o (.ptr 0 0 0 0)]],[⟨0,4,true,some [kLq 4]⟩],λa H=>(⟨aLq tP a 0,hIq H 0 0 0,hIq H 0 0 1,hIq H 0 0 2,hIq H 0 0 3⟩,())⟩ (λx=>qa2 x (ea3 x))
theorem Gb9:i7 prog G 139 Sa8:=Q9 (enc:=λx=>⟨[eL tP x.d7,.fn 172 [.ptr 0 0 0 0]],[⟨0,4,[[i x.j7,i x.e8,i x.j8,i x.l8]],true,false,0⟩]⟩) (λa H=>by kernel_rfl) (bd uf5 Ab5) λx=>ma5 (.s .p (.s (.s .p (.b (.u na1.ls))) .p)) [na1.pr] (by kernel_rfl) (.cons xb0 .nil) (Qha (b:=L0 (λr=>(qa2 x r).run) x) (by kernel_rfl) (Mb0 (λr=>(qa2 x r).run) (λr=>r) x).symm)
structure W6 where
 d7:List Pln
 (j7 e8 j8 l8:Int)
noncomputable def tb0:List (Nat×Sum):=[(139,Sa8)]
theorem nb4:i8 prog G tb0:=⟨Gb9,trivial⟩
structure W7 where
 alt:Nat
 bs0:Bool
noncomputable def F7{α:Type}(kk:W7->α)(x:W6):α:=let t1:=(ea3 ⟨rt tP x.d7,x.j7,x.e8,x.j8,x.l8⟩);(sl ((cnE tP x.d7)&&true) (sl (Nat.beq t1.alt 1) (kk ⟨1,decide (t1.is0>=0)⟩) (kk ⟨0,false⟩)) (kk ⟨0,false⟩))
noncomputable def la2(x:W6):W7:=F7 (λr=>r) x
noncomputable def ja3(x:W6)(r:W7):DT (b8×List b9):=(.ite (Nat.beq r.alt 1) (.ret (b r.bs0,[⟨0,4,[[i x.j7,i x.e8,i x.j8,i x.l8]],true,false,0⟩])) .fail)
theorem xb1{α β:Type}(F:α->β)(kk:W7->α)(x:W6):F (F7 kk x)=F7 (λr=>F (kk r)) x:=by unfold F7;(repeat' apply l5 (f:=F))<;>rfl
noncomputable def Fa8:Sum:=eb9 ⟨[sLq tP,.fn 172 [.o (.ptr 0 0 0 0)]],[⟨0,4,true,some [kLq 4]⟩],λa H=>(⟨aLq tP a 0,hIq H 0 0 0,hIq H 0 0 1,hIq H 0 0 2,hIq H 0 0 3⟩,())⟩ (λx=>ja3 x (la2 x))
theorem tb1:i7 prog G 86 Fa8:=Q9 (enc:=λx=>⟨[eL tP x.d7,.fn 172 [.ptr 0 0 0 0]],[⟨0,4,[[i x.j7,i x.e8,i x.j8,i x.l8]],true,false,0⟩]⟩) (λa H=>by kernel_rfl) (bd b86 nb4) λx=>w9 (Qha (b:=F7 (λr=>(ja3 x r).run) x) (by kernel_rfl) (xb1 (λr=>(ja3 x r).run) (λr=>r) x).symm)
noncomputable def td6:List (Nat×Sum):=[(86,Fa8)]
theorem hd4:i8 prog G td6:=⟨tb1,trivial⟩
noncomputable def Wa3(x:List Pln)(y:Pt):Option (b8×List b9):=let t1:=(la2 ⟨rt tP x,y.px,y.py,y.pz,y.pw⟩);(sl ((cnE tP x)&&true) (sl (Nat.beq t1.alt 1) (some (b (!t1.bs0),[])) none) none)
noncomputable def Ia9(x:List Pln)(y:Pt):Bool:=I6 (one r1B) (Wa3 x y)
noncomputable def Ja0(x:List Pln)(y:Pt):Bool:=okO (one r1B) (Wa3 x y)
noncomputable def Bc8:Sum:=ga1 (G4 tP) (da1 tX) (λx y=>.guard (Ja0 x y) (.ret ((one r1B).enc (Ia9 x y),[])))
theorem td7:i7 prog G 115 Bc8:=La5 (bd fg9 hd4) (one r1B) (o:=Wa3) λx y=>w9 (by kernel_rfl)
noncomputable def Wa4:List (Nat×Sum):=[]
theorem Mb1:i8 prog G Wa4:=trivial
@[reducible] noncomputable def cb4:Sum:=Vb9 (En Wa4) Ff5
theorem Sb6:i7 prog G 221 cb4:=bd lg5 Mb1
noncomputable def gb0:List (Nat×Sum):=[(221,cb4)]
theorem Xb5:i8 prog G gb0:=⟨Sb6,trivial⟩
@[reducible] noncomputable def lb9:Sum:=Vb9 (En gb0) Ef8
theorem dc5:i7 prog G 194 lb9:=bd kg6 Xb5
noncomputable def na2:List (Nat×Sum):=[(195,dd1),(115,Bc8),(194,lb9)]
theorem Xb6:i8 prog G na2:=⟨Zd7,td7,dc5,trivial⟩
structure m0 where
 is3:Int
 A8:List Pln
 (xa2 p8:Int)
 Kd8:Nat
 ac4:Nat->List b8
 (bd3 Ka6:Int)
 of7:Nat
 Lb6:Nat->List b8
 Fe3:Int
 f9:List Pln
 (fa7 fa8 fa9 ga0 rb5 rb6 rb7 gc6:Int)
 Sa6:List Pln
structure m8 where
 ph:Nat
 La7:Int
 Cb3:Nat
 (eh6 eh7:List (List b8))
noncomputable def Sa9(p:m0)(s:m8):St:=⟨.unk::.ptr 0 0 0 0::.unk::i p.is3::.ptr 1 0 0 0::.unk::.ptr 2 0 0 0::.unk::.unk::eL tP p.A8::i p.xa2::i p.p8::ra 7 (.tree 4 p.Kd8 p.ac4::i p.bd3::i p.Ka6::ra 9 (.tree 4 p.of7 p.Lb6::i p.Fe3::i s.La7::ra 13 (i 0::.unk::.ptr 3 0 0 0::.v (.slice none 0 0)::.ptr 4 0 0 0::.ptr 5 0 0 0::ra 31 []))),[⟨0,1,[[eL tP p.f9]],true,false,0⟩,⟨0,4,[[i p.fa7,i p.fa8,i p.fa9,i p.ga0]],true,false,0⟩,⟨0,4,[[i p.rb5,i p.rb6,i p.rb7,i p.gc6]],true,false,0⟩,⟨0,1,[[eL tP p.Sa6]],true,false,0⟩,⟨0,0,[[.v (.slice none 0 0)]],true,false,0⟩,⟨0,0,[[.ptr 6 0 0 0]],true,false,0⟩,⟨182,0,[],true,false,0⟩]⟩
noncomputable def Ta0(p:m0)(s:m8):St:=⟨.unk::.ptr 0 0 0 0::.unk::i p.is3::.ptr 1 0 0 0::.unk::.ptr 2 0 0 0::.unk::.unk::eL tP p.A8::i p.xa2::i p.p8::ra 7 (.tree 4 p.Kd8 p.ac4::i p.bd3::i p.Ka6::ra 9 (.tree 4 p.of7 p.Lb6::i p.Fe3::i s.La7::ra 13 (i 0::.unk::.ptr 3 0 0 0::.v (.slice none 0 0)::.ptr 4 0 0 0::.ptr 5 0 0 0::ra 31 []))),[⟨0,1,[[eL tP p.f9]],true,false,0⟩,⟨0,4,[[i p.fa7,i p.fa8,i p.fa9,i p.ga0]],true,false,0⟩,⟨0,4,[[i p.rb5,i p.rb6,i p.rb7,i p.gc6]],true,false,0⟩,⟨0,1,[[eL tP p.Sa6]],true,false,0⟩,⟨0,0,[[.sl 6 0 s.Cb3 0]],true,false,0⟩,⟨0,0,[[.ptr 7 0 0 0]],true,false,0⟩,⟨136,4,s.eh6,true,false,0⟩,⟨182,0,s.eh7,true,false,0⟩]⟩
noncomputable def Sb7(p:m0)(s:m8):St:=(sel (Nat.beq s.ph 1) (Ta0 p s) (Sa9 p s))
noncomputable def E4{α:Type}(k:m8->α)(e:Nat->α)(z:α)(p:m0)(s:m8):α:=let t1:=(sb8 (⟨(⟨(⟨p.fa7,p.fa8,p.fa9⟩:V3),p.ga0⟩:Pln),(⟨(⟨p.rb5,p.rb6,p.rb7⟩:V3),p.gc6⟩:Pln),(⟨(⟨toI (hdA (p.Lb6 s.La7.toNat)),toI (hdA (tlA (p.Lb6 s.La7.toNat))),toI (hdA (tlA (tlA (p.Lb6 s.La7.toNat))))⟩:V3),toI (hdA (tlA (tlA (tlA (p.Lb6 s.La7.toNat)))))⟩:Pln)⟩:Tp));let t2:=(Ia9 (rt tP p.Sa6) t1.1);(sl (decide (s.La7<p.Fe3)) (sl (inB s.La7 p.of7) (sl ((Nat.ble 4 (len (p.Lb6 s.La7.toNat)))&&(Y1 [CK.int .i64,CK.int .i64,CK.int .i64,CK.int .i64] (p.Lb6 s.La7.toNat))) (sl (sb9 (⟨(⟨(⟨p.fa7,p.fa8,p.fa9⟩:V3),p.ga0⟩:Pln),(⟨(⟨p.rb5,p.rb6,p.rb7⟩:V3),p.gc6⟩:Pln),(⟨(⟨toI (hdA (p.Lb6 s.La7.toNat)),toI (hdA (tlA (p.Lb6 s.La7.toNat))),toI (hdA (tlA (tlA (p.Lb6 s.La7.toNat))))⟩:V3),toI (hdA (tlA (tlA (tlA (p.Lb6 s.La7.toNat)))))⟩:Pln)⟩:Tp)) (sl t1.2 (sl (!(Kc1 4 [(0,.int .i64),(1,.int .i64),(2,.int .i64),(3,.int .i64)] [i t1.1.px,i t1.1.py,i t1.1.pz,i t1.1.pw] [])) (sl (okE tP p.Sa6) (sl (Ja0 (rt tP p.Sa6) t1.1) (sl t2 (k ⟨1,W (s.La7+1),1,[[i t1.1.px,i t1.1.py,i t1.1.pz,i t1.1.pw]],Rb5 [(0,.int .i64),(1,.int .i64),(2,.int .i64),(3,.int .i64)] [i t1.1.px,i t1.1.py,i t1.1.pz,i t1.1.pw] [i t1.1.px,i t1.1.py,i t1.1.pz,i t1.1.pw,b true] []⟩) (k ⟨0,W (s.La7+1),0,[],[]⟩)) z) z) (k ⟨0,W (s.La7+1),0,[],[]⟩)) (k ⟨0,W (s.La7+1),0,[],[]⟩)) z) z) z) (e 1))
noncomputable def E5{α:Type}(k:m8->α)(e:Nat->α)(z:α)(p:m0)(s:m8):α:=let t1:=(sb8 (⟨(⟨(⟨p.fa7,p.fa8,p.fa9⟩:V3),p.ga0⟩:Pln),(⟨(⟨p.rb5,p.rb6,p.rb7⟩:V3),p.gc6⟩:Pln),(⟨(⟨toI (hdA (p.Lb6 s.La7.toNat)),toI (hdA (tlA (p.Lb6 s.La7.toNat))),toI (hdA (tlA (tlA (p.Lb6 s.La7.toNat))))⟩:V3),toI (hdA (tlA (tlA (tlA (p.Lb6 s.La7.toNat)))))⟩:Pln)⟩:Tp));let t2:=(Ia9 (rt tP p.Sa6) t1.1);(sl (decide (s.La7<p.Fe3)) (sl (inB s.La7 p.of7) (sl ((Nat.ble 4 (len (p.Lb6 s.La7.toNat)))&&(Y1 [CK.int .i64,CK.int .i64,CK.int .i64,CK.int .i64] (p.Lb6 s.La7.toNat))) (sl (sb9 (⟨(⟨(⟨p.fa7,p.fa8,p.fa9⟩:V3),p.ga0⟩:Pln),(⟨(⟨p.rb5,p.rb6,p.rb7⟩:V3),p.gc6⟩:Pln),(⟨(⟨toI (hdA (p.Lb6 s.La7.toNat)),toI (hdA (tlA (p.Lb6 s.La7.toNat))),toI (hdA (tlA (tlA (p.Lb6 s.La7.toNat))))⟩:V3),toI (hdA (tlA (tlA (tlA (p.Lb6 s.La7.toNat)))))⟩:Pln)⟩:Tp)) (sl t1.2 (sl (!(Kc1 4 [(0,.int .i64),(1,.int .i64),(2,.int .i64),(3,.int .i64)] [i t1.1.px,i t1.1.py,i t1.1.pz,i t1.1.pw] s.eh7)) (sl (okE tP p.Sa6) (sl (Ja0 (rt tP p.Sa6) t1.1) (sl t2 (sl (Nat.beq s.Cb3 (len s.eh6)&&Nat.ble ((s.Cb3+1)*32) room) (k ⟨1,W (s.La7+1),s.Cb3+1,app s.eh6 [[i t1.1.px,i t1.1.py,i t1.1.pz,i t1.1.pw]],Rb5 [(0,.int .i64),(1,.int .i64),(2,.int .i64),(3,.int .i64)] [i t1.1.px,i t1.1.py,i t1.1.pz,i t1.1.pw] [i t1.1.px,i t1.1.py,i t1.1.pz,i t1.1.pw,b true] s.eh7⟩) z) (k ⟨1,W (s.La7+1),s.Cb3,s.eh6,s.eh7⟩)) z) z) (k ⟨1,W (s.La7+1),s.Cb3,s.eh6,s.eh7⟩)) (k ⟨1,W (s.La7+1),s.Cb3,s.eh6,s.eh7⟩)) z) z) z) (e 2))
noncomputable def C7(p:m0)(s:m8):Stp m8:=(sel (Nat.beq s.ph 1) (E5 .next .exit .fail p s) (E4 .next .exit .fail p s))
noncomputable def Aa0:Lo m0 m8:=⟨En na2,0,Ie2,[1,1,1,0,1,4,4,1,4,4,1,1,0,4,1,1,4,4,1,1,0,4,1,1,4,4],[1,3,4,6,9,10,11,19,20,21,31,32,33,47,49,50,51,52],.p,[⟨sUq::sPq 0::sUq::sIq::sPq 1::sUq::sPq 2::sUq::sUq::sLq tP::sIq::sIq::ru2 7 (sTq 4::sIq::sIq::ru2 9 (sTq 4::sIq::sIq::ru2 13 (.s (.o (.lit .i64 0))::sUq::sPq 3::.s (.o .nil)::sPq 4::sPq 5::ru2 31 []))),[⟨0,1,true,some [[.c 4 (nL tP)]]⟩,⟨0,4,true,some [kLq 4]⟩,⟨0,4,true,some [kLq 4]⟩,⟨0,1,true,some [[.c 4 (nL tP)]]⟩,⟨0,0,true,some [[.o .nil]]⟩,⟨0,0,true,some [[.o (.ptr 6 0 0 0)]]⟩,⟨182,0,true,some []⟩],λa H=>(⟨aIq a 3,aLq tP a 9,aIq a 10,aIq a 11,aNq a 19,aGq a 19,aIq a 20,aIq a 21,aNq a 31,aGq a 31,aIq a 32,hLq tP H 0 0 0,hIq H 1 0 0,hIq H 1 0 1,hIq H 1 0 2,hIq H 1 0 3,hIq H 2 0 0,hIq H 2 0 1,hIq H 2 0 2,hIq H 2 0 3,hLq tP H 3 0 0⟩,⟨0,aIq a 33,0,[],[]⟩)⟩,⟨sUq::sPq 0::sUq::sIq::sPq 1::sUq::sPq 2::sUq::sUq::sLq tP::sIq::sIq::ru2 7 (sTq 4::sIq::sIq::ru2 9 (sTq 4::sIq::sIq::ru2 13 (.s (.o (.lit .i64 0))::sUq::sPq 3::.s (.o .nil)::sPq 4::sPq 5::ru2 31 []))),[⟨0,1,true,some [[.c 4 (nL tP)]]⟩,⟨0,4,true,some [kLq 4]⟩,⟨0,4,true,some [kLq 4]⟩,⟨0,1,true,some [[.c 4 (nL tP)]]⟩,⟨0,0,true,some [[.o (.sl 6 0 (some 0) none)]]⟩,⟨0,0,true,some [[.o (.ptr 7 0 0 0)]]⟩,⟨136,4,true,none⟩,⟨182,0,true,none⟩],λa H=>(⟨aIq a 3,aLq tP a 9,aIq a 10,aIq a 11,aNq a 19,aGq a 19,aIq a 20,aIq a 21,aNq a 31,aGq a 31,aIq a 32,hLq tP H 0 0 0,hIq H 1 0 0,hIq H 1 0 1,hIq H 1 0 2,hIq H 1 0 3,hIq H 2 0 0,hIq H 2 0 1,hIq H 2 0 2,hIq H 2 0 3,hLq tP H 3 0 0⟩,⟨1,aIq a 33,slN (slT (rwT (elT H 4) 0) 0),elT H 6,elT H 7⟩)⟩],C7,[(some 4,λp s=>upq (Sa9 p s) [(34,b (decide (s.La7<p.Fe3)))]),(some 4,λp s=>upq (Ta0 p s) [(34,b (decide (s.La7<p.Fe3)))])],Sb7⟩
theorem Sb8:Aa0.OkM:=Lo.okM [] (by kernel_rfl) .nil rfl (.cons (λa H=>by kernel_rfl) (.cons (λa H=>by kernel_rfl) .nil)) λp s=>(.sel (Nat.beq s.ph 1) (.of @E5 (λF _ _ _ _ _=>by unfold E5;(repeat' apply l5 (f:=F))<;>rfl) (by kernel_rfl)) (.of @E4 (λF _ _ _ _ _=>by unfold E4;(repeat' apply l5 (f:=F))<;>rfl) (by kernel_rfl)))
structure m9 where
 (is3 xa2 p8:Int)
 Kd8:Nat
 ac4:Nat->List b8
 (bd3 fa7 fa8 fa9 ga0:Int)
structure n7 where
 ph:Nat
 A8:List Pln
 Ka6:Int
 (f9 i6:List Pln)
 nd6:Nat
 (eh5 eh6:List (List b8))
noncomputable def Ta1(p:m9)(s:n7):St:=⟨.unk::.ptr 0 0 0 0::.unk::i p.is3::.ptr 1 0 0 0::ra 4 (eL tP s.A8::i p.xa2::i p.p8::ra 7 (.tree 4 p.Kd8 p.ac4::i p.bd3::i s.Ka6::ra 25 (i 0::.unk::.ptr 2 0 0 0::.v (.slice none 0 0)::.ptr 3 0 0 0::.ptr 4 0 0 0::ra 31 []))),[⟨0,1,[[eL tP s.f9]],true,false,0⟩,⟨0,4,[[i p.fa7,i p.fa8,i p.fa9,i p.ga0]],true,false,0⟩,⟨0,1,[[eL tP s.i6]],true,false,0⟩,⟨0,0,[[.v (.slice none 0 0)]],true,false,0⟩,⟨0,0,[[.ptr 5 0 0 0]],true,false,0⟩,⟨182,0,[],true,false,0⟩]⟩
noncomputable def Ta2(p:m9)(s:n7):St:=⟨.unk::.ptr 0 0 0 0::.unk::i p.is3::.ptr 1 0 0 0::ra 4 (eL tP s.A8::i p.xa2::i p.p8::ra 7 (.tree 4 p.Kd8 p.ac4::i p.bd3::i s.Ka6::ra 25 (i 0::.unk::.ptr 2 0 0 0::.v (.slice none 0 0)::.ptr 3 0 0 0::.ptr 4 0 0 0::ra 31 []))),[⟨0,1,[[eL tP s.f9]],true,false,0⟩,⟨0,4,[[i p.fa7,i p.fa8,i p.fa9,i p.ga0]],true,false,0⟩,⟨0,1,[[eL tP s.i6]],true,false,0⟩,⟨0,0,[[.sl 5 0 s.nd6 0]],true,false,0⟩,⟨0,0,[[.ptr 6 0 0 0]],true,false,0⟩,⟨136,4,s.eh5,true,false,0⟩,⟨182,0,s.eh6,true,false,0⟩]⟩
noncomputable def Sb9(p:m9)(s:n7):St:=(sel (Nat.beq s.ph 1) (Ta2 p s) (Ta1 p s))
noncomputable def E6{α:Type}(k:n7->α)(e:Nat->α)(z:α)(p:m9)(s:n7):α:=let t1:=(lp (C7 (⟨p.is3,rt tP s.A8,p.xa2,p.p8,p.Kd8,p.ac4,p.bd3,s.Ka6,(List.length s.f9)-(W ((W (p.is3+s.Ka6))+2)).toNat,(λk=>(λk=>(tP).row (gL tP s.f9 k)) ((W ((W (p.is3+s.Ka6))+2)).toNat+k)),(↑((List.length s.f9)-(W ((W (p.is3+s.Ka6))+2)).toNat):Int),rt tP s.f9,p.fa7,p.fa8,p.fa9,p.ga0,toI (hdA (p.ac4 s.Ka6.toNat)),toI (hdA (tlA (p.ac4 s.Ka6.toNat))),toI (hdA (tlA (tlA (p.ac4 s.Ka6.toNat)))),toI (hdA (tlA (tlA (tlA (p.ac4 s.Ka6.toNat))))),rt tP s.i6⟩:m0)) (⟨0,0,0,[],[]⟩:m8));(sl (decide (s.Ka6<p.bd3)) (sl (inB s.Ka6 p.Kd8) (sl ((Nat.ble 4 (len (p.ac4 s.Ka6.toNat)))&&(Y1 [CK.int .i64,CK.int .i64,CK.int .i64,CK.int .i64] (p.ac4 s.Ka6.toNat))) (sl (inB (W ((W (p.is3+s.Ka6))+2)) ((List.length s.f9)+1)) (sl ((cnE tP s.A8)&&((cnE tP s.f9)&&((cnE tP s.i6)&&true))) (sl (Nat.beq t1.1 1) (k ⟨0,rt tP s.A8,W (s.Ka6+1),rt tP s.f9,rt tP s.i6,0,[],[]⟩) (sl (Nat.beq t1.1 2) (k ⟨1,rt tP s.A8,W (s.Ka6+1),rt tP s.f9,rt tP s.i6,t1.2.Cb3,t1.2.eh6,t1.2.eh7⟩) z)) z) z) z) z) (e 1))
noncomputable def E7{α:Type}(k:n7->α)(e:Nat->α)(z:α)(p:m9)(s:n7):α:=let t1:=(lp (C7 (⟨p.is3,rt tP s.A8,p.xa2,p.p8,p.Kd8,p.ac4,p.bd3,s.Ka6,(List.length s.f9)-(W ((W (p.is3+s.Ka6))+2)).toNat,(λk=>(λk=>(tP).row (gL tP s.f9 k)) ((W ((W (p.is3+s.Ka6))+2)).toNat+k)),(↑((List.length s.f9)-(W ((W (p.is3+s.Ka6))+2)).toNat):Int),rt tP s.f9,p.fa7,p.fa8,p.fa9,p.ga0,toI (hdA (p.ac4 s.Ka6.toNat)),toI (hdA (tlA (p.ac4 s.Ka6.toNat))),toI (hdA (tlA (tlA (p.ac4 s.Ka6.toNat)))),toI (hdA (tlA (tlA (tlA (p.ac4 s.Ka6.toNat))))),rt tP s.i6⟩:m0)) (⟨1,0,s.nd6,s.eh5,s.eh6⟩:m8));(sl (decide (s.Ka6<p.bd3)) (sl (inB s.Ka6 p.Kd8) (sl ((Nat.ble 4 (len (p.ac4 s.Ka6.toNat)))&&(Y1 [CK.int .i64,CK.int .i64,CK.int .i64,CK.int .i64] (p.ac4 s.Ka6.toNat))) (sl (inB (W ((W (p.is3+s.Ka6))+2)) ((List.length s.f9)+1)) (sl ((cnE tP s.A8)&&((cnE tP s.f9)&&((cnE tP s.i6)&&true))) (sl (Nat.beq t1.1 1) (k ⟨0,rt tP s.A8,W (s.Ka6+1),rt tP s.f9,rt tP s.i6,0,[],[]⟩) (sl (Nat.beq t1.1 2) (k ⟨1,rt tP s.A8,W (s.Ka6+1),rt tP s.f9,rt tP s.i6,t1.2.Cb3,t1.2.eh6,t1.2.eh7⟩) z)) z) z) z) z) (e 2))
noncomputable def C8(p:m9)(s:n7):Stp n7:=(sel (Nat.beq s.ph 1) (E7 .next .exit .fail p s) (E6 .next .exit .fail p s))
noncomputable def Aa1:Lo m9 n7:=⟨En na2,0,Ie2,[1,1,1,0,1,4,4,1,4,4,1,1,0,4,1,1,4,4],[1,3,4,9,10,11,19,20,21,47,49,50,51,52],.s .p (.s .p (.s (.b (.s .p (.s .p (.b (.u Aa0.lsM))))) .p)),[⟨sUq::sPq 0::sUq::sIq::sPq 1::ru2 4 (sLq tP::sIq::sIq::ru2 7 (sTq 4::sIq::sIq::ru2 25 (.s (.o (.lit .i64 0))::sUq::sPq 2::.s (.o .nil)::sPq 3::sPq 4::ru2 31 []))),[⟨0,1,true,some [[.c 4 (nL tP)]]⟩,⟨0,4,true,some [kLq 4]⟩,⟨0,1,true,some [[.c 4 (nL tP)]]⟩,⟨0,0,true,some [[.o .nil]]⟩,⟨0,0,true,some [[.o (.ptr 5 0 0 0)]]⟩,⟨182,0,true,some []⟩],λa H=>(⟨aIq a 3,aIq a 10,aIq a 11,aNq a 19,aGq a 19,aIq a 20,hIq H 1 0 0,hIq H 1 0 1,hIq H 1 0 2,hIq H 1 0 3⟩,⟨0,aLq tP a 9,aIq a 21,hLq tP H 0 0 0,hLq tP H 2 0 0,0,[],[]⟩)⟩,⟨sUq::sPq 0::sUq::sIq::sPq 1::ru2 4 (sLq tP::sIq::sIq::ru2 7 (sTq 4::sIq::sIq::ru2 25 (.s (.o (.lit .i64 0))::sUq::sPq 2::.s (.o .nil)::sPq 3::sPq 4::ru2 31 []))),[⟨0,1,true,some [[.c 4 (nL tP)]]⟩,⟨0,4,true,some [kLq 4]⟩,⟨0,1,true,some [[.c 4 (nL tP)]]⟩,⟨0,0,true,some [[.o (.sl 5 0 (some 0) none)]]⟩,⟨0,0,true,some [[.o (.ptr 6 0 0 0)]]⟩,⟨136,4,true,none⟩,⟨182,0,true,none⟩],λa H=>(⟨aIq a 3,aIq a 10,aIq a 11,aNq a 19,aGq a 19,aIq a 20,hIq H 1 0 0,hIq H 1 0 1,hIq H 1 0 2,hIq H 1 0 3⟩,⟨1,aLq tP a 9,aIq a 21,hLq tP H 0 0 0,hLq tP H 2 0 0,slN (slT (rwT (elT H 3) 0) 0),elT H 5,elT H 6⟩)⟩],C8,[(some 2,λp s=>upq (Ta1 p s) [(22,b (decide (s.Ka6<p.bd3)))]),(some 2,λp s=>upq (Ta2 p s) [(22,b (decide (s.Ka6<p.bd3)))])],Sb9⟩
theorem Tb0:Aa1.OkM:=Lo.okM [Aa0.prM] (by kernel_rfl) (.cons Sb8 .nil) rfl (.cons (λa H=>by kernel_rfl) (.cons (λa H=>by kernel_rfl) .nil)) λp s=>(.sel (Nat.beq s.ph 1) (.of @E7 (λF _ _ _ _ _=>by unfold E7;(repeat' apply l5 (f:=F))<;>rfl) (by kernel_rfl)) (.of @E6 (λF _ _ _ _ _=>by unfold E6;(repeat' apply l5 (f:=F))<;>rfl) (by kernel_rfl)))
structure v8 where
 xa2:Int
structure o5 where
 ph:Nat
 A8:List Pln
 p8:Int
 (f9 Db6:List Pln)
 D6:Nat
 (eh4 eh5:List (List b8))
noncomputable def Ta3(p:v8)(s:o5):St:=⟨.unk::.ptr 0 0 0 0::ra 7 (eL tP s.A8::i p.xa2::i s.p8::ra 35 (i 0::.unk::.ptr 1 0 0 0::.v (.slice none 0 0)::.ptr 2 0 0 0::.ptr 3 0 0 0::ra 31 [])),[⟨0,1,[[eL tP s.f9]],true,false,0⟩,⟨0,1,[[eL tP s.Db6]],true,false,0⟩,⟨0,0,[[.v (.slice none 0 0)]],true,false,0⟩,⟨0,0,[[.ptr 4 0 0 0]],true,false,0⟩,⟨182,0,[],true,false,0⟩]⟩
noncomputable def Ta4(p:v8)(s:o5):St:=⟨.unk::.ptr 0 0 0 0::ra 7 (eL tP s.A8::i p.xa2::i s.p8::ra 35 (i 0::.unk::.ptr 1 0 0 0::.v (.slice none 0 0)::.ptr 2 0 0 0::.ptr 3 0 0 0::ra 31 [])),[⟨0,1,[[eL tP s.f9]],true,false,0⟩,⟨0,1,[[eL tP s.Db6]],true,false,0⟩,⟨0,0,[[.sl 4 0 s.D6 0]],true,false,0⟩,⟨0,0,[[.ptr 5 0 0 0]],true,false,0⟩,⟨136,4,s.eh4,true,false,0⟩,⟨182,0,s.eh5,true,false,0⟩]⟩
noncomputable def Tb1(p:v8)(s:o5):St:=(sel (Nat.beq s.ph 1) (Ta4 p s) (Ta3 p s))
noncomputable def E8{α:Type}(k:o5->α)(e:Nat->α)(z:α)(p:v8)(s:o5):α:=let t1:=(lp (C8 (⟨s.p8,p.xa2,s.p8,(List.length s.f9)-(W (s.p8+1)).toNat,(λk=>(λk=>(tP).row (gL tP s.f9 k)) ((W (s.p8+1)).toNat+k)),(↑((List.length s.f9)-(W (s.p8+1)).toNat):Int),(gL tP s.A8 s.p8.toNat).n.x,(gL tP s.A8 s.p8.toNat).n.y,(gL tP s.A8 s.p8.toNat).n.z,(gL tP s.A8 s.p8.toNat).b⟩:m9)) (⟨0,rt tP s.A8,0,rt tP s.f9,rt tP s.Db6,0,[],[]⟩:n7));(sl (decide (s.p8<p.xa2)) (sl (inB s.p8 (List.length s.A8)) (sl (inB (W (s.p8+1)) ((List.length s.f9)+1)) (sl ((cnE tP s.A8)&&((cnE tP s.f9)&&((cnE tP s.Db6)&&true))) (sl (Nat.beq t1.1 1) (k ⟨0,t1.2.A8,W (s.p8+1),t1.2.f9,t1.2.i6,0,[],[]⟩) (sl (Nat.beq t1.1 2) (k ⟨1,t1.2.A8,W (s.p8+1),t1.2.f9,t1.2.i6,t1.2.nd6,t1.2.eh5,t1.2.eh6⟩) z)) z) z) z) (e 1))
noncomputable def E9{α:Type}(k:o5->α)(e:Nat->α)(z:α)(p:v8)(s:o5):α:=let t1:=(lp (C8 (⟨s.p8,p.xa2,s.p8,(List.length s.f9)-(W (s.p8+1)).toNat,(λk=>(λk=>(tP).row (gL tP s.f9 k)) ((W (s.p8+1)).toNat+k)),(↑((List.length s.f9)-(W (s.p8+1)).toNat):Int),(gL tP s.A8 s.p8.toNat).n.x,(gL tP s.A8 s.p8.toNat).n.y,(gL tP s.A8 s.p8.toNat).n.z,(gL tP s.A8 s.p8.toNat).b⟩:m9)) (⟨1,rt tP s.A8,0,rt tP s.f9,rt tP s.Db6,s.D6,s.eh4,s.eh5⟩:n7));(sl (decide (s.p8<p.xa2)) (sl (inB s.p8 (List.length s.A8)) (sl (inB (W (s.p8+1)) ((List.length s.f9)+1)) (sl ((cnE tP s.A8)&&((cnE tP s.f9)&&((cnE tP s.Db6)&&true))) (sl (Nat.beq t1.1 1) (k ⟨0,t1.2.A8,W (s.p8+1),t1.2.f9,t1.2.i6,0,[],[]⟩) (sl (Nat.beq t1.1 2) (k ⟨1,t1.2.A8,W (s.p8+1),t1.2.f9,t1.2.i6,t1.2.nd6,t1.2.eh5,t1.2.eh6⟩) z)) z) z) z) (e 2))
noncomputable def C9(p:v8)(s:o5):Stp o5:=(sel (Nat.beq s.ph 1) (E9 .next .exit .fail p s) (E8 .next .exit .fail p s))
noncomputable def Aa2:Lo v8 o5:=⟨En na2,0,Ie2,[1,1,1,0,1,4,4,1,4,4],[1,9,10,11,47,49,50,51,52],.s .p (.s .p (.s (.b (.s .p (.s .p (.b (.u Aa1.lsM))))) .p)),[⟨sUq::sPq 0::ru2 7 (sLq tP::sIq::sIq::ru2 35 (.s (.o (.lit .i64 0))::sUq::sPq 1::.s (.o .nil)::sPq 2::sPq 3::ru2 31 [])),[⟨0,1,true,some [[.c 4 (nL tP)]]⟩,⟨0,1,true,some [[.c 4 (nL tP)]]⟩,⟨0,0,true,some [[.o .nil]]⟩,⟨0,0,true,some [[.o (.ptr 4 0 0 0)]]⟩,⟨182,0,true,some []⟩],λa H=>(⟨aIq a 10⟩,⟨0,aLq tP a 9,aIq a 11,hLq tP H 0 0 0,hLq tP H 1 0 0,0,[],[]⟩)⟩,⟨sUq::sPq 0::ru2 7 (sLq tP::sIq::sIq::ru2 35 (.s (.o (.lit .i64 0))::sUq::sPq 1::.s (.o .nil)::sPq 2::sPq 3::ru2 31 [])),[⟨0,1,true,some [[.c 4 (nL tP)]]⟩,⟨0,1,true,some [[.c 4 (nL tP)]]⟩,⟨0,0,true,some [[.o (.sl 4 0 (some 0) none)]]⟩,⟨0,0,true,some [[.o (.ptr 5 0 0 0)]]⟩,⟨136,4,true,none⟩,⟨182,0,true,none⟩],λa H=>(⟨aIq a 10⟩,⟨1,aLq tP a 9,aIq a 11,hLq tP H 0 0 0,hLq tP H 1 0 0,slN (slT (rwT (elT H 2) 0) 0),elT H 4,elT H 5⟩)⟩],C9,[(some 0,λp s=>upq (Ta3 p s) [(12,b (decide (s.p8<p.xa2)))]),(some 0,λp s=>upq (Ta4 p s) [(12,b (decide (s.p8<p.xa2)))])],Tb1⟩
theorem Tb2:Aa2.OkM:=Lo.okM [Aa1.prM] (by kernel_rfl) (.cons Tb0 .nil) rfl (.cons (λa H=>by kernel_rfl) (.cons (λa H=>by kernel_rfl) .nil)) λp s=>(.sel (Nat.beq s.ph 1) (.of @E9 (λF _ _ _ _ _=>by unfold E9;(repeat' apply l5 (f:=F))<;>rfl) (by kernel_rfl)) (.of @E8 (λF _ _ _ _ _=>by unfold E8;(repeat' apply l5 (f:=F))<;>rfl) (by kernel_rfl)))
noncomputable def ga2(x:List Pln):Option (b8×List b9):=let t1:=(lp (C9 (⟨(↑(List.length x):Int)⟩:v8)) (⟨0,rt tP x,0,rt tP x,rt tP x,0,[],[]⟩:o5));(sl ((cnE tP x)&&((cnE tP x)&&((cnE tP x)&&true))) (sl (Nat.beq t1.1 1) (some (.v (.slice none 0 0),[])) (sl (Nat.beq t1.1 2) (some (.sl 0 0 t1.2.D6 0,[⟨136,4,t1.2.eh4,true,false,0⟩])) none)) none)
noncomputable def ga3(x:List Pln):List Pt:=I6 (one (r1L tX)) (ga2 x)
noncomputable def ga4(x:List Pln):Bool:=okO (one (r1L tX)) (ga2 x)
noncomputable def Ka1:Sum:=Z5 (G4 tP) (λx=>.guard (ga4 x) (.ret ((one (r1L tX)).enc (ga3 x),[])))
theorem gb1:i7 prog G 167 Ka1:=La4 (bd jg1 Xb6) (one (r1L tX)) (o:=ga2) λx=>df5 (.s .p (.s .p (.s .p (.s (.s .p (.b (.i (.s .p (.b (.u Aa2.lsM)))))) .p)))) [Aa2.prM] (by kernel_rfl) (.cons Tb2 .nil) (by kernel_rfl)
noncomputable def hc8:List (Nat×Sum):=[]
theorem Xc2:i8 prog G hc8:=trivial
structure Aa3 where
 is0:Int
 Me8:List Int
 is8:Int
structure S6 where
 is9:Int
noncomputable def Pb3(p:Aa3)(s:S6):St:=⟨i p.is0::ra 6 (eL tI p.Me8::i p.is8::i s.is9::ra 13 []),[]⟩
noncomputable def qa3{α:Type}(k:S6->α)(e:Nat->α)(z:α)(p:Aa3)(s:S6):α:=(sl (decide (s.is9<p.is8)) (sl (inB s.is9 (List.length p.Me8)) (sl (decide ((gL tI p.Me8 s.is9.toNat)<(W (0-p.is0)))) (e 1) (sl (decide ((gL tI p.Me8 s.is9.toNat)>p.is0)) (e 1) (k ⟨W (s.is9+1)⟩))) z) (e 2))
noncomputable def va7(p:Aa3)(s:S6):Stp S6:=qa3 .next .exit .fail p s
noncomputable def nb5:Lo Aa3 S6:=⟨En hc8,0,Df6,[1,0,1,4,4],[0,7,8,9],.p,[⟨sIq::ru2 6 (sLq tI::sIq::sIq::ru2 13 []),[],λa H=>(⟨aIq a 0,aLq tI a 7,aIq a 8⟩,⟨aIq a 9⟩)⟩],va7,[(none,λp s=>⟨[b false],[]⟩),(some 0,λp s=>upq (Pb3 p s) [(10,b (decide (s.is9<p.is8)))])],Pb3⟩
theorem Oc8:nb5.Ok:=Lo.ok [] (by kernel_rfl) .nil rfl (.cons (λa H=>by kernel_rfl) .nil) λp s=>(.of @qa3 (λF _ _ _ _ _=>by unfold qa3;(repeat' apply l5 (f:=F))<;>rfl) (by kernel_rfl))
noncomputable def Na4(x:Int)(y:List Int):Option (b8×List b9):=let t1:=(lp (va7 (⟨x,rt tI y,(↑(List.length y):Int)⟩:Aa3)) (⟨0⟩:S6));(sl ((cnE tI y)&&true) (sl (Nat.beq t1.1 1) (some (b false,[])) (sl (Nat.beq t1.1 2) (some (b true,[])) none)) none)
noncomputable def Na5(x:Int)(y:List Int):Bool:=I6 (one r1B) (Na4 x y)
noncomputable def Na6(x:Int)(y:List Int):Bool:=okO (one r1B) (Na4 x y)
noncomputable def qc2:Sum:=ga1 cI (G4 tI) (λx y=>.guard (Na6 x y) (.ret ((one r1B).enc (Na5 x y),[])))
theorem hd5:i7 prog G 138 qc2:=La5 (bd hg3 Xc2) (one r1B) (o:=Na4) λx y=>ma5 (.s .p (.s (.s .p (.b (.u nb5.ls))) .p)) [nb5.pr] (by kernel_rfl) (.cons Oc8 .nil) (by kernel_rfl)
noncomputable def Oc9:List (Nat×Sum):=[]
theorem Gc8:i8 prog G Oc9:=trivial
noncomputable def Ra7(x:Int):Int:=(if (W (0-x))>x then (W (0-x)) else x)
noncomputable def Xb7:Sum:=Z5 cI (λx=>.ret ((one r1I).enc (Ra7 x),[]))
theorem Pc0:i7 prog G 183 Xb7:=Ob1 (bd kg1 Gc8) λx=>w9 (by kernel_rfl)
noncomputable def nb6:List (Nat×Sum):=[(183,Xb7)]
theorem Pc1:i8 prog G nb6:=⟨Pc0,trivial⟩
structure ka6 where
 mb4:List Int
 (is7 is8:Int)
structure U6 where
 (is3 is5:Int)
noncomputable def Hb0(p:ka6)(s:U6):St:=⟨ra 3 (i s.is3::.unk::i s.is5::eL tI p.mb4::i p.is7::i p.is8::ra 15 []),[]⟩
noncomputable def ma6{α:Type}(k:U6->α)(e:Nat->α)(z:α)(p:ka6)(s:U6):α:=(sl (decide (s.is5>0)) (sl (s.is5==0) z (k ⟨s.is5,Int.tmod s.is3 s.is5⟩)) (e 1))
noncomputable def ga9(p:ka6)(s:U6):Stp U6:=ma6 .next .exit .fail p s
noncomputable def gb2:Lo ka6 U6:=⟨En nb6,0,df3,[1,1,0,1,4,4,1,1,0,4,1,1,1,4,4],[3,5,6,7,8],.p,[⟨ru2 3 (sIq::sUq::sIq::sLq tI::sIq::sIq::ru2 15 []),[],λa H=>(⟨aLq tI a 6,aIq a 7,aIq a 8⟩,⟨aIq a 3,aIq a 5⟩)⟩],ga9,[(some 2,λp s=>upq (Hb0 p s) [(16,i s.is5),(17,b (decide (s.is5>0)))])],Hb0⟩
theorem Gc9:gb2.Ok:=Lo.ok [] (by kernel_rfl) .nil rfl (.cons (λa H=>by kernel_rfl) .nil) λp s=>(.of @ma6 (λF _ _ _ _ _=>by unfold ma6;(repeat' apply l5 (f:=F))<;>rfl) (by kernel_rfl))
structure va8 where
 is7:Int
structure P6 where
 is3:Int
 mb4:List Int
 is8:Int
noncomputable def Hb1(p:va8)(s:P6):St:=⟨ra 3 (i s.is3::.unk::.unk::eL tI s.mb4::i p.is7::i s.is8::ra 15 []),[]⟩
noncomputable def ma7{α:Type}(k:P6->α)(e:Nat->α)(z:α)(p:va8)(s:P6):α:=let t1:=(Ra7 (gL tI s.mb4 s.is8.toNat));let t2:=(lp (ga9 (⟨rt tI s.mb4,p.is7,s.is8⟩:ka6)) (⟨s.is3,t1⟩:U6));(sl (decide (s.is8<p.is7)) (sl (inB s.is8 (List.length s.mb4)) (sl ((gL tI s.mb4 s.is8.toNat)==(-9223372036854775808)) (e 1) (sl ((cnE tI s.mb4)&&true) (sl (Nat.beq t2.1 1) (k ⟨t2.2.is3,rt tI s.mb4,W (s.is8+1)⟩) z) z)) z) (e 2))
noncomputable def qa4(p:va8)(s:P6):Stp P6:=ma7 .next .exit .fail p s
noncomputable def gb3:Lo va8 P6:=⟨En nb6,0,df3,[1,1,0,1,4,4],[3,6,7,8],.s .p (.s .p (.s (.b (.s .p (.s .p (.s .p (.b (.u gb2.ls)))))) .p)),[⟨ru2 3 (sIq::sUq::sUq::sLq tI::sIq::sIq::ru2 15 []),[],λa H=>(⟨aIq a 7⟩,⟨aIq a 3,aLq tI a 6,aIq a 8⟩)⟩],qa4,[(none,λp s=>⟨[i 0],[]⟩),(some 0,λp s=>upq (Hb1 p s) [(9,b (decide (s.is8<p.is7)))])],Hb1⟩
theorem Hc0:gb3.Ok:=Lo.ok [gb2.pr] (by kernel_rfl) (.cons Gc9 .nil) rfl (.cons (λa H=>by kernel_rfl) .nil) λp s=>(.of @ma7 (λF _ _ _ _ _=>by unfold ma7;(repeat' apply l5 (f:=F))<;>rfl) (by kernel_rfl))
noncomputable def Fa9(x:List Int):Option (b8×List b9):=let t1:=(lp (qa4 (⟨(↑(List.length x):Int)⟩:va8)) (⟨0,rt tI x,0⟩:P6));(sl ((cnE tI x)&&true) (sl (Nat.beq t1.1 1) (some (i 0,[])) (sl (Nat.beq t1.1 2) (some (i t1.2.is3,[])) none)) none)
noncomputable def Za4(x:List Int):Int:=I6 (one r1I) (Fa9 x)
noncomputable def Za5(x:List Int):Bool:=okO (one r1I) (Fa9 x)
noncomputable def hc9:Sum:=Z5 (G4 tI) (λx=>.guard (Za5 x) (.ret ((one r1I).enc (Za4 x),[])))
theorem Xc3:i7 prog G 186 hc9:=La4 (bd kg3 Pc1) (one r1I) (o:=Fa9) λx=>ma5 (.s .p (.s .p (.s (.s .p (.b (.u gb3.ls))) .p))) [gb3.pr] (by kernel_rfl) (.cons Hc0 .nil) (by kernel_rfl)
noncomputable def td8:List (Nat×Sum):=[(138,qc2),(186,hc9)]
theorem hd6:i8 prog G td8:=⟨hd5,Xc3,trivial⟩
noncomputable def Wa5(x:Pln):Option (b8×List b9):=let t1:=(Na5 4608 [x.n.x,x.n.y,x.n.z]);let t2:=(Za4 [x.n.x,x.n.y,x.n.z]);let t3:=(Na5 2097152 [x.b]);(sl (Na6 4608 [x.n.x,x.n.y,x.n.z]) (sl t1 (sl (Za5 [x.n.x,x.n.y,x.n.z]) (sl (t2==1) (sl (Na6 2097152 [x.b]) (some (b t3,[])) none) (some (b false,[]))) none) (some (b false,[]))) none)
noncomputable def qb2(x:Pln):Bool:=I6 (one r1B) (Wa5 x)
noncomputable def qb3(x:Pln):Bool:=okO (one r1B) (Wa5 x)
noncomputable def Bc9:Sum:=Z5 (da1 tP) (λx=>.guard (qb3 x) (.ret ((one r1B).enc (qb2 x),[])))
theorem td9:i7 prog G 140 Bc9:=La4 (bd hg4 hd6) (one r1B) (o:=Wa5) λx=>w9 (by kernel_rfl)
noncomputable def hd7:List (Nat×Sum):=[(140,Bc9)]
theorem Xc4:i8 prog G hd7:=⟨td9,trivial⟩
noncomputable def Na7(x:Pln):Option (b8×List b9):=let t1:=(qb2 x);(sl (qb3 x) (some (b (!t1),[])) none)
noncomputable def gb4(x:Pln):Bool:=I6 (one r1B) (Na7 x)
noncomputable def gb5(x:Pln):Bool:=okO (one r1B) (Na7 x)
noncomputable def qc3:Sum:=Z5 (da1 tP) (λx=>.guard (gb5 x) (.ret ((one r1B).enc (gb4 x),[])))
theorem hd8:i7 prog G 149 qc3:=La4 (bd hg7 Xc4) (one r1B) (o:=Na7) λx=>w9 (by kernel_rfl)
structure ea4 where
 d7:List Pln
noncomputable def Na8:List (Nat×Sum):=[(149,qc3)]
theorem Ab6:i8 prog G Na8:=⟨hd8,trivial⟩
structure P7 where
 d7:List Pln
 is7:Int
structure q7 where
 is8:Int
noncomputable def Ga0(p:P7)(s:q7):St:=⟨eL tP p.d7::.fn 149 []::ra 5 (i p.is7::i s.is8::ra 10 []),[]⟩
noncomputable def K1{α:Type}(k:q7->α)(e:Nat->α)(z:α)(p:P7)(s:q7):α:=let t1:=(gb4 (gL tP p.d7 s.is8.toNat));(sl (decide (s.is8<p.is7)) (sl (inB s.is8 (List.length p.d7)) (sl (gb5 (gL tP p.d7 s.is8.toNat)) (sl t1 (e 1) (k ⟨W (s.is8+1)⟩)) z) z) (e 2))
noncomputable def M6(p:P7)(s:q7):Stp q7:=K1 .next .exit .fail p s
noncomputable def na3:Lo P7 q7:=⟨En Na8,0,me2,[1,0,1,4,4],[0,1,7,8],.p,[⟨sLq tP::.s (.o (.fn 149))::ru2 5 (sIq::sIq::ru2 10 []),[],λa H=>(⟨aLq tP a 0,aIq a 7⟩,⟨aIq a 8⟩)⟩],M6,[(none,λp s=>⟨[i s.is8],[]⟩),(some 0,λp s=>upq (Ga0 p s) [(9,b (decide (s.is8<p.is7)))])],Ga0⟩
theorem xb2:na3.Ok:=Lo.ok [] (by kernel_rfl) .nil rfl (.cons (λa H=>by kernel_rfl) .nil) λp s=>(.of @K1 (λF _ _ _ _ _=>by unfold K1;(repeat' apply l5 (f:=F))<;>rfl) (by kernel_rfl))
structure ea5 where
 alt:Nat
 is0:Int
noncomputable def L1{α:Type}(kk:ea5->α)(x:ea4):α:=let t1:=(lp (M6 (⟨rt tP x.d7,(↑(List.length x.d7):Int)⟩:P7)) (⟨0⟩:q7));(sl ((cnE tP x.d7)&&true) (sl (Nat.beq t1.1 1) (kk ⟨1,t1.2.is8⟩) (sl (Nat.beq t1.1 2) (kk ⟨1,-1⟩) (kk ⟨0,0⟩))) (kk ⟨0,0⟩))
noncomputable def ta6(x:ea4):ea5:=L1 (λr=>r) x
noncomputable def qa5(x:ea4)(r:ea5):DT (b8×List b9):=(.ite (Nat.beq r.alt 1) (.ret (i r.is0,[])) .fail)
theorem Mb2{α β:Type}(F:α->β)(kk:ea5->α)(x:ea4):F (L1 kk x)=L1 (λr=>F (kk r)) x:=by unfold L1;(repeat' apply l5 (f:=F))<;>rfl
noncomputable def Ta5:Sum:=eb9 ⟨[sLq tP,.s (.o (.fn 149))],[],λa H=>(⟨aLq tP a 0⟩,())⟩ (λx=>qa5 x (ta6 x))
theorem Hb2:i7 prog G 139 Ta5:=Q9 (enc:=λx=>⟨[eL tP x.d7,.fn 149 []],[]⟩) (λa H=>by kernel_rfl) (bd uf5 Ab6) λx=>ma5 (.s .p (.s (.s .p (.b (.u na3.ls))) .p)) [na3.pr] (by kernel_rfl) (.cons xb2 .nil) (Qha (b:=L1 (λr=>(qa5 x r).run) x) (by kernel_rfl) (Mb2 (λr=>(qa5 x r).run) (λr=>r) x).symm)
structure W8 where
 d7:List Pln
noncomputable def tb2:List (Nat×Sum):=[(139,Ta5)]
theorem nb7:i8 prog G tb2:=⟨Hb2,trivial⟩
structure W9 where
 alt:Nat
 bs0:Bool
noncomputable def F8{α:Type}(kk:W9->α)(x:W8):α:=let t1:=(ta6 ⟨rt tP x.d7⟩);(sl ((cnE tP x.d7)&&true) (sl (Nat.beq t1.alt 1) (kk ⟨1,decide (t1.is0>=0)⟩) (kk ⟨0,false⟩)) (kk ⟨0,false⟩))
noncomputable def la3(x:W8):W9:=F8 (λr=>r) x
noncomputable def ja4(x:W8)(r:W9):DT (b8×List b9):=(.ite (Nat.beq r.alt 1) (.ret (b r.bs0,[])) .fail)
theorem xb3{α β:Type}(F:α->β)(kk:W9->α)(x:W8):F (F8 kk x)=F8 (λr=>F (kk r)) x:=by unfold F8;(repeat' apply l5 (f:=F))<;>rfl
noncomputable def Ga1:Sum:=eb9 ⟨[sLq tP,.s (.o (.fn 149))],[],λa H=>(⟨aLq tP a 0⟩,())⟩ (λx=>ja4 x (la3 x))
theorem tb3:i7 prog G 86 Ga1:=Q9 (enc:=λx=>⟨[eL tP x.d7,.fn 149 []],[]⟩) (λa H=>by kernel_rfl) (bd b86 nb7) λx=>w9 (Qha (b:=F8 (λr=>(ja4 x r).run) x) (by kernel_rfl) (xb3 (λr=>(ja4 x r).run) (λr=>r) x).symm)
noncomputable def Gd3:List (Nat×Sum):=[(86,Ga1)]
theorem ud0:i8 prog G Gd3:=⟨tb3,trivial⟩
noncomputable def gb6(x:List Pln):Option (b8×List b9):=let t1:=(la3 ⟨rt tP x⟩);(sl (decide ((↑(List.length x):Int)>48)) (some (i 2,[])) (sl ((cnE tP x)&&true) (sl (Nat.beq t1.alt 1) (sl t1.bs0 (some (i 12,[])) (some (i 0,[]))) none) none))
noncomputable def va9(x:List Pln):Int:=I6 (one r1I) (gb6 x)
noncomputable def Ra8(x:List Pln):Bool:=okO (one r1I) (gb6 x)
noncomputable def Ab7:Sum:=Z5 (G4 tP) (λx=>.guard (Ra8 x) (.ret ((one r1I).enc (va9 x),[])))
theorem Tb3:i7 prog G 97 Ab7:=La4 (bd b97 ud0) (one r1I) (o:=gb6) λx=>w9 (by kernel_rfl)
noncomputable def hd9:List (Nat×Sum):=[(97,Ab7)]
theorem Xc5:i8 prog G hd9:=⟨Tb3,trivial⟩
noncomputable def Na9(x:List Pln):Option (b8×List b9):=let t1:=(va9 (rt tP x));(sl (okE tP x) (sl (Ra8 (rt tP x)) (some (b (t1 != 0),[])) none) none)
noncomputable def gb7(x:List Pln):Bool:=I6 (one r1B) (Na9 x)
noncomputable def gb8(x:List Pln):Bool:=okO (one r1B) (Na9 x)
noncomputable def qc4:Sum:=Z5 (G4 tP) (λx=>.guard (gb8 x) (.ret ((one r1B).enc (gb7 x),[])))
theorem id1:i7 prog G 165 qc4:=La4 (bd ig9 Xc5) (one r1B) (o:=Na9) λx=>w9 (by kernel_rfl)
end Go.Ev.Ce
namespace Go.Proofs
open Go.Shelf
set_option maxRecDepth 100000 in
def Ce.growP_ren:Go.Shelf.Ren:=⟨fun | 4=>193 | n=>n,fun | 22=>24 | 25=>73 | 3=>3 | 4=>4 | 9=>9 | 20=>20 | 0=>0 | n=>n,fun | n=>n⟩
set_option maxRecDepth 100000 in
theorem Ce.growP:Go.Proofs.Lays8.n4 Tryz.prog Ce.growP_ren:={
 mixed:=by kernel_rfl
 f4:=⟨Tryz.f193.name,by decide,Tryz.func193.trans (congrArg some (by kernel_rfl))⟩
 t0:=Tryz.underlying0
 a0:=Tryz.isAgg0
 z0:=Tryz.sizeOf0
 v0:=Tryz.zeroValue0
 t3:=Tryz.underlying3
 a3:=Tryz.isAgg3
 z3:=Tryz.sizeOf3
 v3:=Tryz.zeroValue3
 t4:=Tryz.underlying4
 a4:=Tryz.isAgg4
 z4:=Tryz.sizeOf4
 v4:=Tryz.zeroValue4
 t9:=Tryz.underlying9
 a9:=Tryz.isAgg9
 z9:=Tryz.sizeOf9
 v9:=Tryz.zeroValue9
 t20:=Tryz.underlying20
 a20:=Tryz.isAgg20
 z20:=Tryz.sizeOf20
 v20:=Tryz.zeroValue20
 t22:=Tryz.underlying24
 a22:=Tryz.isAgg24
 z22:=Tryz.sizeOf24
 v22:=Tryz.zeroValue24 }
end Go.Proofs
namespace Go.Ev.Ce
open Go Go.Ev Go.Proofs
noncomputable def Zd8:List b8:=[i 0,i 0,i 0,i 0]
noncomputable def Ua7:Sum:=λargs blks=>match args,blks with
 | [.v (.slice none 0 0), .v (.int .i64 n)], [] => .ite (n == 0) (.ret (.v (.slice none 0 0), []))
   (.guard (Bool.and (decide (0<n)) (Nat.ble (n.toNat*32) room)) (.ret (.sl 0 0 0 0,[⟨73,4,List.replicate n.toNat Zd8,true,false,0⟩])))
 |_,_=>.fail
theorem z73:zeT Tryz.prog 73=some Zd8:=by kernel_rfl
theorem s73:szT Tryz.prog 73=4:=by kernel_rfl
theorem y73:byT Tryz.prog 73=32:=by kernel_rfl
theorem t25:Ce.growP_ren.t 25=73:=by kernel_rfl
theorem f4:Ce.growP_ren.f 4=193:=by kernel_rfl
set_option maxRecDepth 100000 in
theorem qc5:i7 prog G 193 Ua7:=by
 intro args blks r out he W ρ F w args' hH hlen hargs hG;refine⟨⟨_,Tryz.func193,by kernel_rfl,of_decide_eq_true (by kernel_rfl)⟩,?_⟩
 unfold Ua7 at he
 split at he
 case h_2=>cases he
 rename_i n
 match args',hlen with
 |[v0,v1],_ =>
 have e0:=ma4 (hargs 0 _ _ rfl rfl);have e1:=ma4 (hargs 1 _ _ rfl rfl);subst e0 e1
 rcases DT.run_ite_some he with⟨h0,he⟩|⟨h0,he⟩
 ·have h0:n=0:=by simpa using h0
  subst h0;injection he with he;injection he with q1 q2;subst q1 q2
  have:=Any8.slices_Grow_room Ce.growP none 0 0 0 w (Qhf _) (by omega) (by omega) (by omega)
  rw[f4] at this;refine this.mono λe w' ⟨h1,h2⟩=>?_
  subst h1 h2;exact⟨_,rfl,ρ,F,.refl,hH,.ofv _⟩
 ·obtain⟨hg,he⟩:=DT.run_guard_some he;rw[Bool.and_eq_true,decide_eq_true_eq] at hg;obtain⟨hpos,hroom⟩:=hg;have hroom:=Nat.le_of_ble_eq_true hroom;unfold room at hroom;obtain⟨m,rfl⟩:=Int.eq_ofNat_of_zero_le (Int.le_of_lt hpos);have hm:0<m:=by omega
  have he:some (b8.sl 0 0 0 0,[(⟨73,4,List.replicate m Zd8,true,false,0⟩:b9)])=some (r,out):=he;injection he with he;injection he with q1 q2;subst q1 q2
  obtain⟨ti,zv,hi,hzz,hzr,hone⟩:=mb8 (E:=En []) z73;have hi:Tryz.prog.info? 73=some ti:=hi;have hts:ti.size=4:=by have:=s73;simp only[szT,hi] at this;exact this
  have hby:ti.bytes=32:=by have:=y73;simp only[byT,hi] at this;exact this
  have hzs:zv.cells.size=4:=by
   have:=congrArg List.length hzr
   simpa [Zd8] using this.symm
  have hroom':m*32<=140737488355328:=hroom
  have:=Any8.slices_Grow_grow Ce.growP ti zv (by rw[t25];exact hi) hzz (by omega) none 0 0 m [] w (Qhf _) (by omega) (by rw[hby];omega) (by omega) (by simp) (λ_=>rfl) (λa ha=>by cases ha)
  rw[f4,t25] at this;refine this.mono λe w' ⟨h1,h2⟩=>?_
  have hcap:=grownCap_ge w (0+m) 0 73;have hcap2:=grownCap_le_maxLen w (0+m) 0 73 (by unfold maxLen;omega)
  subst h1;generalize grownCap w (0+m) 0 73=G' at *
  have hsz:∀q,(Builtin.zeroCells zv.cells q).size=q*4:=λq=>by simp[Builtin.zeroCells,hzs]
  have hcc:(#[]++Builtin.zeroCells zv.cells (0+m-0)++Builtin.zeroCells zv.cells (G'-(0+m))).size=G'*4:=by
   rw[Array.size_append,Array.size_append,hsz,hsz];simp;omega
  have hobj:w'.heap[w.heap.size]?=some (.cells (#[]++Builtin.zeroCells zv.cells (0+m-0)++Builtin.zeroCells zv.cells (G'-(0+m))) 73 (0,0)):=by
   rw[h2];exact World.alloc_heap_new w.drew _
  have hold:∀k,k<w.heap.size->w'.heap[k]?=w.heap[k]?:=λk hk=>by
   rw[h2];simp only[World.alloc,Array.getElem?_push,World.drew];rw[if_neg (by omega)]
  have hws:w'.heap.size=w.heap.size+1:=by rw[h2];exact Array.size_push ..
  obtain⟨h6,h7⟩:=hH.newAt (w':=w') (by rw[h2];rfl) (by rw[h2];rfl) (by rw[h2];rfl) (by rw[h2];exact Nat.le_succ _) (by omega) hold w.heap.size (Qhf _) 73 4 (List.replicate m Zd8) _ 73 hobj
   (λj r hr=>by rw[Qhe] at hr;split at hr<;>cases hr;rfl) (by rw[List.length_replicate,hcc];omega)
   (λj r c x hr hx=>by
    have hjm:j<m:=by
     have:=(Qhc.1 hr).1
     simpa using this
    rw[Qhe,if_pos hjm] at hr;injection hr with hr;subst hr;have hc4:c<4:=(Qhc.1 hx).1;rw[hzr,List.getElem?_map] at hx;have hcz:c<zv.cells.size:=by omega
    have hq:zv.cells.toList[c]?=some zv.cells[c]:=by simp[hcz]
    rw[hq] at hx;injection hx with hx;subst hx;refine⟨zv.cells[c],?_,.v _ (hone _ (by simp))⟩
    have hlt:j*4+c<m*4:=by omega
    rw[Array.append_assoc,Array.empty_append,Array.getElem?_append_left (by rw[hsz];omega)]
    have hm4:(j*4+c) % 4=c:=by omega
    simp only[Builtin.zeroCells,hzs];rw[Array.getElem?_map,Array.getElem?_range];rw[if_pos (by omega)]
    simp[hm4,hcz])
   (λ_=>rfl)
  refine⟨_,rfl,_,F,h6,h7,.val (.cell ?_)⟩;refine .sl 0 0 0 0 _ _ { et:=73,es:=4,elems:=List.replicate m Zd8,own:=true,dead:=false,g:=0 } rfl rfl (Qhf _) (Nat.zero_le _) rfl hcap2 λ_=>⟨.inr ?_,?_,by simp⟩
  ·simp[ρnew]
  ·simp only[ρnew,List.length_nil,if_true];rw[hcc,Nat.zero_add]
end Go.Ev.Ce
namespace Go.Ev.Ce
open Go Go.Ev Go.Ev.L Go.Proofs
set_option maxRecDepth 100000
noncomputable def Da5:List (Nat×Sum):=[(193,Ua7)]
theorem Xb8:i8 prog G Da5:=⟨qc5,trivial⟩
structure Y5 where
 (k8 Lb7:List (List Pln))
 xa2:Int
structure w6 where
 (is3 p8:Int)
noncomputable def Wa6(p:Y5)(s:w6):St:=⟨eL (tLs tP) p.k8::.unk::.unk::i s.is3::ra 5 (eL (tLs tP) p.Lb7::i p.xa2::i s.p8::ra 24 []),[]⟩
noncomputable def U2{α:Type}(k:w6->α)(e:Nat->α)(z:α)(p:Y5)(s:w6):α:=(sl (decide (s.p8<p.xa2)) (sl (inB s.p8 (List.length p.Lb7)) (sl (decide ((W (s.is3+(↑(List.length (gL (tLs tP) p.Lb7 s.p8.toNat)):Int)))<0)) z (k ⟨W (s.is3+(↑(List.length (gL (tLs tP) p.Lb7 s.p8.toNat)):Int)),W (s.p8+1)⟩)) z) (e 1))
noncomputable def O5(p:Y5)(s:w6):Stp w6:=U2 .next .exit .fail p s
noncomputable def Aa4:Lo Y5 w6:=⟨En Da5,0,df2,[1,1,0,1,4,4],[0,3,9,10,11],.p,[⟨.s (.c 1 (nL (tLs tP)))::sUq::sUq::sIq::ru2 5 (.s (.c 1 (nL (tLs tP)))::sIq::sIq::ru2 24 []),[],λa H=>(⟨rL (tLs tP) (slT a 0),rL (tLs tP) (slT a 9),aIq a 10⟩,⟨aIq a 3,aIq a 11⟩)⟩],O5,[(some 0,λp s=>upq (Wa6 p s) [(12,b (decide (s.p8<p.xa2)))])],Wa6⟩
theorem Tb4:Aa4.OkM:=Lo.okM [] (by kernel_rfl) .nil rfl (.cons (λa H=>by kernel_rfl) .nil) λp s=>(.of @U2 (λF _ _ _ _ _=>by unfold U2;(repeat' apply l5 (f:=F))<;>rfl) (by kernel_rfl))
structure A5 where
 La3:List (List Pln)
 Kd9:Int
structure o3 where
 ph:Nat
 Va3:Int
 ns6:Nat
 eh0:List (List b8)
noncomputable def Ta6(p:A5)(s:o3):St:=⟨ra 6 (.v (.slice none 0 0)::ra 18 (eL (tLs tP) p.La3::i p.Kd9::i s.Va3::ra 8 [])),[]⟩
noncomputable def Ta7(p:A5)(s:o3):St:=⟨ra 6 (.sl 0 0 s.ns6 0::ra 18 (eL (tLs tP) p.La3::i p.Kd9::i s.Va3::ra 8 [])),[⟨73,4,s.eh0,true,false,0⟩]⟩
noncomputable def Tb5(p:A5)(s:o3):St:=(sel (Nat.beq s.ph 1) (Ta7 p s) (Ta6 p s))
noncomputable def F4{α:Type}(k:o3->α)(e:Nat->α)(z:α)(p:A5)(s:o3):α:=(sl (decide (s.Va3<p.Kd9)) (sl (inB s.Va3 (List.length p.La3)) (sl (Nat.beq (len (n9 (λk=>(tP).row (gL tP (gL (tLs tP) p.La3 s.Va3.toNat) k)) (List.range (List.length (gL (tLs tP) p.La3 s.Va3.toNat))))) 0) (k ⟨0,W (s.Va3+1),0,[]⟩) z) z) (e 1))
noncomputable def F5{α:Type}(k:o3->α)(e:Nat->α)(z:α)(p:A5)(s:o3):α:=(sl (decide (s.Va3<p.Kd9)) (sl (inB s.Va3 (List.length p.La3)) (sl (Nat.ble (s.ns6+(len (n9 (λk=>(tP).row (gL tP (gL (tLs tP) p.La3 s.Va3.toNat) k)) (List.range (List.length (gL (tLs tP) p.La3 s.Va3.toNat)))))) (len s.eh0)) (k ⟨1,W (s.Va3+1),(s.ns6+(len (n9 (λk=>(tP).row (gL tP (gL (tLs tP) p.La3 s.Va3.toNat) k)) (List.range (List.length (gL (tLs tP) p.La3 s.Va3.toNat)))))),(app (M2 s.eh0 s.ns6) (app (n9 (λk=>(tP).row (gL tP (gL (tLs tP) p.La3 s.Va3.toNat) k)) (List.range (List.length (gL (tLs tP) p.La3 s.Va3.toNat)))) (f8 s.eh0 (s.ns6+(len (n9 (λk=>(tP).row (gL tP (gL (tLs tP) p.La3 s.Va3.toNat) k)) (List.range (List.length (gL (tLs tP) p.La3 s.Va3.toNat)))))))))⟩) z) z) (e 2))
noncomputable def H8(p:A5)(s:o3):Stp o3:=(sel (Nat.beq s.ph 1) (F5 .next .exit .fail p s) (F4 .next .exit .fail p s))
noncomputable def Aa5:Lo A5 o3:=⟨En Da5,0,df2,[1,1,1,1,0,1,4,4],[6,25,26,27],.p,[⟨ru2 6 (.s (.o .nil)::ru2 18 (.s (.c 1 (nL (tLs tP)))::sIq::sIq::ru2 8 [])),[],λa H=>(⟨rL (tLs tP) (slT a 25),aIq a 26⟩,⟨0,aIq a 27,0,[]⟩)⟩,⟨ru2 6 (.s (.o (.sl 0 0 (some 0) none))::ru2 18 (.s (.c 1 (nL (tLs tP)))::sIq::sIq::ru2 8 [])),[⟨73,4,true,none⟩],λa H=>(⟨rL (tLs tP) (slT a 25),aIq a 26⟩,⟨1,aIq a 27,slN (slT a 6),elT H 0⟩)⟩],H8,[(some 2,λp s=>upq (Ta6 p s) [(28,b (decide (s.Va3<p.Kd9)))]),(some 2,λp s=>upq (Ta7 p s) [(28,b (decide (s.Va3<p.Kd9)))])],Tb5⟩
theorem Tb6:Aa5.OkM:=Lo.okM [] (by kernel_rfl) .nil rfl (.cons (λa H=>by kernel_rfl) (.cons (λa H=>by kernel_rfl) .nil)) λp s=>(.sel (Nat.beq s.ph 1) (.of @F5 (λF _ _ _ _ _=>by unfold F5;(repeat' apply l5 (f:=F))<;>rfl) (by kernel_rfl)) (.of @F4 (λF _ _ _ _ _=>by unfold F4;(repeat' apply l5 (f:=F))<;>rfl) (by kernel_rfl)))
structure ta1 where
 (alt ns0:Nat)
 eh0:List (List b8)
noncomputable def P1{α:Type}(kk:ta1->α)(x:List (List Pln)):α:=let t1:=(lp (O5 (⟨rt (tLs tP) x,rt (tLs tP) x,(↑(List.length x):Int)⟩:Y5)) (⟨0,0⟩:w6));let t2:=(lp (H8 (⟨rt (tLs tP) (rt (tLs tP) x),(↑(List.length (rt (tLs tP) x)):Int)⟩:A5)) (⟨0,0,0,[]⟩:o3));let t3:=(lp (H8 (⟨rt (tLs tP) (rt (tLs tP) x),(↑(List.length (rt (tLs tP) x)):Int)⟩:A5)) (⟨1,0,0,List.replicate t1.2.is3.toNat Zd8⟩:o3));(sl ((cnE (tLs tP) x)&&((cnE (tLs tP) x)&&true)) (sl (Nat.beq t1.1 1) (sl (t1.2.is3==0) (sl ((cnE (tLs tP) (rt (tLs tP) x))&&true) (sl (Nat.beq t2.1 1) (kk ⟨1,0,[]⟩) (sl (Nat.beq t2.1 2) (kk ⟨2,t2.2.ns6,t2.2.eh0⟩) (kk ⟨0,0,[]⟩))) (kk ⟨0,0,[]⟩)) (sl (Bool.and (decide (0<t1.2.is3)) (Nat.ble (t1.2.is3.toNat*32) room)) (sl ((cnE (tLs tP) (rt (tLs tP) x))&&true) (sl (Nat.beq t3.1 1) (kk ⟨1,0,[]⟩) (sl (Nat.beq t3.1 2) (kk ⟨2,t3.2.ns6,t3.2.eh0⟩) (kk ⟨0,0,[]⟩))) (kk ⟨0,0,[]⟩)) (kk ⟨0,0,[]⟩))) (kk ⟨0,0,[]⟩)) (kk ⟨0,0,[]⟩))
noncomputable def y5(x:List (List Pln)):ta1:=P1 (λr=>r) x
noncomputable def Da6(r:ta1):DT (b8×List b9):=(.ite (Nat.beq r.alt 1) (.ret (.v (.slice none 0 0),[])) (.ite (Nat.beq r.alt 2) (.ret (.sl 0 0 r.ns0 0,[⟨73,4,r.eh0,true,false,0⟩])) .fail))
theorem kc1{α β:Type}(F:α->β)(kk:ta1->α)(x:List (List Pln)):F (P1 kk x)=P1 (λr=>F (kk r)) x:=by unfold P1;(repeat' apply l5 (f:=F))<;>rfl
noncomputable def Ka2:Sum:=Z5 (G4 (tLs tP)) (λx=>Da6 (y5 x))
theorem gb9:i7 prog G 166 Ka2:=Ob1 (bd jg0 Xb8) λx=>df5 (.s .p (.s .p (.s (.s .p (.b (.u Aa4.lsM))) (.s .p (.s (.s .p (.b (.u Aa5.lsM))) .p))))) [Aa4.prM,Aa5.prM] (by kernel_rfl) (.cons Tb4 (.cons Tb6 .nil)) (Qha (b:=P1 (λr=>(Da6 r).run) x) (by kernel_rfl) (kc1 (λr=>(Da6 r).run) (λr=>r) x).symm)
noncomputable def Be8:List (Nat×Sum):=[(166,Ka2)]
theorem ne6:i8 prog G Be8:=⟨gb9,trivial⟩
noncomputable def Xb9(x:List (List Pln)):Option (b8×List b9):=let t1:=(y5 (rt (tLs tP) x));(sl (okE (tLs tP) x) (sl (Nat.beq t1.alt 1) (some (.sl 0 0 6 0,[⟨73,4,[[i 1,i 0,i 0,i 24],[i (-1),i 0,i 0,i 24],[i 0,i 1,i 0,i 24],[i 0,i (-1),i 0,i 24],[i 0,i 0,i 1,i 24],[i 0,i 0,i (-1),i 24]],true,false,0⟩])) (sl (Nat.beq t1.alt 2) (sl (Nat.beq t1.ns0 (len t1.eh0)&&Nat.ble ((t1.ns0+1)*32) room) (sl (Nat.beq (t1.ns0+1) (len (app t1.eh0 [[i 1,i 0,i 0,i 24]]))&&Nat.ble (((t1.ns0+1)+1)*32) room) (sl (Nat.beq ((t1.ns0+1)+1) (len (app (app t1.eh0 [[i 1,i 0,i 0,i 24]]) [[i (-1),i 0,i 0,i 24]]))&&Nat.ble ((((t1.ns0+1)+1)+1)*32) room) (sl (Nat.beq (((t1.ns0+1)+1)+1) (len (app (app (app t1.eh0 [[i 1,i 0,i 0,i 24]]) [[i (-1),i 0,i 0,i 24]]) [[i 0,i 1,i 0,i 24]]))&&Nat.ble (((((t1.ns0+1)+1)+1)+1)*32) room) (sl (Nat.beq ((((t1.ns0+1)+1)+1)+1) (len (app (app (app (app t1.eh0 [[i 1,i 0,i 0,i 24]]) [[i (-1),i 0,i 0,i 24]]) [[i 0,i 1,i 0,i 24]]) [[i 0,i (-1),i 0,i 24]]))&&Nat.ble ((((((t1.ns0+1)+1)+1)+1)+1)*32) room) (sl (Nat.beq (((((t1.ns0+1)+1)+1)+1)+1) (len (app (app (app (app (app t1.eh0 [[i 1,i 0,i 0,i 24]]) [[i (-1),i 0,i 0,i 24]]) [[i 0,i 1,i 0,i 24]]) [[i 0,i (-1),i 0,i 24]]) [[i 0,i 0,i 1,i 24]]))&&Nat.ble (((((((t1.ns0+1)+1)+1)+1)+1)+1)*32) room) (some (.sl 0 0 ((((((t1.ns0+1)+1)+1)+1)+1)+1) 0,[⟨73,4,app (app (app (app (app (app t1.eh0 [[i 1,i 0,i 0,i 24]]) [[i (-1),i 0,i 0,i 24]]) [[i 0,i 1,i 0,i 24]]) [[i 0,i (-1),i 0,i 24]]) [[i 0,i 0,i 1,i 24]]) [[i 0,i 0,i (-1),i 24]],true,false,0⟩])) none) none) none) none) none) none) none)) none)
noncomputable def nb8(x:List (List Pln)):List Pln:=I6 (one (r1L tP)) (Xb9 x)
noncomputable def nb9(x:List (List Pln)):Bool:=okO (one (r1L tP)) (Xb9 x)
noncomputable def xc5:Sum:=Z5 (G4 (tLs tP)) (λx=>.guard (nb9 x) (.ret ((one (r1L tP)).enc (nb8 x),[])))
theorem Hc1:i7 prog G 110 xc5:=La4 (bd fg5 ne6) (one (r1L tP)) (o:=Xb9) λx=>w9 (by kernel_rfl)
structure ea6 where
 k8:List (List Pln)
noncomputable def Oa0:List (Nat×Sum):=[(165,qc4)]
theorem Ab8:i8 prog G Oa0:=⟨id1,trivial⟩
structure P8 where
 k8:List (List Pln)
 is7:Int
structure q8 where
 is8:Int
noncomputable def Ga2(p:P8)(s:q8):St:=⟨eL (tLs tP) p.k8::.fn 165 []::ra 5 (i p.is7::i s.is8::ra 10 []),[]⟩
noncomputable def K2{α:Type}(k:q8->α)(e:Nat->α)(z:α)(p:P8)(s:q8):α:=let t1:=(gb7 (rt tP (gL (tLs tP) p.k8 s.is8.toNat)));(sl (decide (s.is8<p.is7)) (sl (inB s.is8 (List.length p.k8)) (sl (okE tP (gL (tLs tP) p.k8 s.is8.toNat)) (sl (gb8 (rt tP (gL (tLs tP) p.k8 s.is8.toNat))) (sl t1 (e 1) (k ⟨W (s.is8+1)⟩)) z) z) z) (e 2))
noncomputable def M7(p:P8)(s:q8):Stp q8:=K2 .next .exit .fail p s
noncomputable def na4:Lo P8 q8:=⟨En Oa0,0,df1,[1,0,1,4,4],[0,1,7,8],.p,[⟨.s (.c 1 (nL (tLs tP)))::.s (.o (.fn 165))::ru2 5 (sIq::sIq::ru2 10 []),[],λa H=>(⟨rL (tLs tP) (slT a 0),aIq a 7⟩,⟨aIq a 8⟩)⟩],M7,[(none,λp s=>⟨[i s.is8],[]⟩),(some 0,λp s=>upq (Ga2 p s) [(9,b (decide (s.is8<p.is7)))])],Ga2⟩
theorem xb4:na4.Ok:=Lo.ok [] (by kernel_rfl) .nil rfl (.cons (λa H=>by kernel_rfl) .nil) λp s=>(.of @K2 (λF _ _ _ _ _=>by unfold K2;(repeat' apply l5 (f:=F))<;>rfl) (by kernel_rfl))
structure ea7 where
 alt:Nat
 is0:Int
noncomputable def L2{α:Type}(kk:ea7->α)(x:ea6):α:=let t1:=(lp (M7 (⟨rt (tLs tP) x.k8,(↑(List.length x.k8):Int)⟩:P8)) (⟨0⟩:q8));(sl ((cnE (tLs tP) x.k8)&&true) (sl (Nat.beq t1.1 1) (kk ⟨1,t1.2.is8⟩) (sl (Nat.beq t1.1 2) (kk ⟨1,-1⟩) (kk ⟨0,0⟩))) (kk ⟨0,0⟩))
noncomputable def ta7(x:ea6):ea7:=L2 (λr=>r) x
noncomputable def qa6(x:ea6)(r:ea7):DT (b8×List b9):=(.ite (Nat.beq r.alt 1) (.ret (i r.is0,[])) .fail)
theorem Mb3{α β:Type}(F:α->β)(kk:ea7->α)(x:ea6):F (L2 kk x)=L2 (λr=>F (kk r)) x:=by unfold L2;(repeat' apply l5 (f:=F))<;>rfl
noncomputable def Ta8:Sum:=eb9 ⟨[.s (.c 1 (nL (tLs tP))),.s (.o (.fn 165))],[],λa H=>(⟨rL (tLs tP) (slT a 0)⟩,())⟩ (λx=>qa6 x (ta7 x))
theorem Hb3:i7 prog G 161 Ta8:=Q9 (enc:=λx=>⟨[eL (tLs tP) x.k8,.fn 165 []],[]⟩) (λa H=>by kernel_rfl) (bd Xf5 Ab8) λx=>ma5 (.s .p (.s (.s .p (.b (.u na4.ls))) .p)) [na4.pr] (by kernel_rfl) (.cons xb4 .nil) (Qha (b:=L2 (λr=>(qa6 x r).run) x) (by kernel_rfl) (Mb3 (λr=>(qa6 x r).run) (λr=>r) x).symm)
structure X0 where
 k8:List (List Pln)
noncomputable def tb4:List (Nat×Sum):=[(161,Ta8)]
theorem ob0:i8 prog G tb4:=⟨Hb3,trivial⟩
structure X1 where
 alt:Nat
 bs0:Bool
noncomputable def F9{α:Type}(kk:X1->α)(x:X0):α:=let t1:=(ta7 ⟨rt (tLs tP) x.k8⟩);(sl ((cnE (tLs tP) x.k8)&&true) (sl (Nat.beq t1.alt 1) (kk ⟨1,decide (t1.is0>=0)⟩) (kk ⟨0,false⟩)) (kk ⟨0,false⟩))
noncomputable def la4(x:X0):X1:=F9 (λr=>r) x
noncomputable def ja5(x:X0)(r:X1):DT (b8×List b9):=(.ite (Nat.beq r.alt 1) (.ret (b r.bs0,[])) .fail)
theorem xb5{α β:Type}(F:α->β)(kk:X1->α)(x:X0):F (F9 kk x)=F9 (λr=>F (kk r)) x:=by unfold F9;(repeat' apply l5 (f:=F))<;>rfl
noncomputable def Ga3:Sum:=eb9 ⟨[.s (.c 1 (nL (tLs tP))),.s (.o (.fn 165))],[],λa H=>(⟨rL (tLs tP) (slT a 0)⟩,())⟩ (λx=>ja5 x (la4 x))
theorem tb5:i7 prog G 103 Ga3:=Q9 (enc:=λx=>⟨[eL (tLs tP) x.k8,.fn 165 []],[]⟩) (λa H=>by kernel_rfl) (bd Xf2 ob0) λx=>w9 (Qha (b:=F9 (λr=>(ja5 x r).run) x) (by kernel_rfl) (xb5 (λr=>(ja5 x r).run) (λr=>r) x).symm)
noncomputable def Gd4:List (Nat×Sum):=[(103,Ga3)]
theorem ud1:i8 prog G Gd4:=⟨tb5,trivial⟩
noncomputable def hb5(x:List (List Pln)):Option (b8×List b9):=let t1:=(la4 ⟨rt (tLs tP) x⟩);(sl ((cnE (tLs tP) x)&&true) (sl (Nat.beq t1.alt 1) (some (b (!t1.bs0),[])) none) none)
noncomputable def Da7(x:List (List Pln)):Bool:=I6 (one r1B) (hb5 x)
noncomputable def Da8(x:List (List Pln)):Bool:=okO (one r1B) (hb5 x)
noncomputable def Ab9:Sum:=Z5 (G4 (tLs tP)) (λx=>.guard (Da8 x) (.ret ((one r1B).enc (Da7 x),[])))
theorem Tb7:i7 prog G 109 Ab9:=La4 (bd fg4 ud1) (one r1B) (o:=hb5) λx=>w9 (by kernel_rfl)
structure na5 where
 (Ia0 Ia1 Ia2 jc9 j7 e8 j8 l8:Int)
noncomputable def Yb0:List (Nat×Sum):=[(153,Pb2)]
theorem Tb8:i8 prog G Yb0:=⟨dc0,trivial⟩
structure ba1 where
 bs0:Bool
noncomputable def ba2{α:Type}(kk:ba1->α)(x:na5):α:=let t1:=(Ca4 (⟨(⟨x.j7,x.e8,x.j8⟩:V3),x.l8⟩:Pln) (⟨x.Ia0,x.Ia1,x.Ia2,x.jc9⟩:Pt));(kk ⟨decide (t1>0)⟩)
noncomputable def Da9(x:na5):ba1:=ba2 (λr=>r) x
noncomputable def Aa6(x:na5)(r:ba1):DT (b8×List b9):=.ret (b r.bs0,[⟨0,4,[[i x.j7,i x.e8,i x.j8,i x.l8]],true,false,0⟩])
theorem dc6{α β:Type}(F:α->β)(kk:ba1->α)(x:na5):F (ba2 kk x)=ba2 (λr=>F (kk r)) x:=by unfold ba2;(repeat' apply l5 (f:=F))<;>rfl
noncomputable def hb6:Sum:=eb9 ⟨[.agg (kLq 4),sPq 0],[⟨0,4,true,some [kLq 4]⟩],λa H=>(⟨cIq a 0 0,cIq a 0 1,cIq a 0 2,cIq a 0 3,hIq H 0 0 0,hIq H 0 0 1,hIq H 0 0 2,hIq H 0 0 3⟩,())⟩ (λx=>Aa6 x (Da9 x))
theorem Yb1:i7 prog G 170 hb6:=Q9 (enc:=λx=>⟨[.agg [i x.Ia0,i x.Ia1,i x.Ia2,i x.jc9],.ptr 0 0 0 0],[⟨0,4,[[i x.j7,i x.e8,i x.j8,i x.l8]],true,false,0⟩]⟩) (λa H=>by kernel_rfl) (bd jg4 Tb8) λx=>w9 (Qha (b:=ba2 (λr=>(Aa6 x r).run) x) (by kernel_rfl) (dc6 (λr=>(Aa6 x r).run) (λr=>r) x).symm)
structure ha9 where
 xa1:List Pt
 (j7 e8 j8 l8:Int)
noncomputable def Ta9:List (Nat×Sum):=[(170,hb6)]
theorem Hb4:i8 prog G Ta9:=⟨Yb1,trivial⟩
structure R3 where
 xa1:List Pt
 (is7 j7 e8 j8 l8:Int)
structure s6 where
 is8:Int
noncomputable def La0(p:R3)(s:s6):St:=⟨eL tX p.xa1::.fn 170 [.ptr 0 0 0 0]::ra 5 (i p.is7::i s.is8::ra 10 []),[⟨0,4,[[i p.j7,i p.e8,i p.j8,i p.l8]],true,false,0⟩]⟩
noncomputable def M8{α:Type}(k:s6->α)(e:Nat->α)(z:α)(p:R3)(s:s6):α:=let t1:=(Da9 ⟨(gL tX p.xa1 s.is8.toNat).px,(gL tX p.xa1 s.is8.toNat).py,(gL tX p.xa1 s.is8.toNat).pz,(gL tX p.xa1 s.is8.toNat).pw,p.j7,p.e8,p.j8,p.l8⟩);(sl (decide (s.is8<p.is7)) (sl (inB s.is8 (List.length p.xa1)) (sl t1.bs0 (e 1) (k ⟨W (s.is8+1)⟩)) z) (e 2))
noncomputable def P9(p:R3)(s:s6):Stp s6:=M8 .next .exit .fail p s
noncomputable def qa7:Lo R3 s6:=⟨En Ta9,1,Ef3,[1,0,1,4,4],[0,1,7,8],.p,[⟨sLq tX::.fn 170 [.o (.ptr 0 0 0 0)]::ru2 5 (sIq::sIq::ru2 10 []),[⟨0,4,true,some [kLq 4]⟩],λa H=>(⟨aLq tX a 0,aIq a 7,hIq H 0 0 0,hIq H 0 0 1,hIq H 0 0 2,hIq H 0 0 3⟩,⟨aIq a 8⟩)⟩],P9,[(none,λp s=>⟨[i s.is8],[⟨0,4,[[i p.j7,i p.e8,i p.j8,i p.l8]],true,false,0⟩]⟩),(some 0,λp s=>upq (La0 p s) [(9,b (decide (s.is8<p.is7)))])],La0⟩
theorem Bb0:qa7.Ok:=Lo.ok [] (by kernel_rfl) .nil rfl (.cons (λa H=>by kernel_rfl) .nil) λp s=>(.of @M8 (λF _ _ _ _ _=>by unfold M8;(repeat' apply l5 (f:=F))<;>rfl) (by kernel_rfl))
structure ia0 where
 alt:Nat
 is0:Int
noncomputable def O6{α:Type}(kk:ia0->α)(x:ha9):α:=let t1:=(lp (P9 (⟨rt tX x.xa1,(↑(List.length x.xa1):Int),x.j7,x.e8,x.j8,x.l8⟩:R3)) (⟨0⟩:s6));(sl ((cnE tX x.xa1)&&true) (sl (Nat.beq t1.1 1) (kk ⟨1,t1.2.is8⟩) (sl (Nat.beq t1.1 2) (kk ⟨1,-1⟩) (kk ⟨0,0⟩))) (kk ⟨0,0⟩))
noncomputable def xa6(x:ha9):ia0:=O6 (λr=>r) x
noncomputable def ta8(x:ha9)(r:ia0):DT (b8×List b9):=(.ite (Nat.beq r.alt 1) (.ret (i r.is0,[⟨0,4,[[i x.j7,i x.e8,i x.j8,i x.l8]],true,false,0⟩])) .fail)
theorem Tb9{α β:Type}(F:α->β)(kk:ia0->α)(x:ha9):F (O6 kk x)=O6 (λr=>F (kk r)) x:=by unfold O6;(repeat' apply l5 (f:=F))<;>rfl
noncomputable def Wa7:Sum:=eb9 ⟨[sLq tX,.fn 170 [.o (.ptr 0 0 0 0)]],[⟨0,4,true,some [kLq 4]⟩],λa H=>(⟨aLq tX a 0,hIq H 0 0 0,hIq H 0 0 1,hIq H 0 0 2,hIq H 0 0 3⟩,())⟩ (λx=>ta8 x (xa6 x))
theorem Mb4:i7 prog G 171 Wa7:=Q9 (enc:=λx=>⟨[eL tX x.xa1,.fn 170 [.ptr 0 0 0 0]],[⟨0,4,[[i x.j7,i x.e8,i x.j8,i x.l8]],true,false,0⟩]⟩) (λa H=>by kernel_rfl) (bd jg5 Hb4) λx=>ma5 (.s .p (.s (.s .p (.b (.u qa7.ls))) .p)) [qa7.pr] (by kernel_rfl) (.cons Bb0 .nil) (Qha (b:=O6 (λr=>(ta8 x r).run) x) (by kernel_rfl) (Tb9 (λr=>(ta8 x r).run) (λr=>r) x).symm)
structure Z1 where
 xa1:List Pt
 (j7 e8 j8 l8:Int)
noncomputable def xb6:List (Nat×Sum):=[(171,Wa7)]
theorem tb6:i8 prog G xb6:=⟨Mb4,trivial⟩
structure Z2 where
 alt:Nat
 bs0:Bool
noncomputable def I1{α:Type}(kk:Z2->α)(x:Z1):α:=let t1:=(xa6 ⟨rt tX x.xa1,x.j7,x.e8,x.j8,x.l8⟩);(sl ((cnE tX x.xa1)&&true) (sl (Nat.beq t1.alt 1) (kk ⟨1,decide (t1.is0>=0)⟩) (kk ⟨0,false⟩)) (kk ⟨0,false⟩))
noncomputable def na6(x:Z1):Z2:=I1 (λr=>r) x
noncomputable def la5(x:Z1)(r:Z2):DT (b8×List b9):=(.ite (Nat.beq r.alt 1) (.ret (b r.bs0,[⟨0,4,[[i x.j7,i x.e8,i x.j8,i x.l8]],true,false,0⟩])) .fail)
theorem Bb1{α β:Type}(F:α->β)(kk:Z2->α)(x:Z1):F (I1 kk x)=I1 (λr=>F (kk r)) x:=by unfold I1;(repeat' apply l5 (f:=F))<;>rfl
noncomputable def La1:Sum:=eb9 ⟨[sLq tX,.fn 170 [.o (.ptr 0 0 0 0)]],[⟨0,4,true,some [kLq 4]⟩],λa H=>(⟨aLq tX a 0,hIq H 0 0 0,hIq H 0 0 1,hIq H 0 0 2,hIq H 0 0 3⟩,())⟩ (λx=>la5 x (na6 x))
theorem xb7:i7 prog G 112 La1:=Q9 (enc:=λx=>⟨[eL tX x.xa1,.fn 170 [.ptr 0 0 0 0]],[⟨0,4,[[i x.j7,i x.e8,i x.j8,i x.l8]],true,false,0⟩]⟩) (λa H=>by kernel_rfl) (bd fg7 tb6) λx=>w9 (Qha (b:=I1 (λr=>(la5 x r).run) x) (by kernel_rfl) (Bb1 (λr=>(la5 x r).run) (λr=>r) x).symm)
structure wa0 where
 (Ia0 Ia1 Ia2 jc9:Int)
 j6:List Pt
noncomputable def kc2:List (Nat×Sum):=[(112,La1)]
theorem dc7:i8 prog G kc2:=⟨xb7,trivial⟩
structure ja6 where
 alt:Nat
 bs0:Bool
noncomputable def Y6{α:Type}(kk:ja6->α)(x:wa0):α:=let t1:=(na6 ⟨rt tX x.j6,x.Ia0,x.Ia1,x.Ia2,x.jc9⟩);(sl ((cnE tX x.j6)&&true) (sl (Nat.beq t1.alt 1) (kk ⟨1,!t1.bs0⟩) (kk ⟨0,false⟩)) (kk ⟨0,false⟩))
noncomputable def wa1(x:wa0):ja6:=Y6 (λr=>r) x
noncomputable def Ka3(x:wa0)(r:ja6):DT (b8×List b9):=(.ite (Nat.beq r.alt 1) (.ret (b r.bs0,[⟨0,1,[[eL tX x.j6]],true,false,0⟩])) .fail)
theorem qc6{α β:Type}(F:α->β)(kk:ja6->α)(x:wa0):F (Y6 kk x)=Y6 (λr=>F (kk r)) x:=by unfold Y6;(repeat' apply l5 (f:=F))<;>rfl
noncomputable def tb7:Sum:=eb9 ⟨[.agg (kLq 4),sPq 0],[⟨0,1,true,some [[.c 4 (nL tX)]]⟩],λa H=>(⟨cIq a 0 0,cIq a 0 1,cIq a 0 2,cIq a 0 3,hLq tX H 0 0 0⟩,())⟩ (λx=>Ka3 x (wa1 x))
theorem kc3:i7 prog G 169 tb7:=Q9 (enc:=λx=>⟨[.agg [i x.Ia0,i x.Ia1,i x.Ia2,i x.jc9],.ptr 0 0 0 0],[⟨0,1,[[eL tX x.j6]],true,false,0⟩]⟩) (λa H=>by kernel_rfl) (bd jg3 dc7) λx=>w9 (Qha (b:=Y6 (λr=>(Ka3 x r).run) x) (by kernel_rfl) (qc6 (λr=>(Ka3 x r).run) (λr=>r) x).symm)
structure ea8 where
 d7:List Pln
 j6:List Pt
noncomputable def Oa1:List (Nat×Sum):=[(169,tb7)]
theorem Bb2:i8 prog G Oa1:=⟨kc3,trivial⟩
structure Q0 where
 d7:List Pln
 is7:Int
structure q9 where
 is8:Int
 j6:List Pt
noncomputable def Ga4(p:Q0)(s:q9):St:=⟨eL tP p.d7::.fn 169 [.ptr 0 0 0 0]::ra 5 (i p.is7::i s.is8::ra 10 []),[⟨0,1,[[eL tX s.j6]],true,false,0⟩]⟩
noncomputable def K3{α:Type}(k:q9->α)(e:Nat->α)(z:α)(p:Q0)(s:q9):α:=let t1:=(wa1 ⟨(gL tP p.d7 s.is8.toNat).n.x,(gL tP p.d7 s.is8.toNat).n.y,(gL tP p.d7 s.is8.toNat).n.z,(gL tP p.d7 s.is8.toNat).b,rt tX s.j6⟩);(sl (decide (s.is8<p.is7)) (sl (inB s.is8 (List.length p.d7)) (sl ((cnE tX s.j6)&&true) (sl (Nat.beq t1.alt 1) (sl t1.bs0 (e 1) (k ⟨W (s.is8+1),rt tX s.j6⟩)) z) z) z) (e 2))
noncomputable def M9(p:Q0)(s:q9):Stp q9:=K3 .next .exit .fail p s
noncomputable def na7:Lo Q0 q9:=⟨En Oa1,1,Ef9,[1,0,1,4,4],[0,1,7,8],.p,[⟨sLq tP::.fn 169 [.o (.ptr 0 0 0 0)]::ru2 5 (sIq::sIq::ru2 10 []),[⟨0,1,true,some [[.c 4 (nL tX)]]⟩],λa H=>(⟨aLq tP a 0,aIq a 7⟩,⟨aIq a 8,hLq tX H 0 0 0⟩)⟩],M9,[(none,λp s=>⟨[i s.is8],[⟨0,1,[[eL tX (rt tX s.j6)]],true,false,0⟩]⟩),(some 0,λp s=>upq (Ga4 p s) [(9,b (decide (s.is8<p.is7)))])],Ga4⟩
theorem xb8:na7.Ok:=Lo.ok [] (by kernel_rfl) .nil rfl (.cons (λa H=>by kernel_rfl) .nil) λp s=>(.of @K3 (λF _ _ _ _ _=>by unfold K3;(repeat' apply l5 (f:=F))<;>rfl) (by kernel_rfl))
structure ea9 where
 alt:Nat
 is0:Int
 j6:List Pt
noncomputable def L3{α:Type}(kk:ea9->α)(x:ea8):α:=let t1:=(lp (M9 (⟨rt tP x.d7,(↑(List.length x.d7):Int)⟩:Q0)) (⟨0,rt tX x.j6⟩:q9));(sl ((cnE tP x.d7)&&((cnE tX x.j6)&&true)) (sl (Nat.beq t1.1 1) (kk ⟨1,t1.2.is8,rt tX t1.2.j6⟩) (sl (Nat.beq t1.1 2) (kk ⟨1,-1,t1.2.j6⟩) (kk ⟨0,0,[]⟩))) (kk ⟨0,0,[]⟩))
noncomputable def ta9(x:ea8):ea9:=L3 (λr=>r) x
noncomputable def qa8(x:ea8)(r:ea9):DT (b8×List b9):=(.ite (Nat.beq r.alt 1) (.ret (i r.is0,[⟨0,1,[[eL tX r.j6]],true,false,0⟩])) .fail)
theorem Mb5{α β:Type}(F:α->β)(kk:ea9->α)(x:ea8):F (L3 kk x)=L3 (λr=>F (kk r)) x:=by unfold L3;(repeat' apply l5 (f:=F))<;>rfl
noncomputable def Ua0:Sum:=eb9 ⟨[sLq tP,.fn 169 [.o (.ptr 0 0 0 0)]],[⟨0,1,true,some [[.c 4 (nL tX)]]⟩],λa H=>(⟨aLq tP a 0,hLq tX H 0 0 0⟩,())⟩ (λx=>qa8 x (ta9 x))
theorem Hb5:i7 prog G 196 Ua0:=Q9 (enc:=λx=>⟨[eL tP x.d7,.fn 169 [.ptr 0 0 0 0]],[⟨0,1,[[eL tX x.j6]],true,false,0⟩]⟩) (λa H=>by kernel_rfl) (bd kg8 Bb2) λx=>ma5 (.s .p (.s (.s .p (.b (.u na7.ls))) .p)) [na7.pr] (by kernel_rfl) (.cons xb8 .nil) (Qha (b:=L3 (λr=>(qa8 x r).run) x) (by kernel_rfl) (Mb5 (λr=>(qa8 x r).run) (λr=>r) x).symm)
structure X2 where
 d7:List Pln
 j6:List Pt
noncomputable def tb8:List (Nat×Sum):=[(196,Ua0)]
theorem ob1:i8 prog G tb8:=⟨Hb5,trivial⟩
structure X3 where
 alt:Nat
 bs0:Bool
 j6:List Pt
noncomputable def G0{α:Type}(kk:X3->α)(x:X2):α:=let t1:=(ta9 ⟨rt tP x.d7,rt tX x.j6⟩);(sl ((cnE tP x.d7)&&((cnE tX x.j6)&&true)) (sl (Nat.beq t1.alt 1) (kk ⟨1,decide (t1.is0>=0),t1.j6⟩) (kk ⟨0,false,[]⟩)) (kk ⟨0,false,[]⟩))
noncomputable def la6(x:X2):X3:=G0 (λr=>r) x
noncomputable def ja7(x:X2)(r:X3):DT (b8×List b9):=(.ite (Nat.beq r.alt 1) (.ret (b r.bs0,[⟨0,1,[[eL tX r.j6]],true,false,0⟩])) .fail)
theorem xb9{α β:Type}(F:α->β)(kk:X3->α)(x:X2):F (G0 kk x)=G0 (λr=>F (kk r)) x:=by unfold G0;(repeat' apply l5 (f:=F))<;>rfl
noncomputable def Ga5:Sum:=eb9 ⟨[sLq tP,.fn 169 [.o (.ptr 0 0 0 0)]],[⟨0,1,true,some [[.c 4 (nL tX)]]⟩],λa H=>(⟨aLq tP a 0,hLq tX H 0 0 0⟩,())⟩ (λx=>ja7 x (la6 x))
theorem tb9:i7 prog G 168 Ga5:=Q9 (enc:=λx=>⟨[eL tP x.d7,.fn 169 [.ptr 0 0 0 0]],[⟨0,1,[[eL tX x.j6]],true,false,0⟩]⟩) (λa H=>by kernel_rfl) (bd jg2 ob1) λx=>w9 (Qha (b:=G0 (λr=>(ja7 x r).run) x) (by kernel_rfl) (xb9 (λr=>(ja7 x r).run) (λr=>r) x).symm)
noncomputable def zc3:List (Nat×Sum):=[(167,Ka1),(168,Ga5)]
theorem qc7:i8 prog G zc3:=⟨gb1,tb9,trivial⟩
noncomputable def qa9(x:List Pln):Option (b8×List b9):=let t1:=(ga3 (rt tP x));let t2:=(la6 ⟨rt tP x,rt tX t1⟩);(sl (okE tP x) (sl (ga4 (rt tP x)) (sl ((cnE tP x)&&((cnE tX t1)&&true)) (sl (Nat.beq t2.alt 1) (some (b (!t2.bs0),[])) none) none) none) none)
noncomputable def ra0(x:List Pln):Bool:=I6 (one r1B) (qa9 x)
noncomputable def ra1(x:List Pln):Bool:=okO (one r1B) (qa9 x)
noncomputable def bb0:Sum:=Z5 (G4 tP) (λx=>.guard (ra1 x) (.ret ((one r1B).enc (ra0 x),[])))
theorem zb4:i7 prog G 111 bb0:=La4 (bd fg6 qc7) (one r1B) (o:=qa9) λx=>w9 (by kernel_rfl)
noncomputable def ud2:List (Nat×Sum):=[(109,Ab9),(110,xc5),(167,Ka1)]
theorem id3:i8 prog G ud2:=⟨Tb7,Hc1,gb1,trivial⟩
noncomputable def Wa8(x:List Pln):Option (b8×List b9):=let t1:=(Da7 [rt tP x]);let t2:=(nb8 [rt tP x]);let t3:=(ga3 (rt tP t2));(sl ((okE tP x)&&true) (sl (Da8 [rt tP x]) (sl (!t1) (some (.v (.slice none 0 0),[])) (sl ((okE tP x)&&true) (sl (nb9 [rt tP x]) (sl (okE tP t2) (sl (ga4 (rt tP t2)) (some (eL tX t3,[])) none) none) none) none)) none) none)
noncomputable def Ja1(x:List Pln):List Pt:=I6 (one (r1L tX)) (Wa8 x)
noncomputable def Ja2(x:List Pln):Bool:=okO (one (r1L tX)) (Wa8 x)
noncomputable def qb4:Sum:=Z5 (G4 tP) (λx=>.guard (Ja2 x) (.ret ((one (r1L tX)).enc (Ja1 x),[])))
theorem Hb6:i7 prog G 113 qb4:=La4 (bd fg8 id3) (one (r1L tX)) (o:=Wa8) λx=>w9 (by kernel_rfl)
noncomputable def Zd9:List (Nat×Sum):=[(109,Ab9),(110,xc5),(111,bb0)]
theorem Gd5:i8 prog G Zd9:=⟨Tb7,Hc1,zb4,trivial⟩
noncomputable def ub0(x:List Pln):Option (b8×List b9):=let t1:=(Da7 [rt tP x]);let t2:=(nb8 [rt tP x]);let t3:=(ra0 (rt tP t2));(sl ((okE tP x)&&true) (sl (Da8 [rt tP x]) (sl t1 (sl ((okE tP x)&&true) (sl (nb9 [rt tP x]) (sl (okE tP t2) (sl (ra1 (rt tP t2)) (some (b t3,[])) none) none) none) none) (some (b false,[]))) none) none)
noncomputable def Ca5(x:List Pln):Bool:=I6 (one r1B) (ub0 x)
noncomputable def Ca6(x:List Pln):Bool:=okO (one r1B) (ub0 x)
noncomputable def cb5:Sum:=Z5 (G4 tP) (λx=>.guard (Ca6 x) (.ret ((one r1B).enc (Ca5 x),[])))
theorem hb7:i7 prog G 55 cb5:=La4 (bd b55 Gd5) (one r1B) (o:=ub0) λx=>w9 (by kernel_rfl)
structure df6 where
 ng0:List Pt
 Ca1:Int
structure df7 where
 (bd3 rb5 rb6 rb7 ag6 ag7 ag8:Int)
theorem Se6(P:Ra6)(g n:Int)(hn:n.natAbs<=9223372036854775808):lp (Wa2 P) ⟨g,n⟩=(1,⟨eu g n,0⟩) :=
 He6 (mk:=λg n=>(⟨g,n⟩:va5)) (λg n h=>by simp[Wa2,Na1,Eb8,h]) (λg=>by simp[Wa2,Na1,Eb8]) g n hn
theorem Se7(l:List Int)(hl:l.length<=1000000000)(hb:∀x∈l,x.natAbs<=9223372036854775808):lp (Ia8 ⟨(l.length:Int)⟩) ⟨0,l,0⟩=(1,⟨l.foldl eu 0,l,l.length⟩):=by
 have := Mc9 (step := Ia8 ⟨(l.length : Int)⟩) (mk := fun j a => (⟨a, l, (j : Int)⟩ : va6)) (f := eu) (fin := 1) tI l (fun _ _ => True) hl (fun j a hj _ => ⟨by
   simp only[Ia8,Na2,Int.toNat_natCast,i5,i9,Se6 _ _ _ (hb _ (Y0 tI hj)),n8 hj (by omega)]
   rw[bt (oc0 hj),bt (d9 hj)]
   rfl,trivial⟩) (λa _=>by simp[Ia8,Na2,Eb8]) 0 (Nat.zero_le _) 0 trivial
 simpa using this.1
theorem Pc2:∀(l:List Int) (g:Int),(l.foldl eu g).natAbs=l.foldl (λa x=>Nat.gcd a x.natAbs) g.natAbs
 |[],_=>rfl
 |x::l,g=>by rw[List.foldl_cons,Pc2 l,List.foldl_cons,Ze5];rfl
theorem Kf7(l:List Int)(hl:l.length<=1000000000)(hb:∀x∈l,x.natAbs<=9223372036854775807)(h0:(l.foldl eu 0).natAbs<=9223372036854775807):Gb8 l=some (i ((l.foldl eu 0).natAbs:Int),[]):=by
 unfold Gb8;simp only[i5,i9,Se7 l hl (λx hx=>Nat.le_succ_of_le (hb x hx))]
 generalize l.foldl eu 0=e at *
 have:W (0-e)=-e:=by rw[ka5 (by omega) (by omega)];omega
 rw[this];show some (i (if -e>e then -e else e),[])=_
 congr 3
 split<;>omega
theorem Od7(x y:Int)(hx:0<=x)(hy:0<=y)(hb:y<=9223372036854775807):fb1 x y=some (i (Int.gcd x y:Int),[]):=by
 unfold fb1
 have:=He6 (step:=Fa2 ⟨⟩) (mk:=λg n=>(⟨g,n⟩:ja1)) (λg n h=>by simp[Fa2,za7,Eb8,h]) (λg=>by simp[Fa2,za7,Eb8]) x y (by omega)
 simp only[this,Ze6 hx hy];rfl
theorem ud3(x y:Int)(hx:0<=x)(hy:0<=y)(hb:y<=9223372036854775807):aa2 x y=(Int.gcd x y:Int):=by unfold aa2;rw[Od7 x y hx hy hb];rfl
theorem ud4(x y:Int)(hx:0<=x)(hy:0<=y)(hb:y<=9223372036854775807):aa3 x y=true:=by unfold aa3;rw[Od7 x y hx hy hb];rfl
noncomputable def rm(p:Pln)(x:Pt):Int:=W (p.b*x.pw-(p.n.x*x.px+p.n.y*x.py+p.n.z*x.pz))
theorem ae0(p:Pln)(x:Pt):Ca4 p x=rm p x:=by
 unfold Ca4 cb3 rm;simp only[Fb0,nc9,rd4,Xd7]
theorem md2(p:Pln)(x:Pt):ab8 p x=rm p x:=by
 unfold ab8 rm;simp only[Fb0,nc9,rd4,Xd7];congr 1;omega
structure Bd(p:Pln):Prop where
 x1:-4608<=p.n.x
 x2:p.n.x<=4608
 y1:-4608<=p.n.y
 y2:p.n.y<=4608
 z1:-4608<=p.n.z
 z2:p.n.z<=4608
 b1:-2097152<=p.b
 b2:p.b<=2097152
def mv(p q r:Pln):V3 :=
 ⟨(g7 q.n r.n).x*p.b+(g7 r.n p.n).x*q.b+(g7 p.n q.n).x*r.b,
  (g7 q.n r.n).y*p.b+(g7 r.n p.n).y*q.b+(g7 p.n q.n).y*r.b,
  (g7 q.n r.n).z*p.b+(g7 r.n p.n).z*q.b+(g7 p.n q.n).z*r.b⟩
def gc(v:V3)(w:Int):Int:=(Nat.gcd (Nat.gcd v.x.natAbs v.y.natAbs) (Nat.gcd v.z.natAbs w.natAbs):Nat)
def mpt(p q r:Pln):Pt×Bool :=
 if mw p q r=0 then (⟨0,0,0,0⟩,false)
 else if mw p q r<0 then (⟨Int.tdiv (-(mv p q r).x) (gc (mv p q r) (mw p q r)),Int.tdiv (-(mv p q r).y) (gc (mv p q r) (mw p q r)),Int.tdiv (-(mv p q r).z) (gc (mv p q r) (mw p q r)),Int.tdiv (-(mw p q r)) (gc (mv p q r) (mw p q r))⟩,true)
 else (⟨Int.tdiv (mv p q r).x (gc (mv p q r) (mw p q r)),Int.tdiv (mv p q r).y (gc (mv p q r) (mw p q r)),Int.tdiv (mv p q r).z (gc (mv p q r) (mw p q r)),Int.tdiv (mw p q r) (gc (mv p q r) (mw p q r))⟩,true)
def Sm(n:Int)(x:Int):Prop:=-n<=x/\x<=n
theorem Pc3{a b:V3}(ha:Sm 4608 a.x/\Sm 4608 a.y/\Sm 4608 a.z)(hb:Sm 4608 b.x/\Sm 4608 b.y/\Sm 4608 b.z):Sm 42467328 (g7 a b).x/\Sm 42467328 (g7 a b).y/\Sm 42467328 (g7 a b).z:=by
 obtain⟨⟨a1,a2⟩,⟨a3,a4⟩,a5,a6⟩:=ha;obtain⟨⟨b1,b2⟩,⟨b3,b4⟩,b5,b6⟩:=hb;have h1:=mb a3 a4 b5 b6;have h2:=mb a5 a6 b3 b4;have h3:=mb a5 a6 b1 b2;have h4:=mb a1 a2 b5 b6;have h5:=mb a1 a2 b3 b4;have h6:=mb a3 a4 b1 b2;unfold Sm g7
 simp only
 omega
theorem Bd.n{p:Pln}(h:Bd p):Sm 4608 p.n.x/\Sm 4608 p.n.y/\Sm 4608 p.n.z:=⟨⟨h.x1,h.x2⟩,⟨h.y1,h.y2⟩,h.z1,h.z2⟩
theorem df8{p q r:Pln}(hp:Bd p)(hq:Bd q)(hr:Bd r):Sm 600000000000 (mw p q r):=by
 obtain⟨⟨c1,c2⟩,⟨c3,c4⟩,c5,c6⟩:=Pc3 hq.n hr.n;have h1:=mb hp.x1 hp.x2 c1 c2;have h2:=mb hp.y1 hp.y2 c3 c4;have h3:=mb hp.z1 hp.z2 c5 c6;unfold Sm mw dot;omega
theorem df9{p q r:Pln}(hp:Bd p)(hq:Bd q)(hr:Bd r):Sm 300000000000000 (mv p q r).x/\Sm 300000000000000 (mv p q r).y/\Sm 300000000000000 (mv p q r).z:=by
 obtain⟨⟨c1,c2⟩,⟨c3,c4⟩,c5,c6⟩:=Pc3 hq.n hr.n;obtain⟨⟨d1,d2⟩,⟨d3,d4⟩,d5,d6⟩:=Pc3 hr.n hp.n;obtain⟨⟨e1,e2⟩,⟨e3,e4⟩,e5,e6⟩:=Pc3 hp.n hq.n;have a1:=mb c1 c2 hp.b1 hp.b2;have a2:=mb c3 c4 hp.b1 hp.b2;have a3:=mb c5 c6 hp.b1 hp.b2;have b1:=mb d1 d2 hq.b1 hq.b2;have b2:=mb d3 d4 hq.b1 hq.b2;have b3:=mb d5 d6 hq.b1 hq.b2;have f1:=mb e1 e2 hr.b1 hr.b2;have f2:=mb e3 e4 hr.b1 hr.b2;have f3:=mb e5 e6 hr.b1 hr.b2;unfold Sm mv
 simp only
 omega
theorem md3(a b:V3):Z6 a b=⟨W (g7 a b).x,W (g7 a b).y,W (g7 a b).z⟩:=by
 unfold Z6 g7;simp only[rd4,Xd7]
theorem Pc4(a b:V3):da3 a b=⟨W (g7 a b).x,W (g7 a b).y,W (g7 a b).z⟩:=by
 unfold da3 g7;simp only[rd4,Xd7]
theorem Kf8(p q r:Pln):dot r.n (g7 p.n q.n)=mw p q r:=by unfold mw dot g7;grind
theorem lg9(a b c d:Nat):[a,b,c,d].foldl Nat.gcd 0=Nat.gcd (Nat.gcd a b) (Nat.gcd c d):=by
 simp only[List.foldl_cons,List.foldl_nil,Nat.gcd_zero_left];rw[Nat.gcd_assoc]
theorem ud5{v:V3}{w:Int}(h:w≠0):0<gc v w:=by
 unfold gc
 have:0<Nat.gcd v.z.natAbs w.natAbs:=Qhb _ (by omega)
 have:=Qhb (Nat.gcd v.x.natAbs v.y.natAbs) this
 omega
theorem ef0{v:V3}{w:Int}(h:w≠0):gc v w<=w.natAbs:=by
 unfold gc;have h1:Nat.gcd v.z.natAbs w.natAbs<=w.natAbs:=Qhd _ (by omega)
 have h2:0<Nat.gcd v.z.natAbs w.natAbs:=Qhb _ (by omega)
 have h3:=Qhd (m:=Nat.gcd v.x.natAbs v.y.natAbs) (n:=Nat.gcd v.z.natAbs w.natAbs) h2;omega
theorem Oa2{x:Int}(h:Sm 1000000000000000000 x):W x=x:=ka5 (by have:=h.1;omega) (by have:=h.2;omega)
theorem Sm.mono{n m x:Int}(h:Sm n x)(hn:n<=m):Sm m x:=⟨by have:=h.1;omega,by have:=h.2;omega⟩
theorem O2{n x g:Int}(h:Sm n x)(hg:0<g):Sm n (Int.tdiv x g):=by
 have h1:(Int.tdiv x g).natAbs<=x.natAbs:=by rw[Int.natAbs_tdiv];exact Nat.div_le_self _ _
 have:=h.1;have:=h.2
 constructor<;>omega
theorem Be9{p q r:Pln}(hp:Bd p)(hq:Bd q)(hr:Bd r)(h:(mpt p q r).2=true):0<(mpt p q r).1.pw/\Sm 300000000000000 (mpt p q r).1.px/\Sm 300000000000000 (mpt p q r).1.py/\Sm 300000000000000 (mpt p q r).1.pz/\(mpt p q r).1.pw<=600000000000:=by
 have hw:=df8 hp hq hr;obtain⟨v1,v2,v3⟩:=df9 hp hq hr;have neg:∀{n x:Int},Sm n x->Sm n (-x):=λh=>⟨by have:=h.2;omega,by have:=h.1;omega⟩
 have pos:∀{x:Int},0<x->x.natAbs=(mw p q r).natAbs->0<Int.tdiv x (gc (mv p q r) (mw p q r)):=λ{x} hx he=>by
  have h0:mw p q r≠0:=by omega
  have h1:=ud5 (v:=mv p q r) h0;have h2:=ef0 (v:=mv p q r) h0;rw[Int.tdiv_eq_ediv_of_nonneg (by omega)]
  exact Int.ediv_pos_of_pos_of_dvd hx (by omega) (by
   rw[<- Int.dvd_natAbs,he];exact Int.natCast_dvd_natCast.2 (Nat.dvd_trans (Nat.gcd_dvd_right _ _) (Nat.gcd_dvd_right _ _)))
 unfold mpt at h ⊢;by_cases h0:mw p q r=0
 ·rw[if_pos h0] at h;cases h
 ·rw[if_neg h0];have hg:=ud5 (v:=mv p q r) h0;by_cases h1:mw p q r<0
  ·rw[if_pos h1];exact⟨pos (by omega) (by omega),O2 (neg v1) hg,O2 (neg v2) hg,O2 (neg v3) hg,(O2 (neg hw) hg).2⟩
  ·rw[if_neg h1];exact⟨pos (by omega) rfl,O2 v1 hg,O2 v2 hg,O2 v3 hg,(O2 hw hg).2⟩
theorem Ie4{p q r:Pln}(hp:Bd p)(hq:Bd q)(hr:Bd r):sb7 ⟨p,q,r⟩=some (.tup [.agg (tX.row (mpt p q r).1),b (mpt p q r).2],[]):=by
 have hw:=df8 hp hq hr;obtain⟨v1,v2,v3⟩:=df9 hp hq hr;have e1:cb3 r.n (Z6 p.n q.n)=mw p q r:=by
  rw[md3];unfold cb3;simp only[Fb0,nc9,Ze3];show W (dot r.n (g7 p.n q.n))=_;rw[Kf8,Oa2 (hw.mono (by omega))]
 have e2:Ca3 (Ca3 (Ca3 ⟨0,0,0⟩ (va4 (Z6 q.n r.n) p.b)) (va4 (Z6 r.n p.n) q.b)) (va4 (Z6 p.n q.n) r.b)=mv p q r:=by
  rw[md3,md3,md3];unfold Ca3 va4;simp only[Fb0,nc9,ze8,Int.zero_add];show (⟨W (mv p q r).x,W (mv p q r).y,W (mv p q r).z⟩:V3)=_;rw[Oa2 (v1.mono (by omega)),Oa2 (v2.mono (by omega)),Oa2 (v3.mono (by omega))]
 unfold sb7;simp only[e1,e2];have hb:∀x∈[(mv p q r).x,(mv p q r).y,(mv p q r).z,mw p q r],x.natAbs<=9223372036854775807:=by
  intro x hx;simp only[List.mem_cons,List.not_mem_nil,or_false] at hx;unfold Sm at *
  rcases hx with rfl|rfl|rfl|rfl<;>omega
 have hf:([(mv p q r).x,(mv p q r).y,(mv p q r).z,mw p q r].foldl eu 0).natAbs=Nat.gcd (Nat.gcd (mv p q r).x.natAbs (mv p q r).y.natAbs) (Nat.gcd (mv p q r).z.natAbs (mw p q r).natAbs):=by
  rw[Pc2,<- lg9];rfl
 unfold mpt;by_cases h0:mw p q r=0
 ·rw[bt (by rw[h0];rfl),if_pos h0]
  rfl
 ·have hz:(mw p q r==0)=false:=by simpa using h0
  rw[bf hz,if_neg h0];have hgp:=ud5 (v:=mv p q r) h0;have hgl:=ef0 (v:=mv p q r) h0;have hge:=Kf7 _ (by simp) hb (by rw[hf];unfold gc at hgl;unfold Sm at hw;omega)
  have hgv:dc3 [(mv p q r).x,(mv p q r).y,(mv p q r).z,mw p q r]=gc (mv p q r) (mw p q r):=by
   unfold dc3;rw[hge,hf];rfl
  have hgg:dc4 [(mv p q r).x,(mv p q r).y,(mv p q r).z,mw p q r]=true:=by
   unfold dc4;rw[hge];rfl
  rw[hgv,bt hgg];generalize hG:gc (mv p q r) (mw p q r)=G at *
  have hGW:W (0-G)=-G:=by unfold Sm at hw;rw[ka5 (by omega) (by omega)];omega
  have hGn:(-G==0)=false:=by simp;omega
  have hGp:(G==0)=false:=by simp;omega
  by_cases h1:mw p q r<0
  ·rw[bt (decide_eq_true h1),if_pos h1];simp only[hGW];rw[bf hGn,bf hGn,bf hGn,bf hGn];simp only[Int.tdiv_neg,<- Int.neg_tdiv];have neg:∀{n x:Int},Sm n x->Sm n (-x):=λh=>⟨by have:=h.2;omega,by have:=h.1;omega⟩
   rw[Oa2 ((O2 (neg v1) hgp).mono (by omega)),Oa2 ((O2 (neg v2) hgp).mono (by omega)),Oa2 ((O2 (neg v3) hgp).mono (by omega)),Oa2 ((O2 (neg hw) hgp).mono (by omega))]
   rfl
  ·rw[bf (decide_eq_false h1),if_neg h1,bf hGp,bf hGp,bf hGp,bf hGp];rw[Oa2 ((O2 v1 hgp).mono (by omega)),Oa2 ((O2 v2 hgp).mono (by omega)),Oa2 ((O2 v3 hgp).mono (by omega)),Oa2 ((O2 hw hgp).mono (by omega))]
   rfl
theorem Kf9{p q r:Pln}(hp:Bd p)(hq:Bd q)(hr:Bd r):sb8 ⟨p,q,r⟩=mpt p q r:=by unfold sb8;rw[Ie4 hp hq hr];rfl
theorem Lf0{p q r:Pln}(hp:Bd p)(hq:Bd q)(hr:Bd r):sb9 ⟨p,q,r⟩=true:=by unfold sb9;rw[Ie4 hp hq hr];rfl
theorem ne7{p q r:Pln}(hp:Bd p)(hq:Bd q)(hr:Bd r):Fb7 p q r=some (.tup [.agg (tX.row (mpt p q r).1),b (mpt p q r).2],[]):=by
 have hw:=df8 hp hq hr;obtain⟨v1,v2,v3⟩:=df9 hp hq hr;have e1:Ia4 p.n (da3 q.n r.n)=mw p q r:=by
  rw[Pc4];unfold Ia4;simp only[Fb0,nc9,Ze3];show W (dot p.n (g7 q.n r.n))=_;rw[show dot p.n (g7 q.n r.n)=mw p q r from rfl,Oa2 (hw.mono (by omega))]
 have e2:Db0 (Db0 (aa1 (da3 q.n r.n) p.b) (aa1 (da3 r.n p.n) q.b)) (aa1 (da3 p.n q.n) r.b)=mv p q r:=by
  rw[Pc4,Pc4,Pc4];unfold Db0 aa1;simp only[Fb0,nc9,ze8];show (⟨W (mv p q r).x,W (mv p q r).y,W (mv p q r).z⟩:V3)=_;rw[Oa2 (v1.mono (by omega)),Oa2 (v2.mono (by omega)),Oa2 (v3.mono (by omega))]
 have neg:∀{n x:Int},Sm n x->Sm n (-x):=λh=>⟨by have:=h.2;omega,by have:=h.1;omega⟩
 have e3:aa1 (mv p q r) (-1)=⟨-(mv p q r).x,-(mv p q r).y,-(mv p q r).z⟩:=by
  unfold aa1
  have:∀x:Int,x*-1=-x:=λx=>by omega
  simp only[this];rw[Oa2 ((neg v1).mono (by omega)),Oa2 ((neg v2).mono (by omega)),Oa2 ((neg v3).mono (by omega))]
 have ab:∀{x:Int},Sm 300000000000000 x->(if W (0-x)>x then W (0-x) else x)=(x.natAbs:Int):=λ{x} h=>by
  have:W (0-x)=-x:=by rw[show 0-x=-x by omega];exact Oa2 ((neg h).mono (by omega))
  rw[this]
  split<;>omega
 unfold Fb7;simp only[e1,e2,e3];rw[ab v1,ab v2,ab v3,ab (neg v1),ab (neg v2),ab (neg v3)];simp only[Int.natAbs_neg];unfold mpt;by_cases h0:mw p q r=0
 ·rw[bt (by rw[h0];rfl),if_pos h0]
  rfl
 ·have hz:(mw p q r==0)=false:=by simpa using h0
  rw[bf hz,if_neg h0];have hgp:=ud5 (v:=mv p q r) h0;have hgl:=ef0 (v:=mv p q r) h0;have hw0:=hw;unfold Sm at hw0;have q1:((mv p q r).y.natAbs:Int)<=9223372036854775807:=by unfold Sm at v2;omega
  have k1:=ud3 ((mv p q r).x.natAbs:Int) ((mv p q r).y.natAbs:Int) (by omega) (by omega) q1
  have k2:=ud4 ((mv p q r).x.natAbs:Int) ((mv p q r).y.natAbs:Int) (by omega) (by omega) q1
  have c1:Int.gcd ((mv p q r).x.natAbs:Int) ((mv p q r).y.natAbs:Int)=Nat.gcd (mv p q r).x.natAbs (mv p q r).y.natAbs:=by simp[Int.gcd]
  have fin : ∀ w : Int, 0 < w → w.natAbs = (mw p q r).natAbs → aa2 ((mv p q r).z.natAbs : Int) w = (Nat.gcd (mv p q r).z.natAbs (mw p q r).natAbs : Nat) ∧ aa3 ((mv p q r).z.natAbs : Int) w = true ∧
    aa2 (Nat.gcd (mv p q r).x.natAbs (mv p q r).y.natAbs:Nat) (Nat.gcd (mv p q r).z.natAbs (mw p q r).natAbs:Nat)=gc (mv p q r) (mw p q r)/\aa3 (Nat.gcd (mv p q r).x.natAbs (mv p q r).y.natAbs:Nat) (Nat.gcd (mv p q r).z.natAbs (mw p q r).natAbs:Nat)=true:=by
   intro w hw1 hw2;have l1:Nat.gcd (mv p q r).z.natAbs (mw p q r).natAbs<=(mw p q r).natAbs:=Qhd _ (by omega)
   refine⟨?_,ud4 _ _ (by omega) (by omega) (by omega),?_,ud4 _ _ (by omega) (by omega) (by omega)⟩
   ·rw[ud3 _ _ (by omega) (by omega) (by omega)]
    have:Int.gcd ((mv p q r).z.natAbs:Int) w=Nat.gcd (mv p q r).z.natAbs (mw p q r).natAbs:=by unfold Int.gcd;rw[hw2];simp
    rw[this]
   ·rw[ud3 _ _ (by omega) (by omega) (by omega)]
    rfl
  by_cases h1:mw p q r<0
  ·rw[bt (decide_eq_true h1),if_pos h1];have hWw:W (0-mw p q r)=-mw p q r:=by rw[ka5 (by omega) (by omega)];omega
   rw[hWw];obtain⟨f1,f2,f3,f4⟩:=fin (-mw p q r) (by omega) (by omega)
   simp only[k1,k2,c1,f1,f2,f3,f4];generalize gc (mv p q r) (mw p q r)=G at *
   have hGp:(G==0)=false:=by simp;omega
   simp only[hGp];rw[Oa2 ((O2 (neg v1) hgp).mono (by omega)),Oa2 ((O2 (neg v2) hgp).mono (by omega)),Oa2 ((O2 (neg v3) hgp).mono (by omega)),Oa2 ((O2 (neg hw) hgp).mono (by omega))]
   rfl
  ·rw[bf (decide_eq_false h1),if_neg h1];obtain⟨f1,f2,f3,f4⟩:=fin (mw p q r) (by omega) rfl
   simp only[k1,k2,c1,f1,f2,f3,f4];generalize gc (mv p q r) (mw p q r)=G at *
   have hGp:(G==0)=false:=by simp;omega
   simp only[hGp];rw[Oa2 ((O2 v1 hgp).mono (by omega)),Oa2 ((O2 v2 hgp).mono (by omega)),Oa2 ((O2 v3 hgp).mono (by omega)),Oa2 ((O2 hw hgp).mono (by omega))]
   rfl
theorem uf6{p q r:Pln}(hp:Bd p)(hq:Bd q)(hr:Bd r):Fb8 p q r=mpt p q r:=by unfold Fb8;rw[ne7 hp hq hr];rfl
theorem uf7{p q r:Pln}(hp:Bd p)(hq:Bd q)(hr:Bd r):Fb9 p q r=true:=by unfold Fb9;rw[ne7 hp hq hr];rfl
end Go.Ev.Ce
