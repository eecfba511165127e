/- Own work. -/
import Derived.Test.YtekgjjgbdcgldaaGreatChecked
import Derived.Test.YtekgjjgbdcgldaaGreatEvOCePf
import Derived.KernelRfl
import Derived.Shelf.Spec.SlicesGrow
set_option linter.all false
def Qha:=@Eq.trans
def Qhb:=@List.getElem?_eq_some_iff
def Qhc:=@List.getElem?_replicate
def Qhd:=@Nat.le_refl
namespace Go.Ev.Ce
open Go Go.Ev Go.Proofs
set_option maxRecDepth 1000000
theorem mx:(Tryz.prog).follows .mixedOrders=true:=Checked.mixed Tryz.checked
abbrev Bdq(n:Nat)(pf:PFn):Prop:=ie0 Tryz.prog n λE=>Fc1 E pf
theorem bdq{f:FuncId}{fn:Func}(hf:(Tryz.prog).funcs[f]?=some fn)(hn:decide (fn.name ≠ "runtime.NumGoroutine")=true:=by kernel_rfl)(hc:Option.isSome (e7 Tryz.prog fn)=true:=by kernel_rfl):Bdq f (got (e7 Tryz.prog fn)):=zg2 mx hf hn (cd6 hc)
theorem b3:Bdq 3 pf3:=bdq Tryz.func3
theorem b4:Bdq 4 pf4:=bdq Tryz.func4
theorem b5:Bdq 5 pf5:=bdq Tryz.func5
theorem b6:Bdq 6 pf6:=bdq Tryz.func6
theorem b14:Bdq 14 ng8:=bdq Tryz.func14
theorem b15:Bdq 15 zg3:=bdq Tryz.func15
theorem b16:Bdq 16 zg4:=bdq Tryz.func16
theorem b18:Bdq 18 zg5:=bdq Tryz.func18
theorem b19:Bdq 19 zg6:=bdq Tryz.func19
theorem b21:Bdq 21 zg7:=bdq Tryz.func21
theorem b23:Bdq 23 ng9:=bdq Tryz.func23
theorem b25:Bdq 25 og0:=bdq Tryz.func25
theorem b27:Bdq 27 zg8:=bdq Tryz.func27
theorem b28:Bdq 28 zg9:=bdq Tryz.func28
theorem b30:Bdq 30 og1:=bdq Tryz.func30
theorem b31:Bdq 31 og2:=bdq Tryz.func31
theorem b34:Bdq 34 Ag0:=bdq Tryz.func34
theorem b35:Bdq 35 Ag1:=bdq Tryz.func35
theorem b51:Bdq 51 Ag2:=bdq Tryz.func51
theorem b52:Bdq 52 Ag3:=bdq Tryz.func52
theorem b55:Bdq 55 Ag4:=bdq Tryz.func55
theorem b57:Bdq 57 Ag5:=bdq Tryz.func57
theorem b58:Bdq 58 Ag6:=bdq Tryz.func58
theorem b63:Bdq 63 Ag7:=bdq Tryz.func63
theorem b64:ie0 Tryz.prog 64 λE=>Jb2 E Lf5:=ye5 (h:=h64) mx Tryz.func64 (by kernel_rfl) Tryz.func176 (by kernel_rfl) (cd6 (by kernel_rfl))
theorem b65:Bdq 65 og3:=bdq Tryz.func65
theorem b66:Bdq 66 og4:=bdq Tryz.func66
theorem b67:Bdq 67 Ag8:=bdq Tryz.func67
theorem b68:Bdq 68 Ag9:=bdq Tryz.func68
theorem b69:Bdq 69 Bg0:=bdq Tryz.func69
theorem b70:Bdq 70 Bg1:=bdq Tryz.func70
theorem b71:Bdq 71 Lf6:=bdq Tryz.func71
theorem b73:Bdq 73 Bg2:=bdq Tryz.func73
theorem b74:Bdq 74 eg2:=bdq Tryz.func74
theorem b75:Bdq 75 Bg3:=bdq Tryz.func75
theorem b77:Bdq 77 Bg4:=bdq Tryz.func77
theorem b78:Bdq 78 rf8:=bdq Tryz.func78
theorem b79:ie0 Tryz.prog 79 λE=>Jb2 E eg3:=ye5 (h:=h79) mx Tryz.func79 (by kernel_rfl) Tryz.func176 (by kernel_rfl) (cd6 (by kernel_rfl))
theorem b80:Bdq 80 Bg5:=bdq Tryz.func80
theorem b83:Bdq 83 Bg6:=bdq Tryz.func83
theorem b84:Bdq 84 Bg7:=bdq Tryz.func84
theorem b85:Bdq 85 Bg8:=bdq Tryz.func85
theorem b86:Bdq 86 Bg9:=bdq Tryz.func86
theorem b88:Bdq 88 Cg0:=bdq Tryz.func88
theorem b89:Bdq 89 og5:=bdq Tryz.func89
theorem b90:Bdq 90 eg4:=bdq Tryz.func90
theorem b91:Bdq 91 og6:=bdq Tryz.func91
theorem b92:Bdq 92 Cg1:=bdq Tryz.func92
theorem b97:Bdq 97 Cg2:=bdq Tryz.func97
theorem Cg3:Bdq 100 Wf7:=bdq Tryz.func100
theorem Cg4:Bdq 103 og7:=bdq Tryz.func103
theorem Cg5:Bdq 107 og8:=bdq Tryz.func107
theorem Cg6:Bdq 108 og9:=bdq Tryz.func108
theorem Cg7:Bdq 109 pg0:=bdq Tryz.func109
theorem Cg8:Bdq 110 pg1:=bdq Tryz.func110
theorem Cg9:Bdq 111 pg2:=bdq Tryz.func111
theorem tg6:Bdq 112 pg3:=bdq Tryz.func112
theorem Dg0:Bdq 113 pg4:=bdq Tryz.func113
theorem Dg1:Bdq 114 pg5:=bdq Tryz.func114
theorem Dg2:Bdq 115 pg6:=bdq Tryz.func115
theorem Dg3:Bdq 116 pg7:=bdq Tryz.func116
theorem Dg4:Bdq 118 pg8:=bdq Tryz.func118
theorem Dg5:Bdq 119 Wf8:=bdq Tryz.func119
theorem Dg6:Bdq 120 pg9:=bdq Tryz.func120
theorem Dg7:Bdq 122 qg0:=bdq Tryz.func122
theorem Dg8:Bdq 123 rf9:=bdq Tryz.func123
theorem Dg9:Bdq 124 qg1:=bdq Tryz.func124
theorem Eg0:Bdq 125 Wf9:=bdq Tryz.func125
theorem Eg1:Bdq 126 Xf0:=bdq Tryz.func126
theorem Eg2:Bdq 127 Xf1:=bdq Tryz.func127
theorem Eg3:Bdq 128 qg2:=bdq Tryz.func128
theorem Eg4:Bdq 129 Xf2:=bdq Tryz.func129
theorem Eg5:Bdq 130 qg3:=bdq Tryz.func130
theorem Eg6:Bdq 131 qg4:=bdq Tryz.func131
theorem Eg7:Bdq 135 qg5:=bdq Tryz.func135
theorem Eg8:Bdq 138 Xf3:=bdq Tryz.func138
theorem eg5:Bdq 139 Ve8:=bdq Tryz.func139
theorem Eg9:Bdq 140 qg6:=bdq Tryz.func140
theorem Fg0:Bdq 141 qg7:=bdq Tryz.func141
theorem Fg1:Bdq 142 qg8:=bdq Tryz.func142
theorem Fg2:Bdq 143 qg9:=bdq Tryz.func143
theorem Lf7:Bdq 144 ye6:=bdq Tryz.func144
theorem Fg3:Bdq 145 rg0:=bdq Tryz.func145
theorem Fg4:Bdq 147 rg1:=bdq Tryz.func147
theorem Fg5:Bdq 148 sf0:=bdq Tryz.func148
theorem Fg6:Bdq 149 rg2:=bdq Tryz.func149
theorem Fg7:Bdq 153 rg3:=bdq Tryz.func153
theorem Fg8:Bdq 156 rg4:=bdq Tryz.func156
theorem Fg9:Bdq 158 rg5:=bdq Tryz.func158
theorem Gg0:Bdq 161 Xf4:=bdq Tryz.func161
theorem Gg1:Bdq 162 rg6:=bdq Tryz.func162
theorem Gg2:Bdq 163 Xf5:=bdq Tryz.func163
theorem Gg3:Bdq 164 rg7:=bdq Tryz.func164
theorem Gg4:Bdq 165 rg8:=bdq Tryz.func165
theorem Gg5:ie0 Tryz.prog 166 λE=>Jb2 E sf1:=ye5 (h:=ng6) mx Tryz.func166 (by kernel_rfl) Tryz.func193 (by kernel_rfl) (cd6 (by kernel_rfl))
theorem Gg6:ie0 Tryz.prog 167 λE=>Jb2 E Ve9:=ye5 (h:=ng5) mx Tryz.func167 (by kernel_rfl) Tryz.func221 (by kernel_rfl) (cd6 (by kernel_rfl))
theorem Gg7:Bdq 168 rg9:=bdq Tryz.func168
theorem Gg8:Bdq 169 sg0:=bdq Tryz.func169
theorem Gg9:Bdq 170 sg1:=bdq Tryz.func170
theorem tg7:Bdq 171 sf2:=bdq Tryz.func171
theorem Hg0:Bdq 172 sg2:=bdq Tryz.func172
theorem Hg1:Bdq 173 sg3:=bdq Tryz.func173
theorem eg6:Bdq 174 sg4:=bdq Tryz.func174
theorem Hg2:ie0 Tryz.prog 175 λE=>Jb2 E We0:=ye5 (h:=ng7) mx Tryz.func175 (by kernel_rfl) Tryz.func176 (by kernel_rfl) (cd6 (by kernel_rfl))
theorem Hg3:Bdq 177 sg5:=bdq Tryz.func177
theorem Hg4:Bdq 178 sg6:=bdq Tryz.func178
theorem Hg5:Bdq 181 We1:=bdq Tryz.func181
theorem Hg6:Bdq 182 Xf6:=bdq Tryz.func182
theorem Hg7:Bdq 183 sg7:=bdq Tryz.func183
theorem Hg8:Bdq 184 sg8:=bdq Tryz.func184
theorem Hg9:Bdq 186 sf3:=bdq Tryz.func186
theorem Ig0:Bdq 188 Xf7:=bdq Tryz.func188
theorem Ig1:Bdq 189 sg9:=bdq Tryz.func189
theorem Ig2:Bdq 191 Xf8:=bdq Tryz.func191
theorem Ig3:Bdq 194 Xf9:=bdq Tryz.func194
theorem Ig4:Bdq 195 tg0:=bdq Tryz.func195
theorem Ig5:Bdq 196 Yf0:=bdq Tryz.func196
theorem Ig6:Bdq 197 tg1:=bdq Tryz.func197
theorem Ig7:Bdq 198 tg2:=bdq Tryz.func198
theorem Ig8:Bdq 209 tg3:=bdq Tryz.func209
theorem Ig9:Bdq 210 Yf1:=bdq Tryz.func210
theorem Jg0:Bdq 211 Yf2:=bdq Tryz.func211
theorem Jg1:Bdq 220 tg4:=bdq Tryz.func220
theorem Jg2:Bdq 221 Yf3:=bdq Tryz.func221
theorem Jg3:Bdq 222 sf4:=bdq Tryz.func222
theorem Jg4:Bdq 228 tg5:=bdq Tryz.func228
theorem Jg5:Bdq 229 Yf4:=bdq Tryz.func229
end Go.Ev.Ce
namespace Go.Ev.L
open Go Go.Ev
noncomputable def tc9:RT->PC->PS2
 |.s a b,.seq x y=>.seq (tc9 a x) (tc9 b y)
 |.c a b,.cond g x y=>.cond g (tc9 a x) (tc9 b y)
 |.b a,.block id x=>.block id (tc9 a x)
 |.i a,.inner f x n c=>.inner f x n (tc9 a c)
 |.u S,_=>.sum S
 |_,c=>.pc c
theorem ie1{E:Env}{k:Nat}(rt:RT)(c:PC):gb5 (λx=>∀s,ea6 (x.1 s) (R6 E k x.2 s)) (Dc3 rt c)->sa1 E k (tc9 rt c) c:=by
 induction rt generalizing c with
 |p=>intro h;cases c<;>exact .pc _
 |s a b iha ihb =>
  intro h;cases c with
  |seq x y=>exact .seq (iha x (gb5.app h).1) (ihb y (gb5.app h).2)
  |_=>exact .pc _
 |c a b iha ihb =>
  intro h;cases c with
  |cond g x y=>exact .cond g (iha x (gb5.app h).1) (ihb y (gb5.app h).2)
  |_=>exact .pc _
 |b a iha =>
  intro h;cases c with
  |block id x=>exact .block id (iha x h)
  |_=>exact .pc _
 |l a iha=>intro h;cases c<;>exact .pc _
 |i a iha =>
  intro h;cases c with
  |inner f x n c=>exact .inner f x n (iha c h)
  |_=>exact .pc _
 |u S =>
  intro h
  have:Dc3 (.u S) c=[(S,c)]:=by cases c<;>rfl
  rw[this] at h;cases h with
  |cons h t =>
   have e:tc9 (.u S) c=.sum S:=by cases c<;>rfl
   rw[e];exact .sum h
section
variable{π σ:Type}{E:Env}{k:Nat}{keep:List Nat}{alts:List (Al2 π σ)}{enc:π->σ->St}{step:π->σ->Stp σ}{xs:Xs π σ}{body:PS2}{c:PC}
theorem tc0.belowM(hb:sa1 E k body c)(hN:E.N=rounds+1)(w:tc0 ye4 k keep (cd5 E k body) alts step xs enc)(s:St):ea6 (Yd9 ye4 k keep alts step xs s) (R6 E k (.loopM keep c) s):=λr hr=>by
 obtain⟨t,h1,h2⟩:=w.go hr;rw[Ne9,hN];exact ic1 hb.le _ _ _ (Ac3 h1 h2)
theorem tc0.belowML(hb:sa1 E k body c)(hN:E.N=rounds+1)(w:tc0 sc6 k keep (cd5 E k body) alts step xs enc)(s:St):ea6 (Yd9 sc6 k keep alts step xs s) (R6 E k (.loop keep c) s):=λr hr=>by
 obtain⟨t,h1,h2⟩:=w.go hr;rw[Yd8,hN];exact ic1 hb.le _ _ _ (Ac3 h1 h2)
end
end Go.Ev.L
namespace Go.Ev.Ab
open Go Go.Ev
@[reducible] def o(d:Nat)(x:PO):PI:=⟨some d,none,[],x⟩
@[reducible] def s(x:PO):PI:=⟨none,none,[],x⟩
@[reducible] def ci(n:Int):Arg:=.c (.v (.int .i64 n))
@[reducible] def cb(b:Bool):Arg:=.c (.v (.bool b))
@[reducible] def vi(n:Int):b7:=.v (.int .i64 n)
@[reducible] def rep{α:Type}(n:Nat)(x:α):List α:=List.replicate n x
@[reducible] def ki(n:Nat):List CK:=List.replicate n (.int .i64)
@[reducible] def mv(d n:Nat):PI:=o d (.mv (.t n))
@[reducible] def mc(d:Nat)(n:Int):PI:=o d (.mv (ci n))
@[reducible] def mb(d:Nat)(x:Bool):PI:=o d (.mv (cb x))
@[reducible] def fd(d k n:Nat):PI:=o d (.fld k (.t n))
@[reducible] def lf(d k n:Nat):PI:=o d (.load (ki k) k false (.t n))
@[reducible] def la(d k n:Nat):PI:=o d (.load (ki k) k true (.t n))
@[reducible] def ex(d x k:Nat):PI:=o d (.ext (.t x) k)
@[reducible] def gf(n:Nat)(x:PI):PI:=⟨x.dst,some (n,false),x.hide,x.op⟩
@[reducible] def so(l:List PI)(x:PC):PC:=.seq (.ops l) x
@[reducible] def sq(x y:PC):PC:=.seq x y
@[reducible] def ts(l:List Nat):List Arg:=l.map .t
@[reducible] def cl(f:Nat)(l:List Nat):PO:=.call f (ts l)
@[reducible] def sT(k a b:Nat):PI:=s (.store k (.t a) (.t b))
@[reducible] def pa(d c x:Nat):PI:=o d (.pick (.t c) (.t x) (cb false))
@[reducible] def po(d c x:Nat):PI:=o d (.pick (.t c) (cb true) (.t x))
@[reducible] def al(d k:Nat)(n:Int):PI:=o d (.alloc (rep k (vi n)))
@[reducible] def ap(d et es n x y:Nat):PI:=o d (.append et es n (.t x) (.t y))
end Go.Ev.Ab
namespace Go.Ev.L
open Go Go.Ev
def Cps{π σ:Type}(u:∀{α:Type},(σ->α)->(Nat->α)->α->π->σ->α):Prop :=
 ∀{α β:Type} (F:α->β) (k:σ->α) (e:Nat->α) (z:α) (p:π) (s:σ),F (u k e z p s)=u (λx=>F (k x)) (λt=>F (e t)) (F z) p s
@[reducible] noncomputable def foL{π σ:Type}(en:π->σ->St)(xs:Xs π σ)(p:π)(s:σ):Stp σ->Option (f8×St):=sc7 (λs'=>some (.normal,en p s')) (λt=>xOf xs p s t 1) none
structure Lo(π σ:Type) where
 E:Env
 k:Nat
 F:PFn
 at':List Nat
 kp:List Nat
 rt:RT
 al:List (Al2 π σ)
 st:π->σ->Stp σ
 xs:Xs π σ
 en:π->σ->St
namespace Lo
variable{π σ:Type}(L:Lo π σ)
noncomputable def lc:PC:=zg0 L.at' L.F.body
noncomputable def ls:St->DT (f8×St):=Yd9 sc6 L.k L.kp L.al L.st L.xs
noncomputable def lsM:St->DT (f8×St):=Yd9 ye4 L.k L.kp L.al L.st L.xs
noncomputable def pr:(St->DT (f8×St))×PC:=(L.ls,.loop L.kp L.lc)
noncomputable def prM:(St->DT (f8×St))×PC:=(L.lsM,.loopM L.kp L.lc)
def Ok:Prop:=∀s,ma6 L.k L.F.res (L.pr.1 s) (R6 L.E L.k L.pr.2 s)
def OkE:Prop:=∀s,ea6 (L.pr.1 s) (R6 L.E L.k L.pr.2 s)
def OkM:Prop:=∀s,ea6 (L.prM.1 s) (R6 L.E L.k L.prM.2 s)
def Rd(hd:St->DT St)(bd:St->DT (f8×St))(p:π)(s:σ)(a:St)(b:Stp σ):Prop:=(ic2 hd bd a).run=foL L.en L.xs p s b
def H0:Prop:=∀p s,L.Rd (sc6 L.k L.kp) (Te9 L.E L.k L.F.res (Qd3 L.rt L.lc)) p s (L.en p s) (L.st p s)
def H1:Prop:=∀p s,L.Rd (sc6 L.k L.kp) (cd5 L.E L.k (tc9 L.rt L.lc)) p s (L.en p s) (L.st p s)
def H2:Prop:=∀p s,L.Rd (ye4 L.k L.kp) (cd5 L.E L.k (tc9 L.rt L.lc)) p s (L.en p s) (L.st p s)
def HA:Prop:=gb5 (λx=>∀a H,(⟨ef4 x.sh a,ef5 x.bl H⟩:St)=L.en (x.rd a H).1 (x.rd a H).2) L.al
variable{L}
theorem Rd.of {hd : St → DT St} {bd : St → DT (f8 × St)} {p : π} {s : σ} {a : St} (u : ∀ {α : Type}, (σ → α) → (Nat → α) → α → π → σ → α)
  (q:Cps @u) (H:(ic2 hd bd a).run=u (λx=>foL L.en L.xs p s (.next x)) (λt=>foL L.en L.xs p s (.exit t)) (foL L.en L.xs p s .fail) p s):L.Rd hd bd p s a (u .next .exit .fail p s) :=
 H.trans (q (foL L.en L.xs p s) Stp.next Stp.exit Stp.fail p s).symm
theorem Rd.sel{hd:St->DT St}{bd:St->DT (f8×St)}{p:π}{s:σ}{a1 a0:St}{b1 b0:Stp σ}(c:Bool)(h1:L.Rd hd bd p s a1 b1)(h0:L.Rd hd bd p s a0 b0):L.Rd hd bd p s (sel c a1 a0) (sel c b1 b0):=by
 cases c with
 |true=>exact h1
 |false=>exact h0
theorem ok(l:List ((St->DT (f8×St))×PC))(hs:Dc3 L.rt L.lc=l)(hl:gb5 (λx=>∀s,ma6 L.k L.F.res (x.1 s) (R6 L.E L.k x.2 s)) l)(hN:L.E.N=rounds+1)(ha:L.HA)(h:L.H0):L.Ok :=
 tc0.belowC (Ue9 _ _ (by rw[hs];exact hl)) hN ⟨ha,h⟩
theorem okE(l:List ((St->DT (f8×St))×PC))(hs:Dc3 L.rt L.lc=l)(hl:gb5 (λx=>∀s,ea6 (x.1 s) (R6 L.E L.k x.2 s)) l)(hN:L.E.N=rounds+1)(ha:L.HA)(h:L.H1):L.OkE :=
 tc0.belowML (ie1 _ _ (by rw[hs];exact hl)) hN ⟨ha,h⟩
theorem okM(l:List ((St->DT (f8×St))×PC))(hs:Dc3 L.rt L.lc=l)(hl:gb5 (λx=>∀s,ea6 (x.1 s) (R6 L.E L.k x.2 s)) l)(hN:L.E.N=rounds+1)(ha:L.HA)(h:L.H2):L.OkM :=
 tc0.belowM (ie1 _ _ (by rw[hs];exact hl)) hN ⟨ha,h⟩
end Lo
theorem za7 {E : Env} {F : PFn} {args : List b7} {blks : List b8} {o : Option (b7 × List b8)} (rt : RT) (l : List ((St → DT (f8 × St)) × PC)) (hs : Dc3 rt F.body = l)
  (hl:gb5 (λx=>∀s,ma6 (len blks) F.res (x.1 s) (R6 E (len blks) x.2 s)) l) (h:(mg5 E F (Qd3 rt F.body) args blks).run=o) (r:b7×List b8) (hr:o=some r):(Fc1 E F args blks).run=some r :=
 Me3 (Ue9 rt _ (by rw[hs];exact hl)) r (h.trans hr)
theorem Cd6 {E : Env} {F : PFn} {args : List b7} {blks : List b8} {o : Option (b7 × List b8)} (rt : RT) (l : List ((St → DT (f8 × St)) × PC)) (hs : Dc3 rt F.body = l)
  (hl:gb5 (λx=>∀s,ea6 (x.1 s) (R6 E (len blks) x.2 s)) l) (h:(Wf6 E F (tc9 rt F.body) args blks).run=o) (r:b7×List b8) (hr:o=some r):(Jb2 E F args blks).run=some r :=
 ye3 (ie1 rt _ (by rw[hs];exact hl)) r (h.trans hr)
theorem o5{A o:Option (b7×List b8)}(h:A=o)(r:b7×List b8)(hr:o=some r):A=some r:=h.trans hr
noncomputable abbrev upq(x:St)(l:List (Nat×b7)):St:=⟨l.foldl (λa q=>a.set q.1 q.2) x.a,x.H⟩
noncomputable abbrev sIq:S2:=.s (.o (.int .i64))
noncomputable abbrev sUq:S2:=.s (.o .unk)
noncomputable abbrev sBq:S2:=.s (.o .bool)
noncomputable abbrev sPq(n:Nat):S2:=.s (.o (.ptr n 0 0 0))
noncomputable abbrev sTq(n:Nat):S2:=.s (.o (.tree n))
noncomputable abbrev sLq{α:Type}(t:Ty α):S2:=.s (.c t.es (nL t))
noncomputable abbrev kLq(n:Nat):List K:=List.replicate n (.o (.int .i64))
noncomputable abbrev aIq(a:List b7)(n:Nat):Int:=toI (slT a n)
noncomputable abbrev aBq(a:List b7)(n:Nat):Bool:=toB (slT a n)
noncomputable abbrev aNq(a:List b7)(n:Nat):Nat:=toN (slT a n)
noncomputable abbrev aGq(a:List b7)(n:Nat):Nat->List b7:=toG (slT a n)
noncomputable abbrev aLq{α:Type}(t:Ty α)(a:List b7)(n:Nat):List α:=rL t (slT a n)
noncomputable abbrev hIq(H:List b8)(m r n:Nat):Int:=toI (slT (rwT (elT H m) r) n)
noncomputable abbrev cIq(a:List b7)(m n:Nat):Int:=toI (slT (cellsOf (slT a m)) n)
noncomputable abbrev hLq{α:Type}(t:Ty α)(H:List b8)(m r n:Nat):List α:=rL t (slT (rwT (elT H m) r) n)
end Go.Ev.L
namespace Go.Ev.Ce
structure V3 where
 x:Int
 y:Int
 z:Int
structure Pln where
 n:V3
 b:Int
structure Pt where
 px:Int
 py:Int
 pz:Int
 pw:Int
def d8(a b:V3):V3:=⟨a.y*b.z-a.z*b.y,a.z*b.x-a.x*b.z,a.x*b.y-a.y*b.x⟩
def dot(a b:V3):Int:=a.x*b.x+a.y*b.y+a.z*b.z
def mw(p q r:Pln):Int:=dot p.n (d8 q.n r.n)
end Go.Ev.Ce
namespace Go.Ev.Ce
open Go Go.Ev Go.Ev.L Go.Proofs
@[reducible] noncomputable def prog:Program:=Tryz.prog
noncomputable def G:Nat->List Value:=λ_=>[]
noncomputable def En(l:List (Nat×Sum)):Env:={ P:=prog,G,fns:=λ_=>none,call:=cg3 l,own:=λf j=>Bool.and (tb9 f [150,121,154,91,139,144,146,148]) (Nat.beq j 0),N:=18446744073709551616 }
@[reducible] def u:b7:=.v (.tuple #[])
theorem tg8{l:List (Nat×Sum)}(h:i7 prog G l):∀f,i5 (En l).P (En l).G f ((En l).call f):=Te8 h
theorem bd{l:List (Nat×Sum)}{f:FuncId}{R:Env->Sum}(b:ie0 prog f R)(h:i7 prog G l):i5 prog G f (R (En l)):=b rfl (tg8 h)
noncomputable def tV:Ty V3 where
 es:=3
 row x:=[i x.x,i x.y,i x.z]
 rd r:=⟨toI (hdA r),toI (hdA (tlA r)),toI (hdA (tlA (tlA r)))⟩
 ok r:=Na0 3 r
 cks:=List.replicate 3 (.int .i64)
 d:=⟨0,0,0⟩
 h0 _:=rfl
 h1 _:=rfl
 h2 _:=rfl
 h3 _ h:=.of (eb1 h)
 h4 _:=rfl
 h5 _:=rfl
noncomputable def r1V:R1 V3:=r1A tV 3 λ_ h=>h
noncomputable def tP:Ty Pln where
 es:=4
 row x:=[i x.n.x,i x.n.y,i x.n.z,i x.b]
 rd r:=⟨⟨toI (hdA r),toI (hdA (tlA r)),toI (hdA (tlA (tlA r)))⟩,toI (hdA (tlA (tlA (tlA r))))⟩
 ok r:=Na0 4 r
 cks:=List.replicate 4 (.int .i64)
 d:=⟨⟨0,0,0⟩,0⟩
 h0 _:=rfl
 h1 _:=rfl
 h2 _:=rfl
 h3 _ h:=.of (eb1 h)
 h4 _:=rfl
 h5 _:=rfl
noncomputable def r1P:R1 Pln:=r1A tP 4 λ_ h=>h
noncomputable def tX:Ty Pt where
 es:=4
 row x:=[i x.px,i x.py,i x.pz,i x.pw]
 rd r:=⟨toI (hdA r),toI (hdA (tlA r)),toI (hdA (tlA (tlA r))),toI (hdA (tlA (tlA (tlA r))))⟩
 ok r:=Na0 4 r
 cks:=List.replicate 4 (.int .i64)
 d:=⟨0,0,0,0⟩
 h0 _:=rfl
 h1 _:=rfl
 h2 _:=rfl
 h3 _ h:=.of (eb1 h)
 h4 _:=rfl
 h5 _:=rfl
noncomputable def r1X:R1 Pt:=r1A tX 4 λ_ h=>h
structure Tp where
 p:Pln
 q:Pln
 r:Pln
noncomputable def tY:Ty Tp where
 es:=12
 row x:=[i x.p.n.x,i x.p.n.y,i x.p.n.z,i x.p.b,i x.q.n.x,i x.q.n.y,i x.q.n.z,i x.q.b,i x.r.n.x,i x.r.n.y,i x.r.n.z,i x.r.b]
 rd r:=⟨⟨⟨toI (hdA r),toI (hdA (tlA r)),toI (hdA (tlA (tlA r)))⟩,toI (hdA (tlA (tlA (tlA r))))⟩,⟨⟨toI (hdA (tlA (tlA (tlA (tlA r))))),toI (hdA (tlA (tlA (tlA (tlA (tlA r)))))),toI (hdA (tlA (tlA (tlA (tlA (tlA (tlA r)))))))⟩,toI (hdA (tlA (tlA (tlA (tlA (tlA (tlA (tlA r))))))))⟩,⟨⟨toI (hdA (tlA (tlA (tlA (tlA (tlA (tlA (tlA (tlA r))))))))),toI (hdA (tlA (tlA (tlA (tlA (tlA (tlA (tlA (tlA (tlA r)))))))))),toI (hdA (tlA (tlA (tlA (tlA (tlA (tlA (tlA (tlA (tlA (tlA r)))))))))))⟩,toI (hdA (tlA (tlA (tlA (tlA (tlA (tlA (tlA (tlA (tlA (tlA (tlA r))))))))))))⟩⟩
 ok r:=Na0 12 r
 cks:=List.replicate 12 (.int .i64)
 d:=⟨⟨⟨0,0,0⟩,0⟩,⟨⟨0,0,0⟩,0⟩,⟨⟨0,0,0⟩,0⟩⟩
 h0 _:=rfl
 h1 _:=rfl
 h2 _:=rfl
 h3 _ h:=.of (eb1 h)
 h4 _:=rfl
 h5 _:=rfl
structure Q2 where
 a:V3
 b:V3
set_option maxRecDepth 100000
noncomputable def ye7:List (Nat×Sum):=[]
theorem ie2:i7 prog G ye7:=trivial
noncomputable def Jb4(x:Pln)(y:Pt):Int:=(W ((W ((W ((W (x.b*y.pw))-(W (x.n.x*y.px))))-(W (x.n.y*y.py))))-(W (x.n.z*y.pz))))
noncomputable def Lc9:Sum:=ma5 (I8 tP) (I8 tX) (λx y=>.ret ((one r1I).enc (Jb4 x y),[]))
theorem md2:i5 prog G 158 Lc9:=Aa1 (bd Fg9 ie2) λx y=>o5 (by kernel_rfl)
noncomputable def Oe0:List (Nat×Sum):=[]
theorem ye8:i7 prog G Oe0:=trivial
noncomputable def Hb1(x:V3)(y:V3):V3:=(⟨W (x.x+y.x),W (x.y+y.y),W (x.z+y.z)⟩:V3)
noncomputable def Zd9:Sum:=ma5 (I8 tV) (I8 tV) (λx y=>.ret ((one r1V).enc (Hb1 x y),[]))
theorem Oe1:i5 prog G 80 Zd9:=Aa1 (bd b80 ye8) λx y=>o5 (by kernel_rfl)
noncomputable def Oe2:List (Nat×Sum):=[]
theorem ye9:i7 prog G Oe2:=trivial
noncomputable def Ia8(x:V3)(y:V3):Int:=(W ((W ((W (x.x*y.x))+(W (x.y*y.y))))+(W (x.z*y.z))))
noncomputable def Ac8:Sum:=ma5 (I8 tV) (I8 tV) (λx y=>.ret ((one r1I).enc (Ia8 x y),[]))
theorem Mc0:i5 prog G 84 Ac8:=Aa1 (bd b84 ye9) λx y=>o5 (by kernel_rfl)
noncomputable def ie3:List (Nat×Sum):=[]
theorem Qd4:i7 prog G ie3:=trivial
noncomputable def aa5(x:V3)(y:V3):V3:=(⟨W ((W (x.y*y.z))-(W (x.z*y.y))),W ((W (x.z*y.x))-(W (x.x*y.z))),W ((W (x.x*y.y))-(W (x.y*y.x)))⟩:V3)
noncomputable def uc0:Sum:=ma5 (I8 tV) (I8 tV) (λx y=>.ret ((one r1V).enc (aa5 x y),[]))
theorem Tc0:i5 prog G 164 uc0:=Aa1 (bd Gg3 Qd4) λx y=>o5 (by kernel_rfl)
noncomputable def Qd5:List (Nat×Sum):=[]
theorem Cd7:i7 prog G Qd5:=trivial
noncomputable def X2(x:V3)(y:Int):V3:=(⟨W (x.x*y),W (x.y*y),W (x.z*y)⟩:V3)
noncomputable def Tc1:Sum:=ma5 (I8 tV) cI (λx y=>.ret ((one r1V).enc (X2 x y),[]))
theorem Qd6:i5 prog G 228 Tc1:=Aa1 (bd Jg4 Cd7) λx y=>o5 (by kernel_rfl)
noncomputable def Gc1:List (Nat×Sum):=[]
theorem Cd8:i7 prog G Gc1:=trivial
structure Na1 where
structure ga1 where
 (is0 is1:Int)
noncomputable def nc1(p:Na1)(s:ga1):St:=⟨i s.is0::i s.is1::ra 10 [],[]⟩
noncomputable def Aa8{α:Type}(k:ga1->α)(e:Nat->α)(z:α)(p:Na1)(s:ga1):α:=(sl (s.is1 != 0) (sl (s.is1==0) z (k ⟨s.is1,Int.tmod s.is0 s.is1⟩)) (e 1))
noncomputable def Ea9(p:Na1)(s:ga1):Stp ga1:=Aa8 .next .exit .fail p s
noncomputable def Jb5:Lo Na1 ga1:=⟨En Gc1,0,Yf4,[1,0,4,4],[0,1],.p,[⟨sIq::sIq::ru2 10 [],[],λa H=>(⟨⟩,⟨aIq a 0,aIq a 1⟩)⟩],Ea9,[(some 0,λp s=>upq (nc1 p s) [(5,i s.is1),(6,b (s.is1 != 0))])],nc1⟩
theorem pd4:Jb5.Ok:=Lo.ok [] (by kernel_rfl) .nil rfl (.cons (λa H=>by kernel_rfl) .nil) λp s=>(.of @Aa8 (λF _ _ _ _ _=>by unfold Aa8;(repeat' apply j6 (f:=F))<;>rfl) (by kernel_rfl))
noncomputable def gb8(x:Int)(y:Int):Option (b7×List b8):=let t1:=(lp (Ea9 (⟨⟩:Na1)) (⟨x,y⟩:ga1));(sl (Nat.beq t1.1 1) (some (i t1.2.is0,[])) none)
noncomputable def X3(x:Int)(y:Int):Int:=E9 (one r1I) (gb8 x y)
noncomputable def X4(x:Int)(y:Int):Bool:=okO (one r1I) (gb8 x y)
noncomputable def Tc2:Sum:=ma5 cI cI (λx y=>.guard (X4 x y) (.ret ((one r1I).enc (X3 x y),[])))
theorem Qd7:i5 prog G 229 Tc2:=nb8 (bd Jg5 Cd8) (one r1I) (o:=gb8) λx y=>za7 (.s .p (.s (.b (.u Jb5.ls)) .p)) [Jb5.pr] (by kernel_rfl) (.cons pd4 .nil) (by kernel_rfl)
noncomputable def ze0:List (Nat×Sum):=[(164,uc0),(84,Ac8),(228,Tc1),(80,Zd9),(229,Tc2)]
theorem ie4:i7 prog G ze0:=⟨Tc0,Mc0,Qd6,Oe1,Qd7,trivial⟩
noncomputable def Jb6(x:Pln)(y:Pln)(z:Pln):Option (b7×List b8):=let t1:=(aa5 y.n z.n);let t2:=(Ia8 x.n t1);let t3:=(X2 t1 x.b);let t4:=(aa5 z.n x.n);let t5:=(X2 t4 y.b);let t6:=(Hb1 t3 t5);let t7:=(aa5 x.n y.n);let t8:=(X2 t7 z.b);let t9:=(Hb1 t6 t8);let t10:=(X2 t9 (-1));let t11:=(X3 (if (W (0-t10.x))>t10.x then (W (0-t10.x)) else t10.x) (if (W (0-t10.y))>t10.y then (W (0-t10.y)) else t10.y));let t12:=(X3 (if (W (0-t10.z))>t10.z then (W (0-t10.z)) else t10.z) (W (0-t2)));let t13:=(X3 t11 t12);let t14:=(X3 (if (W (0-t9.x))>t9.x then (W (0-t9.x)) else t9.x) (if (W (0-t9.y))>t9.y then (W (0-t9.y)) else t9.y));let t15:=(X3 (if (W (0-t9.z))>t9.z then (W (0-t9.z)) else t9.z) t2);let t16:=(X3 t14 t15);(sl (t2==0) (some (.tup [.agg [i 0,i 0,i 0,i 0],b false],[])) (sl (decide (t2<0)) (sl (X4 (if (W (0-t10.x))>t10.x then (W (0-t10.x)) else t10.x) (if (W (0-t10.y))>t10.y then (W (0-t10.y)) else t10.y)) (sl (X4 (if (W (0-t10.z))>t10.z then (W (0-t10.z)) else t10.z) (W (0-t2))) (sl (X4 t11 t12) (sl (t13==0) none (sl (t13==0) none (sl (t13==0) none (sl (t13==0) none (some (.tup [.agg [i (W (Int.tdiv t10.x t13)),i (W (Int.tdiv t10.y t13)),i (W (Int.tdiv t10.z t13)),i (W (Int.tdiv (W (0-t2)) t13))],b true],[])))))) none) none) none) (sl (X4 (if (W (0-t9.x))>t9.x then (W (0-t9.x)) else t9.x) (if (W (0-t9.y))>t9.y then (W (0-t9.y)) else t9.y)) (sl (X4 (if (W (0-t9.z))>t9.z then (W (0-t9.z)) else t9.z) t2) (sl (X4 t14 t15) (sl (t16==0) none (sl (t16==0) none (sl (t16==0) none (sl (t16==0) none (some (.tup [.agg [i (W (Int.tdiv t9.x t16)),i (W (Int.tdiv t9.y t16)),i (W (Int.tdiv t9.z t16)),i (W (Int.tdiv t2 t16))],b true],[])))))) none) none) none)))
noncomputable def Jb7(x:Pln)(y:Pln)(z:Pln):Pt×Bool:=E9 (two r1X r1B) (Jb6 x y z)
noncomputable def Jb8(x:Pln)(y:Pln)(z:Pln):Bool:=okO (two r1X r1B) (Jb6 x y z)
noncomputable def Cd9:Sum:=Qd2 (I8 tP) (I8 tP) (I8 tP) (λx y z=>.guard (Jb8 x y z) (.ret ((two r1X r1B).enc (Jb7 x y z),[])))
theorem ze1:i5 prog G 209 Cd9:=cg8 (bd Ig8 ie4) (two r1X r1B) (o:=Jb6) λx y z=>o5 (by kernel_rfl)
noncomputable def ae0:List (Nat×Sum):=[(158,Lc9)]
theorem Oe3:i7 prog G ae0:=⟨md2,trivial⟩
structure Jb9 where
 d9:List Pln
 (c8 b9 c9 g8:Int)
structure Da1 where
 is5:Int
noncomputable def md3(p:Jb9)(s:Da1):St:=⟨eL tP p.d9::.unk::.unk::.ptr 0 0 0 0::.unk::i s.is5::ra 13 [],[⟨0,4,[[i p.c8,i p.b9,i p.c9,i p.g8]],true,false,0⟩]⟩
noncomputable def gb9{α:Type}(k:Da1->α)(e:Nat->α)(z:α)(p:Jb9)(s:Da1):α:=let t1:=(Jb4 (gL tP p.d9 s.is5.toNat) (⟨p.c8,p.b9,p.c9,p.g8⟩:Pt));(sl (decide (s.is5<(↑(List.length p.d9):Int))) (sl (inB s.is5 (List.length p.d9)) (sl (decide (t1<0)) (e 1) (k ⟨W (s.is5+1)⟩)) z) (e 2))
noncomputable def ub2(p:Jb9)(s:Da1):Stp Da1:=gb9 .next .exit .fail p s
noncomputable def Mc1:Lo Jb9 Da1:=⟨En ae0,0,Yf1,[1,0,1,4,4],[0,3,5],.p,[⟨sLq tP::sUq::sUq::sPq 0::sUq::sIq::ru2 13 [],[⟨0,4,true,some [kLq 4]⟩],λa H=>(⟨aLq tP a 0,hIq H 0 0 0,hIq H 0 0 1,hIq H 0 0 2,hIq H 0 0 3⟩,⟨aIq a 5⟩)⟩],ub2,[(none,λp s=>⟨[b false],[]⟩),(some 0,λp s=>upq (md3 p s) [(6,i s.is5),(7,eL tP p.d9),(8,i (↑(List.length p.d9):Int)),(9,b (decide (s.is5<(↑(List.length p.d9):Int))))])],md3⟩
theorem ze2:Mc1.Ok:=Lo.ok [] (by kernel_rfl) .nil rfl (.cons (λa H=>by kernel_rfl) .nil) λp s=>(.of @gb9 (λF _ _ _ _ _=>by unfold gb9;(repeat' apply j6 (f:=F))<;>rfl) (by kernel_rfl))
noncomputable def uc1(x:List Pln)(y:Pt):Option (b7×List b8):=let t1:=(lp (ub2 (⟨rt tP x,y.px,y.py,y.pz,y.pw⟩:Jb9)) (⟨0⟩:Da1));(sl ((cnE tP x)&&true) (sl (Nat.beq t1.1 1) (some (b false,[])) (sl (Nat.beq t1.1 2) (some (b true,[])) none)) none)
noncomputable def bc2(x:List Pln)(y:Pt):Bool:=E9 (one r1B) (uc1 x y)
noncomputable def bc3(x:List Pln)(y:Pt):Bool:=okO (one r1B) (uc1 x y)
noncomputable def ze3:Sum:=ma5 (ea7 tP) (I8 tX) (λx y=>.guard (bc3 x y) (.ret ((one r1B).enc (bc2 x y),[])))
theorem gf3:i5 prog G 210 ze3:=nb8 (bd Ig9 Oe3) (one r1B) (o:=uc1) λx y=>za7 (.s .p (.s (.s .p (.b (.u Mc1.ls))) .p)) [Mc1.pr] (by kernel_rfl) (.cons ze2 .nil) (by kernel_rfl)
noncomputable def Tc3:List (Nat×Sum):=[]
theorem Qd8:i7 prog G Tc3:=trivial
structure Wa7 where
 V0:List Pt
 (c8 b9 c9 g8:Int)
structure ea8 where
 is5:Int
noncomputable def uc2(p:Wa7)(s:ea8):St:=⟨eL tX p.V0::.unk::.unk::.ptr 0 0 0 0::.unk::i s.is5::ra 12 [],[⟨0,4,[[i p.c8,i p.b9,i p.c9,i p.g8]],true,false,0⟩]⟩
noncomputable def Fa0{α:Type}(k:ea8->α)(e:Nat->α)(z:α)(p:Wa7)(s:ea8):α:=(sl (decide (s.is5<(↑(List.length p.V0):Int))) (sl (inB s.is5 (List.length p.V0)) (sl (((gL tX p.V0 s.is5.toNat).px==p.c8)&&(((gL tX p.V0 s.is5.toNat).py==p.b9)&&(((gL tX p.V0 s.is5.toNat).pz==p.c9)&&(((gL tX p.V0 s.is5.toNat).pw==p.g8)&&true)))) (e 1) (k ⟨W (s.is5+1)⟩)) z) (e 2))
noncomputable def Na2(p:Wa7)(s:ea8):Stp ea8:=Fa0 .next .exit .fail p s
noncomputable def Vb9:Lo Wa7 ea8:=⟨En Tc3,0,Yf2,[1,0,1,4,4],[0,3,5],.p,[⟨sLq tX::sUq::sUq::sPq 0::sUq::sIq::ru2 12 [],[⟨0,4,true,some [kLq 4]⟩],λa H=>(⟨aLq tX a 0,hIq H 0 0 0,hIq H 0 0 1,hIq H 0 0 2,hIq H 0 0 3⟩,⟨aIq a 5⟩)⟩],Na2,[(none,λp s=>⟨[b true],[]⟩),(some 0,λp s=>upq (uc2 p s) [(6,i s.is5),(7,eL tX p.V0),(8,i (↑(List.length p.V0):Int)),(9,b (decide (s.is5<(↑(List.length p.V0):Int))))])],uc2⟩
theorem Dd0:Vb9.Ok:=Lo.ok [] (by kernel_rfl) .nil rfl (.cons (λa H=>by kernel_rfl) .nil) λp s=>(.of @Fa0 (λF _ _ _ _ _=>by unfold Fa0;(repeat' apply j6 (f:=F))<;>rfl) (by kernel_rfl))
noncomputable def ub3(x:List Pt)(y:Pt):Option (b7×List b8):=let t1:=(lp (Na2 (⟨rt tX x,y.px,y.py,y.pz,y.pw⟩:Wa7)) (⟨0⟩:ea8));(sl ((cnE tX x)&&true) (sl (Nat.beq t1.1 1) (some (b true,[])) (sl (Nat.beq t1.1 2) (some (b false,[])) none)) none)
noncomputable def eb2(x:List Pt)(y:Pt):Bool:=E9 (one r1B) (ub3 x y)
noncomputable def eb3(x:List Pt)(y:Pt):Bool:=okO (one r1B) (ub3 x y)
noncomputable def md4:Sum:=ma5 (ea7 tX) (I8 tX) (λx y=>.guard (eb3 x y) (.ret ((one r1B).enc (eb2 x y),[])))
theorem ie5:i5 prog G 211 md4:=nb8 (bd Jg0 Qd8) (one r1B) (o:=ub3) λx y=>za7 (.s .p (.s (.s .p (.b (.u Vb9.ls))) .p)) [Vb9.pr] (by kernel_rfl) (.cons Dd0 .nil) (by kernel_rfl)
noncomputable def hb5:List (Nat×Sum):=[(209,Cd9),(210,ze3),(211,md4)]
theorem pd5:i7 prog G hb5:=⟨ze1,gf3,ie5,trivial⟩
structure T2 where
 d9:List Pln
 (is4 is5:Int)
structure s9 where
 ph:Nat
 is6:Int
 ns3:Nat
 eh0:List (List b7)
noncomputable def Sb3(p:T2)(s:s9):St:=⟨eL tP p.d9::.unk::.unk::.v (.slice none 0 0)::i p.is4::i p.is5::i s.is6::ra 57 [],[]⟩
noncomputable def Sb4(p:T2)(s:s9):St:=⟨eL tP p.d9::.unk::.unk::.sl 0 0 s.ns3 0::i p.is4::i p.is5::i s.is6::ra 57 [],[⟨136,4,s.eh0,true,false,0⟩]⟩
noncomputable def cd7(p:T2)(s:s9):St:=(sel (Nat.beq s.ph 1) (Sb4 p s) (Sb3 p s))
noncomputable def X5{α:Type}(k:s9->α)(e:Nat->α)(z:α)(p:T2)(s:s9):α:=let t1:=(Jb7 (gL tP p.d9 p.is4.toNat) (gL tP p.d9 p.is5.toNat) (gL tP p.d9 s.is6.toNat));let t2:=(bc2 (rt tP p.d9) t1.1);let t3:=(eb2 [] t1.1);(sl (decide (s.is6<(↑(List.length p.d9):Int))) (sl (inB p.is4 (List.length p.d9)) (sl (inB p.is5 (List.length p.d9)) (sl (inB s.is6 (List.length p.d9)) (sl (Jb8 (gL tP p.d9 p.is4.toNat) (gL tP p.d9 p.is5.toNat) (gL tP p.d9 s.is6.toNat)) (sl t1.2 (sl (okE tP p.d9) (sl (bc3 (rt tP p.d9) t1.1) (sl t2 (sl (eb3 [] t1.1) (sl (!t3) (k ⟨1,W (s.is6+1),1,[[i t1.1.px,i t1.1.py,i t1.1.pz,i t1.1.pw]]⟩) (k ⟨0,W (s.is6+1),0,[]⟩)) z) (k ⟨0,W (s.is6+1),0,[]⟩)) z) z) (k ⟨0,W (s.is6+1),0,[]⟩)) z) z) z) z) (e 1))
noncomputable def X6{α:Type}(k:s9->α)(e:Nat->α)(z:α)(p:T2)(s:s9):α:=let t1:=(Jb7 (gL tP p.d9 p.is4.toNat) (gL tP p.d9 p.is5.toNat) (gL tP p.d9 s.is6.toNat));let t2:=(bc2 (rt tP p.d9) t1.1);let t3:=(eb2 (slR tX s.eh0 0 s.ns3) t1.1);(sl (decide (s.is6<(↑(List.length p.d9):Int))) (sl (inB p.is4 (List.length p.d9)) (sl (inB p.is5 (List.length p.d9)) (sl (inB s.is6 (List.length p.d9)) (sl (Jb8 (gL tP p.d9 p.is4.toNat) (gL tP p.d9 p.is5.toNat) (gL tP p.d9 s.is6.toNat)) (sl t1.2 (sl (okE tP p.d9) (sl (bc3 (rt tP p.d9) t1.1) (sl t2 (sl (okS tX s.eh0 0 s.ns3) (sl (eb3 (slR tX s.eh0 0 s.ns3) t1.1) (sl (!t3) (sl (Nat.beq s.ns3 (len s.eh0)&&Nat.ble ((s.ns3+1)*32) room) (k ⟨1,W (s.is6+1),s.ns3+1,app s.eh0 [[i t1.1.px,i t1.1.py,i t1.1.pz,i t1.1.pw]]⟩) z) (k ⟨1,W (s.is6+1),s.ns3,s.eh0⟩)) z) z) (k ⟨1,W (s.is6+1),s.ns3,s.eh0⟩)) z) z) (k ⟨1,W (s.is6+1),s.ns3,s.eh0⟩)) z) z) z) z) (e 2))
noncomputable def V5(p:T2)(s:s9):Stp s9:=(sel (Nat.beq s.ph 1) (X6 .next .exit .fail p s) (X5 .next .exit .fail p s))
noncomputable def yb7:Lo T2 s9:=⟨En hb5,0,We1,[1,1,0,1,4,4,1,0,4,1,4,4,1,0,4,1,4,4],[0,3,4,5,6],.p,[⟨sLq tP::sUq::sUq::.s (.o .nil)::sIq::sIq::sIq::ru2 57 [],[],λa H=>(⟨aLq tP a 0,aIq a 4,aIq a 5⟩,⟨0,aIq a 6,0,[]⟩)⟩,⟨sLq tP::sUq::sUq::.s (.o (.sl 0 0 (some 0) none))::sIq::sIq::sIq::ru2 57 [],[⟨136,4,true,none⟩],λa H=>(⟨aLq tP a 0,aIq a 4,aIq a 5⟩,⟨1,aIq a 6,slN (slT a 3),elT H 0⟩)⟩],V5,[(some 4,λp s=>upq (Sb3 p s) [(25,i s.is6),(26,eL tP p.d9),(27,i (↑(List.length p.d9):Int)),(28,b (decide (s.is6<(↑(List.length p.d9):Int))))]),(some 4,λp s=>upq (Sb4 p s) [(25,i s.is6),(26,eL tP p.d9),(27,i (↑(List.length p.d9):Int)),(28,b (decide (s.is6<(↑(List.length p.d9):Int))))])],cd7⟩
theorem cd8:yb7.Ok:=Lo.ok [] (by kernel_rfl) .nil rfl (.cons (λa H=>by kernel_rfl) (.cons (λa H=>by kernel_rfl) .nil)) λp s=>(.sel (Nat.beq s.ph 1) (.of @X6 (λF _ _ _ _ _=>by unfold X6;(repeat' apply j6 (f:=F))<;>rfl) (by kernel_rfl)) (.of @X5 (λF _ _ _ _ _=>by unfold X5;(repeat' apply j6 (f:=F))<;>rfl) (by kernel_rfl)))
structure T3 where
 is4:Int
structure y8 where
 ph:Nat
 d9:List Pln
 is5:Int
 ns3:Nat
 eh0:List (List b7)
noncomputable def Sb5(p:T3)(s:y8):St:=⟨eL tP s.d9::.unk::.unk::.v (.slice none 0 0)::i p.is4::i s.is5::ra 58 [],[]⟩
noncomputable def Sb6(p:T3)(s:y8):St:=⟨eL tP s.d9::.unk::.unk::.sl 0 0 s.ns3 0::i p.is4::i s.is5::ra 58 [],[⟨136,4,s.eh0,true,false,0⟩]⟩
noncomputable def cd9(p:T3)(s:y8):St:=(sel (Nat.beq s.ph 1) (Sb6 p s) (Sb5 p s))
noncomputable def X7{α:Type}(k:y8->α)(e:Nat->α)(z:α)(p:T3)(s:y8):α:=let t1:=(lp (V5 (⟨rt tP s.d9,p.is4,s.is5⟩:T2)) (⟨0,W (s.is5+1),0,[]⟩:s9));(sl (decide (s.is5<(↑(List.length s.d9):Int))) (sl ((cnE tP s.d9)&&true) (sl (Nat.beq t1.1 1) (k ⟨0,rt tP s.d9,W (s.is5+1),0,[]⟩) (sl (Nat.beq t1.1 2) (k ⟨1,rt tP s.d9,W (s.is5+1),t1.2.ns3,t1.2.eh0⟩) z)) z) (e 1))
noncomputable def X8{α:Type}(k:y8->α)(e:Nat->α)(z:α)(p:T3)(s:y8):α:=let t1:=(lp (V5 (⟨rt tP s.d9,p.is4,s.is5⟩:T2)) (⟨1,W (s.is5+1),s.ns3,s.eh0⟩:s9));(sl (decide (s.is5<(↑(List.length s.d9):Int))) (sl ((cnE tP s.d9)&&true) (sl (Nat.beq t1.1 1) (k ⟨0,rt tP s.d9,W (s.is5+1),0,[]⟩) (sl (Nat.beq t1.1 2) (k ⟨1,rt tP s.d9,W (s.is5+1),t1.2.ns3,t1.2.eh0⟩) z)) z) (e 2))
noncomputable def P0(p:T3)(s:y8):Stp y8:=(sel (Nat.beq s.ph 1) (X8 .next .exit .fail p s) (X7 .next .exit .fail p s))
noncomputable def yb8:Lo T3 y8:=⟨En hb5,0,We1,[1,1,0,1,4,4,1,0,4,1,4,4],[0,3,4,5],.s .p (.s (.b (.s .p (.b (.u yb7.ls)))) .p),[⟨sLq tP::sUq::sUq::.s (.o .nil)::sIq::sIq::ru2 58 [],[],λa H=>(⟨aIq a 4⟩,⟨0,aLq tP a 0,aIq a 5,0,[]⟩)⟩,⟨sLq tP::sUq::sUq::.s (.o (.sl 0 0 (some 0) none))::sIq::sIq::ru2 58 [],[⟨136,4,true,none⟩],λa H=>(⟨aIq a 4⟩,⟨1,aLq tP a 0,aIq a 5,slN (slT a 3),elT H 0⟩)⟩],P0,[(some 2,λp s=>upq (Sb5 p s) [(17,i s.is5),(18,eL tP s.d9),(19,i (↑(List.length s.d9):Int)),(20,b (decide (s.is5<(↑(List.length s.d9):Int))))]),(some 2,λp s=>upq (Sb6 p s) [(17,i s.is5),(18,eL tP s.d9),(19,i (↑(List.length s.d9):Int)),(20,b (decide (s.is5<(↑(List.length s.d9):Int))))])],cd9⟩
theorem dd0:yb8.Ok:=Lo.ok [yb7.pr] (by kernel_rfl) (.cons cd8 .nil) rfl (.cons (λa H=>by kernel_rfl) (.cons (λa H=>by kernel_rfl) .nil)) λp s=>(.sel (Nat.beq s.ph 1) (.of @X8 (λF _ _ _ _ _=>by unfold X8;(repeat' apply j6 (f:=F))<;>rfl) (by kernel_rfl)) (.of @X7 (λF _ _ _ _ _=>by unfold X7;(repeat' apply j6 (f:=F))<;>rfl) (by kernel_rfl)))
structure aa6 where
structure C6 where
 ph:Nat
 d9:List Pln
 is4:Int
 ns3:Nat
 eh0:List (List b7)
noncomputable def Sb7(p:aa6)(s:C6):St:=⟨eL tP s.d9::.unk::.unk::.v (.slice none 0 0)::i s.is4::ra 59 [],[]⟩
noncomputable def Sb8(p:aa6)(s:C6):St:=⟨eL tP s.d9::.unk::.unk::.sl 0 0 s.ns3 0::i s.is4::ra 59 [],[⟨136,4,s.eh0,true,false,0⟩]⟩
noncomputable def dd1(p:aa6)(s:C6):St:=(sel (Nat.beq s.ph 1) (Sb8 p s) (Sb7 p s))
noncomputable def X9{α:Type}(k:C6->α)(e:Nat->α)(z:α)(p:aa6)(s:C6):α:=let t1:=(lp (P0 (⟨s.is4⟩:T3)) (⟨0,rt tP s.d9,W (s.is4+1),0,[]⟩:y8));(sl (decide (s.is4<(↑(List.length s.d9):Int))) (sl ((cnE tP s.d9)&&true) (sl (Nat.beq t1.1 1) (k ⟨0,t1.2.d9,W (s.is4+1),0,[]⟩) (sl (Nat.beq t1.1 2) (k ⟨1,t1.2.d9,W (s.is4+1),t1.2.ns3,t1.2.eh0⟩) z)) z) (e 1))
noncomputable def Y0{α:Type}(k:C6->α)(e:Nat->α)(z:α)(p:aa6)(s:C6):α:=let t1:=(lp (P0 (⟨s.is4⟩:T3)) (⟨1,rt tP s.d9,W (s.is4+1),s.ns3,s.eh0⟩:y8));(sl (decide (s.is4<(↑(List.length s.d9):Int))) (sl ((cnE tP s.d9)&&true) (sl (Nat.beq t1.1 1) (k ⟨0,t1.2.d9,W (s.is4+1),0,[]⟩) (sl (Nat.beq t1.1 2) (k ⟨1,t1.2.d9,W (s.is4+1),t1.2.ns3,t1.2.eh0⟩) z)) z) (e 2))
noncomputable def V6(p:aa6)(s:C6):Stp C6:=(sel (Nat.beq s.ph 1) (Y0 .next .exit .fail p s) (X9 .next .exit .fail p s))
noncomputable def yb9:Lo aa6 C6:=⟨En hb5,0,We1,[1,1,0,1,4,4],[0,3,4],.s .p (.s (.b (.s .p (.b (.u yb8.ls)))) .p),[⟨sLq tP::sUq::sUq::.s (.o .nil)::sIq::ru2 59 [],[],λa H=>(⟨⟩,⟨0,aLq tP a 0,aIq a 4,0,[]⟩)⟩,⟨sLq tP::sUq::sUq::.s (.o (.sl 0 0 (some 0) none))::sIq::ru2 59 [],[⟨136,4,true,none⟩],λa H=>(⟨⟩,⟨1,aLq tP a 0,aIq a 4,slN (slT a 3),elT H 0⟩)⟩],V6,[(some 0,λp s=>upq (Sb7 p s) [(9,i s.is4),(10,eL tP s.d9),(11,i (↑(List.length s.d9):Int)),(12,b (decide (s.is4<(↑(List.length s.d9):Int))))]),(some 0,λp s=>upq (Sb8 p s) [(9,i s.is4),(10,eL tP s.d9),(11,i (↑(List.length s.d9):Int)),(12,b (decide (s.is4<(↑(List.length s.d9):Int))))])],dd1⟩
theorem dd2:yb9.Ok:=Lo.ok [yb8.pr] (by kernel_rfl) (.cons dd0 .nil) rfl (.cons (λa H=>by kernel_rfl) (.cons (λa H=>by kernel_rfl) .nil)) λp s=>(.sel (Nat.beq s.ph 1) (.of @Y0 (λF _ _ _ _ _=>by unfold Y0;(repeat' apply j6 (f:=F))<;>rfl) (by kernel_rfl)) (.of @X9 (λF _ _ _ _ _=>by unfold X9;(repeat' apply j6 (f:=F))<;>rfl) (by kernel_rfl)))
noncomputable def Wa8(x:List Pln):Option (b7×List b8):=let t1:=(lp (V6 (⟨⟩:aa6)) (⟨0,rt tP x,0,0,[]⟩:C6));(sl ((cnE tP x)&&true) (sl (Nat.beq t1.1 1) (some (.v (.slice none 0 0),[])) (sl (Nat.beq t1.1 2) (some (.sl 0 0 t1.2.ns3 0,[⟨136,4,t1.2.eh0,true,false,0⟩])) none)) none)
noncomputable def rb1(x:List Pln):List Pt:=E9 (one (r1L tX)) (Wa8 x)
noncomputable def rb2(x:List Pln):Bool:=okO (one (r1L tX)) (Wa8 x)
noncomputable def Gc2:Sum:=O9 (ea7 tP) (λx=>.guard (rb2 x) (.ret ((one (r1L tX)).enc (rb1 x),[])))
theorem Dd1:i5 prog G 181 Gc2:=ua7 (bd Hg5 pd5) (one (r1L tX)) (o:=Wa8) λx=>za7 (.s .p (.s .p (.s (.s .p (.b (.u yb9.ls))) .p))) [yb9.pr] (by kernel_rfl) (.cons dd2 .nil) (by kernel_rfl)
noncomputable def Sb9:List (Nat×Sum):=[]
theorem Mc2:i7 prog G Sb9:=trivial
@[reducible] noncomputable def Sa2:Sum:=Fc1 (En Sb9) Xf8
theorem hb6:i5 prog G 191 Sa2:=bd Ig2 Mc2
noncomputable def pd6:List (Nat×Sum):=[]
theorem dd3:i7 prog G pd6:=trivial
noncomputable def Na3(x:Int):Option (b7×List b8):=(sl (decide (x<0)) (some (i (W (0-x)),[])) (some (i x,[])))
noncomputable def Aa9(x:Int):Int:=E9 (one r1I) (Na3 x)
noncomputable def Ba0(x:Int):Bool:=okO (one r1I) (Na3 x)
noncomputable def uc3:Sum:=O9 cI (λx=>.guard (Ba0 x) (.ret ((one r1I).enc (Aa9 x),[])))
theorem pd7:i5 prog G 184 uc3:=ua7 (bd Hg8 dd3) (one r1I) (o:=Na3) λx=>o5 (by kernel_rfl)
noncomputable def md5:List (Nat×Sum):=[(184,uc3),(191,Sa2)]
theorem ie6:i7 prog G md5:=⟨pd7,hb6,trivial⟩
structure ua8 where
 (is6 c8 b9 c9 Aa3 Aa4 Aa5:Int)
structure Y1 where
 (is5 is7:Int)
noncomputable def Gc3(p:ua8)(s:Y1):St:=⟨.unk::.ptr 0 0 0 0::.ptr 1 0 0 0::.unk::.ptr 2 0 0 0::i s.is5::i p.is6::i s.is7::ra 38 [],[⟨0,3,[[i p.c8,i p.b9,i p.c9]],true,false,0⟩,⟨0,3,[[i 0,i 0,i 0]],true,false,0⟩,⟨0,3,[[i p.Aa3,i p.Aa4,i p.Aa5]],true,false,0⟩]⟩
noncomputable def Na4{α:Type}(k:Y1->α)(e:Nat->α)(z:α)(p:ua8)(s:Y1):α:=(sl (decide (s.is7>0)) (sl (s.is7==0) z (k ⟨s.is7,Int.tmod s.is5 s.is7⟩)) (e 1))
noncomputable def oa8(p:ua8)(s:Y1):Stp Y1:=Na4 .next .exit .fail p s
noncomputable def ic7:Lo ua8 Y1:=⟨En md5,0,Xf5,[1,1,1,0,1,4,4,1,0,4,1,1,4,4],[1,2,4,5,6,7],.p,[⟨sUq::sPq 0::sPq 1::sUq::sPq 2::sIq::sIq::sIq::ru2 38 [],[⟨0,3,true,some [kLq 3]⟩,⟨0,3,true,some [[.o (.lit .i64 0),.o (.lit .i64 0),.o (.lit .i64 0)]]⟩,⟨0,3,true,some [kLq 3]⟩],λa H=>(⟨aIq a 6,hIq H 0 0 0,hIq H 0 0 1,hIq H 0 0 2,hIq H 2 0 0,hIq H 2 0 1,hIq H 2 0 2⟩,⟨aIq a 5,aIq a 7⟩)⟩],oa8,[(some 2,λp s=>upq (Gc3 p s) [(23,i s.is7),(24,b (decide (s.is7>0)))])],Gc3⟩
theorem Qd9:ic7.Ok:=Lo.ok [] (by kernel_rfl) .nil rfl (.cons (λa H=>by kernel_rfl) .nil) λp s=>(.of @Na4 (λF _ _ _ _ _=>by unfold Na4;(repeat' apply j6 (f:=F))<;>rfl) (by kernel_rfl))
noncomputable def Kb0(x:V3):Option (b7×List b8):=let t1:=(Aa9 x.x);let t2:=(lp (oa8 (⟨0,x.x,x.y,x.z,x.x,x.y,x.z⟩:ua8)) (⟨0,t1⟩:Y1));let t3:=(Aa9 x.y);let t4:=(lp (oa8 (⟨1,x.x,x.y,x.z,x.x,x.y,x.z⟩:ua8)) (⟨t2.2.is5,t3⟩:Y1));let t5:=(Aa9 x.z);let t6:=(lp (oa8 (⟨2,x.x,x.y,x.z,x.x,x.y,x.z⟩:ua8)) (⟨t4.2.is5,t5⟩:Y1));(sl (x.x==(-9223372036854775808)) (some (.tup [.agg [i 0,i 0,i 0],i 0],[])) (sl (Ba0 x.x) (sl (Nat.beq t2.1 1) (sl (x.y==(-9223372036854775808)) (some (.tup [.agg [i 0,i 0,i 0],i 0],[])) (sl (Ba0 x.y) (sl (Nat.beq t4.1 1) (sl (x.z==(-9223372036854775808)) (some (.tup [.agg [i 0,i 0,i 0],i 0],[])) (sl (Ba0 x.z) (sl (Nat.beq t6.1 1) (sl (t6.2.is5==0) (some (.tup [.agg [i 0,i 0,i 0],i 0],[])) (sl (t6.2.is5==0) none (sl (t6.2.is5==0) none (sl (t6.2.is5==0) none (some (.tup [.agg [i (W (Int.tdiv x.x t6.2.is5)),i (W (Int.tdiv x.y t6.2.is5)),i (W (Int.tdiv x.z t6.2.is5))],i t6.2.is5],[])))))) none) none)) none) none)) none) none))
noncomputable def cb9(x:V3):V3×Int:=E9 (two r1V r1I) (Kb0 x)
noncomputable def Kb1(x:V3):Bool:=okO (two r1V r1I) (Kb0 x)
noncomputable def Mc3:Sum:=O9 (I8 tV) (λx=>.guard (Kb1 x) (.ret ((two r1V r1I).enc (cb9 x),[])))
theorem md6:i5 prog G 163 Mc3:=ua7 (bd Gg2 ie6) (two r1V r1I) (o:=Kb0) λx=>za7 (.s .p (.s .p (.s .p (.s (.s .p (.b (.l (.s .p (.s (.b (.s .p (.s .p (.b (.u ic7.ls))))) .p))))) .p)))) [ic7.pr] (by kernel_rfl) (.cons Qd9 .nil) (by kernel_rfl)
noncomputable def ie7:List (Nat×Sum):=[(163,Mc3),(191,Sa2)]
theorem Rd0:i7 prog G ie7:=⟨md6,hb6,trivial⟩
noncomputable def ub4(x:Pln):Option (b7×List b8):=let t1:=(cb9 x.n);(sl (decide (x.n.x<(-4608))) (some (b false,[])) (sl (decide (x.n.x>4608)) (some (b false,[])) (sl (decide (x.n.y<(-4608))) (some (b false,[])) (sl (decide (x.n.y>4608)) (some (b false,[])) (sl (decide (x.n.z<(-4608))) (some (b false,[])) (sl (decide (x.n.z>4608)) (some (b false,[])) (sl (Kb1 x.n) (sl (t1.2==1) (sl (decide (x.b>=(-2097152))) (some (b (decide (x.b<=2097152)),[])) (some (b false,[]))) (some (b false,[]))) none)))))))
noncomputable def ub5(x:Pln):Bool:=E9 (one r1B) (ub4 x)
noncomputable def ub6(x:Pln):Bool:=okO (one r1B) (ub4 x)
noncomputable def uc4:Sum:=O9 (I8 tP) (λx=>.guard (ub6 x) (.ret ((one r1B).enc (ub5 x),[])))
theorem Tc4:i5 prog G 156 uc4:=ua7 (bd Fg8 Rd0) (one r1B) (o:=ub4) λx=>o5 (by kernel_rfl)
noncomputable def Tc5:List (Nat×Sum):=[(156,uc4)]
theorem Rd1:i7 prog G Tc5:=⟨Tc4,trivial⟩
structure Wa9 where
 d9:List Pln
structure ea9 where
 is3:Int
noncomputable def uc5(p:Wa9)(s:ea9):St:=⟨eL tP p.d9::.unk::.unk::i s.is3::ra 15 [],[]⟩
noncomputable def Fa1{α:Type}(k:ea9->α)(e:Nat->α)(z:α)(p:Wa9)(s:ea9):α:=let t1:=(ub5 (gL tP p.d9 s.is3.toNat));(sl (decide (s.is3<(↑(List.length p.d9):Int))) (sl (inB s.is3 (List.length p.d9)) (sl (ub6 (gL tP p.d9 s.is3.toNat)) (sl (!t1) (e 1) (k ⟨W (s.is3+1)⟩)) z) z) (e 2))
noncomputable def Na5(p:Wa9)(s:ea9):Stp ea9:=Fa1 .next .exit .fail p s
noncomputable def Wb0:Lo Wa9 ea9:=⟨En Tc5,0,Wf7,[1,1,0,1,4,4],[0,3],.p,[⟨sLq tP::sUq::sUq::sIq::ru2 15 [],[],λa H=>(⟨aLq tP a 0⟩,⟨aIq a 3⟩)⟩],Na5,[(none,λp s=>⟨[i 12],[]⟩),(some 0,λp s=>upq (uc5 p s) [(7,i s.is3),(8,eL tP p.d9),(9,i (↑(List.length p.d9):Int)),(10,b (decide (s.is3<(↑(List.length p.d9):Int))))])],uc5⟩
theorem Dd2:Wb0.Ok:=Lo.ok [] (by kernel_rfl) .nil rfl (.cons (λa H=>by kernel_rfl) .nil) λp s=>(.of @Fa1 (λF _ _ _ _ _=>by unfold Fa1;(repeat' apply j6 (f:=F))<;>rfl) (by kernel_rfl))
noncomputable def ub7(x:List Pln):Option (b7×List b8):=let t1:=(lp (Na5 (⟨rt tP x⟩:Wa9)) (⟨0⟩:ea9));(sl (decide ((↑(List.length x):Int)>48)) (some (i 2,[])) (sl ((cnE tP x)&&true) (sl (Nat.beq t1.1 1) (some (i 12,[])) (sl (Nat.beq t1.1 2) (some (i 0,[])) none)) none))
noncomputable def Tb0(x:List Pln):Int:=E9 (one r1I) (ub7 x)
noncomputable def Tb1(x:List Pln):Bool:=okO (one r1I) (ub7 x)
noncomputable def md7:Sum:=O9 (ea7 tP) (λx=>.guard (Tb1 x) (.ret ((one r1I).enc (Tb0 x),[])))
theorem ie8:i5 prog G 100 md7:=ua7 (bd Cg3 Rd1) (one r1I) (o:=ub7) λx=>za7 (.s .p (.s .p (.s (.s .p (.b (.u Wb0.ls))) .p))) [Wb0.pr] (by kernel_rfl) (.cons Dd2 .nil) (by kernel_rfl)
noncomputable def Oe4:List (Nat×Sum):=[]
theorem ze4:i7 prog G Oe4:=trivial
noncomputable def Ac9(x:V3)(y:V3):Option (b7×List b8):=(some (.sl 0 0 6 0,[⟨73,4,[[i 1,i 0,i 0,i y.x],[i (-1),i 0,i 0,i (W (0-x.x))],[i 0,i 1,i 0,i y.y],[i 0,i (-1),i 0,i (W (0-x.y))],[i 0,i 0,i 1,i y.z],[i 0,i 0,i (-1),i (W (0-x.z))]],true,false,0⟩]))
noncomputable def bc4(x:V3)(y:V3):List Pln:=E9 (one (r1L tP)) (Ac9 x y)
noncomputable def Hb2(x:V3)(y:V3):Bool:=okO (one (r1L tP)) (Ac9 x y)
noncomputable def dd4:Sum:=ma5 (I8 tV) (I8 tV) (λx y=>.guard (Hb2 x y) (.ret ((one (r1L tP)).enc (bc4 x y),[])))
theorem Dd3:i5 prog G 63 dd4:=nb8 (bd b63 ze4) (one (r1L tP)) (o:=Ac9) λx y=>o5 (by kernel_rfl)
noncomputable def Oe5:List (Nat×Sum):=[(63,dd4)]
theorem ze5:i7 prog G Oe5:=⟨Dd3,trivial⟩
noncomputable def bc5(x:List Pln):Option (b7×List b8):=let t1:=(bc4 (⟨-24,-24,-24⟩:V3) (⟨24,24,24⟩:V3));(sl (Nat.beq (len (o8 (λk=>(tP).row (gL tP x k)) (List.range (List.length x)))) 0) (sl (Hb2 (⟨-24,-24,-24⟩:V3) (⟨24,24,24⟩:V3)) (sl (Nat.beq (len (o8 (λk=>(tP).row (gL tP t1 k)) (List.range (List.length t1)))) 0) (some (.sl 0 0 0 0,[⟨73,4,[],true,false,0⟩])) (sl (Nat.beq 0 0&&Nat.ble ((0+(len (o8 (λk=>(tP).row (gL tP t1 k)) (List.range (List.length t1)))))*32) room) (some ((.sl 0 0 (0+(len (o8 (λk=>(tP).row (gL tP t1 k)) (List.range (List.length t1))))) 0),[⟨73,4,(app [] (o8 (λk=>(tP).row (gL tP t1 k)) (List.range (List.length t1)))),true,false,0⟩])) none)) none) (sl (Nat.beq 0 0&&Nat.ble ((0+(len (o8 (λk=>(tP).row (gL tP x k)) (List.range (List.length x)))))*32) room) (sl (Hb2 (⟨-24,-24,-24⟩:V3) (⟨24,24,24⟩:V3)) (sl (Nat.beq (len (o8 (λk=>(tP).row (gL tP t1 k)) (List.range (List.length t1)))) 0) (some ((.sl 0 0 (0+(len (o8 (λk=>(tP).row (gL tP x k)) (List.range (List.length x))))) 0),[⟨73,4,(app [] (o8 (λk=>(tP).row (gL tP x k)) (List.range (List.length x)))),true,false,0⟩])) (sl (Nat.beq (0+(len (o8 (λk=>(tP).row (gL tP x k)) (List.range (List.length x))))) (len (app [] (o8 (λk=>(tP).row (gL tP x k)) (List.range (List.length x)))))&&Nat.ble (((0+(len (o8 (λk=>(tP).row (gL tP x k)) (List.range (List.length x)))))+(len (o8 (λk=>(tP).row (gL tP t1 k)) (List.range (List.length t1)))))*32) room) (some ((.sl 0 0 ((0+(len (o8 (λk=>(tP).row (gL tP x k)) (List.range (List.length x)))))+(len (o8 (λk=>(tP).row (gL tP t1 k)) (List.range (List.length t1))))) 0),[⟨73,4,(app (app [] (o8 (λk=>(tP).row (gL tP x k)) (List.range (List.length x)))) (o8 (λk=>(tP).row (gL tP t1 k)) (List.range (List.length t1)))),true,false,0⟩])) none)) none) none))
noncomputable def Bc0(x:List Pln):List Pln:=E9 (one (r1L tP)) (bc5 x)
noncomputable def Bc1(x:List Pln):Bool:=okO (one (r1L tP)) (bc5 x)
noncomputable def ae1:Sum:=O9 (ea7 tP) (λx=>.guard (Bc1 x) (.ret ((one (r1L tP)).enc (Bc0 x),[])))
theorem Oe6:i5 prog G 124 ae1:=ua7 (bd Dg9 ze5) (one (r1L tP)) (o:=bc5) λx=>o5 (by kernel_rfl)
noncomputable def uc6:List (Nat×Sum):=[(181,Gc2),(158,Lc9)]
theorem ie9:i7 prog G uc6:=⟨Dd1,md2,trivial⟩
structure hb7 where
 d9:List Pln
 Vb3:List Pt
 is4:Int
structure ua9 where
 bs5:Bool
 is6:Int
noncomputable def Gc4(p:hb7)(s:ua9):St:=⟨eL tP p.d9::.unk::.unk::eL tX p.Vb3::i p.is4::b s.bs5::i s.is6::ra 29 [],[]⟩
noncomputable def Na6{α:Type}(k:ua9->α)(e:Nat->α)(z:α)(p:hb7)(s:ua9):α:=let t1:=(Jb4 (gL tP p.d9 p.is4.toNat) (gL tX p.Vb3 s.is6.toNat));(sl (decide (s.is6<(↑(List.length p.Vb3):Int))) (sl s.bs5 (k ⟨true,W (s.is6+1)⟩) (sl (inB p.is4 (List.length p.d9)) (sl (inB s.is6 (List.length p.Vb3)) (k ⟨decide (t1>0),W (s.is6+1)⟩) z) z)) (e 1))
noncomputable def Ia9(p:hb7)(s:ua9):Stp ua9:=Na6 .next .exit .fail p s
noncomputable def ic8:Lo hb7 ua9:=⟨En uc6,0,rf9,[1,1,0,1,4,4,1,0,4,1,0,1,4,4],[0,3,4,5,6],.p,[⟨sLq tP::sUq::sUq::sLq tX::sIq::sBq::sIq::ru2 29 [],[],λa H=>(⟨aLq tP a 0,aLq tX a 3,aIq a 4⟩,⟨aBq a 5,aIq a 6⟩)⟩],Ia9,[(some 2,λp s=>upq (Gc4 p s) [(15,i s.is6),(16,eL tX p.Vb3),(17,i (↑(List.length p.Vb3):Int)),(18,b (decide (s.is6<(↑(List.length p.Vb3):Int))))])],Gc4⟩
theorem Rd2:ic8.Ok:=Lo.ok [] (by kernel_rfl) .nil rfl (.cons (λa H=>by kernel_rfl) .nil) λp s=>(.of @Na6 (λF _ _ _ _ _=>by unfold Na6;(repeat' apply j6 (f:=F))<;>rfl) (by kernel_rfl))
structure hb8 where
structure ma7 where
 d9:List Pln
 Vb3:List Pt
 is4:Int
noncomputable def Gc5(p:hb8)(s:ma7):St:=⟨eL tP s.d9::.unk::.unk::eL tX s.Vb3::i s.is4::ra 31 [],[]⟩
noncomputable def Na7{α:Type}(k:ma7->α)(e:Nat->α)(z:α)(p:hb8)(s:ma7):α:=let t1:=(lp (Ia9 (⟨rt tP s.d9,rt tX s.Vb3,s.is4⟩:hb7)) (⟨false,0⟩:ua9));(sl (decide (s.is4<(↑(List.length s.d9):Int))) (sl ((cnE tP s.d9)&&((cnE tX s.Vb3)&&true)) (sl (Nat.beq t1.1 1) (sl (!t1.2.bs5) (e 1) (k ⟨rt tP s.d9,rt tX s.Vb3,W (s.is4+1)⟩)) z) z) (e 2))
noncomputable def Xa0(p:hb8)(s:ma7):Stp ma7:=Na7 .next .exit .fail p s
noncomputable def ic9:Lo hb8 ma7:=⟨En uc6,0,rf9,[1,1,0,1,4,4],[0,3,4],.s .p (.s (.b (.s .p (.s (.s .p (.b (.u ic8.ls))) .p))) .p),[⟨sLq tP::sUq::sUq::sLq tX::sIq::ru2 31 [],[],λa H=>(⟨⟩,⟨aLq tP a 0,aLq tX a 3,aIq a 4⟩)⟩],Xa0,[(none,λp s=>⟨[b false],[]⟩),(some 0,λp s=>upq (Gc5 p s) [(9,i s.is4),(10,eL tP s.d9),(11,i (↑(List.length s.d9):Int)),(12,b (decide (s.is4<(↑(List.length s.d9):Int))))])],Gc5⟩
theorem Rd3:ic9.Ok:=Lo.ok [ic8.pr] (by kernel_rfl) (.cons Rd2 .nil) rfl (.cons (λa H=>by kernel_rfl) .nil) λp s=>(.of @Na7 (λF _ _ _ _ _=>by unfold Na7;(repeat' apply j6 (f:=F))<;>rfl) (by kernel_rfl))
noncomputable def Kb2(x:List Pln):Option (b7×List b8):=let t1:=(rb1 (rt tP x));let t2:=(lp (Xa0 (⟨⟩:hb8)) (⟨rt tP x,rt tX t1,0⟩:ma7));(sl (okE tP x) (sl (rb2 (rt tP x)) (sl ((cnE tP x)&&((cnE tX t1)&&true)) (sl (Nat.beq t2.1 1) (some (b false,[])) (sl (Nat.beq t2.1 2) (some (b true,[])) none)) none) none) none)
noncomputable def jc0(x:List Pln):Bool:=E9 (one r1B) (Kb2 x)
noncomputable def jc1(x:List Pln):Bool:=okO (one r1B) (Kb2 x)
noncomputable def Dd4:Sum:=O9 (ea7 tP) (λx=>.guard (jc1 x) (.ret ((one r1B).enc (jc0 x),[])))
theorem ze6:i5 prog G 123 Dd4:=ua7 (bd Dg8 ie9) (one r1B) (o:=Kb2) λx=>za7 (.s .p (.s .p (.s (.s .p (.b (.u ic9.ls))) .p))) [ic9.pr] (by kernel_rfl) (.cons Rd3 .nil) (by kernel_rfl)
noncomputable def ze7:List (Nat×Sum):=[(100,md7),(124,ae1),(123,Dd4)]
theorem je0:i7 prog G ze7:=⟨ie8,Oe6,ze6,trivial⟩
noncomputable def Kb3(x:List Pln):Option (b7×List b8):=let t1:=(Tb0 (rt tP x));let t2:=(Bc0 (rt tP x));let t3:=(jc0 (rt tP t2));(sl (okE tP x) (sl (Tb1 (rt tP x)) (sl (t1==0) (sl (okE tP x) (sl (Bc1 (rt tP x)) (sl (okE tP t2) (sl (jc1 (rt tP t2)) (some (b t3,[])) none) none) none) none) (some (b false,[]))) none) none)
noncomputable def db0(x:List Pln):Bool:=E9 (one r1B) (Kb3 x)
noncomputable def Na8(x:List Pln):Bool:=okO (one r1B) (Kb3 x)
noncomputable def Dd5:Sum:=O9 (ea7 tP) (λx=>.guard (Na8 x) (.ret ((one r1B).enc (db0 x),[])))
theorem ze8:i5 prog G 70 Dd5:=ua7 (bd b70 je0) (one r1B) (o:=Kb3) λx=>o5 (by kernel_rfl)
noncomputable def Oe7:List (Nat×Sum):=[]
theorem ze9:i7 prog G Oe7:=trivial
noncomputable def bc6(x:Int)(y:Int):Option (b7×List b8):=(sl (decide (y<1)) (some (i 0,[])) (sl (y==0) none (sl (y==0) none (some (i (Int.tmod (W ((Int.tmod x y)+y)) y),[])))))
noncomputable def bc7(x:Int)(y:Int):Int:=E9 (one r1I) (bc6 x y)
noncomputable def bc8(x:Int)(y:Int):Bool:=okO (one r1I) (bc6 x y)
noncomputable def dd5:Sum:=ma5 cI cI (λx y=>.guard (bc8 x y) (.ret ((one r1I).enc (bc7 x y),[])))
theorem Dd6:i5 prog G 27 dd5:=nb8 (bd b27 ze9) (one r1I) (o:=bc6) λx y=>o5 (by kernel_rfl)
noncomputable def je1:List (Nat×Sum):=[]
theorem Rd4:i7 prog G je1:=trivial
noncomputable def j7(x:V3)(y:V3):Int:=(W ((W ((W (x.x*y.x))+(W (x.y*y.y))))+(W (x.z*y.z))))
noncomputable def Ca5:Sum:=ma5 (I8 tV) (I8 tV) (λx y=>.ret ((one r1I).enc (j7 x y),[]))
theorem Da2:i5 prog G 83 Ca5:=Aa1 (bd b83 Rd4) λx y=>o5 (by kernel_rfl)
noncomputable def je2:List (Nat×Sum):=[]
theorem Rd5:i7 prog G je2:=trivial
noncomputable def g9(x:V3)(y:V3):V3:=(⟨W (x.x+y.x),W (x.y+y.y),W (x.z+y.z)⟩:V3)
noncomputable def Tb2:Sum:=ma5 (I8 tV) (I8 tV) (λx y=>.ret ((one r1V).enc (g9 x y),[]))
theorem jc2:i5 prog G 34 Tb2:=Aa1 (bd b34 Rd5) λx y=>o5 (by kernel_rfl)
noncomputable def Rd6:List (Nat×Sum):=[]
theorem Dd7:i7 prog G Rd6:=trivial
noncomputable def va0(x:V3)(y:Int):V3:=(⟨W (x.x*y),W (x.y*y),W (x.z*y)⟩:V3)
noncomputable def Tc6:Sum:=ma5 (I8 tV) cI (λx y=>.ret ((one r1V).enc (va0 x y),[]))
theorem Rd7:i5 prog G 116 Tc6:=Aa1 (bd Dg3 Dd7) λx y=>o5 (by kernel_rfl)
noncomputable def Dd8:List (Nat×Sum):=[]
theorem pd8:i7 prog G Dd8:=trivial
noncomputable def D8(x:V3)(y:V3):V3:=(⟨W ((W (x.y*y.z))-(W (x.z*y.y))),W ((W (x.z*y.x))-(W (x.x*y.z))),W ((W (x.x*y.y))-(W (x.y*y.x)))⟩:V3)
noncomputable def rb3:Sum:=ma5 (I8 tV) (I8 tV) (λx y=>.ret ((one r1V).enc (D8 x y),[]))
theorem Kb4:i5 prog G 142 rb3:=Aa1 (bd Fg1 pd8) λx y=>o5 (by kernel_rfl)
noncomputable def je3:List (Nat×Sum):=[(83,Ca5)]
theorem Rd8:i7 prog G je3:=⟨Da2,trivial⟩
noncomputable def Na9(x:Pln)(y:Pt):Int:=let t1:=(j7 x.n (⟨y.px,y.py,y.pz⟩:V3));(W ((W (x.b*y.pw))-t1))
noncomputable def uc7:Sum:=ma5 (I8 tP) (I8 tX) (λx y=>.ret ((one r1I).enc (Na9 x y),[]))
theorem Tc7:i5 prog G 153 uc7:=Aa1 (bd Fg7 Rd8) λx y=>o5 (by kernel_rfl)
noncomputable def uc8:List (Nat×Sum):=[]
theorem je4:i7 prog G uc8:=trivial
structure Sa3 where
 Ra7:List Int
 (is7 is8:Int)
structure va1 where
 (is3 is5:Int)
noncomputable def Gc6(p:Sa3)(s:va1):St:=⟨ra 3 (i s.is3::.unk::i s.is5::eL tI p.Ra7::i p.is7::i p.is8::ra 14 []),[]⟩
noncomputable def Oa0{α:Type}(k:va1->α)(e:Nat->α)(z:α)(p:Sa3)(s:va1):α:=(sl (s.is5 != 0) (sl (s.is5==0) z (k ⟨s.is5,Int.tmod s.is3 s.is5⟩)) (e 1))
noncomputable def Xa1(p:Sa3)(s:va1):Stp va1:=Oa0 .next .exit .fail p s
noncomputable def jc3:Lo Sa3 va1:=⟨En uc8,0,sf4,[1,1,0,1,4,4,1,1,0,4,1,4,4],[3,5,6,7,8],.p,[⟨ru2 3 (sIq::sUq::sIq::sLq tI::sIq::sIq::ru2 14 []),[],λa H=>(⟨aLq tI a 6,aIq a 7,aIq a 8⟩,⟨aIq a 3,aIq a 5⟩)⟩],Xa1,[(some 2,λp s=>upq (Gc6 p s) [(12,i s.is5),(13,b (s.is5 != 0))])],Gc6⟩
theorem Rd9:jc3.Ok:=Lo.ok [] (by kernel_rfl) .nil rfl (.cons (λa H=>by kernel_rfl) .nil) λp s=>(.of @Oa0 (λF _ _ _ _ _=>by unfold Oa0;(repeat' apply j6 (f:=F))<;>rfl) (by kernel_rfl))
structure hb9 where
 is7:Int
structure va2 where
 is3:Int
 Ra7:List Int
 is8:Int
noncomputable def Gc7(p:hb9)(s:va2):St:=⟨ra 3 (i s.is3::.unk::.unk::eL tI s.Ra7::i p.is7::i s.is8::ra 14 []),[]⟩
noncomputable def Oa1{α:Type}(k:va2->α)(e:Nat->α)(z:α)(p:hb9)(s:va2):α:=let t1:=(lp (Xa1 (⟨rt tI s.Ra7,p.is7,s.is8⟩:Sa3)) (⟨s.is3,gL tI s.Ra7 s.is8.toNat⟩:va1));(sl (decide (s.is8<p.is7)) (sl (inB s.is8 (List.length s.Ra7)) (sl ((cnE tI s.Ra7)&&true) (sl (Nat.beq t1.1 1) (k ⟨t1.2.is3,rt tI s.Ra7,W (s.is8+1)⟩) z) z) z) (e 1))
noncomputable def Ja0(p:hb9)(s:va2):Stp va2:=Oa1 .next .exit .fail p s
noncomputable def jc4:Lo hb9 va2:=⟨En uc8,0,sf4,[1,1,0,1,4,4],[3,6,7,8],.s .p (.s .p (.s (.b (.s .p (.b (.u jc3.ls)))) .p)),[⟨ru2 3 (sIq::sUq::sUq::sLq tI::sIq::sIq::ru2 14 []),[],λa H=>(⟨aIq a 7⟩,⟨aIq a 3,aLq tI a 6,aIq a 8⟩)⟩],Ja0,[(some 0,λp s=>upq (Gc7 p s) [(9,b (decide (s.is8<p.is7)))])],Gc7⟩
theorem Sd0:jc4.Ok:=Lo.ok [jc3.pr] (by kernel_rfl) (.cons Rd9 .nil) rfl (.cons (λa H=>by kernel_rfl) .nil) λp s=>(.of @Oa1 (λF _ _ _ _ _=>by unfold Oa1;(repeat' apply j6 (f:=F))<;>rfl) (by kernel_rfl))
noncomputable def Kb5(x:List Int):Option (b7×List b8):=let t1:=(lp (Ja0 (⟨(↑(List.length x):Int)⟩:hb9)) (⟨0,rt tI x,0⟩:va2));(sl ((cnE tI x)&&true) (sl (Nat.beq t1.1 1) (some ((i (if (W (0-t1.2.is3))>t1.2.is3 then (W (0-t1.2.is3)) else t1.2.is3)),[])) none) none)
noncomputable def jc5(x:List Int):Int:=E9 (one r1I) (Kb5 x)
noncomputable def jc6(x:List Int):Bool:=okO (one r1I) (Kb5 x)
noncomputable def Dd9:Sum:=O9 (ea7 tI) (λx=>.guard (jc6 x) (.ret ((one r1I).enc (jc5 x),[])))
theorem Ae0:i5 prog G 222 Dd9:=ua7 (bd Jg3 je4) (one r1I) (o:=Kb5) λx=>za7 (.s .p (.s .p (.s (.s .p (.b (.u jc4.ls))) .p))) [jc4.pr] (by kernel_rfl) (.cons Sd0 .nil) (by kernel_rfl)
noncomputable def je5:List (Nat×Sum):=[(142,rb3),(83,Ca5),(116,Tc6),(34,Tb2),(222,Dd9)]
theorem Sd1:i7 prog G je5:=⟨Kb4,Da2,Rd7,jc2,Ae0,trivial⟩
noncomputable def ub8(x:Tp):Option (b7×List b8):=let t1:=(D8 x.q.n x.r.n);let t3:=(va0 t1 x.p.b);let t4:=(g9 (⟨0,0,0⟩:V3) t3);let t5:=(D8 x.r.n x.p.n);let t7:=(va0 t5 x.q.b);let t8:=(g9 t4 t7);let t9:=(D8 x.p.n x.q.n);let t10:=(j7 x.r.n t9);let t11:=(va0 t9 x.r.b);let t12:=(g9 t8 t11);let t13:=(jc5 [t12.x,t12.y,t12.z,t10]);(sl (t10==0) (some (.tup [.agg [i 0,i 0,i 0,i 0],b false],[])) (sl (jc6 [t12.x,t12.y,t12.z,t10]) (sl (decide (t10<0)) (sl ((W (0-t13))==0) none (sl ((W (0-t13))==0) none (sl ((W (0-t13))==0) none (sl ((W (0-t13))==0) none (some (.tup [.agg [i (W (Int.tdiv t12.x (W (0-t13)))),i (W (Int.tdiv t12.y (W (0-t13)))),i (W (Int.tdiv t12.z (W (0-t13)))),i (W (Int.tdiv t10 (W (0-t13))))],b true],[])))))) (sl (t13==0) none (sl (t13==0) none (sl (t13==0) none (sl (t13==0) none (some (.tup [.agg [i (W (Int.tdiv t12.x t13)),i (W (Int.tdiv t12.y t13)),i (W (Int.tdiv t12.z t13)),i (W (Int.tdiv t10 t13))],b true],[]))))))) none))
noncomputable def ub9(x:Tp):Pt×Bool:=E9 (two r1X r1B) (ub8 x)
noncomputable def vb0(x:Tp):Bool:=okO (two r1X r1B) (ub8 x)
noncomputable def md8:Sum:=O9 (I8 tY) (λx=>.guard (vb0 x) (.ret ((two r1X r1B).enc (ub9 x),[])))
theorem je6:i5 prog G 195 md8:=ua7 (bd Ig4 Sd1) (two r1X r1B) (o:=ub8) λx=>o5 (by kernel_rfl)
structure ab2 where
 (K9 L0 L1 mb8 c8 b9 c9 g8:Int)
noncomputable def dd6:List (Nat×Sum):=[(153,uc7)]
theorem Tc8:i7 prog G dd6:=⟨Tc7,trivial⟩
structure Fa2 where
 bs0:Bool
noncomputable def Fa3{α:Type}(kk:Fa2->α)(x:ab2):α:=let t1:=(Na9 (⟨(⟨x.K9,x.L0,x.L1⟩:V3),x.mb8⟩:Pln) (⟨x.c8,x.b9,x.c9,x.g8⟩:Pt));(kk ⟨decide (t1<0)⟩)
noncomputable def zb0(x:ab2):Fa2:=Fa3 (λr=>r) x
noncomputable def nb9(x:ab2)(r:Fa2):DT (b7×List b8):=.ret (b r.bs0,[⟨0,4,[[i x.c8,i x.b9,i x.c9,i x.g8]],true,false,0⟩])
theorem pd9{α β:Type}(F:α->β)(kk:Fa2->α)(x:ab2):F (Fa3 kk x)=Fa3 (λr=>F (kk r)) x:=by unfold Fa3;(repeat' apply j6 (f:=F))<;>rfl
noncomputable def nc2:Sum:=Ka5 ⟨[.agg (kLq 4),sPq 0],[⟨0,4,true,some [kLq 4]⟩],λa H=>(⟨cIq a 0 0,cIq a 0 1,cIq a 0 2,cIq a 0 3,hIq H 0 0 0,hIq H 0 0 1,hIq H 0 0 2,hIq H 0 0 3⟩,())⟩ (λx=>nb9 x (zb0 x))
theorem dd7:i5 prog G 172 nc2:=B1 (enc:=λx=>⟨[.agg [i x.K9,i x.L0,i x.L1,i x.mb8],.ptr 0 0 0 0],[⟨0,4,[[i x.c8,i x.b9,i x.c9,i x.g8]],true,false,0⟩]⟩) (λa H=>by kernel_rfl) (bd Hg0 Tc8) λx=>o5 (Qha (b:=Fa3 (λr=>(nb9 x r).run) x) (by kernel_rfl) (pd9 (λr=>(nb9 x r).run) (λr=>r) x).symm)
structure ba5 where
 d9:List Pln
 (c8 b9 c9 g8:Int)
noncomputable def Oa2:List (Nat×Sum):=[(172,nc2)]
theorem Eb0:i7 prog G Oa2:=⟨dd7,trivial⟩
structure L3 where
 d9:List Pln
 (is7 c8 b9 c9 g8:Int)
structure p4 where
 is8:Int
noncomputable def Fa4(p:L3)(s:p4):St:=⟨eL tP p.d9::.fn 172 [.ptr 0 0 0 0]::ra 5 (i p.is7::i s.is8::ra 10 []),[⟨0,4,[[i p.c8,i p.b9,i p.c9,i p.g8]],true,false,0⟩]⟩
noncomputable def G7{α:Type}(k:p4->α)(e:Nat->α)(z:α)(p:L3)(s:p4):α:=let t1:=(zb0 ⟨(gL tP p.d9 s.is8.toNat).n.x,(gL tP p.d9 s.is8.toNat).n.y,(gL tP p.d9 s.is8.toNat).n.z,(gL tP p.d9 s.is8.toNat).b,p.c8,p.b9,p.c9,p.g8⟩);(sl (decide (s.is8<p.is7)) (sl (inB s.is8 (List.length p.d9)) (sl t1.bs0 (e 1) (k ⟨W (s.is8+1)⟩)) z) (e 2))
noncomputable def J2(p:L3)(s:p4):Stp p4:=G7 .next .exit .fail p s
noncomputable def ma8:Lo L3 p4:=⟨En Oa2,1,Ve8,[1,0,1,4,4],[0,1,7,8],.p,[⟨sLq tP::.fn 172 [.o (.ptr 0 0 0 0)]::ru2 5 (sIq::sIq::ru2 10 []),[⟨0,4,true,some [kLq 4]⟩],λa H=>(⟨aLq tP a 0,aIq a 7,hIq H 0 0 0,hIq H 0 0 1,hIq H 0 0 2,hIq H 0 0 3⟩,⟨aIq a 8⟩)⟩],J2,[(none,λp s=>⟨[i s.is8],[⟨0,4,[[i p.c8,i p.b9,i p.c9,i p.g8]],true,false,0⟩]⟩),(some 0,λp s=>upq (Fa4 p s) [(9,b (decide (s.is8<p.is7)))])],Fa4⟩
theorem zb1:ma8.Ok:=Lo.ok [] (by kernel_rfl) .nil rfl (.cons (λa H=>by kernel_rfl) .nil) λp s=>(.of @G7 (λF _ _ _ _ _=>by unfold G7;(repeat' apply j6 (f:=F))<;>rfl) (by kernel_rfl))
structure ba6 where
 alt:Nat
 is0:Int
noncomputable def H9{α:Type}(kk:ba6->α)(x:ba5):α:=let t1:=(lp (J2 (⟨rt tP x.d9,(↑(List.length x.d9):Int),x.c8,x.b9,x.c9,x.g8⟩:L3)) (⟨0⟩:p4));(sl ((cnE tP x.d9)&&true) (sl (Nat.beq t1.1 1) (kk ⟨1,t1.2.is8⟩) (sl (Nat.beq t1.1 2) (kk ⟨1,-1⟩) (kk ⟨0,0⟩))) (kk ⟨0,0⟩))
noncomputable def ba7(x:ba5):ba6:=H9 (λr=>r) x
noncomputable def qa3(x:ba5)(r:ba6):DT (b7×List b8):=(.ite (Nat.beq r.alt 1) (.ret (i r.is0,[⟨0,4,[[i x.c8,i x.b9,i x.c9,i x.g8]],true,false,0⟩])) .fail)
theorem Pb9{α β:Type}(F:α->β)(kk:ba6->α)(x:ba5):F (H9 kk x)=H9 (λr=>F (kk r)) x:=by unfold H9;(repeat' apply j6 (f:=F))<;>rfl
noncomputable def Ua0:Sum:=Ka5 ⟨[sLq tP,.fn 172 [.o (.ptr 0 0 0 0)]],[⟨0,4,true,some [kLq 4]⟩],λa H=>(⟨aLq tP a 0,hIq H 0 0 0,hIq H 0 0 1,hIq H 0 0 2,hIq H 0 0 3⟩,())⟩ (λx=>qa3 x (ba7 x))
theorem Kb6:i5 prog G 139 Ua0:=B1 (enc:=λx=>⟨[eL tP x.d9,.fn 172 [.ptr 0 0 0 0]],[⟨0,4,[[i x.c8,i x.b9,i x.c9,i x.g8]],true,false,0⟩]⟩) (λa H=>by kernel_rfl) (bd eg5 Eb0) λx=>za7 (.s .p (.s (.s .p (.b (.u ma8.ls))) .p)) [ma8.pr] (by kernel_rfl) (.cons zb1 .nil) (Qha (b:=H9 (λr=>(qa3 x r).run) x) (by kernel_rfl) (Pb9 (λr=>(qa3 x r).run) (λr=>r) x).symm)
structure T4 where
 d9:List Pln
 (c8 b9 c9 g8:Int)
noncomputable def vb1:List (Nat×Sum):=[(139,Ua0)]
theorem ob0:i7 prog G vb1:=⟨Kb6,trivial⟩
structure T5 where
 alt:Nat
 bs0:Bool
noncomputable def C7{α:Type}(kk:T5->α)(x:T4):α:=let t1:=(ba7 ⟨rt tP x.d9,x.c8,x.b9,x.c9,x.g8⟩);(sl ((cnE tP x.d9)&&true) (sl (Nat.beq t1.alt 1) (kk ⟨1,decide (t1.is0>=0)⟩) (kk ⟨0,false⟩)) (kk ⟨0,false⟩))
noncomputable def ka8(x:T4):T5:=C7 (λr=>r) x
noncomputable def ga2(x:T4)(r:T5):DT (b7×List b8):=(.ite (Nat.beq r.alt 1) (.ret (b r.bs0,[⟨0,4,[[i x.c8,i x.b9,i x.c9,i x.g8]],true,false,0⟩])) .fail)
theorem zb2{α β:Type}(F:α->β)(kk:T5->α)(x:T4):F (C7 kk x)=C7 (λr=>F (kk r)) x:=by unfold C7;(repeat' apply j6 (f:=F))<;>rfl
noncomputable def Fa5:Sum:=Ka5 ⟨[sLq tP,.fn 172 [.o (.ptr 0 0 0 0)]],[⟨0,4,true,some [kLq 4]⟩],λa H=>(⟨aLq tP a 0,hIq H 0 0 0,hIq H 0 0 1,hIq H 0 0 2,hIq H 0 0 3⟩,())⟩ (λx=>ga2 x (ka8 x))
theorem vb2:i5 prog G 86 Fa5:=B1 (enc:=λx=>⟨[eL tP x.d9,.fn 172 [.ptr 0 0 0 0]],[⟨0,4,[[i x.c8,i x.b9,i x.c9,i x.g8]],true,false,0⟩]⟩) (λa H=>by kernel_rfl) (bd b86 ob0) λx=>o5 (Qha (b:=C7 (λr=>(ga2 x r).run) x) (by kernel_rfl) (zb2 (λr=>(ga2 x r).run) (λr=>r) x).symm)
noncomputable def Ed0:List (Nat×Sum):=[(86,Fa5)]
theorem qd0:i7 prog G Ed0:=⟨vb2,trivial⟩
noncomputable def Xa2(x:List Pln)(y:Pt):Option (b7×List b8):=let t1:=(ka8 ⟨rt tP x,y.px,y.py,y.pz,y.pw⟩);(sl ((cnE tP x)&&true) (sl (Nat.beq t1.alt 1) (some (b (!t1.bs0),[])) none) none)
noncomputable def fa0(x:List Pln)(y:Pt):Bool:=E9 (one r1B) (Xa2 x y)
noncomputable def fa1(x:List Pln)(y:Pt):Bool:=okO (one r1B) (Xa2 x y)
noncomputable def rb4:Sum:=ma5 (ea7 tP) (I8 tX) (λx y=>.guard (fa1 x y) (.ret ((one r1B).enc (fa0 x y),[])))
theorem Kb7:i5 prog G 115 rb4:=nb8 (bd Dg2 qd0) (one r1B) (o:=Xa2) λx y=>o5 (by kernel_rfl)
noncomputable def Xa3:List (Nat×Sum):=[]
theorem Qb0:i7 prog G Xa3:=trivial
@[reducible] noncomputable def eb4:Sum:=Fc1 (En Xa3) Yf3
theorem Wb1:i5 prog G 221 eb4:=bd Jg2 Qb0
noncomputable def ib0:List (Nat×Sum):=[(221,eb4)]
theorem bc9:i7 prog G ib0:=⟨Wb1,trivial⟩
@[reducible] noncomputable def mb5:Sum:=Fc1 (En ib0) Xf9
theorem jc7:i5 prog G 194 mb5:=bd Ig3 bc9
noncomputable def ma9:List (Nat×Sum):=[(195,md8),(115,rb4),(194,mb5)]
theorem cc2:i7 prog G ma9:=⟨je6,Kb7,jc7,trivial⟩
structure k9 where
 is3:Int
 ka3:List Pln
 (v7 ha9:Int)
 Wd3:Nat
 gc1:Nat->List b7
 (ld0 La3:Int)
 Gf9:Nat
 Pb4:Nat->List b7
 Se7:Int
 e8:List Pln
 (y5 y6 y7 ka4 Aa3 Aa4 Aa5 mc6:Int)
 Ta9:List Pln
structure l5 where
 ph:Nat
 Ma6:Int
 Gb5:Nat
 (eh6 eh7:List (List b7))
noncomputable def Ua1(p:k9)(s:l5):St:=⟨.unk::.ptr 0 0 0 0::.unk::i p.is3::.ptr 1 0 0 0::.unk::.ptr 2 0 0 0::.unk::.unk::eL tP p.ka3::i p.v7::i p.ha9::ra 7 (.tree 4 p.Wd3 p.gc1::i p.ld0::i p.La3::ra 9 (.tree 4 p.Gf9 p.Pb4::i p.Se7::i s.Ma6::ra 13 (i 0::.unk::.ptr 3 0 0 0::.v (.slice none 0 0)::.ptr 4 0 0 0::.ptr 5 0 0 0::ra 31 []))),[⟨0,1,[[eL tP p.e8]],true,false,0⟩,⟨0,4,[[i p.y5,i p.y6,i p.y7,i p.ka4]],true,false,0⟩,⟨0,4,[[i p.Aa3,i p.Aa4,i p.Aa5,i p.mc6]],true,false,0⟩,⟨0,1,[[eL tP p.Ta9]],true,false,0⟩,⟨0,0,[[.v (.slice none 0 0)]],true,false,0⟩,⟨0,0,[[.ptr 6 0 0 0]],true,false,0⟩,⟨182,0,[],true,false,0⟩]⟩
noncomputable def Ua2(p:k9)(s:l5):St:=⟨.unk::.ptr 0 0 0 0::.unk::i p.is3::.ptr 1 0 0 0::.unk::.ptr 2 0 0 0::.unk::.unk::eL tP p.ka3::i p.v7::i p.ha9::ra 7 (.tree 4 p.Wd3 p.gc1::i p.ld0::i p.La3::ra 9 (.tree 4 p.Gf9 p.Pb4::i p.Se7::i s.Ma6::ra 13 (i 0::.unk::.ptr 3 0 0 0::.v (.slice none 0 0)::.ptr 4 0 0 0::.ptr 5 0 0 0::ra 31 []))),[⟨0,1,[[eL tP p.e8]],true,false,0⟩,⟨0,4,[[i p.y5,i p.y6,i p.y7,i p.ka4]],true,false,0⟩,⟨0,4,[[i p.Aa3,i p.Aa4,i p.Aa5,i p.mc6]],true,false,0⟩,⟨0,1,[[eL tP p.Ta9]],true,false,0⟩,⟨0,0,[[.sl 6 0 s.Gb5 0]],true,false,0⟩,⟨0,0,[[.ptr 7 0 0 0]],true,false,0⟩,⟨136,4,s.eh6,true,false,0⟩,⟨182,0,s.eh7,true,false,0⟩]⟩
noncomputable def Wb2(p:k9)(s:l5):St:=(sel (Nat.beq s.ph 1) (Ua2 p s) (Ua1 p s))
noncomputable def B5{α:Type}(k:l5->α)(e:Nat->α)(z:α)(p:k9)(s:l5):α:=let t1:=(ub9 (⟨(⟨(⟨p.y5,p.y6,p.y7⟩:V3),p.ka4⟩:Pln),(⟨(⟨p.Aa3,p.Aa4,p.Aa5⟩:V3),p.mc6⟩:Pln),(⟨(⟨toI (hdA (p.Pb4 s.Ma6.toNat)),toI (hdA (tlA (p.Pb4 s.Ma6.toNat))),toI (hdA (tlA (tlA (p.Pb4 s.Ma6.toNat))))⟩:V3),toI (hdA (tlA (tlA (tlA (p.Pb4 s.Ma6.toNat)))))⟩:Pln)⟩:Tp));let t2:=(fa0 (rt tP p.Ta9) t1.1);(sl (decide (s.Ma6<p.Se7)) (sl (inB s.Ma6 p.Gf9) (sl ((Nat.ble 4 (len (p.Pb4 s.Ma6.toNat)))&&(oa7 [CK.int .i64,CK.int .i64,CK.int .i64,CK.int .i64] (p.Pb4 s.Ma6.toNat))) (sl (vb0 (⟨(⟨(⟨p.y5,p.y6,p.y7⟩:V3),p.ka4⟩:Pln),(⟨(⟨p.Aa3,p.Aa4,p.Aa5⟩:V3),p.mc6⟩:Pln),(⟨(⟨toI (hdA (p.Pb4 s.Ma6.toNat)),toI (hdA (tlA (p.Pb4 s.Ma6.toNat))),toI (hdA (tlA (tlA (p.Pb4 s.Ma6.toNat))))⟩:V3),toI (hdA (tlA (tlA (tlA (p.Pb4 s.Ma6.toNat)))))⟩:Pln)⟩:Tp)) (sl t1.2 (sl (!(La5 4 [(0,.int .i64),(1,.int .i64),(2,.int .i64),(3,.int .i64)] [i t1.1.px,i t1.1.py,i t1.1.pz,i t1.1.pw] [])) (sl (okE tP p.Ta9) (sl (fa1 (rt tP p.Ta9) t1.1) (sl t2 (k ⟨1,W (s.Ma6+1),1,[[i t1.1.px,i t1.1.py,i t1.1.pz,i t1.1.pw]],aa3 [(0,.int .i64),(1,.int .i64),(2,.int .i64),(3,.int .i64)] [i t1.1.px,i t1.1.py,i t1.1.pz,i t1.1.pw] [i t1.1.px,i t1.1.py,i t1.1.pz,i t1.1.pw,b true] []⟩) (k ⟨0,W (s.Ma6+1),0,[],[]⟩)) z) z) (k ⟨0,W (s.Ma6+1),0,[],[]⟩)) (k ⟨0,W (s.Ma6+1),0,[],[]⟩)) z) z) z) (e 1))
noncomputable def B6{α:Type}(k:l5->α)(e:Nat->α)(z:α)(p:k9)(s:l5):α:=let t1:=(ub9 (⟨(⟨(⟨p.y5,p.y6,p.y7⟩:V3),p.ka4⟩:Pln),(⟨(⟨p.Aa3,p.Aa4,p.Aa5⟩:V3),p.mc6⟩:Pln),(⟨(⟨toI (hdA (p.Pb4 s.Ma6.toNat)),toI (hdA (tlA (p.Pb4 s.Ma6.toNat))),toI (hdA (tlA (tlA (p.Pb4 s.Ma6.toNat))))⟩:V3),toI (hdA (tlA (tlA (tlA (p.Pb4 s.Ma6.toNat)))))⟩:Pln)⟩:Tp));let t2:=(fa0 (rt tP p.Ta9) t1.1);(sl (decide (s.Ma6<p.Se7)) (sl (inB s.Ma6 p.Gf9) (sl ((Nat.ble 4 (len (p.Pb4 s.Ma6.toNat)))&&(oa7 [CK.int .i64,CK.int .i64,CK.int .i64,CK.int .i64] (p.Pb4 s.Ma6.toNat))) (sl (vb0 (⟨(⟨(⟨p.y5,p.y6,p.y7⟩:V3),p.ka4⟩:Pln),(⟨(⟨p.Aa3,p.Aa4,p.Aa5⟩:V3),p.mc6⟩:Pln),(⟨(⟨toI (hdA (p.Pb4 s.Ma6.toNat)),toI (hdA (tlA (p.Pb4 s.Ma6.toNat))),toI (hdA (tlA (tlA (p.Pb4 s.Ma6.toNat))))⟩:V3),toI (hdA (tlA (tlA (tlA (p.Pb4 s.Ma6.toNat)))))⟩:Pln)⟩:Tp)) (sl t1.2 (sl (!(La5 4 [(0,.int .i64),(1,.int .i64),(2,.int .i64),(3,.int .i64)] [i t1.1.px,i t1.1.py,i t1.1.pz,i t1.1.pw] s.eh7)) (sl (okE tP p.Ta9) (sl (fa1 (rt tP p.Ta9) t1.1) (sl t2 (sl (Nat.beq s.Gb5 (len s.eh6)&&Nat.ble ((s.Gb5+1)*32) room) (k ⟨1,W (s.Ma6+1),s.Gb5+1,app s.eh6 [[i t1.1.px,i t1.1.py,i t1.1.pz,i t1.1.pw]],aa3 [(0,.int .i64),(1,.int .i64),(2,.int .i64),(3,.int .i64)] [i t1.1.px,i t1.1.py,i t1.1.pz,i t1.1.pw] [i t1.1.px,i t1.1.py,i t1.1.pz,i t1.1.pw,b true] s.eh7⟩) z) (k ⟨1,W (s.Ma6+1),s.Gb5,s.eh6,s.eh7⟩)) z) z) (k ⟨1,W (s.Ma6+1),s.Gb5,s.eh6,s.eh7⟩)) (k ⟨1,W (s.Ma6+1),s.Gb5,s.eh6,s.eh7⟩)) z) z) z) (e 2))
noncomputable def A1(p:k9)(s:l5):Stp l5:=(sel (Nat.beq s.ph 1) (B6 .next .exit .fail p s) (B5 .next .exit .fail p s))
noncomputable def Ba1:Lo k9 l5:=⟨En ma9,0,Ve9,[1,1,1,0,1,4,4,1,4,4,1,1,0,4,1,1,4,4,1,1,0,4,1,1,4,4],[1,3,4,6,9,10,11,19,20,21,31,32,33,47,49,50,51,52],.p,[⟨sUq::sPq 0::sUq::sIq::sPq 1::sUq::sPq 2::sUq::sUq::sLq tP::sIq::sIq::ru2 7 (sTq 4::sIq::sIq::ru2 9 (sTq 4::sIq::sIq::ru2 13 (.s (.o (.lit .i64 0))::sUq::sPq 3::.s (.o .nil)::sPq 4::sPq 5::ru2 31 []))),[⟨0,1,true,some [[.c 4 (nL tP)]]⟩,⟨0,4,true,some [kLq 4]⟩,⟨0,4,true,some [kLq 4]⟩,⟨0,1,true,some [[.c 4 (nL tP)]]⟩,⟨0,0,true,some [[.o .nil]]⟩,⟨0,0,true,some [[.o (.ptr 6 0 0 0)]]⟩,⟨182,0,true,some []⟩],λa H=>(⟨aIq a 3,aLq tP a 9,aIq a 10,aIq a 11,aNq a 19,aGq a 19,aIq a 20,aIq a 21,aNq a 31,aGq a 31,aIq a 32,hLq tP H 0 0 0,hIq H 1 0 0,hIq H 1 0 1,hIq H 1 0 2,hIq H 1 0 3,hIq H 2 0 0,hIq H 2 0 1,hIq H 2 0 2,hIq H 2 0 3,hLq tP H 3 0 0⟩,⟨0,aIq a 33,0,[],[]⟩)⟩,⟨sUq::sPq 0::sUq::sIq::sPq 1::sUq::sPq 2::sUq::sUq::sLq tP::sIq::sIq::ru2 7 (sTq 4::sIq::sIq::ru2 9 (sTq 4::sIq::sIq::ru2 13 (.s (.o (.lit .i64 0))::sUq::sPq 3::.s (.o .nil)::sPq 4::sPq 5::ru2 31 []))),[⟨0,1,true,some [[.c 4 (nL tP)]]⟩,⟨0,4,true,some [kLq 4]⟩,⟨0,4,true,some [kLq 4]⟩,⟨0,1,true,some [[.c 4 (nL tP)]]⟩,⟨0,0,true,some [[.o (.sl 6 0 (some 0) none)]]⟩,⟨0,0,true,some [[.o (.ptr 7 0 0 0)]]⟩,⟨136,4,true,none⟩,⟨182,0,true,none⟩],λa H=>(⟨aIq a 3,aLq tP a 9,aIq a 10,aIq a 11,aNq a 19,aGq a 19,aIq a 20,aIq a 21,aNq a 31,aGq a 31,aIq a 32,hLq tP H 0 0 0,hIq H 1 0 0,hIq H 1 0 1,hIq H 1 0 2,hIq H 1 0 3,hIq H 2 0 0,hIq H 2 0 1,hIq H 2 0 2,hIq H 2 0 3,hLq tP H 3 0 0⟩,⟨1,aIq a 33,slN (slT (rwT (elT H 4) 0) 0),elT H 6,elT H 7⟩)⟩],A1,[(some 4,λp s=>upq (Ua1 p s) [(34,b (decide (s.Ma6<p.Se7)))]),(some 4,λp s=>upq (Ua2 p s) [(34,b (decide (s.Ma6<p.Se7)))])],Wb2⟩
theorem Wb3:Ba1.OkM:=Lo.okM [] (by kernel_rfl) .nil rfl (.cons (λa H=>by kernel_rfl) (.cons (λa H=>by kernel_rfl) .nil)) λp s=>(.sel (Nat.beq s.ph 1) (.of @B6 (λF _ _ _ _ _=>by unfold B6;(repeat' apply j6 (f:=F))<;>rfl) (by kernel_rfl)) (.of @B5 (λF _ _ _ _ _=>by unfold B5;(repeat' apply j6 (f:=F))<;>rfl) (by kernel_rfl)))
structure l6 where
 (is3 v7 ha9:Int)
 Wd3:Nat
 gc1:Nat->List b7
 (ld0 y5 y6 y7 ka4:Int)
structure m8 where
 ph:Nat
 ka3:List Pln
 La3:Int
 (e8 ka5:List Pln)
 A8:Nat
 (eh5 eh6:List (List b7))
noncomputable def Ua3(p:l6)(s:m8):St:=⟨.unk::.ptr 0 0 0 0::.unk::i p.is3::.ptr 1 0 0 0::ra 4 (eL tP s.ka3::i p.v7::i p.ha9::ra 7 (.tree 4 p.Wd3 p.gc1::i p.ld0::i s.La3::ra 25 (i 0::.unk::.ptr 2 0 0 0::.v (.slice none 0 0)::.ptr 3 0 0 0::.ptr 4 0 0 0::ra 31 []))),[⟨0,1,[[eL tP s.e8]],true,false,0⟩,⟨0,4,[[i p.y5,i p.y6,i p.y7,i p.ka4]],true,false,0⟩,⟨0,1,[[eL tP s.ka5]],true,false,0⟩,⟨0,0,[[.v (.slice none 0 0)]],true,false,0⟩,⟨0,0,[[.ptr 5 0 0 0]],true,false,0⟩,⟨182,0,[],true,false,0⟩]⟩
noncomputable def Ua4(p:l6)(s:m8):St:=⟨.unk::.ptr 0 0 0 0::.unk::i p.is3::.ptr 1 0 0 0::ra 4 (eL tP s.ka3::i p.v7::i p.ha9::ra 7 (.tree 4 p.Wd3 p.gc1::i p.ld0::i s.La3::ra 25 (i 0::.unk::.ptr 2 0 0 0::.v (.slice none 0 0)::.ptr 3 0 0 0::.ptr 4 0 0 0::ra 31 []))),[⟨0,1,[[eL tP s.e8]],true,false,0⟩,⟨0,4,[[i p.y5,i p.y6,i p.y7,i p.ka4]],true,false,0⟩,⟨0,1,[[eL tP s.ka5]],true,false,0⟩,⟨0,0,[[.sl 5 0 s.A8 0]],true,false,0⟩,⟨0,0,[[.ptr 6 0 0 0]],true,false,0⟩,⟨136,4,s.eh5,true,false,0⟩,⟨182,0,s.eh6,true,false,0⟩]⟩
noncomputable def Wb4(p:l6)(s:m8):St:=(sel (Nat.beq s.ph 1) (Ua4 p s) (Ua3 p s))
noncomputable def B7{α:Type}(k:m8->α)(e:Nat->α)(z:α)(p:l6)(s:m8):α:=let t1:=(lp (A1 (⟨p.is3,rt tP s.ka3,p.v7,p.ha9,p.Wd3,p.gc1,p.ld0,s.La3,(List.length s.e8)-(W ((W (p.is3+s.La3))+2)).toNat,(λk=>(λk=>(tP).row (gL tP s.e8 k)) ((W ((W (p.is3+s.La3))+2)).toNat+k)),(↑((List.length s.e8)-(W ((W (p.is3+s.La3))+2)).toNat):Int),rt tP s.e8,p.y5,p.y6,p.y7,p.ka4,toI (hdA (p.gc1 s.La3.toNat)),toI (hdA (tlA (p.gc1 s.La3.toNat))),toI (hdA (tlA (tlA (p.gc1 s.La3.toNat)))),toI (hdA (tlA (tlA (tlA (p.gc1 s.La3.toNat))))),rt tP s.ka5⟩:k9)) (⟨0,0,0,[],[]⟩:l5));(sl (decide (s.La3<p.ld0)) (sl (inB s.La3 p.Wd3) (sl ((Nat.ble 4 (len (p.gc1 s.La3.toNat)))&&(oa7 [CK.int .i64,CK.int .i64,CK.int .i64,CK.int .i64] (p.gc1 s.La3.toNat))) (sl (inB (W ((W (p.is3+s.La3))+2)) ((List.length s.e8)+1)) (sl ((cnE tP s.ka3)&&((cnE tP s.e8)&&((cnE tP s.ka5)&&true))) (sl (Nat.beq t1.1 1) (k ⟨0,rt tP s.ka3,W (s.La3+1),rt tP s.e8,rt tP s.ka5,0,[],[]⟩) (sl (Nat.beq t1.1 2) (k ⟨1,rt tP s.ka3,W (s.La3+1),rt tP s.e8,rt tP s.ka5,t1.2.Gb5,t1.2.eh6,t1.2.eh7⟩) z)) z) z) z) z) (e 1))
noncomputable def B9{α:Type}(k:m8->α)(e:Nat->α)(z:α)(p:l6)(s:m8):α:=let t1:=(lp (A1 (⟨p.is3,rt tP s.ka3,p.v7,p.ha9,p.Wd3,p.gc1,p.ld0,s.La3,(List.length s.e8)-(W ((W (p.is3+s.La3))+2)).toNat,(λk=>(λk=>(tP).row (gL tP s.e8 k)) ((W ((W (p.is3+s.La3))+2)).toNat+k)),(↑((List.length s.e8)-(W ((W (p.is3+s.La3))+2)).toNat):Int),rt tP s.e8,p.y5,p.y6,p.y7,p.ka4,toI (hdA (p.gc1 s.La3.toNat)),toI (hdA (tlA (p.gc1 s.La3.toNat))),toI (hdA (tlA (tlA (p.gc1 s.La3.toNat)))),toI (hdA (tlA (tlA (tlA (p.gc1 s.La3.toNat))))),rt tP s.ka5⟩:k9)) (⟨1,0,s.A8,s.eh5,s.eh6⟩:l5));(sl (decide (s.La3<p.ld0)) (sl (inB s.La3 p.Wd3) (sl ((Nat.ble 4 (len (p.gc1 s.La3.toNat)))&&(oa7 [CK.int .i64,CK.int .i64,CK.int .i64,CK.int .i64] (p.gc1 s.La3.toNat))) (sl (inB (W ((W (p.is3+s.La3))+2)) ((List.length s.e8)+1)) (sl ((cnE tP s.ka3)&&((cnE tP s.e8)&&((cnE tP s.ka5)&&true))) (sl (Nat.beq t1.1 1) (k ⟨0,rt tP s.ka3,W (s.La3+1),rt tP s.e8,rt tP s.ka5,0,[],[]⟩) (sl (Nat.beq t1.1 2) (k ⟨1,rt tP s.ka3,W (s.La3+1),rt tP s.e8,rt tP s.ka5,t1.2.Gb5,t1.2.eh6,t1.2.eh7⟩) z)) z) z) z) z) (e 2))
noncomputable def A2(p:l6)(s:m8):Stp m8:=(sel (Nat.beq s.ph 1) (B9 .next .exit .fail p s) (B7 .next .exit .fail p s))
noncomputable def Ba2:Lo l6 m8:=⟨En ma9,0,Ve9,[1,1,1,0,1,4,4,1,4,4,1,1,0,4,1,1,4,4],[1,3,4,9,10,11,19,20,21,47,49,50,51,52],.s .p (.s .p (.s (.b (.s .p (.s .p (.b (.u Ba1.lsM))))) .p)),[⟨sUq::sPq 0::sUq::sIq::sPq 1::ru2 4 (sLq tP::sIq::sIq::ru2 7 (sTq 4::sIq::sIq::ru2 25 (.s (.o (.lit .i64 0))::sUq::sPq 2::.s (.o .nil)::sPq 3::sPq 4::ru2 31 []))),[⟨0,1,true,some [[.c 4 (nL tP)]]⟩,⟨0,4,true,some [kLq 4]⟩,⟨0,1,true,some [[.c 4 (nL tP)]]⟩,⟨0,0,true,some [[.o .nil]]⟩,⟨0,0,true,some [[.o (.ptr 5 0 0 0)]]⟩,⟨182,0,true,some []⟩],λa H=>(⟨aIq a 3,aIq a 10,aIq a 11,aNq a 19,aGq a 19,aIq a 20,hIq H 1 0 0,hIq H 1 0 1,hIq H 1 0 2,hIq H 1 0 3⟩,⟨0,aLq tP a 9,aIq a 21,hLq tP H 0 0 0,hLq tP H 2 0 0,0,[],[]⟩)⟩,⟨sUq::sPq 0::sUq::sIq::sPq 1::ru2 4 (sLq tP::sIq::sIq::ru2 7 (sTq 4::sIq::sIq::ru2 25 (.s (.o (.lit .i64 0))::sUq::sPq 2::.s (.o .nil)::sPq 3::sPq 4::ru2 31 []))),[⟨0,1,true,some [[.c 4 (nL tP)]]⟩,⟨0,4,true,some [kLq 4]⟩,⟨0,1,true,some [[.c 4 (nL tP)]]⟩,⟨0,0,true,some [[.o (.sl 5 0 (some 0) none)]]⟩,⟨0,0,true,some [[.o (.ptr 6 0 0 0)]]⟩,⟨136,4,true,none⟩,⟨182,0,true,none⟩],λa H=>(⟨aIq a 3,aIq a 10,aIq a 11,aNq a 19,aGq a 19,aIq a 20,hIq H 1 0 0,hIq H 1 0 1,hIq H 1 0 2,hIq H 1 0 3⟩,⟨1,aLq tP a 9,aIq a 21,hLq tP H 0 0 0,hLq tP H 2 0 0,slN (slT (rwT (elT H 3) 0) 0),elT H 5,elT H 6⟩)⟩],A2,[(some 2,λp s=>upq (Ua3 p s) [(22,b (decide (s.La3<p.ld0)))]),(some 2,λp s=>upq (Ua4 p s) [(22,b (decide (s.La3<p.ld0)))])],Wb4⟩
theorem Wb5:Ba2.OkM:=Lo.okM [Ba1.prM] (by kernel_rfl) (.cons Wb3 .nil) rfl (.cons (λa H=>by kernel_rfl) (.cons (λa H=>by kernel_rfl) .nil)) λp s=>(.sel (Nat.beq s.ph 1) (.of @B9 (λF _ _ _ _ _=>by unfold B9;(repeat' apply j6 (f:=F))<;>rfl) (by kernel_rfl)) (.of @B7 (λF _ _ _ _ _=>by unfold B7;(repeat' apply j6 (f:=F))<;>rfl) (by kernel_rfl)))
structure r8 where
 v7:Int
structure o1 where
 ph:Nat
 ka3:List Pln
 ha9:Int
 (e8 r4:List Pln)
 xd5:Nat
 (eh4 eh5:List (List b7))
noncomputable def Ua5(p:r8)(s:o1):St:=⟨.unk::.ptr 0 0 0 0::ra 7 (eL tP s.ka3::i p.v7::i s.ha9::ra 35 (i 0::.unk::.ptr 1 0 0 0::.v (.slice none 0 0)::.ptr 2 0 0 0::.ptr 3 0 0 0::ra 31 [])),[⟨0,1,[[eL tP s.e8]],true,false,0⟩,⟨0,1,[[eL tP s.r4]],true,false,0⟩,⟨0,0,[[.v (.slice none 0 0)]],true,false,0⟩,⟨0,0,[[.ptr 4 0 0 0]],true,false,0⟩,⟨182,0,[],true,false,0⟩]⟩
noncomputable def Ua6(p:r8)(s:o1):St:=⟨.unk::.ptr 0 0 0 0::ra 7 (eL tP s.ka3::i p.v7::i s.ha9::ra 35 (i 0::.unk::.ptr 1 0 0 0::.v (.slice none 0 0)::.ptr 2 0 0 0::.ptr 3 0 0 0::ra 31 [])),[⟨0,1,[[eL tP s.e8]],true,false,0⟩,⟨0,1,[[eL tP s.r4]],true,false,0⟩,⟨0,0,[[.sl 4 0 s.xd5 0]],true,false,0⟩,⟨0,0,[[.ptr 5 0 0 0]],true,false,0⟩,⟨136,4,s.eh4,true,false,0⟩,⟨182,0,s.eh5,true,false,0⟩]⟩
noncomputable def Wb6(p:r8)(s:o1):St:=(sel (Nat.beq s.ph 1) (Ua6 p s) (Ua5 p s))
noncomputable def C0{α:Type}(k:o1->α)(e:Nat->α)(z:α)(p:r8)(s:o1):α:=let t1:=(lp (A2 (⟨s.ha9,p.v7,s.ha9,(List.length s.e8)-(W (s.ha9+1)).toNat,(λk=>(λk=>(tP).row (gL tP s.e8 k)) ((W (s.ha9+1)).toNat+k)),(↑((List.length s.e8)-(W (s.ha9+1)).toNat):Int),(gL tP s.ka3 s.ha9.toNat).n.x,(gL tP s.ka3 s.ha9.toNat).n.y,(gL tP s.ka3 s.ha9.toNat).n.z,(gL tP s.ka3 s.ha9.toNat).b⟩:l6)) (⟨0,rt tP s.ka3,0,rt tP s.e8,rt tP s.r4,0,[],[]⟩:m8));(sl (decide (s.ha9<p.v7)) (sl (inB s.ha9 (List.length s.ka3)) (sl (inB (W (s.ha9+1)) ((List.length s.e8)+1)) (sl ((cnE tP s.ka3)&&((cnE tP s.e8)&&((cnE tP s.r4)&&true))) (sl (Nat.beq t1.1 1) (k ⟨0,t1.2.ka3,W (s.ha9+1),t1.2.e8,t1.2.ka5,0,[],[]⟩) (sl (Nat.beq t1.1 2) (k ⟨1,t1.2.ka3,W (s.ha9+1),t1.2.e8,t1.2.ka5,t1.2.A8,t1.2.eh5,t1.2.eh6⟩) z)) z) z) z) (e 1))
noncomputable def C3{α:Type}(k:o1->α)(e:Nat->α)(z:α)(p:r8)(s:o1):α:=let t1:=(lp (A2 (⟨s.ha9,p.v7,s.ha9,(List.length s.e8)-(W (s.ha9+1)).toNat,(λk=>(λk=>(tP).row (gL tP s.e8 k)) ((W (s.ha9+1)).toNat+k)),(↑((List.length s.e8)-(W (s.ha9+1)).toNat):Int),(gL tP s.ka3 s.ha9.toNat).n.x,(gL tP s.ka3 s.ha9.toNat).n.y,(gL tP s.ka3 s.ha9.toNat).n.z,(gL tP s.ka3 s.ha9.toNat).b⟩:l6)) (⟨1,rt tP s.ka3,0,rt tP s.e8,rt tP s.r4,s.xd5,s.eh4,s.eh5⟩:m8));(sl (decide (s.ha9<p.v7)) (sl (inB s.ha9 (List.length s.ka3)) (sl (inB (W (s.ha9+1)) ((List.length s.e8)+1)) (sl ((cnE tP s.ka3)&&((cnE tP s.e8)&&((cnE tP s.r4)&&true))) (sl (Nat.beq t1.1 1) (k ⟨0,t1.2.ka3,W (s.ha9+1),t1.2.e8,t1.2.ka5,0,[],[]⟩) (sl (Nat.beq t1.1 2) (k ⟨1,t1.2.ka3,W (s.ha9+1),t1.2.e8,t1.2.ka5,t1.2.A8,t1.2.eh5,t1.2.eh6⟩) z)) z) z) z) (e 2))
noncomputable def A3(p:r8)(s:o1):Stp o1:=(sel (Nat.beq s.ph 1) (C3 .next .exit .fail p s) (C0 .next .exit .fail p s))
noncomputable def Ba3:Lo r8 o1:=⟨En ma9,0,Ve9,[1,1,1,0,1,4,4,1,4,4],[1,9,10,11,47,49,50,51,52],.s .p (.s .p (.s (.b (.s .p (.s .p (.b (.u Ba2.lsM))))) .p)),[⟨sUq::sPq 0::ru2 7 (sLq tP::sIq::sIq::ru2 35 (.s (.o (.lit .i64 0))::sUq::sPq 1::.s (.o .nil)::sPq 2::sPq 3::ru2 31 [])),[⟨0,1,true,some [[.c 4 (nL tP)]]⟩,⟨0,1,true,some [[.c 4 (nL tP)]]⟩,⟨0,0,true,some [[.o .nil]]⟩,⟨0,0,true,some [[.o (.ptr 4 0 0 0)]]⟩,⟨182,0,true,some []⟩],λa H=>(⟨aIq a 10⟩,⟨0,aLq tP a 9,aIq a 11,hLq tP H 0 0 0,hLq tP H 1 0 0,0,[],[]⟩)⟩,⟨sUq::sPq 0::ru2 7 (sLq tP::sIq::sIq::ru2 35 (.s (.o (.lit .i64 0))::sUq::sPq 1::.s (.o .nil)::sPq 2::sPq 3::ru2 31 [])),[⟨0,1,true,some [[.c 4 (nL tP)]]⟩,⟨0,1,true,some [[.c 4 (nL tP)]]⟩,⟨0,0,true,some [[.o (.sl 4 0 (some 0) none)]]⟩,⟨0,0,true,some [[.o (.ptr 5 0 0 0)]]⟩,⟨136,4,true,none⟩,⟨182,0,true,none⟩],λa H=>(⟨aIq a 10⟩,⟨1,aLq tP a 9,aIq a 11,hLq tP H 0 0 0,hLq tP H 1 0 0,slN (slT (rwT (elT H 2) 0) 0),elT H 4,elT H 5⟩)⟩],A3,[(some 0,λp s=>upq (Ua5 p s) [(12,b (decide (s.ha9<p.v7)))]),(some 0,λp s=>upq (Ua6 p s) [(12,b (decide (s.ha9<p.v7)))])],Wb6⟩
theorem Wb7:Ba3.OkM:=Lo.okM [Ba2.prM] (by kernel_rfl) (.cons Wb5 .nil) rfl (.cons (λa H=>by kernel_rfl) (.cons (λa H=>by kernel_rfl) .nil)) λp s=>(.sel (Nat.beq s.ph 1) (.of @C3 (λF _ _ _ _ _=>by unfold C3;(repeat' apply j6 (f:=F))<;>rfl) (by kernel_rfl)) (.of @C0 (λF _ _ _ _ _=>by unfold C0;(repeat' apply j6 (f:=F))<;>rfl) (by kernel_rfl)))
noncomputable def ca9(x:List Pln):Option (b7×List b8):=let t1:=(lp (A3 (⟨(↑(List.length x):Int)⟩:r8)) (⟨0,rt tP x,0,rt tP x,rt tP x,0,[],[]⟩:o1));(sl ((cnE tP x)&&((cnE tP x)&&((cnE tP x)&&true))) (sl (Nat.beq t1.1 1) (some (.v (.slice none 0 0),[])) (sl (Nat.beq t1.1 2) (some (.sl 0 0 t1.2.xd5 0,[⟨136,4,t1.2.eh4,true,false,0⟩])) none)) none)
noncomputable def da0(x:List Pln):List Pt:=E9 (one (r1L tX)) (ca9 x)
noncomputable def da1(x:List Pln):Bool:=okO (one (r1L tX)) (ca9 x)
noncomputable def Ka7:Sum:=O9 (ea7 tP) (λx=>.guard (da1 x) (.ret ((one (r1L tX)).enc (da0 x),[])))
theorem ib1:i5 prog G 167 Ka7:=ua7 (bd Gg6 cc2) (one (r1L tX)) (o:=ca9) λx=>Cd6 (.s .p (.s .p (.s .p (.s (.s .p (.b (.i (.s .p (.b (.u Ba3.lsM)))))) .p)))) [Ba3.prM] (by kernel_rfl) (.cons Wb7 .nil) (by kernel_rfl)
noncomputable def nc3:List (Nat×Sum):=[]
theorem dd8:i7 prog G nc3:=trivial
structure Ba4 where
 is0:Int
 bf4:List Int
 is8:Int
structure P1 where
 is9:Int
noncomputable def Tb3(p:Ba4)(s:P1):St:=⟨i p.is0::ra 6 (eL tI p.bf4::i p.is8::i s.is9::ra 13 []),[]⟩
noncomputable def qa4{α:Type}(k:P1->α)(e:Nat->α)(z:α)(p:Ba4)(s:P1):α:=(sl (decide (s.is9<p.is8)) (sl (inB s.is9 (List.length p.bf4)) (sl (decide ((gL tI p.bf4 s.is9.toNat)<(W (0-p.is0)))) (e 1) (sl (decide ((gL tI p.bf4 s.is9.toNat)>p.is0)) (e 1) (k ⟨W (s.is9+1)⟩))) z) (e 2))
noncomputable def va3(p:Ba4)(s:P1):Stp P1:=qa4 .next .exit .fail p s
noncomputable def ob1:Lo Ba4 P1:=⟨En nc3,0,Xf3,[1,0,1,4,4],[0,7,8,9],.p,[⟨sIq::ru2 6 (sLq tI::sIq::sIq::ru2 13 []),[],λa H=>(⟨aIq a 0,aLq tI a 7,aIq a 8⟩,⟨aIq a 9⟩)⟩],va3,[(none,λp s=>⟨[b false],[]⟩),(some 0,λp s=>upq (Tb3 p s) [(10,b (decide (s.is9<p.is8)))])],Tb3⟩
theorem Tc9:ob1.Ok:=Lo.ok [] (by kernel_rfl) .nil rfl (.cons (λa H=>by kernel_rfl) .nil) λp s=>(.of @qa4 (λF _ _ _ _ _=>by unfold qa4;(repeat' apply j6 (f:=F))<;>rfl) (by kernel_rfl))
noncomputable def Oa3(x:Int)(y:List Int):Option (b7×List b8):=let t1:=(lp (va3 (⟨x,rt tI y,(↑(List.length y):Int)⟩:Ba4)) (⟨0⟩:P1));(sl ((cnE tI y)&&true) (sl (Nat.beq t1.1 1) (some (b false,[])) (sl (Nat.beq t1.1 2) (some (b true,[])) none)) none)
noncomputable def S1(x:Int)(y:List Int):Bool:=E9 (one r1B) (Oa3 x y)
noncomputable def S3(x:Int)(y:List Int):Bool:=okO (one r1B) (Oa3 x y)
noncomputable def ib2:Sum:=ma5 cI (ea7 tI) (λx y=>.guard (S3 x y) (.ret ((one r1B).enc (S1 x y),[])))
theorem zb3:i5 prog G 138 ib2:=nb8 (bd Eg8 dd8) (one r1B) (o:=Oa3) λx y=>za7 (.s .p (.s (.s .p (.b (.u ob1.ls))) .p)) [ob1.pr] (by kernel_rfl) (.cons Tc9 .nil) (by kernel_rfl)
noncomputable def Uc0:List (Nat×Sum):=[]
theorem Mc4:i7 prog G Uc0:=trivial
noncomputable def da6(x:Int):Int:=(if (W (0-x))>x then (W (0-x)) else x)
noncomputable def ob2:Sum:=O9 cI (λx=>.ret ((one r1I).enc (da6 x),[]))
theorem Tb4:i5 prog G 183 ob2:=Db9 (bd Hg7 Mc4) λx=>o5 (by kernel_rfl)
noncomputable def ob3:List (Nat×Sum):=[(183,ob2)]
theorem Uc1:i7 prog G ob3:=⟨Tb4,trivial⟩
structure ia2 where
 Ra7:List Int
 (is7 is8:Int)
structure R3 where
 (is3 is5:Int)
noncomputable def Kb8(p:ia2)(s:R3):St:=⟨ra 3 (i s.is3::.unk::i s.is5::eL tI p.Ra7::i p.is7::i p.is8::ra 15 []),[]⟩
noncomputable def ma2{α:Type}(k:R3->α)(e:Nat->α)(z:α)(p:ia2)(s:R3):α:=(sl (decide (s.is5>0)) (sl (s.is5==0) z (k ⟨s.is5,Int.tmod s.is3 s.is5⟩)) (e 1))
noncomputable def da7(p:ia2)(s:R3):Stp R3:=ma2 .next .exit .fail p s
noncomputable def ib3:Lo ia2 R3:=⟨En ob3,0,sf3,[1,1,0,1,4,4,1,1,0,4,1,1,1,4,4],[3,5,6,7,8],.p,[⟨ru2 3 (sIq::sUq::sIq::sLq tI::sIq::sIq::ru2 15 []),[],λa H=>(⟨aLq tI a 6,aIq a 7,aIq a 8⟩,⟨aIq a 3,aIq a 5⟩)⟩],da7,[(some 2,λp s=>upq (Kb8 p s) [(16,i s.is5),(17,b (decide (s.is5>0)))])],Kb8⟩
theorem Mc5:ib3.Ok:=Lo.ok [] (by kernel_rfl) .nil rfl (.cons (λa H=>by kernel_rfl) .nil) λp s=>(.of @ma2 (λF _ _ _ _ _=>by unfold ma2;(repeat' apply j6 (f:=F))<;>rfl) (by kernel_rfl))
structure va4 where
 is7:Int
structure L4 where
 is3:Int
 Ra7:List Int
 is8:Int
noncomputable def Kb9(p:va4)(s:L4):St:=⟨ra 3 (i s.is3::.unk::.unk::eL tI s.Ra7::i p.is7::i s.is8::ra 15 []),[]⟩
noncomputable def ma3{α:Type}(k:L4->α)(e:Nat->α)(z:α)(p:va4)(s:L4):α:=let t1:=(da6 (gL tI s.Ra7 s.is8.toNat));let t2:=(lp (da7 (⟨rt tI s.Ra7,p.is7,s.is8⟩:ia2)) (⟨s.is3,t1⟩:R3));(sl (decide (s.is8<p.is7)) (sl (inB s.is8 (List.length s.Ra7)) (sl ((gL tI s.Ra7 s.is8.toNat)==(-9223372036854775808)) (e 1) (sl ((cnE tI s.Ra7)&&true) (sl (Nat.beq t2.1 1) (k ⟨t2.2.is3,rt tI s.Ra7,W (s.is8+1)⟩) z) z)) z) (e 2))
noncomputable def qa5(p:va4)(s:L4):Stp L4:=ma3 .next .exit .fail p s
noncomputable def ib4:Lo va4 L4:=⟨En ob3,0,sf3,[1,1,0,1,4,4],[3,6,7,8],.s .p (.s .p (.s (.b (.s .p (.s .p (.s .p (.b (.u ib3.ls)))))) .p)),[⟨ru2 3 (sIq::sUq::sUq::sLq tI::sIq::sIq::ru2 15 []),[],λa H=>(⟨aIq a 7⟩,⟨aIq a 3,aLq tI a 6,aIq a 8⟩)⟩],qa5,[(none,λp s=>⟨[i 0],[]⟩),(some 0,λp s=>upq (Kb9 p s) [(9,b (decide (s.is8<p.is7)))])],Kb9⟩
theorem Mc6:ib4.Ok:=Lo.ok [ib3.pr] (by kernel_rfl) (.cons Mc5 .nil) rfl (.cons (λa H=>by kernel_rfl) .nil) λp s=>(.of @ma3 (λF _ _ _ _ _=>by unfold ma3;(repeat' apply j6 (f:=F))<;>rfl) (by kernel_rfl))
noncomputable def Fa6(x:List Int):Option (b7×List b8):=let t1:=(lp (qa5 (⟨(↑(List.length x):Int)⟩:va4)) (⟨0,rt tI x,0⟩:L4));(sl ((cnE tI x)&&true) (sl (Nat.beq t1.1 1) (some (i 0,[])) (sl (Nat.beq t1.1 2) (some (i t1.2.is3,[])) none)) none)
noncomputable def ka9(x:List Int):Int:=E9 (one r1I) (Fa6 x)
noncomputable def la0(x:List Int):Bool:=okO (one r1I) (Fa6 x)
noncomputable def zb4:Sum:=O9 (ea7 tI) (λx=>.guard (la0 x) (.ret ((one r1I).enc (ka9 x),[])))
theorem cc3:i5 prog G 186 zb4:=ua7 (bd Hg9 Uc1) (one r1I) (o:=Fa6) λx=>za7 (.s .p (.s .p (.s (.s .p (.b (.u ib4.ls))) .p))) [ib4.pr] (by kernel_rfl) (.cons Mc6 .nil) (by kernel_rfl)
noncomputable def Ed1:List (Nat×Sum):=[(138,ib2),(186,zb4)]
theorem qd1:i7 prog G Ed1:=⟨zb3,cc3,trivial⟩
noncomputable def Xa4(x:Pln):Option (b7×List b8):=let t1:=(S1 4608 [x.n.x,x.n.y,x.n.z]);let t2:=(ka9 [x.n.x,x.n.y,x.n.z]);let t3:=(S1 2097152 [x.b]);(sl (S3 4608 [x.n.x,x.n.y,x.n.z]) (sl t1 (sl (la0 [x.n.x,x.n.y,x.n.z]) (sl (t2==1) (sl (S3 2097152 [x.b]) (some (b t3,[])) none) (some (b false,[]))) none) (some (b false,[]))) none)
noncomputable def Ja1(x:Pln):Bool:=E9 (one r1B) (Xa4 x)
noncomputable def Ja2(x:Pln):Bool:=okO (one r1B) (Xa4 x)
noncomputable def rb5:Sum:=O9 (I8 tP) (λx=>.guard (Ja2 x) (.ret ((one r1B).enc (Ja1 x),[])))
theorem Lb0:i5 prog G 140 rb5:=ua7 (bd Eg9 qd1) (one r1B) (o:=Xa4) λx=>o5 (by kernel_rfl)
noncomputable def qd2:List (Nat×Sum):=[(140,rb5)]
theorem dd9:i7 prog G qd2:=⟨Lb0,trivial⟩
noncomputable def Oa4(x:Pln):Option (b7×List b8):=let t1:=(Ja1 x);(sl (Ja2 x) (some (b (!t1),[])) none)
noncomputable def ib5(x:Pln):Bool:=E9 (one r1B) (Oa4 x)
noncomputable def ib6(x:Pln):Bool:=okO (one r1B) (Oa4 x)
noncomputable def uc9:Sum:=O9 (I8 tP) (λx=>.guard (ib6 x) (.ret ((one r1B).enc (ib5 x),[])))
theorem qd3:i5 prog G 149 uc9:=ua7 (bd Fg6 dd9) (one r1B) (o:=Oa4) λx=>o5 (by kernel_rfl)
structure ba8 where
 d9:List Pln
noncomputable def Oa5:List (Nat×Sum):=[(149,uc9)]
theorem Eb1:i7 prog G Oa5:=⟨qd3,trivial⟩
structure L5 where
 d9:List Pln
 is7:Int
structure p5 where
 is8:Int
noncomputable def Fa7(p:L5)(s:p5):St:=⟨eL tP p.d9::.fn 149 []::ra 5 (i p.is7::i s.is8::ra 10 []),[]⟩
noncomputable def G8{α:Type}(k:p5->α)(e:Nat->α)(z:α)(p:L5)(s:p5):α:=let t1:=(ib5 (gL tP p.d9 s.is8.toNat));(sl (decide (s.is8<p.is7)) (sl (inB s.is8 (List.length p.d9)) (sl (ib6 (gL tP p.d9 s.is8.toNat)) (sl t1 (e 1) (k ⟨W (s.is8+1)⟩)) z) z) (e 2))
noncomputable def J3(p:L5)(s:p5):Stp p5:=G8 .next .exit .fail p s
noncomputable def na0:Lo L5 p5:=⟨En Oa5,0,Ve8,[1,0,1,4,4],[0,1,7,8],.p,[⟨sLq tP::.s (.o (.fn 149))::ru2 5 (sIq::sIq::ru2 10 []),[],λa H=>(⟨aLq tP a 0,aIq a 7⟩,⟨aIq a 8⟩)⟩],J3,[(none,λp s=>⟨[i s.is8],[]⟩),(some 0,λp s=>upq (Fa7 p s) [(9,b (decide (s.is8<p.is7)))])],Fa7⟩
theorem zb5:na0.Ok:=Lo.ok [] (by kernel_rfl) .nil rfl (.cons (λa H=>by kernel_rfl) .nil) λp s=>(.of @G8 (λF _ _ _ _ _=>by unfold G8;(repeat' apply j6 (f:=F))<;>rfl) (by kernel_rfl))
structure ba9 where
 alt:Nat
 is0:Int
noncomputable def I0{α:Type}(kk:ba9->α)(x:ba8):α:=let t1:=(lp (J3 (⟨rt tP x.d9,(↑(List.length x.d9):Int)⟩:L5)) (⟨0⟩:p5));(sl ((cnE tP x.d9)&&true) (sl (Nat.beq t1.1 1) (kk ⟨1,t1.2.is8⟩) (sl (Nat.beq t1.1 2) (kk ⟨1,-1⟩) (kk ⟨0,0⟩))) (kk ⟨0,0⟩))
noncomputable def sa4(x:ba8):ba9:=I0 (λr=>r) x
noncomputable def qa6(x:ba8)(r:ba9):DT (b7×List b8):=(.ite (Nat.beq r.alt 1) (.ret (i r.is0,[])) .fail)
theorem Qb1{α β:Type}(F:α->β)(kk:ba9->α)(x:ba8):F (I0 kk x)=I0 (λr=>F (kk r)) x:=by unfold I0;(repeat' apply j6 (f:=F))<;>rfl
noncomputable def Ua7:Sum:=Ka5 ⟨[sLq tP,.s (.o (.fn 149))],[],λa H=>(⟨aLq tP a 0⟩,())⟩ (λx=>qa6 x (sa4 x))
theorem Lb1:i5 prog G 139 Ua7:=B1 (enc:=λx=>⟨[eL tP x.d9,.fn 149 []],[]⟩) (λa H=>by kernel_rfl) (bd eg5 Eb1) λx=>za7 (.s .p (.s (.s .p (.b (.u na0.ls))) .p)) [na0.pr] (by kernel_rfl) (.cons zb5 .nil) (Qha (b:=I0 (λr=>(qa6 x r).run) x) (by kernel_rfl) (Qb1 (λr=>(qa6 x r).run) (λr=>r) x).symm)
structure T6 where
 d9:List Pln
noncomputable def vb3:List (Nat×Sum):=[(139,Ua7)]
theorem ob4:i7 prog G vb3:=⟨Lb1,trivial⟩
structure T7 where
 alt:Nat
 bs0:Bool
noncomputable def C8{α:Type}(kk:T7->α)(x:T6):α:=let t1:=(sa4 ⟨rt tP x.d9⟩);(sl ((cnE tP x.d9)&&true) (sl (Nat.beq t1.alt 1) (kk ⟨1,decide (t1.is0>=0)⟩) (kk ⟨0,false⟩)) (kk ⟨0,false⟩))
noncomputable def la1(x:T6):T7:=C8 (λr=>r) x
noncomputable def ga3(x:T6)(r:T7):DT (b7×List b8):=(.ite (Nat.beq r.alt 1) (.ret (b r.bs0,[])) .fail)
theorem zb6{α β:Type}(F:α->β)(kk:T7->α)(x:T6):F (C8 kk x)=C8 (λr=>F (kk r)) x:=by unfold C8;(repeat' apply j6 (f:=F))<;>rfl
noncomputable def Fa8:Sum:=Ka5 ⟨[sLq tP,.s (.o (.fn 149))],[],λa H=>(⟨aLq tP a 0⟩,())⟩ (λx=>ga3 x (la1 x))
theorem vb4:i5 prog G 86 Fa8:=B1 (enc:=λx=>⟨[eL tP x.d9,.fn 149 []],[]⟩) (λa H=>by kernel_rfl) (bd b86 ob4) λx=>o5 (Qha (b:=C8 (λr=>(ga3 x r).run) x) (by kernel_rfl) (zb6 (λr=>(ga3 x r).run) (λr=>r) x).symm)
noncomputable def Sd2:List (Nat×Sum):=[(86,Fa8)]
theorem Ed2:i7 prog G Sd2:=⟨vb4,trivial⟩
noncomputable def ib7(x:List Pln):Option (b7×List b8):=let t1:=(la1 ⟨rt tP x⟩);(sl (decide ((↑(List.length x):Int)>48)) (some (i 2,[])) (sl ((cnE tP x)&&true) (sl (Nat.beq t1.alt 1) (sl t1.bs0 (some (i 12,[])) (some (i 0,[]))) none) none))
noncomputable def Eb2(x:List Pln):Int:=E9 (one r1I) (ib7 x)
noncomputable def Eb3(x:List Pln):Bool:=okO (one r1I) (ib7 x)
noncomputable def Uc2:Sum:=O9 (ea7 tP) (λx=>.guard (Eb3 x) (.ret ((one r1I).enc (Eb2 x),[])))
theorem Sd3:i5 prog G 97 Uc2:=ua7 (bd b97 Ed2) (one r1I) (o:=ib7) λx=>o5 (by kernel_rfl)
noncomputable def qd4:List (Nat×Sum):=[(97,Uc2)]
theorem ed0:i7 prog G qd4:=⟨Sd3,trivial⟩
noncomputable def Oa6(x:List Pln):Option (b7×List b8):=let t1:=(Eb2 (rt tP x));(sl (okE tP x) (sl (Eb3 (rt tP x)) (some (b (t1 != 0),[])) none) none)
noncomputable def ib8(x:List Pln):Bool:=E9 (one r1B) (Oa6 x)
noncomputable def ib9(x:List Pln):Bool:=okO (one r1B) (Oa6 x)
noncomputable def vc0:Sum:=O9 (ea7 tP) (λx=>.guard (ib9 x) (.ret ((one r1B).enc (ib8 x),[])))
theorem qd5:i5 prog G 165 vc0:=ua7 (bd Gg4 ed0) (one r1B) (o:=Oa6) λx=>o5 (by kernel_rfl)
end Go.Ev.Ce
namespace Go.Proofs
open Go.Shelf
set_option maxRecDepth 100000 in
def Ce.growP_ren:Go.Shelf.Ren:=⟨fun | 4=>193 | n=>n,fun | 22=>24 | 25=>73 | 3=>3 | 4=>4 | 9=>9 | 20=>20 | 0=>0 | n=>n,fun | n=>n⟩
set_option maxRecDepth 100000 in
theorem Ce.growP:Go.Proofs.Lays8.n4 Tryz.prog Ce.growP_ren:={
 mixed:=by kernel_rfl
 f4:=⟨Tryz.f193.name,by decide,Tryz.func193.trans (congrArg some (by kernel_rfl))⟩
 t0:=Tryz.underlying0
 a0:=Tryz.isAgg0
 z0:=Tryz.sizeOf0
 v0:=Tryz.zeroValue0
 t3:=Tryz.underlying3
 a3:=Tryz.isAgg3
 z3:=Tryz.sizeOf3
 v3:=Tryz.zeroValue3
 t4:=Tryz.underlying4
 a4:=Tryz.isAgg4
 z4:=Tryz.sizeOf4
 v4:=Tryz.zeroValue4
 t9:=Tryz.underlying9
 a9:=Tryz.isAgg9
 z9:=Tryz.sizeOf9
 v9:=Tryz.zeroValue9
 t20:=Tryz.underlying20
 a20:=Tryz.isAgg20
 z20:=Tryz.sizeOf20
 v20:=Tryz.zeroValue20
 t22:=Tryz.underlying24
 a22:=Tryz.isAgg24
 z22:=Tryz.sizeOf24
 v22:=Tryz.zeroValue24 }
end Go.Proofs
namespace Go.Ev.Ce
open Go Go.Ev Go.Proofs
noncomputable def je7:List b7:=[i 0,i 0,i 0,i 0]
noncomputable def Va8:Sum:=λargs blks=>match args,blks with
 | [.v (.slice none 0 0), .v (.int .i64 n)], [] => .ite (n == 0) (.ret (.v (.slice none 0 0), []))
   (.guard (Bool.and (decide (0<n)) (Nat.ble (n.toNat*32) room)) (.ret (.sl 0 0 0 0,[⟨73,4,List.replicate n.toNat je7,true,false,0⟩])))
 |_,_=>.fail
theorem z73:zeT Tryz.prog 73=some je7:=by kernel_rfl
theorem s73:szT Tryz.prog 73=4:=by kernel_rfl
theorem y73:byT Tryz.prog 73=32:=by kernel_rfl
theorem t25:Ce.growP_ren.t 25=73:=by kernel_rfl
theorem f4:Ce.growP_ren.f 4=193:=by kernel_rfl
set_option maxRecDepth 100000 in
theorem vc1:i5 prog G 193 Va8:=by
 intro args blks r out he W ρ F w args' hH hlen hargs hG;refine⟨⟨_,Tryz.func193,by kernel_rfl,of_decide_eq_true (by kernel_rfl)⟩,?_⟩
 unfold Va8 at he
 split at he
 case h_2=>cases he
 rename_i n
 match args',hlen with
 |[v0,v1],_ =>
 have e0:=ia0 (hargs 0 _ _ rfl rfl);have e1:=ia0 (hargs 1 _ _ rfl rfl);subst e0 e1
 rcases DT.run_ite_some he with⟨h0,he⟩|⟨h0,he⟩
 ·have h0:n=0:=by simpa using h0
  subst h0;injection he with he;injection he with q1 q2;subst q1 q2
  have:=Any8.slices_Grow_room Ce.growP none 0 0 0 w (Qhd _) (by omega) (by omega) (by omega)
  rw[f4] at this;refine this.mono λe w' ⟨h1,h2⟩=>?_
  subst h1 h2;exact⟨_,rfl,ρ,F,.refl,hH,.ofv _⟩
 ·obtain⟨hg,he⟩:=DT.run_guard_some he;rw[Bool.and_eq_true,decide_eq_true_eq] at hg;obtain⟨hpos,hroom⟩:=hg;have hroom:=Nat.le_of_ble_eq_true hroom;unfold room at hroom;obtain⟨m,rfl⟩:=Int.eq_ofNat_of_zero_le (Int.le_of_lt hpos);have hm:0<m:=by omega
  have he:some (b7.sl 0 0 0 0,[(⟨73,4,List.replicate m je7,true,false,0⟩:b8)])=some (r,out):=he;injection he with he;injection he with q1 q2;subst q1 q2
  obtain⟨ti,zv,hi,hzz,hzr,hone⟩:=nb2 (E:=En []) z73;have hi:Tryz.prog.info? 73=some ti:=hi;have hts:ti.size=4:=by have:=s73;simp only[szT,hi] at this;exact this
  have hby:ti.bytes=32:=by have:=y73;simp only[byT,hi] at this;exact this
  have hzs:zv.cells.size=4:=by
   have:=congrArg List.length hzr
   simpa [je7] using this.symm
  have hroom':m*32<=140737488355328:=hroom
  have:=Any8.slices_Grow_grow Ce.growP ti zv (by rw[t25];exact hi) hzz (by omega) none 0 0 m [] w (Qhd _) (by omega) (by rw[hby];omega) (by omega) (by simp) (λ_=>rfl) (λa ha=>by cases ha)
  rw[f4,t25] at this;refine this.mono λe w' ⟨h1,h2⟩=>?_
  have hcap:=grownCap_ge w (0+m) 0 73;have hcap2:=grownCap_le_maxLen w (0+m) 0 73 (by unfold maxLen;omega)
  subst h1;generalize grownCap w (0+m) 0 73=G' at *
  have hsz:∀q,(Builtin.zeroCells zv.cells q).size=q*4:=λq=>by simp[Builtin.zeroCells,hzs]
  have hcc:(#[]++Builtin.zeroCells zv.cells (0+m-0)++Builtin.zeroCells zv.cells (G'-(0+m))).size=G'*4:=by
   rw[Array.size_append,Array.size_append,hsz,hsz];simp;omega
  have hobj:w'.heap[w.heap.size]?=some (.cells (#[]++Builtin.zeroCells zv.cells (0+m-0)++Builtin.zeroCells zv.cells (G'-(0+m))) 73 (0,0)):=by
   rw[h2];exact World.alloc_heap_new w.drew _
  have hold:∀k,k<w.heap.size->w'.heap[k]?=w.heap[k]?:=λk hk=>by
   rw[h2];simp only[World.alloc,Array.getElem?_push,World.drew];rw[if_neg (by omega)]
  have hws:w'.heap.size=w.heap.size+1:=by rw[h2];exact Array.size_push ..
  obtain⟨h6,h7⟩:=hH.newAt (w':=w') (by rw[h2];rfl) (by rw[h2];rfl) (by rw[h2];rfl) (by rw[h2];exact Nat.le_succ _) (by omega) hold w.heap.size (Qhd _) 73 4 (List.replicate m je7) _ 73 hobj
   (λj r hr=>by rw[Qhc] at hr;split at hr<;>cases hr;rfl) (by rw[List.length_replicate,hcc];omega)
   (λj r c x hr hx=>by
    have hjm:j<m:=by
     have:=(Qhb.1 hr).1
     simpa using this
    rw[Qhc,if_pos hjm] at hr;injection hr with hr;subst hr;have hc4:c<4:=(Qhb.1 hx).1;rw[hzr,List.getElem?_map] at hx;have hcz:c<zv.cells.size:=by omega
    have hq:zv.cells.toList[c]?=some zv.cells[c]:=by simp[hcz]
    rw[hq] at hx;injection hx with hx;subst hx;refine⟨zv.cells[c],?_,.v _ (hone _ (by simp))⟩
    have hlt:j*4+c<m*4:=by omega
    rw[Array.append_assoc,Array.empty_append,Array.getElem?_append_left (by rw[hsz];omega)]
    have hm4:(j*4+c) % 4=c:=by omega
    simp only[Builtin.zeroCells,hzs];rw[Array.getElem?_map,Array.getElem?_range];rw[if_pos (by omega)]
    simp[hm4,hcz])
   (λ_=>rfl)
  refine⟨_,rfl,_,F,h6,h7,.val (.cell ?_)⟩;refine .sl 0 0 0 0 _ _ { et:=73,es:=4,elems:=List.replicate m je7,own:=true,dead:=false,g:=0 } rfl rfl (Qhd _) (Nat.zero_le _) rfl hcap2 λ_=>⟨.inr ?_,?_,by simp⟩
  ·simp[ρnew]
  ·simp only[ρnew,List.length_nil,if_true];rw[hcc,Nat.zero_add]
end Go.Ev.Ce
namespace Go.Ev.Ce
open Go Go.Ev Go.Ev.L Go.Proofs
set_option maxRecDepth 100000
noncomputable def Da3:List (Nat×Sum):=[(193,Va8)]
theorem cc4:i7 prog G Da3:=⟨vc1,trivial⟩
structure V7 where
 (Wa3 re0:List (List Pln))
 v7:Int
structure w6 where
 (is3 ha9:Int)
noncomputable def Xa5(p:V7)(s:w6):St:=⟨eL (tLs tP) p.Wa3::.unk::.unk::i s.is3::ra 5 (eL (tLs tP) p.re0::i p.v7::i s.ha9::ra 24 []),[]⟩
noncomputable def P8{α:Type}(k:w6->α)(e:Nat->α)(z:α)(p:V7)(s:w6):α:=(sl (decide (s.ha9<p.v7)) (sl (inB s.ha9 (List.length p.re0)) (sl (decide ((W (s.is3+(↑(List.length (gL (tLs tP) p.re0 s.ha9.toNat)):Int)))<0)) z (k ⟨W (s.is3+(↑(List.length (gL (tLs tP) p.re0 s.ha9.toNat)):Int)),W (s.ha9+1)⟩)) z) (e 1))
noncomputable def K6(p:V7)(s:w6):Stp w6:=P8 .next .exit .fail p s
noncomputable def Ba5:Lo V7 w6:=⟨En Da3,0,sf1,[1,1,0,1,4,4],[0,3,9,10,11],.p,[⟨.s (.c 1 (nL (tLs tP)))::sUq::sUq::sIq::ru2 5 (.s (.c 1 (nL (tLs tP)))::sIq::sIq::ru2 24 []),[],λa H=>(⟨rL (tLs tP) (slT a 0),rL (tLs tP) (slT a 9),aIq a 10⟩,⟨aIq a 3,aIq a 11⟩)⟩],K6,[(some 0,λp s=>upq (Xa5 p s) [(12,b (decide (s.ha9<p.v7)))])],Xa5⟩
theorem Wb8:Ba5.OkM:=Lo.okM [] (by kernel_rfl) .nil rfl (.cons (λa H=>by kernel_rfl) .nil) λp s=>(.of @P8 (λF _ _ _ _ _=>by unfold P8;(repeat' apply j6 (f:=F))<;>rfl) (by kernel_rfl))
structure w7 where
 Ma4:List (List Pln)
 jf8:Int
structure n9 where
 ph:Nat
 gc2:Int
 ns6:Nat
 eh0:List (List b7)
noncomputable def Ua8(p:w7)(s:n9):St:=⟨ra 6 (.v (.slice none 0 0)::ra 18 (eL (tLs tP) p.Ma4::i p.jf8::i s.gc2::ra 8 [])),[]⟩
noncomputable def Ua9(p:w7)(s:n9):St:=⟨ra 6 (.sl 0 0 s.ns6 0::ra 18 (eL (tLs tP) p.Ma4::i p.jf8::i s.gc2::ra 8 [])),[⟨73,4,s.eh0,true,false,0⟩]⟩
noncomputable def Wb9(p:w7)(s:n9):St:=(sel (Nat.beq s.ph 1) (Ua9 p s) (Ua8 p s))
noncomputable def C4{α:Type}(k:n9->α)(e:Nat->α)(z:α)(p:w7)(s:n9):α:=(sl (decide (s.gc2<p.jf8)) (sl (inB s.gc2 (List.length p.Ma4)) (sl (Nat.beq (len (o8 (λk=>(tP).row (gL tP (gL (tLs tP) p.Ma4 s.gc2.toNat) k)) (List.range (List.length (gL (tLs tP) p.Ma4 s.gc2.toNat))))) 0) (k ⟨0,W (s.gc2+1),0,[]⟩) z) z) (e 1))
noncomputable def C5{α:Type}(k:n9->α)(e:Nat->α)(z:α)(p:w7)(s:n9):α:=(sl (decide (s.gc2<p.jf8)) (sl (inB s.gc2 (List.length p.Ma4)) (sl (Nat.ble (s.ns6+(len (o8 (λk=>(tP).row (gL tP (gL (tLs tP) p.Ma4 s.gc2.toNat) k)) (List.range (List.length (gL (tLs tP) p.Ma4 s.gc2.toNat)))))) (len s.eh0)) (k ⟨1,W (s.gc2+1),(s.ns6+(len (o8 (λk=>(tP).row (gL tP (gL (tLs tP) p.Ma4 s.gc2.toNat) k)) (List.range (List.length (gL (tLs tP) p.Ma4 s.gc2.toNat)))))),(app (M7 s.eh0 s.ns6) (app (o8 (λk=>(tP).row (gL tP (gL (tLs tP) p.Ma4 s.gc2.toNat) k)) (List.range (List.length (gL (tLs tP) p.Ma4 s.gc2.toNat)))) (j8 s.eh0 (s.ns6+(len (o8 (λk=>(tP).row (gL tP (gL (tLs tP) p.Ma4 s.gc2.toNat) k)) (List.range (List.length (gL (tLs tP) p.Ma4 s.gc2.toNat)))))))))⟩) z) z) (e 2))
noncomputable def D9(p:w7)(s:n9):Stp n9:=(sel (Nat.beq s.ph 1) (C5 .next .exit .fail p s) (C4 .next .exit .fail p s))
noncomputable def Ba6:Lo w7 n9:=⟨En Da3,0,sf1,[1,1,1,1,0,1,4,4],[6,25,26,27],.p,[⟨ru2 6 (.s (.o .nil)::ru2 18 (.s (.c 1 (nL (tLs tP)))::sIq::sIq::ru2 8 [])),[],λa H=>(⟨rL (tLs tP) (slT a 25),aIq a 26⟩,⟨0,aIq a 27,0,[]⟩)⟩,⟨ru2 6 (.s (.o (.sl 0 0 (some 0) none))::ru2 18 (.s (.c 1 (nL (tLs tP)))::sIq::sIq::ru2 8 [])),[⟨73,4,true,none⟩],λa H=>(⟨rL (tLs tP) (slT a 25),aIq a 26⟩,⟨1,aIq a 27,slN (slT a 6),elT H 0⟩)⟩],D9,[(some 2,λp s=>upq (Ua8 p s) [(28,b (decide (s.gc2<p.jf8)))]),(some 2,λp s=>upq (Ua9 p s) [(28,b (decide (s.gc2<p.jf8)))])],Wb9⟩
theorem Xb0:Ba6.OkM:=Lo.okM [] (by kernel_rfl) .nil rfl (.cons (λa H=>by kernel_rfl) (.cons (λa H=>by kernel_rfl) .nil)) λp s=>(.sel (Nat.beq s.ph 1) (.of @C5 (λF _ _ _ _ _=>by unfold C5;(repeat' apply j6 (f:=F))<;>rfl) (by kernel_rfl)) (.of @C4 (λF _ _ _ _ _=>by unfold C4;(repeat' apply j6 (f:=F))<;>rfl) (by kernel_rfl)))
structure sa2 where
 (alt ns0:Nat)
 eh0:List (List b7)
noncomputable def R8{α:Type}(kk:sa2->α)(x:List (List Pln)):α:=let t1:=(lp (K6 (⟨rt (tLs tP) x,rt (tLs tP) x,(↑(List.length x):Int)⟩:V7)) (⟨0,0⟩:w6));let t2:=(lp (D9 (⟨rt (tLs tP) (rt (tLs tP) x),(↑(List.length (rt (tLs tP) x)):Int)⟩:w7)) (⟨0,0,0,[]⟩:n9));let t3:=(lp (D9 (⟨rt (tLs tP) (rt (tLs tP) x),(↑(List.length (rt (tLs tP) x)):Int)⟩:w7)) (⟨1,0,0,List.replicate t1.2.is3.toNat je7⟩:n9));(sl ((cnE (tLs tP) x)&&((cnE (tLs tP) x)&&true)) (sl (Nat.beq t1.1 1) (sl (t1.2.is3==0) (sl ((cnE (tLs tP) (rt (tLs tP) x))&&true) (sl (Nat.beq t2.1 1) (kk ⟨1,0,[]⟩) (sl (Nat.beq t2.1 2) (kk ⟨2,t2.2.ns6,t2.2.eh0⟩) (kk ⟨0,0,[]⟩))) (kk ⟨0,0,[]⟩)) (sl (Bool.and (decide (0<t1.2.is3)) (Nat.ble (t1.2.is3.toNat*32) room)) (sl ((cnE (tLs tP) (rt (tLs tP) x))&&true) (sl (Nat.beq t3.1 1) (kk ⟨1,0,[]⟩) (sl (Nat.beq t3.1 2) (kk ⟨2,t3.2.ns6,t3.2.eh0⟩) (kk ⟨0,0,[]⟩))) (kk ⟨0,0,[]⟩)) (kk ⟨0,0,[]⟩))) (kk ⟨0,0,[]⟩)) (kk ⟨0,0,[]⟩))
noncomputable def sa3(x:List (List Pln)):sa2:=R8 (λr=>r) x
noncomputable def Da4(r:sa2):DT (b7×List b8):=(.ite (Nat.beq r.alt 1) (.ret (.v (.slice none 0 0),[])) (.ite (Nat.beq r.alt 2) (.ret (.sl 0 0 r.ns0 0,[⟨73,4,r.eh0,true,false,0⟩])) .fail))
theorem pc5{α β:Type}(F:α->β)(kk:sa2->α)(x:List (List Pln)):F (R8 kk x)=R8 (λr=>F (kk r)) x:=by unfold R8;(repeat' apply j6 (f:=F))<;>rfl
noncomputable def mb6:Sum:=O9 (ea7 (tLs tP)) (λx=>Da4 (sa3 x))
theorem jc8:i5 prog G 166 mb6:=Db9 (bd Gg5 cc4) λx=>Cd6 (.s .p (.s .p (.s (.s .p (.b (.u Ba5.lsM))) (.s .p (.s (.s .p (.b (.u Ba6.lsM))) .p))))) [Ba5.prM,Ba6.prM] (by kernel_rfl) (.cons Wb8 (.cons Xb0 .nil)) (Qha (b:=R8 (λr=>(Da4 r).run) x) (by kernel_rfl) (pc5 (λr=>(Da4 r).run) (λr=>r) x).symm)
noncomputable def Oe8:List (Nat×Sum):=[(166,mb6)]
theorem Ae1:i7 prog G Oe8:=⟨jc8,trivial⟩
noncomputable def cc5(x:List (List Pln)):Option (b7×List b8):=let t1:=(sa3 (rt (tLs tP) x));(sl (okE (tLs tP) x) (sl (Nat.beq t1.alt 1) (some (.sl 0 0 6 0,[⟨73,4,[[i 1,i 0,i 0,i 24],[i (-1),i 0,i 0,i 24],[i 0,i 1,i 0,i 24],[i 0,i (-1),i 0,i 24],[i 0,i 0,i 1,i 24],[i 0,i 0,i (-1),i 24]],true,false,0⟩])) (sl (Nat.beq t1.alt 2) (sl (Nat.beq t1.ns0 (len t1.eh0)&&Nat.ble ((t1.ns0+1)*32) room) (sl (Nat.beq (t1.ns0+1) (len (app t1.eh0 [[i 1,i 0,i 0,i 24]]))&&Nat.ble (((t1.ns0+1)+1)*32) room) (sl (Nat.beq ((t1.ns0+1)+1) (len (app (app t1.eh0 [[i 1,i 0,i 0,i 24]]) [[i (-1),i 0,i 0,i 24]]))&&Nat.ble ((((t1.ns0+1)+1)+1)*32) room) (sl (Nat.beq (((t1.ns0+1)+1)+1) (len (app (app (app t1.eh0 [[i 1,i 0,i 0,i 24]]) [[i (-1),i 0,i 0,i 24]]) [[i 0,i 1,i 0,i 24]]))&&Nat.ble (((((t1.ns0+1)+1)+1)+1)*32) room) (sl (Nat.beq ((((t1.ns0+1)+1)+1)+1) (len (app (app (app (app t1.eh0 [[i 1,i 0,i 0,i 24]]) [[i (-1),i 0,i 0,i 24]]) [[i 0,i 1,i 0,i 24]]) [[i 0,i (-1),i 0,i 24]]))&&Nat.ble ((((((t1.ns0+1)+1)+1)+1)+1)*32) room) (sl (Nat.beq (((((t1.ns0+1)+1)+1)+1)+1) (len (app (app (app (app (app t1.eh0 [[i 1,i 0,i 0,i 24]]) [[i (-1),i 0,i 0,i 24]]) [[i 0,i 1,i 0,i 24]]) [[i 0,i (-1),i 0,i 24]]) [[i 0,i 0,i 1,i 24]]))&&Nat.ble (((((((t1.ns0+1)+1)+1)+1)+1)+1)*32) room) (some (.sl 0 0 ((((((t1.ns0+1)+1)+1)+1)+1)+1) 0,[⟨73,4,app (app (app (app (app (app t1.eh0 [[i 1,i 0,i 0,i 24]]) [[i (-1),i 0,i 0,i 24]]) [[i 0,i 1,i 0,i 24]]) [[i 0,i (-1),i 0,i 24]]) [[i 0,i 0,i 1,i 24]]) [[i 0,i 0,i (-1),i 24]],true,false,0⟩])) none) none) none) none) none) none) none)) none)
noncomputable def Hb3(x:List (List Pln)):List Pln:=E9 (one (r1L tP)) (cc5 x)
noncomputable def Hb4(x:List (List Pln)):Bool:=okO (one (r1L tP)) (cc5 x)
noncomputable def ed1:Sum:=O9 (ea7 (tLs tP)) (λx=>.guard (Hb4 x) (.ret ((one (r1L tP)).enc (Hb3 x),[])))
theorem Ed3:i5 prog G 110 ed1:=ua7 (bd Cg8 Ae1) (one (r1L tP)) (o:=cc5) λx=>o5 (by kernel_rfl)
structure ca0 where
 Wa3:List (List Pln)
noncomputable def Oa7:List (Nat×Sum):=[(165,vc0)]
theorem Eb4:i7 prog G Oa7:=⟨qd5,trivial⟩
structure L6 where
 Wa3:List (List Pln)
 is7:Int
structure p6 where
 is8:Int
noncomputable def Fa9(p:L6)(s:p6):St:=⟨eL (tLs tP) p.Wa3::.fn 165 []::ra 5 (i p.is7::i s.is8::ra 10 []),[]⟩
noncomputable def G9{α:Type}(k:p6->α)(e:Nat->α)(z:α)(p:L6)(s:p6):α:=let t1:=(ib8 (rt tP (gL (tLs tP) p.Wa3 s.is8.toNat)));(sl (decide (s.is8<p.is7)) (sl (inB s.is8 (List.length p.Wa3)) (sl (okE tP (gL (tLs tP) p.Wa3 s.is8.toNat)) (sl (ib9 (rt tP (gL (tLs tP) p.Wa3 s.is8.toNat))) (sl t1 (e 1) (k ⟨W (s.is8+1)⟩)) z) z) z) (e 2))
noncomputable def J4(p:L6)(s:p6):Stp p6:=G9 .next .exit .fail p s
noncomputable def na1:Lo L6 p6:=⟨En Oa7,0,Xf4,[1,0,1,4,4],[0,1,7,8],.p,[⟨.s (.c 1 (nL (tLs tP)))::.s (.o (.fn 165))::ru2 5 (sIq::sIq::ru2 10 []),[],λa H=>(⟨rL (tLs tP) (slT a 0),aIq a 7⟩,⟨aIq a 8⟩)⟩],J4,[(none,λp s=>⟨[i s.is8],[]⟩),(some 0,λp s=>upq (Fa9 p s) [(9,b (decide (s.is8<p.is7)))])],Fa9⟩
theorem zb7:na1.Ok:=Lo.ok [] (by kernel_rfl) .nil rfl (.cons (λa H=>by kernel_rfl) .nil) λp s=>(.of @G9 (λF _ _ _ _ _=>by unfold G9;(repeat' apply j6 (f:=F))<;>rfl) (by kernel_rfl))
structure ca1 where
 alt:Nat
 is0:Int
noncomputable def I1{α:Type}(kk:ca1->α)(x:ca0):α:=let t1:=(lp (J4 (⟨rt (tLs tP) x.Wa3,(↑(List.length x.Wa3):Int)⟩:L6)) (⟨0⟩:p6));(sl ((cnE (tLs tP) x.Wa3)&&true) (sl (Nat.beq t1.1 1) (kk ⟨1,t1.2.is8⟩) (sl (Nat.beq t1.1 2) (kk ⟨1,-1⟩) (kk ⟨0,0⟩))) (kk ⟨0,0⟩))
noncomputable def sa5(x:ca0):ca1:=I1 (λr=>r) x
noncomputable def qa7(x:ca0)(r:ca1):DT (b7×List b8):=(.ite (Nat.beq r.alt 1) (.ret (i r.is0,[])) .fail)
theorem Qb2{α β:Type}(F:α->β)(kk:ca1->α)(x:ca0):F (I1 kk x)=I1 (λr=>F (kk r)) x:=by unfold I1;(repeat' apply j6 (f:=F))<;>rfl
noncomputable def Va0:Sum:=Ka5 ⟨[.s (.c 1 (nL (tLs tP))),.s (.o (.fn 165))],[],λa H=>(⟨rL (tLs tP) (slT a 0)⟩,())⟩ (λx=>qa7 x (sa5 x))
theorem Lb2:i5 prog G 161 Va0:=B1 (enc:=λx=>⟨[eL (tLs tP) x.Wa3,.fn 165 []],[]⟩) (λa H=>by kernel_rfl) (bd Gg0 Eb4) λx=>za7 (.s .p (.s (.s .p (.b (.u na1.ls))) .p)) [na1.pr] (by kernel_rfl) (.cons zb7 .nil) (Qha (b:=I1 (λr=>(qa7 x r).run) x) (by kernel_rfl) (Qb2 (λr=>(qa7 x r).run) (λr=>r) x).symm)
structure T8 where
 Wa3:List (List Pln)
noncomputable def vb5:List (Nat×Sum):=[(161,Va0)]
theorem ob5:i7 prog G vb5:=⟨Lb2,trivial⟩
structure T9 where
 alt:Nat
 bs0:Bool
noncomputable def C9{α:Type}(kk:T9->α)(x:T8):α:=let t1:=(sa5 ⟨rt (tLs tP) x.Wa3⟩);(sl ((cnE (tLs tP) x.Wa3)&&true) (sl (Nat.beq t1.alt 1) (kk ⟨1,decide (t1.is0>=0)⟩) (kk ⟨0,false⟩)) (kk ⟨0,false⟩))
noncomputable def la2(x:T8):T9:=C9 (λr=>r) x
noncomputable def ga4(x:T8)(r:T9):DT (b7×List b8):=(.ite (Nat.beq r.alt 1) (.ret (b r.bs0,[])) .fail)
theorem zb8{α β:Type}(F:α->β)(kk:T9->α)(x:T8):F (C9 kk x)=C9 (λr=>F (kk r)) x:=by unfold C9;(repeat' apply j6 (f:=F))<;>rfl
noncomputable def Ga0:Sum:=Ka5 ⟨[.s (.c 1 (nL (tLs tP))),.s (.o (.fn 165))],[],λa H=>(⟨rL (tLs tP) (slT a 0)⟩,())⟩ (λx=>ga4 x (la2 x))
theorem vb6:i5 prog G 103 Ga0:=B1 (enc:=λx=>⟨[eL (tLs tP) x.Wa3,.fn 165 []],[]⟩) (λa H=>by kernel_rfl) (bd Cg4 ob5) λx=>o5 (Qha (b:=C9 (λr=>(ga4 x r).run) x) (by kernel_rfl) (zb8 (λr=>(ga4 x r).run) (λr=>r) x).symm)
noncomputable def Sd4:List (Nat×Sum):=[(103,Ga0)]
theorem Ed4:i7 prog G Sd4:=⟨vb6,trivial⟩
noncomputable def jb0(x:List (List Pln)):Option (b7×List b8):=let t1:=(la2 ⟨rt (tLs tP) x⟩);(sl ((cnE (tLs tP) x)&&true) (sl (Nat.beq t1.alt 1) (some (b (!t1.bs0),[])) none) none)
noncomputable def va5(x:List (List Pln)):Bool:=E9 (one r1B) (jb0 x)
noncomputable def va6(x:List (List Pln)):Bool:=okO (one r1B) (jb0 x)
noncomputable def jb1:Sum:=O9 (ea7 (tLs tP)) (λx=>.guard (va6 x) (.ret ((one r1B).enc (va5 x),[])))
theorem rb6:i5 prog G 109 jb1:=ua7 (bd Cg7 Ed4) (one r1B) (o:=jb0) λx=>o5 (by kernel_rfl)
structure na2 where
 (K9 L0 L1 mb8 c8 b9 c9 g8:Int)
noncomputable def cc6:List (Nat×Sum):=[(153,uc7)]
theorem Xb1:i7 prog G cc6:=⟨Tc7,trivial⟩
structure Y2 where
 bs0:Bool
noncomputable def Y3{α:Type}(kk:Y2->α)(x:na2):α:=let t1:=(Na9 (⟨(⟨x.c8,x.b9,x.c9⟩:V3),x.g8⟩:Pln) (⟨x.K9,x.L0,x.L1,x.mb8⟩:Pt));(kk ⟨decide (t1>0)⟩)
noncomputable def Da5(x:na2):Y2:=Y3 (λr=>r) x
noncomputable def Ba7(x:na2)(r:Y2):DT (b7×List b8):=.ret (b r.bs0,[⟨0,4,[[i x.c8,i x.b9,i x.c9,i x.g8]],true,false,0⟩])
theorem jc9{α β:Type}(F:α->β)(kk:Y2->α)(x:na2):F (Y3 kk x)=Y3 (λr=>F (kk r)) x:=by unfold Y3;(repeat' apply j6 (f:=F))<;>rfl
noncomputable def jb2:Sum:=Ka5 ⟨[.agg (kLq 4),sPq 0],[⟨0,4,true,some [kLq 4]⟩],λa H=>(⟨cIq a 0 0,cIq a 0 1,cIq a 0 2,cIq a 0 3,hIq H 0 0 0,hIq H 0 0 1,hIq H 0 0 2,hIq H 0 0 3⟩,())⟩ (λx=>Ba7 x (Da5 x))
theorem cc7:i5 prog G 170 jb2:=B1 (enc:=λx=>⟨[.agg [i x.K9,i x.L0,i x.L1,i x.mb8],.ptr 0 0 0 0],[⟨0,4,[[i x.c8,i x.b9,i x.c9,i x.g8]],true,false,0⟩]⟩) (λa H=>by kernel_rfl) (bd Gg9 Xb1) λx=>o5 (Qha (b:=Y3 (λr=>(Ba7 x r).run) x) (by kernel_rfl) (jc9 (λr=>(Ba7 x r).run) (λr=>r) x).symm)
structure fa2 where
 V0:List Pt
 (c8 b9 c9 g8:Int)
noncomputable def Va1:List (Nat×Sum):=[(170,jb2)]
theorem Lb3:i7 prog G Va1:=⟨cc7,trivial⟩
structure N6 where
 V0:List Pt
 (is7 c8 b9 c9 g8:Int)
structure q8 where
 is8:Int
noncomputable def La8(p:N6)(s:q8):St:=⟨eL tX p.V0::.fn 170 [.ptr 0 0 0 0]::ra 5 (i p.is7::i s.is8::ra 10 []),[⟨0,4,[[i p.c8,i p.b9,i p.c9,i p.g8]],true,false,0⟩]⟩
noncomputable def J5{α:Type}(k:q8->α)(e:Nat->α)(z:α)(p:N6)(s:q8):α:=let t1:=(Da5 ⟨(gL tX p.V0 s.is8.toNat).px,(gL tX p.V0 s.is8.toNat).py,(gL tX p.V0 s.is8.toNat).pz,(gL tX p.V0 s.is8.toNat).pw,p.c8,p.b9,p.c9,p.g8⟩);(sl (decide (s.is8<p.is7)) (sl (inB s.is8 (List.length p.V0)) (sl t1.bs0 (e 1) (k ⟨W (s.is8+1)⟩)) z) (e 2))
noncomputable def L7(p:N6)(s:q8):Stp q8:=J5 .next .exit .fail p s
noncomputable def qa8:Lo N6 q8:=⟨En Va1,1,sf2,[1,0,1,4,4],[0,1,7,8],.p,[⟨sLq tX::.fn 170 [.o (.ptr 0 0 0 0)]::ru2 5 (sIq::sIq::ru2 10 []),[⟨0,4,true,some [kLq 4]⟩],λa H=>(⟨aLq tX a 0,aIq a 7,hIq H 0 0 0,hIq H 0 0 1,hIq H 0 0 2,hIq H 0 0 3⟩,⟨aIq a 8⟩)⟩],L7,[(none,λp s=>⟨[i s.is8],[⟨0,4,[[i p.c8,i p.b9,i p.c9,i p.g8]],true,false,0⟩]⟩),(some 0,λp s=>upq (La8 p s) [(9,b (decide (s.is8<p.is7)))])],La8⟩
theorem Eb5:qa8.Ok:=Lo.ok [] (by kernel_rfl) .nil rfl (.cons (λa H=>by kernel_rfl) .nil) λp s=>(.of @J5 (λF _ _ _ _ _=>by unfold J5;(repeat' apply j6 (f:=F))<;>rfl) (by kernel_rfl))
structure fa3 where
 alt:Nat
 is0:Int
noncomputable def K7{α:Type}(kk:fa3->α)(x:fa2):α:=let t1:=(lp (L7 (⟨rt tX x.V0,(↑(List.length x.V0):Int),x.c8,x.b9,x.c9,x.g8⟩:N6)) (⟨0⟩:q8));(sl ((cnE tX x.V0)&&true) (sl (Nat.beq t1.1 1) (kk ⟨1,t1.2.is8⟩) (sl (Nat.beq t1.1 2) (kk ⟨1,-1⟩) (kk ⟨0,0⟩))) (kk ⟨0,0⟩))
noncomputable def ya0(x:fa2):fa3:=K7 (λr=>r) x
noncomputable def sa6(x:fa2)(r:fa3):DT (b7×List b8):=(.ite (Nat.beq r.alt 1) (.ret (i r.is0,[⟨0,4,[[i x.c8,i x.b9,i x.c9,i x.g8]],true,false,0⟩])) .fail)
theorem Xb2{α β:Type}(F:α->β)(kk:fa3->α)(x:fa2):F (K7 kk x)=K7 (λr=>F (kk r)) x:=by unfold K7;(repeat' apply j6 (f:=F))<;>rfl
noncomputable def Xa6:Sum:=Ka5 ⟨[sLq tX,.fn 170 [.o (.ptr 0 0 0 0)]],[⟨0,4,true,some [kLq 4]⟩],λa H=>(⟨aLq tX a 0,hIq H 0 0 0,hIq H 0 0 1,hIq H 0 0 2,hIq H 0 0 3⟩,())⟩ (λx=>sa6 x (ya0 x))
theorem Qb3:i5 prog G 171 Xa6:=B1 (enc:=λx=>⟨[eL tX x.V0,.fn 170 [.ptr 0 0 0 0]],[⟨0,4,[[i x.c8,i x.b9,i x.c9,i x.g8]],true,false,0⟩]⟩) (λa H=>by kernel_rfl) (bd tg7 Lb3) λx=>za7 (.s .p (.s (.s .p (.b (.u qa8.ls))) .p)) [qa8.pr] (by kernel_rfl) (.cons Eb5 .nil) (Qha (b:=K7 (λr=>(sa6 x r).run) x) (by kernel_rfl) (Xb2 (λr=>(sa6 x r).run) (λr=>r) x).symm)
structure W6 where
 V0:List Pt
 (c8 b9 c9 g8:Int)
noncomputable def zb9:List (Nat×Sum):=[(171,Xa6)]
theorem vb7:i7 prog G zb9:=⟨Qb3,trivial⟩
structure W7 where
 alt:Nat
 bs0:Bool
noncomputable def E1{α:Type}(kk:W7->α)(x:W6):α:=let t1:=(ya0 ⟨rt tX x.V0,x.c8,x.b9,x.c9,x.g8⟩);(sl ((cnE tX x.V0)&&true) (sl (Nat.beq t1.alt 1) (kk ⟨1,decide (t1.is0>=0)⟩) (kk ⟨0,false⟩)) (kk ⟨0,false⟩))
noncomputable def na3(x:W6):W7:=E1 (λr=>r) x
noncomputable def la3(x:W6)(r:W7):DT (b7×List b8):=(.ite (Nat.beq r.alt 1) (.ret (b r.bs0,[⟨0,4,[[i x.c8,i x.b9,i x.c9,i x.g8]],true,false,0⟩])) .fail)
theorem Eb6{α β:Type}(F:α->β)(kk:W7->α)(x:W6):F (E1 kk x)=E1 (λr=>F (kk r)) x:=by unfold E1;(repeat' apply j6 (f:=F))<;>rfl
noncomputable def La9:Sum:=Ka5 ⟨[sLq tX,.fn 170 [.o (.ptr 0 0 0 0)]],[⟨0,4,true,some [kLq 4]⟩],λa H=>(⟨aLq tX a 0,hIq H 0 0 0,hIq H 0 0 1,hIq H 0 0 2,hIq H 0 0 3⟩,())⟩ (λx=>la3 x (na3 x))
theorem Ab0:i5 prog G 112 La9:=B1 (enc:=λx=>⟨[eL tX x.V0,.fn 170 [.ptr 0 0 0 0]],[⟨0,4,[[i x.c8,i x.b9,i x.c9,i x.g8]],true,false,0⟩]⟩) (λa H=>by kernel_rfl) (bd tg6 vb7) λx=>o5 (Qha (b:=E1 (λr=>(la3 x r).run) x) (by kernel_rfl) (Eb6 (λr=>(la3 x r).run) (λr=>r) x).symm)
structure va7 where
 (K9 L0 L1 mb8:Int)
 r5:List Pt
noncomputable def pc6:List (Nat×Sum):=[(112,La9)]
theorem kc0:i7 prog G pc6:=⟨Ab0,trivial⟩
structure ga5 where
 alt:Nat
 bs0:Bool
noncomputable def V8{α:Type}(kk:ga5->α)(x:va7):α:=let t1:=(na3 ⟨rt tX x.r5,x.K9,x.L0,x.L1,x.mb8⟩);(sl ((cnE tX x.r5)&&true) (sl (Nat.beq t1.alt 1) (kk ⟨1,!t1.bs0⟩) (kk ⟨0,false⟩)) (kk ⟨0,false⟩))
noncomputable def va8(x:va7):ga5:=V8 (λr=>r) x
noncomputable def Ka8(x:va7)(r:ga5):DT (b7×List b8):=(.ite (Nat.beq r.alt 1) (.ret (b r.bs0,[⟨0,1,[[eL tX x.r5]],true,false,0⟩])) .fail)
theorem vc2{α β:Type}(F:α->β)(kk:ga5->α)(x:va7):F (V8 kk x)=V8 (λr=>F (kk r)) x:=by unfold V8;(repeat' apply j6 (f:=F))<;>rfl
noncomputable def vb8:Sum:=Ka5 ⟨[.agg (kLq 4),sPq 0],[⟨0,1,true,some [[.c 4 (nL tX)]]⟩],λa H=>(⟨cIq a 0 0,cIq a 0 1,cIq a 0 2,cIq a 0 3,hLq tX H 0 0 0⟩,())⟩ (λx=>Ka8 x (va8 x))
theorem pc7:i5 prog G 169 vb8:=B1 (enc:=λx=>⟨[.agg [i x.K9,i x.L0,i x.L1,i x.mb8],.ptr 0 0 0 0],[⟨0,1,[[eL tX x.r5]],true,false,0⟩]⟩) (λa H=>by kernel_rfl) (bd Gg8 kc0) λx=>o5 (Qha (b:=V8 (λr=>(Ka8 x r).run) x) (by kernel_rfl) (vc2 (λr=>(Ka8 x r).run) (λr=>r) x).symm)
structure ca2 where
 d9:List Pln
 r5:List Pt
noncomputable def Oa8:List (Nat×Sum):=[(169,vb8)]
theorem Eb7:i7 prog G Oa8:=⟨pc7,trivial⟩
structure L8 where
 d9:List Pln
 is7:Int
structure p7 where
 is8:Int
 r5:List Pt
noncomputable def Ga1(p:L8)(s:p7):St:=⟨eL tP p.d9::.fn 169 [.ptr 0 0 0 0]::ra 5 (i p.is7::i s.is8::ra 10 []),[⟨0,1,[[eL tX s.r5]],true,false,0⟩]⟩
noncomputable def H4{α:Type}(k:p7->α)(e:Nat->α)(z:α)(p:L8)(s:p7):α:=let t1:=(va8 ⟨(gL tP p.d9 s.is8.toNat).n.x,(gL tP p.d9 s.is8.toNat).n.y,(gL tP p.d9 s.is8.toNat).n.z,(gL tP p.d9 s.is8.toNat).b,rt tX s.r5⟩);(sl (decide (s.is8<p.is7)) (sl (inB s.is8 (List.length p.d9)) (sl ((cnE tX s.r5)&&true) (sl (Nat.beq t1.alt 1) (sl t1.bs0 (e 1) (k ⟨W (s.is8+1),rt tX s.r5⟩)) z) z) z) (e 2))
noncomputable def J6(p:L8)(s:p7):Stp p7:=H4 .next .exit .fail p s
noncomputable def na4:Lo L8 p7:=⟨En Oa8,1,Yf0,[1,0,1,4,4],[0,1,7,8],.p,[⟨sLq tP::.fn 169 [.o (.ptr 0 0 0 0)]::ru2 5 (sIq::sIq::ru2 10 []),[⟨0,1,true,some [[.c 4 (nL tX)]]⟩],λa H=>(⟨aLq tP a 0,aIq a 7⟩,⟨aIq a 8,hLq tX H 0 0 0⟩)⟩],J6,[(none,λp s=>⟨[i s.is8],[⟨0,1,[[eL tX (rt tX s.r5)]],true,false,0⟩]⟩),(some 0,λp s=>upq (Ga1 p s) [(9,b (decide (s.is8<p.is7)))])],Ga1⟩
theorem Ab1:na4.Ok:=Lo.ok [] (by kernel_rfl) .nil rfl (.cons (λa H=>by kernel_rfl) .nil) λp s=>(.of @H4 (λF _ _ _ _ _=>by unfold H4;(repeat' apply j6 (f:=F))<;>rfl) (by kernel_rfl))
structure ca3 where
 alt:Nat
 is0:Int
 r5:List Pt
noncomputable def I4{α:Type}(kk:ca3->α)(x:ca2):α:=let t1:=(lp (J6 (⟨rt tP x.d9,(↑(List.length x.d9):Int)⟩:L8)) (⟨0,rt tX x.r5⟩:p7));(sl ((cnE tP x.d9)&&((cnE tX x.r5)&&true)) (sl (Nat.beq t1.1 1) (kk ⟨1,t1.2.is8,rt tX t1.2.r5⟩) (sl (Nat.beq t1.1 2) (kk ⟨1,-1,t1.2.r5⟩) (kk ⟨0,0,[]⟩))) (kk ⟨0,0,[]⟩))
noncomputable def sa7(x:ca2):ca3:=I4 (λr=>r) x
noncomputable def qa9(x:ca2)(r:ca3):DT (b7×List b8):=(.ite (Nat.beq r.alt 1) (.ret (i r.is0,[⟨0,1,[[eL tX r.r5]],true,false,0⟩])) .fail)
theorem Qb4{α β:Type}(F:α->β)(kk:ca3->α)(x:ca2):F (I4 kk x)=I4 (λr=>F (kk r)) x:=by unfold I4;(repeat' apply j6 (f:=F))<;>rfl
noncomputable def Va2:Sum:=Ka5 ⟨[sLq tP,.fn 169 [.o (.ptr 0 0 0 0)]],[⟨0,1,true,some [[.c 4 (nL tX)]]⟩],λa H=>(⟨aLq tP a 0,hLq tX H 0 0 0⟩,())⟩ (λx=>qa9 x (sa7 x))
theorem Lb4:i5 prog G 196 Va2:=B1 (enc:=λx=>⟨[eL tP x.d9,.fn 169 [.ptr 0 0 0 0]],[⟨0,1,[[eL tX x.r5]],true,false,0⟩]⟩) (λa H=>by kernel_rfl) (bd Ig5 Eb7) λx=>za7 (.s .p (.s (.s .p (.b (.u na4.ls))) .p)) [na4.pr] (by kernel_rfl) (.cons Ab1 .nil) (Qha (b:=I4 (λr=>(qa9 x r).run) x) (by kernel_rfl) (Qb4 (λr=>(qa9 x r).run) (λr=>r) x).symm)
structure U0 where
 d9:List Pln
 r5:List Pt
noncomputable def vb9:List (Nat×Sum):=[(196,Va2)]
theorem ob6:i7 prog G vb9:=⟨Lb4,trivial⟩
structure U1 where
 alt:Nat
 bs0:Bool
 r5:List Pt
noncomputable def D0{α:Type}(kk:U1->α)(x:U0):α:=let t1:=(sa7 ⟨rt tP x.d9,rt tX x.r5⟩);(sl ((cnE tP x.d9)&&((cnE tX x.r5)&&true)) (sl (Nat.beq t1.alt 1) (kk ⟨1,decide (t1.is0>=0),t1.r5⟩) (kk ⟨0,false,[]⟩)) (kk ⟨0,false,[]⟩))
noncomputable def la4(x:U0):U1:=D0 (λr=>r) x
noncomputable def ga6(x:U0)(r:U1):DT (b7×List b8):=(.ite (Nat.beq r.alt 1) (.ret (b r.bs0,[⟨0,1,[[eL tX r.r5]],true,false,0⟩])) .fail)
theorem Ab2{α β:Type}(F:α->β)(kk:U1->α)(x:U0):F (D0 kk x)=D0 (λr=>F (kk r)) x:=by unfold D0;(repeat' apply j6 (f:=F))<;>rfl
noncomputable def Ga2:Sum:=Ka5 ⟨[sLq tP,.fn 169 [.o (.ptr 0 0 0 0)]],[⟨0,1,true,some [[.c 4 (nL tX)]]⟩],λa H=>(⟨aLq tP a 0,hLq tX H 0 0 0⟩,())⟩ (λx=>ga6 x (la4 x))
theorem wb0:i5 prog G 168 Ga2:=B1 (enc:=λx=>⟨[eL tP x.d9,.fn 169 [.ptr 0 0 0 0]],[⟨0,1,[[eL tX x.r5]],true,false,0⟩]⟩) (λa H=>by kernel_rfl) (bd Gg7 ob6) λx=>o5 (Qha (b:=D0 (λr=>(ga6 x r).run) x) (by kernel_rfl) (Ab2 (λr=>(ga6 x r).run) (λr=>r) x).symm)
noncomputable def Dc4:List (Nat×Sum):=[(167,Ka7),(168,Ga2)]
theorem vc3:i7 prog G Dc4:=⟨ib1,wb0,trivial⟩
noncomputable def ra0(x:List Pln):Option (b7×List b8):=let t1:=(da0 (rt tP x));let t2:=(la4 ⟨rt tP x,rt tX t1⟩);(sl (okE tP x) (sl (da1 (rt tP x)) (sl ((cnE tP x)&&((cnE tX t1)&&true)) (sl (Nat.beq t2.alt 1) (some (b (!t2.bs0),[])) none) none) none) none)
noncomputable def Da6(x:List Pln):Bool:=E9 (one r1B) (ra0 x)
noncomputable def Da7(x:List Pln):Bool:=okO (one r1B) (ra0 x)
noncomputable def Lb5:Sum:=O9 (ea7 tP) (λx=>.guard (Da7 x) (.ret ((one r1B).enc (Da6 x),[])))
theorem Dc5:i5 prog G 111 Lb5:=ua7 (bd Cg9 vc3) (one r1B) (o:=ra0) λx=>o5 (by kernel_rfl)
noncomputable def Ed5:List (Nat×Sum):=[(109,jb1),(110,ed1),(167,Ka7)]
theorem qd6:i7 prog G Ed5:=⟨rb6,Ed3,ib1,trivial⟩
noncomputable def Xa7(x:List Pln):Option (b7×List b8):=let t1:=(va5 [rt tP x]);let t2:=(Hb3 [rt tP x]);let t3:=(da0 (rt tP t2));(sl ((okE tP x)&&true) (sl (va6 [rt tP x]) (sl (!t1) (some (.v (.slice none 0 0),[])) (sl ((okE tP x)&&true) (sl (Hb4 [rt tP x]) (sl (okE tP t2) (sl (da1 (rt tP t2)) (some (eL tX t3,[])) none) none) none) none)) none) none)
noncomputable def rb7(x:List Pln):List Pt:=E9 (one (r1L tX)) (Xa7 x)
noncomputable def rb8(x:List Pln):Bool:=okO (one (r1L tX)) (Xa7 x)
noncomputable def Gc8:Sum:=O9 (ea7 tP) (λx=>.guard (rb8 x) (.ret ((one (r1L tX)).enc (rb7 x),[])))
theorem Ed6:i5 prog G 113 Gc8:=ua7 (bd Dg0 qd6) (one (r1L tX)) (o:=Xa7) λx=>o5 (by kernel_rfl)
noncomputable def je8:List (Nat×Sum):=[(109,jb1),(110,ed1),(111,Lb5)]
theorem Sd5:i7 prog G je8:=⟨rb6,Ed3,Dc5,trivial⟩
noncomputable def wb1(x:List Pln):Option (b7×List b8):=let t1:=(va5 [rt tP x]);let t2:=(Hb3 [rt tP x]);let t3:=(Da6 (rt tP t2));(sl ((okE tP x)&&true) (sl (va6 [rt tP x]) (sl t1 (sl ((okE tP x)&&true) (sl (Hb4 [rt tP x]) (sl (okE tP t2) (sl (Da7 (rt tP t2)) (some (b t3,[])) none) none) none) none) (some (b false,[]))) none) none)
noncomputable def wb2(x:List Pln):Bool:=E9 (one r1B) (wb1 x)
noncomputable def wb3(x:List Pln):Bool:=okO (one r1B) (wb1 x)
noncomputable def vc4:Sum:=O9 (ea7 tP) (λx=>.guard (wb3 x) (.ret ((one r1B).enc (wb2 x),[])))
theorem Uc3:i5 prog G 55 vc4:=ua7 (bd b55 Sd5) (one r1B) (o:=wb1) λx=>o5 (by kernel_rfl)
structure sf5 where
 Lg3:List Pt
 vd2:Int
structure sf6 where
 (ld0 Aa3 Aa4 Aa5 xg7 xg8 xg9:Int)
structure Hf0 where
 (K9 L0 L1 mb8:Int)
 r5:List Pt
structure kf8 where
 Lg8:List Pt
 is8:Int
 r5:List Pt
 (y5 y6 y7 ka4:Int)
structure kf9 where
 (is4 is9:Int)
structure Hf1 where
 alt:Nat
 bs0:Bool
 r5:List Pt
structure Pd1 where
 ns0:Nat
 eh0:List (List b7)
 gc3:List Pt
structure wd3 where
 ns0:Nat
 is7:Int
 eh0:List (List b7)
structure wd4 where
 is8:Int
 gc3:List Pt
structure Pd2 where
 alt:Nat
 is0:Int
 gc3:List Pt
structure Pd3 where
 ns0:Nat
 eh0:List (List b7)
 gc3:List Pt
structure wd5 where
 ns0:Nat
structure wd6 where
 (is5 is6:Int)
 eh0:List (List b7)
 gc3:List Pt
structure Pd4 where
 (alt ns0:Nat)
 eh0:List (List b7)
 gc3:List Pt
structure je9 where
 ns0:Nat
 eh0:List (List b7)
structure Sd6 where
 (ns0 os4 ns4:Nat)
structure Sd7 where
 (is3 is5:Int)
 eh0:List (List b7)
structure Sd8 where
 ns0:Nat
 eh0:List (List b7)
structure Sd9 where
 is3:Int
structure ke0 where
 (alt ns0:Nat)
 eh0:List (List b7)
noncomputable def Ed7:List (Nat×Sum):=[]
theorem qd7:i7 prog G Ed7:=trivial
noncomputable def Xa8(x:Int)(y:Int):Option (b7×List b8):=(sl (decide (x<y)) (some (i (-1),[])) (sl (decide (x>y)) (some (i 1,[])) (some (i 0,[]))))
noncomputable def oa9(x:Int)(y:Int):Int:=E9 (one r1I) (Xa8 x y)
noncomputable def pa0(x:Int)(y:Int):Bool:=okO (one r1I) (Xa8 x y)
noncomputable def Xb3:Sum:=ma5 cI cI (λx y=>.guard (pa0 x y) (.ret ((one r1I).enc (oa9 x y),[])))
theorem vc5:i5 prog G 141 Xb3:=nb8 (bd Fg0 qd7) (one r1I) (o:=Xa8) λx y=>o5 (by kernel_rfl)
noncomputable def ed2:List (Nat×Sum):=[(141,Xb3)]
theorem Uc4:i7 prog G ed2:=⟨vc5,trivial⟩
noncomputable def Ga3(x:Pln)(y:Pln):Option (b7×List b8):=let t1:=(oa9 x.n.x y.n.x);let t2:=(oa9 x.n.y y.n.y);let t3:=(oa9 x.n.z y.n.z);let t4:=(oa9 x.b y.b);(sl (pa0 x.n.x y.n.x) (sl (t1==0) (sl (pa0 x.n.y y.n.y) (sl (t2==0) (sl (pa0 x.n.z y.n.z) (sl (t3==0) (sl (pa0 x.b y.b) (sl (t4==0) (some (i t4,[])) (some (i t4,[]))) none) (some (i t3,[]))) none) (some (i t2,[]))) none) (some (i t1,[]))) none)
noncomputable def ab3(x:Pln)(y:Pln):Int:=E9 (one r1I) (Ga3 x y)
noncomputable def ab4(x:Pln)(y:Pln):Bool:=okO (one r1I) (Ga3 x y)
noncomputable def Ab3:Sum:=ma5 (I8 tP) (I8 tP) (λx y=>.guard (ab4 x y) (.ret ((one r1I).enc (ab3 x y),[])))
theorem ed3:i5 prog G 122 Ab3:=nb8 (bd Dg7 Uc4) (one r1I) (o:=Ga3) λx y=>o5 (by kernel_rfl)
noncomputable def Ae2:List (Nat×Sum):=[(138,ib2)]
theorem ke1:i7 prog G Ae2:=⟨zb3,trivial⟩
noncomputable def Lb6(x:V3):Option (b7×List b8):=let t1:=(S1 24 [x.x,x.y,x.z]);(sl (S3 24 [x.x,x.y,x.z]) (some (b t1,[])) none)
noncomputable def ya1(x:V3):Bool:=E9 (one r1B) (Lb6 x)
noncomputable def ya2(x:V3):Bool:=okO (one r1B) (Lb6 x)
noncomputable def Lb7:Sum:=O9 (I8 tV) (λx=>.guard (ya2 x) (.ret ((one r1B).enc (ya1 x),[])))
theorem Tb5:i5 prog G 85 Lb7:=ua7 (bd b85 ke1) (one r1B) (o:=Lb6) λx=>o5 (by kernel_rfl)
noncomputable def Ae3:List (Nat×Sum):=[(109,jb1),(85,Lb7),(115,rb4)]
theorem ke2:i7 prog G Ae3:=⟨rb6,Tb5,Kb7,trivial⟩
noncomputable def Lb8(x:List Pln)(y:V3):Option (b7×List b8):=let t1:=(va5 [rt tP x]);let t2:=(ya1 y);let t3:=(fa0 (rt tP x) (⟨y.x,y.y,y.z,1⟩:Pt));(sl ((okE tP x)&&true) (sl (va6 [rt tP x]) (sl t1 (sl (ya2 y) (sl t2 (sl (okE tP x) (sl (fa1 (rt tP x) (⟨y.x,y.y,y.z,1⟩:Pt)) (some (b t3,[])) none) none) (some (b false,[]))) none) (some (b false,[]))) none) none)
noncomputable def Lb9(x:List Pln)(y:V3):Bool:=E9 (one r1B) (Lb8 x y)
noncomputable def Mb0(x:List Pln)(y:V3):Bool:=okO (one r1B) (Lb8 x y)
noncomputable def Ed8:Sum:=ma5 (ea7 tP) (I8 tV) (λx y=>.guard (Mb0 x y) (.ret ((one r1B).enc (Lb9 x y),[])))
theorem Ae4:i5 prog G 58 Ed8:=nb8 (bd b58 ke2) (one r1B) (o:=Lb8) λx y=>o5 (by kernel_rfl)
structure ab5 where
 (K9 L0 L1 mb8:Int)
 e8:List Pln
noncomputable def ed4:List (Nat×Sum):=[(115,rb4)]
theorem Uc5:i7 prog G ed4:=⟨Kb7,trivial⟩
structure Ga4 where
 alt:Nat
 bs0:Bool
noncomputable def ta7{α:Type}(kk:Ga4->α)(x:ab5):α:=let t1:=(fa0 (rt tP x.e8) (⟨x.K9,x.L0,x.L1,x.mb8⟩:Pt));(sl (okE tP x.e8) (sl (fa1 (rt tP x.e8) (⟨x.K9,x.L0,x.L1,x.mb8⟩:Pt)) (kk ⟨1,!t1⟩) (kk ⟨0,false⟩)) (kk ⟨0,false⟩))
noncomputable def ab6(x:ab5):Ga4:=ta7 (λr=>r) x
noncomputable def ob7(x:ab5)(r:Ga4):DT (b7×List b8):=(.ite (Nat.beq r.alt 1) (.ret (b r.bs0,[⟨0,1,[[eL tP x.e8]],true,false,0⟩])) .fail)
theorem qd8{α β:Type}(F:α->β)(kk:Ga4->α)(x:ab5):F (ta7 kk x)=ta7 (λr=>F (kk r)) x:=by unfold ta7;(repeat' apply j6 (f:=F))<;>rfl
noncomputable def nc4:Sum:=Ka5 ⟨[.agg (kLq 4),sPq 0],[⟨0,1,true,some [[.c 4 (nL tP)]]⟩],λa H=>(⟨cIq a 0 0,cIq a 0 1,cIq a 0 2,cIq a 0 3,hLq tP H 0 0 0⟩,())⟩ (λx=>ob7 x (ab6 x))
theorem ed5:i5 prog G 114 nc4:=B1 (enc:=λx=>⟨[.agg [i x.K9,i x.L0,i x.L1,i x.mb8],.ptr 0 0 0 0],[⟨0,1,[[eL tP x.e8]],true,false,0⟩]⟩) (λa H=>by kernel_rfl) (bd Dg1 Uc5) λx=>o5 (Qha (b:=ta7 (λr=>(ob7 x r).run) x) (by kernel_rfl) (qd8 (λr=>(ob7 x r).run) (λr=>r) x).symm)
structure ca4 where
 V0:List Pt
 e8:List Pln
noncomputable def Oa9:List (Nat×Sum):=[(114,nc4)]
theorem Eb8:i7 prog G Oa9:=⟨ed5,trivial⟩
structure L9 where
 V0:List Pt
 is7:Int
structure p8 where
 is8:Int
 e8:List Pln
noncomputable def Ga5(p:L9)(s:p8):St:=⟨eL tX p.V0::.fn 114 [.ptr 0 0 0 0]::ra 5 (i p.is7::i s.is8::ra 10 []),[⟨0,1,[[eL tP s.e8]],true,false,0⟩]⟩
noncomputable def H5{α:Type}(k:p8->α)(e:Nat->α)(z:α)(p:L9)(s:p8):α:=let t1:=(ab6 ⟨(gL tX p.V0 s.is8.toNat).px,(gL tX p.V0 s.is8.toNat).py,(gL tX p.V0 s.is8.toNat).pz,(gL tX p.V0 s.is8.toNat).pw,rt tP s.e8⟩);(sl (decide (s.is8<p.is7)) (sl (inB s.is8 (List.length p.V0)) (sl ((cnE tP s.e8)&&true) (sl (Nat.beq t1.alt 1) (sl t1.bs0 (e 1) (k ⟨W (s.is8+1),rt tP s.e8⟩)) z) z) z) (e 2))
noncomputable def J7(p:L9)(s:p8):Stp p8:=H5 .next .exit .fail p s
noncomputable def na5:Lo L9 p8:=⟨En Oa9,1,sf2,[1,0,1,4,4],[0,1,7,8],.p,[⟨sLq tX::.fn 114 [.o (.ptr 0 0 0 0)]::ru2 5 (sIq::sIq::ru2 10 []),[⟨0,1,true,some [[.c 4 (nL tP)]]⟩],λa H=>(⟨aLq tX a 0,aIq a 7⟩,⟨aIq a 8,hLq tP H 0 0 0⟩)⟩],J7,[(none,λp s=>⟨[i s.is8],[⟨0,1,[[eL tP (rt tP s.e8)]],true,false,0⟩]⟩),(some 0,λp s=>upq (Ga5 p s) [(9,b (decide (s.is8<p.is7)))])],Ga5⟩
theorem Ab4:na5.Ok:=Lo.ok [] (by kernel_rfl) .nil rfl (.cons (λa H=>by kernel_rfl) .nil) λp s=>(.of @H5 (λF _ _ _ _ _=>by unfold H5;(repeat' apply j6 (f:=F))<;>rfl) (by kernel_rfl))
structure ca5 where
 alt:Nat
 is0:Int
 e8:List Pln
noncomputable def I5{α:Type}(kk:ca5->α)(x:ca4):α:=let t1:=(lp (J7 (⟨rt tX x.V0,(↑(List.length x.V0):Int)⟩:L9)) (⟨0,rt tP x.e8⟩:p8));(sl ((cnE tX x.V0)&&((cnE tP x.e8)&&true)) (sl (Nat.beq t1.1 1) (kk ⟨1,t1.2.is8,rt tP t1.2.e8⟩) (sl (Nat.beq t1.1 2) (kk ⟨1,-1,t1.2.e8⟩) (kk ⟨0,0,[]⟩))) (kk ⟨0,0,[]⟩))
noncomputable def sa8(x:ca4):ca5:=I5 (λr=>r) x
noncomputable def ra1(x:ca4)(r:ca5):DT (b7×List b8):=(.ite (Nat.beq r.alt 1) (.ret (i r.is0,[⟨0,1,[[eL tP r.e8]],true,false,0⟩])) .fail)
theorem Qb5{α β:Type}(F:α->β)(kk:ca5->α)(x:ca4):F (I5 kk x)=I5 (λr=>F (kk r)) x:=by unfold I5;(repeat' apply j6 (f:=F))<;>rfl
noncomputable def Va3:Sum:=Ka5 ⟨[sLq tX,.fn 114 [.o (.ptr 0 0 0 0)]],[⟨0,1,true,some [[.c 4 (nL tP)]]⟩],λa H=>(⟨aLq tX a 0,hLq tP H 0 0 0⟩,())⟩ (λx=>ra1 x (sa8 x))
theorem Mb1:i5 prog G 171 Va3:=B1 (enc:=λx=>⟨[eL tX x.V0,.fn 114 [.ptr 0 0 0 0]],[⟨0,1,[[eL tP x.e8]],true,false,0⟩]⟩) (λa H=>by kernel_rfl) (bd tg7 Eb8) λx=>za7 (.s .p (.s (.s .p (.b (.u na5.ls))) .p)) [na5.pr] (by kernel_rfl) (.cons Ab4 .nil) (Qha (b:=I5 (λr=>(ra1 x r).run) x) (by kernel_rfl) (Qb5 (λr=>(ra1 x r).run) (λr=>r) x).symm)
structure U2 where
 V0:List Pt
 e8:List Pln
noncomputable def wb4:List (Nat×Sum):=[(171,Va3)]
theorem ob8:i7 prog G wb4:=⟨Mb1,trivial⟩
structure U3 where
 alt:Nat
 bs0:Bool
 e8:List Pln
noncomputable def D1{α:Type}(kk:U3->α)(x:U2):α:=let t1:=(sa8 ⟨rt tX x.V0,rt tP x.e8⟩);(sl ((cnE tX x.V0)&&((cnE tP x.e8)&&true)) (sl (Nat.beq t1.alt 1) (kk ⟨1,decide (t1.is0>=0),t1.e8⟩) (kk ⟨0,false,[]⟩)) (kk ⟨0,false,[]⟩))
noncomputable def la5(x:U2):U3:=D1 (λr=>r) x
noncomputable def ga7(x:U2)(r:U3):DT (b7×List b8):=(.ite (Nat.beq r.alt 1) (.ret (b r.bs0,[⟨0,1,[[eL tP r.e8]],true,false,0⟩])) .fail)
theorem Ab5{α β:Type}(F:α->β)(kk:U3->α)(x:U2):F (D1 kk x)=D1 (λr=>F (kk r)) x:=by unfold D1;(repeat' apply j6 (f:=F))<;>rfl
noncomputable def Ga6:Sum:=Ka5 ⟨[sLq tX,.fn 114 [.o (.ptr 0 0 0 0)]],[⟨0,1,true,some [[.c 4 (nL tP)]]⟩],λa H=>(⟨aLq tX a 0,hLq tP H 0 0 0⟩,())⟩ (λx=>ga7 x (la5 x))
theorem wb5:i5 prog G 112 Ga6:=B1 (enc:=λx=>⟨[eL tX x.V0,.fn 114 [.ptr 0 0 0 0]],[⟨0,1,[[eL tP x.e8]],true,false,0⟩]⟩) (λa H=>by kernel_rfl) (bd tg6 ob8) λx=>o5 (Qha (b:=D1 (λr=>(ga7 x r).run) x) (by kernel_rfl) (Ab5 (λr=>(ga7 x r).run) (λr=>r) x).symm)
noncomputable def Ed9:List (Nat×Sum):=[(55,vc4),(109,jb1),(113,Gc8),(112,Ga6)]
theorem qd9:i7 prog G Ed9:=⟨Uc3,rb6,Ed6,wb5,trivial⟩
noncomputable def Xa9(x:List Pln)(y:List Pln):Option (b7×List b8):=let t1:=(wb2 (rt tP x));let t2:=(va5 [rt tP y]);let t3:=(rb7 (rt tP x));let t4:=(la5 ⟨rt tX t3,rt tP y⟩);(sl (okE tP x) (sl (wb3 (rt tP x)) (sl t1 (sl ((okE tP y)&&true) (sl (va6 [rt tP y]) (sl t2 (sl (okE tP x) (sl (rb8 (rt tP x)) (sl ((cnE tX t3)&&((cnE tP y)&&true)) (sl (Nat.beq t4.alt 1) (some (b (!t4.bs0),[])) none) none) none) none) (some (b false,[]))) none) none) (some (b false,[]))) none) none)
noncomputable def rb9(x:List Pln)(y:List Pln):Bool:=E9 (one r1B) (Xa9 x y)
noncomputable def sb0(x:List Pln)(y:List Pln):Bool:=okO (one r1B) (Xa9 x y)
noncomputable def Gc9:Sum:=ma5 (ea7 tP) (ea7 tP) (λx y=>.guard (sb0 x y) (.ret ((one r1B).enc (rb9 x y),[])))
theorem Fd0:i5 prog G 57 Gc9:=nb8 (bd b57 qd9) (one r1B) (o:=Xa9) λx y=>o5 (by kernel_rfl)
structure eg7 where
 (g8 yg0 yg1 yg2 yg3 yg4:Int)
end Go.Ev.Ce
namespace Go.Proofs
open Go.Shelf
set_option maxRecDepth 100000 in
def Ce.sortLay_ren:Go.Shelf.Ren:=⟨fun | 6=>121 | 15=>180 | 14=>179 | 28=>207 | 29=>208 | 20=>199 | 21=>200 | 22=>201 | 23=>202 | 24=>203 | 25=>204 | 26=>205 | 27=>206 | 46=>223 | 47=>224 | 48=>225 | 49=>226 | 50=>227 | 57=>233 | n=>n,fun | 22=>24 | 24=>73 | 25=>148 | 3=>3 | 39=>173 | 0=>0 | 53=>197 | 55=>199 | 4=>4 | 46=>191 | 45=>190 | 50=>50 | 5=>5 | 9=>9 | 66=>210 | 70=>214 | 76=>218 | 77=>219 | n=>n,fun | n=>n⟩
set_option maxRecDepth 100000 in
theorem Ce.sortLay:Go.Proofs.SlLaysF0.n6 Tryz.prog Ce.sortLay_ren:={
 mixed:=by kernel_rfl
 f6:=⟨Tryz.f121.name,by decide,Tryz.func121.trans (congrArg some (by kernel_rfl))⟩
 f14:=⟨Tryz.f179.name,by decide,Tryz.func179.trans (congrArg some (by kernel_rfl))⟩
 f15:=Tryz.func180.trans (congrArg some (by kernel_rfl))
 f20:=⟨Tryz.f199.name,by decide,Tryz.func199.trans (congrArg some (by kernel_rfl))⟩
 f21:=⟨Tryz.f200.name,by decide,Tryz.func200.trans (congrArg some (by kernel_rfl))⟩
 f22:=⟨Tryz.f201.name,by decide,Tryz.func201.trans (congrArg some (by kernel_rfl))⟩
 f23:=⟨Tryz.f202.name,by decide,Tryz.func202.trans (congrArg some (by kernel_rfl))⟩
 f24:=⟨Tryz.f203.name,by decide,Tryz.func203.trans (congrArg some (by kernel_rfl))⟩
 f25:=⟨Tryz.f204.name,by decide,Tryz.func204.trans (congrArg some (by kernel_rfl))⟩
 f26:=⟨Tryz.f205.name,by decide,Tryz.func205.trans (congrArg some (by kernel_rfl))⟩
 f27:=⟨Tryz.f206.name,by decide,Tryz.func206.trans (congrArg some (by kernel_rfl))⟩
 f28:=Tryz.func207.trans (congrArg some (by kernel_rfl))
 f29:=Tryz.func208.trans (congrArg some (by kernel_rfl))
 f46:=⟨Tryz.f223.name,by decide,Tryz.func223.trans (congrArg some (by kernel_rfl))⟩
 f47:=Tryz.func224.trans (congrArg some (by kernel_rfl))
 f48:=Tryz.func225.trans (congrArg some (by kernel_rfl))
 f49:=⟨Tryz.f226.name,by decide,Tryz.func226.trans (congrArg some (by kernel_rfl))⟩
 f50:=⟨Tryz.f227.name,by decide,Tryz.func227.trans (congrArg some (by kernel_rfl))⟩
 f57:=⟨Tryz.f233.name,by decide,Tryz.func233.trans (congrArg some (by kernel_rfl))⟩
 t0:=Tryz.underlying0
 a0:=Tryz.isAgg0
 z0:=Tryz.sizeOf0
 v0:=Tryz.zeroValue0
 t3:=Tryz.underlying3
 a3:=Tryz.isAgg3
 z3:=Tryz.sizeOf3
 v3:=Tryz.zeroValue3
 t4:=Tryz.underlying4
 a4:=Tryz.isAgg4
 z4:=Tryz.sizeOf4
 v4:=Tryz.zeroValue4
 t5:=Tryz.underlying5
 a5:=Tryz.isAgg5
 z5:=Tryz.sizeOf5
 v5:=Tryz.zeroValue5
 t9:=Tryz.underlying9
 a9:=Tryz.isAgg9
 z9:=Tryz.sizeOf9
 v9:=Tryz.zeroValue9
 t22:=Tryz.underlying24
 a22:=Tryz.isAgg24
 z22:=Tryz.sizeOf24
 v22:=Tryz.zeroValue24
 t25:=Tryz.underlying148
 a25:=Tryz.isAgg148
 z25:=Tryz.sizeOf148
 v25:=Tryz.zeroValue148
 t39:=Tryz.underlying173
 a39:=Tryz.isAgg173
 z39:=Tryz.sizeOf173
 v39:=Tryz.zeroValue173
 t45:=Tryz.underlying190
 a45:=Tryz.isAgg190
 z45:=Tryz.sizeOf190
 v45:=Tryz.zeroValue190
 t46:=Tryz.underlying191
 a46:=Tryz.isAgg191
 z46:=Tryz.sizeOf191
 v46:=Tryz.zeroValue191
 t50:=Tryz.underlying50
 a50:=Tryz.isAgg50
 z50:=Tryz.sizeOf50
 v50:=Tryz.zeroValue50
 t53:=Tryz.underlying197
 a53:=Tryz.isAgg197
 z53:=Tryz.sizeOf197
 v53:=Tryz.zeroValue197
 t55:=Tryz.underlying199
 a55:=Tryz.isAgg199
 z55:=Tryz.sizeOf199
 v55:=Tryz.zeroValue199
 t66:=Tryz.underlying210
 a66:=Tryz.isAgg210
 z66:=Tryz.sizeOf210
 v66:=Tryz.zeroValue210
 t70:=Tryz.underlying214
 a70:=Tryz.isAgg214
 z70:=Tryz.sizeOf214
 v70:=Tryz.zeroValue214
 t76:=Tryz.underlying218
 a76:=Tryz.isAgg218
 z76:=Tryz.sizeOf218
 v76:=Tryz.zeroValue218
 t77:=Tryz.underlying219
 a77:=Tryz.isAgg219
 z77:=Tryz.sizeOf219
 v77:=Tryz.zeroValue219 }
end Go.Proofs
namespace Go.Ev.Ce
open Go Go.Ev Go.Ev.L Go.Proofs Go.Sort
def fb5(x y:Int):Int:=if x<y then -1 else if x>y then 1 else 0
def va9(x y:Pln):Int :=
 if fb5 x.n.x y.n.x=0 then if fb5 x.n.y y.n.y=0 then if fb5 x.n.z y.n.z=0 then fb5 x.b y.b else fb5 x.n.z y.n.z else fb5 x.n.y y.n.y else fb5 x.n.x y.n.x
theorem kc1(x y:Int):fb5 x y<0↔x<y:=by unfold fb5;split<;>(try split)<;>omega
theorem Uc6(x y:Int):fb5 x y=0↔x=y:=by unfold fb5;split<;>(try split)<;>omega
def LtP(x y:Pln):Prop:=x.n.x<y.n.x\/x.n.x=y.n.x/\(x.n.y<y.n.y\/x.n.y=y.n.y/\(x.n.z<y.n.z\/x.n.z=y.n.z/\x.b<y.b))
instance(x y:Pln):Decidable (LtP x y):=by unfold LtP;exact inferInstance
theorem ke3(x y:Pln):va9 x y<0↔LtP x y:=by
 have h1:=kc1 x.n.x y.n.x;have h2:=Uc6 x.n.x y.n.x;have h3:=kc1 x.n.y y.n.y;have h4:=Uc6 x.n.y y.n.y;have h5:=kc1 x.n.z y.n.z;have h6:=Uc6 x.n.z y.n.z;have h7:=kc1 x.b y.b;unfold va9 LtP;split
 ·split
  ·split<;>omega
  ·omega
 ·omega
theorem ob9(x y:Pln):ltOf va9 x y=decide (LtP x y):=by
 unfold ltOf;rw[decide_eq_decide];exact ke3 x y
theorem tg9:SWO (ltOf va9) where
 irrefl x:=by rw[ob9];simp[LtP]
 trans x y z h1 h2:=by rw[ob9,decide_eq_true_eq] at *;unfold LtP at *;omega
 ntrans x y z h1 h2:=by rw[ob9,decide_eq_false_iff_not] at *;unfold LtP at *;omega
theorem Jg6(x y:Pln)(h1:ltOf va9 x y=false)(h2:ltOf va9 y x=false):x=y:=by
 rw[ob9,decide_eq_false_iff_not] at *
 unfold LtP at *
 obtain⟨⟨a,b,c⟩,d⟩:=x;obtain⟨⟨a',b',c'⟩,d'⟩:=y
 simp only at *
 have:a=a'/\b=b'/\c=c'/\d=d':=by omega
 obtain⟨rfl,rfl,rfl,rfl⟩:=this;rfl
theorem Ae5(x y:Int):Xa8 x y=some (i (fb5 x y),[]):=by
 unfold Xa8 fb5;simp only[yb6,decide_eq_true_eq]
 split<;>(try split)<;>rfl
theorem We2(x y:Int):oa9 x y=fb5 x y:=by unfold oa9;rw[Ae5];rfl
theorem We3(x y:Int):pa0 x y=true:=by unfold pa0;rw[Ae5];rfl
theorem Fd1(x y:Pln):Ga3 x y=some (i (va9 x y),[]):=by
 unfold Ga3 va9;simp only[We2,We3,yb6,beq_iff_eq,if_true]
 repeat' (first | rfl | split)
theorem ug0(x y:Pln):ab3 x y=va9 x y:=by unfold ab3;rw[Fd1];rfl
theorem ug1(x y:Pln):ab4 x y=true:=by unfold ab4;rw[Fd1];rfl
theorem ug2(x y:Pln):(Ab3 [.agg (tP.row x),.agg (tP.row y)] []).run=some (i (va9 x y),[]):=by
 have:(Ab3 [.agg (tP.row x),.agg (tP.row y)] []).run=sel (ab4 x y) (some (i (ab3 x y),[])) none:=by kernel_rfl
 rw[this,ug1,ug0]
def cd4(p:Pln):List Value:=[.int .i64 p.n.x,.int .i64 p.n.y,.int .i64 p.n.z,.int .i64 p.b]
instance:Inhabited Pln:=⟨⟨⟨0,0,0⟩,0⟩⟩
def Hc0(l:List Pln):List Pln:=l.mergeSort λx y=>!ltOf va9 y x
theorem Bc2(l:List Pln):(Hc0 l).length=l.length:=List.length_mergeSort l
noncomputable def eb5:Sum:=Ve1 tP 122 73 Hc0
theorem sf7:Ce.sortLay_ren.f 6=121:=by kernel_rfl
theorem ae2:Ce.sortLay_ren.t 24=73:=by kernel_rfl
set_option maxRecDepth 100000 in
theorem Xb4:i5 prog G 121 eb5:=by
 refine Ve2 (enc:=cd4) (cf:=va9) ⟨_,Tryz.func121,by kernel_rfl,of_decide_eq_true (by kernel_rfl)⟩ (by decide) (λ_=>rfl) (λr h=>eb1 (n:=4) h) (λx v hv=>?_) Bc2
  (λblk off size w=>Ve0 ed3 ug2 (λ_=>rfl) (λ_=>rfl) _ _ _ _ _) (λblk cap d w hcl hH hb hs=>?_)
 ·simp[cd4] at hv
  rcases hv with rfl|rfl|rfl|rfl<;>rfl
 ·have eg:∀args w,(callFunc 122 args).run Tryz.prog w=.ok (.enter 122 args) w:=enters_of Tryz.func122 (by kernel_rfl) rfl
  have:=AnyQ.slices_SortFunc Ce.sortLay 4 (by rw[ae2];exact Tryz.isAgg73) (by rw[ae2];exact Tryz.sizeOf73) cd4 (λ_=>rfl) (λx v hv=>by simp[cd4] at hv;rcases hv with rfl | rfl | rfl | rfl<;>rfl) va9 tg9 122 #[] blk 0 cap d w eg (hcl 0 d.size) hH hb hs
  rw[sf7] at this;refine this.mono λe w' ⟨h1,d',n,os,h2,h3,h4⟩=>⟨h1,n,os,?_⟩
  have h5:=sorted_unique_holds tg9 Jg6 d d' h2 h3;rw[h4];show _=sortWorldK cd4 4 w blk 0 n (d.toList.mergeSort λx y=>!ltOf va9 y x).toArray os
  rw[<- h5]
end Go.Ev.Ce
