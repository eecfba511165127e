/- Own work. -/
import Derived.Test.YtekgjjgbdcgldaaGreatChecked
import Derived.Test.YtekgjjgbdcgldaaGreatEvOCePf
import Derived.KernelRfl
import Derived.Shelf.Spec.SlicesGrow
set_option linter.all false
def Qha:=@Eq.trans
def Qhb:=@List.getElem?_eq_some_iff
def Qhc:=@List.getElem?_replicate
def Qhd:=@Nat.le_refl
namespace Go.Ev.Ce
open Go Go.Ev Go.Proofs
set_option maxRecDepth 1000000
theorem mx:(Tryz.prog).follows .mixedOrders=true:=Checked.mixed Tryz.checked
abbrev Bdq(n:Nat)(pf:PFn):Prop:=Ed8 Tryz.prog n λE=>lc5 E pf
theorem bdq{f:FuncId}{fn:Func}(hf:(Tryz.prog).funcs[f]?=some fn)(hn:decide (fn.name ≠ "runtime.NumGoroutine")=true:=by kernel_rfl)(hc:Option.isSome (f0 Tryz.prog fn)=true:=by kernel_rfl):Bdq f (got (f0 Tryz.prog fn)):=Rf0 mx hf hn (Gc6 hc)
theorem b3:Bdq 3 pf3:=bdq Tryz.func3
theorem b4:Bdq 4 pf4:=bdq Tryz.func4
theorem b5:Bdq 5 pf5:=bdq Tryz.func5
theorem b6:Bdq 6 pf6:=bdq Tryz.func6
theorem b13:Bdq 13 xf1:=bdq Tryz.func13
theorem b15:Bdq 15 Rf1:=bdq Tryz.func15
theorem b19:Bdq 19 Rf2:=bdq Tryz.func19
theorem b21:Bdq 21 Rf3:=bdq Tryz.func21
theorem b23:Bdq 23 Gf7:=bdq Tryz.func23
theorem b25:Bdq 25 Gf8:=bdq Tryz.func25
theorem b27:Bdq 27 Rf4:=bdq Tryz.func27
theorem b28:Bdq 28 Rf5:=bdq Tryz.func28
theorem b30:Bdq 30 Gf9:=bdq Tryz.func30
theorem b31:Bdq 31 Hf0:=bdq Tryz.func31
theorem b34:Bdq 34 Rf6:=bdq Tryz.func34
theorem b35:Bdq 35 Rf7:=bdq Tryz.func35
theorem b52:Bdq 52 Rf8:=bdq Tryz.func52
theorem b55:Bdq 55 Rf9:=bdq Tryz.func55
theorem b57:Bdq 57 Sf0:=bdq Tryz.func57
theorem b64:Ed8 Tryz.prog 64 λE=>vb8 E df9:=Td6 (h:=h64) mx Tryz.func64 (by kernel_rfl) Tryz.func176 (by kernel_rfl) (Gc6 (by kernel_rfl))
theorem b65:Bdq 65 Hf1:=bdq Tryz.func65
theorem b67:Bdq 67 Sf1:=bdq Tryz.func67
theorem b68:Bdq 68 Sf2:=bdq Tryz.func68
theorem b74:Bdq 74 xf2:=bdq Tryz.func74
theorem b75:Bdq 75 Sf3:=bdq Tryz.func75
theorem b77:Bdq 77 Sf4:=bdq Tryz.func77
theorem b78:Bdq 78 Je9:=bdq Tryz.func78
theorem b79:Ed8 Tryz.prog 79 λE=>vb8 E xf3:=Td6 (h:=h79) mx Tryz.func79 (by kernel_rfl) Tryz.func176 (by kernel_rfl) (Gc6 (by kernel_rfl))
theorem b83:Bdq 83 Sf5:=bdq Tryz.func83
theorem b84:Bdq 84 Sf6:=bdq Tryz.func84
theorem b85:Bdq 85 Sf7:=bdq Tryz.func85
theorem b86:Bdq 86 Sf8:=bdq Tryz.func86
theorem b88:Bdq 88 Sf9:=bdq Tryz.func88
theorem b89:Bdq 89 Hf2:=bdq Tryz.func89
theorem b90:Bdq 90 xf4:=bdq Tryz.func90
theorem b91:Bdq 91 Hf3:=bdq Tryz.func91
theorem b92:Bdq 92 Tf0:=bdq Tryz.func92
theorem b97:Bdq 97 Tf1:=bdq Tryz.func97
theorem Tf2:Bdq 103 Hf4:=bdq Tryz.func103
theorem Tf3:Bdq 107 Hf5:=bdq Tryz.func107
theorem Tf4:Bdq 108 Hf6:=bdq Tryz.func108
theorem Tf5:Bdq 109 Hf7:=bdq Tryz.func109
theorem Tf6:Bdq 110 Hf8:=bdq Tryz.func110
theorem Tf7:Bdq 111 Hf9:=bdq Tryz.func111
theorem Lf9:Bdq 112 If0:=bdq Tryz.func112
theorem Tf8:Bdq 113 If1:=bdq Tryz.func113
theorem Tf9:Bdq 114 If2:=bdq Tryz.func114
theorem Uf0:Bdq 115 If3:=bdq Tryz.func115
theorem Uf1:Bdq 116 If4:=bdq Tryz.func116
theorem Uf2:Bdq 118 If5:=bdq Tryz.func118
theorem Uf3:Bdq 119 pf0:=bdq Tryz.func119
theorem Uf4:Bdq 120 If6:=bdq Tryz.func120
theorem Uf5:Bdq 122 If7:=bdq Tryz.func122
theorem Uf6:Bdq 128 If8:=bdq Tryz.func128
theorem Uf7:Bdq 129 pf1:=bdq Tryz.func129
theorem Uf8:Bdq 130 If9:=bdq Tryz.func130
theorem Uf9:Bdq 131 Jf0:=bdq Tryz.func131
theorem Vf0:Bdq 135 Jf1:=bdq Tryz.func135
theorem Vf1:Bdq 138 pf2:=bdq Tryz.func138
theorem xf5:Bdq 139 oe7:=bdq Tryz.func139
theorem Vf2:Bdq 140 Jf2:=bdq Tryz.func140
theorem Vf3:Bdq 141 Jf3:=bdq Tryz.func141
theorem Vf4:Bdq 142 Jf4:=bdq Tryz.func142
theorem Vf5:Bdq 143 Jf5:=bdq Tryz.func143
theorem ef0:Bdq 144 Td7:=bdq Tryz.func144
theorem Vf6:Bdq 145 Jf6:=bdq Tryz.func145
theorem Vf7:Bdq 147 Jf7:=bdq Tryz.func147
theorem Vf8:Bdq 148 Ke0:=bdq Tryz.func148
theorem Vf9:Bdq 149 Jf8:=bdq Tryz.func149
theorem Wf0:Bdq 153 Jf9:=bdq Tryz.func153
theorem Wf1:Bdq 156 Kf0:=bdq Tryz.func156
theorem Wf2:Bdq 161 pf7:=bdq Tryz.func161
theorem Wf3:Bdq 162 Kf1:=bdq Tryz.func162
theorem Wf4:Bdq 163 pf8:=bdq Tryz.func163
theorem Wf5:Bdq 164 Kf2:=bdq Tryz.func164
theorem Wf6:Bdq 165 Kf3:=bdq Tryz.func165
theorem Wf7:Ed8 Tryz.prog 166 λE=>vb8 E Ke1:=Td6 (h:=Gf5) mx Tryz.func166 (by kernel_rfl) Tryz.func193 (by kernel_rfl) (Gc6 (by kernel_rfl))
theorem Wf8:Ed8 Tryz.prog 167 λE=>vb8 E oe8:=Td6 (h:=Gf4) mx Tryz.func167 (by kernel_rfl) Tryz.func221 (by kernel_rfl) (Gc6 (by kernel_rfl))
theorem Wf9:Bdq 168 Kf4:=bdq Tryz.func168
theorem Xf0:Bdq 169 Kf5:=bdq Tryz.func169
theorem Xf1:Bdq 170 Kf6:=bdq Tryz.func170
theorem Mf0:Bdq 171 Ke2:=bdq Tryz.func171
theorem Xf2:Bdq 172 Kf7:=bdq Tryz.func172
theorem Xf3:Bdq 173 Kf8:=bdq Tryz.func173
theorem xf6:Bdq 174 Kf9:=bdq Tryz.func174
theorem Xf4:Ed8 Tryz.prog 175 λE=>vb8 E oe9:=Td6 (h:=Gf6) mx Tryz.func175 (by kernel_rfl) Tryz.func176 (by kernel_rfl) (Gc6 (by kernel_rfl))
theorem Xf5:Bdq 177 Lf0:=bdq Tryz.func177
theorem Xf6:Bdq 178 Lf1:=bdq Tryz.func178
theorem Xf7:Bdq 183 Lf2:=bdq Tryz.func183
theorem Xf8:Bdq 184 Lf3:=bdq Tryz.func184
theorem Xf9:Bdq 186 Ke3:=bdq Tryz.func186
theorem Yf0:Bdq 188 pf9:=bdq Tryz.func188
theorem Yf1:Bdq 189 Lf4:=bdq Tryz.func189
theorem Yf2:Bdq 191 qf0:=bdq Tryz.func191
theorem Yf3:Bdq 194 qf1:=bdq Tryz.func194
theorem Yf4:Bdq 195 Lf5:=bdq Tryz.func195
theorem Yf5:Bdq 196 qf2:=bdq Tryz.func196
theorem Yf6:Bdq 197 Lf6:=bdq Tryz.func197
theorem Yf7:Bdq 198 Lf7:=bdq Tryz.func198
theorem Yf8:Bdq 220 Lf8:=bdq Tryz.func220
theorem Yf9:Bdq 221 qf3:=bdq Tryz.func221
theorem Zf0:Bdq 222 Ke4:=bdq Tryz.func222
end Go.Ev.Ce
namespace Go.Ev.L
open Go Go.Ev
noncomputable def bc3:RT->PC->PS2
 |.s a b,.seq x y=>.seq (bc3 a x) (bc3 b y)
 |.c a b,.cond g x y=>.cond g (bc3 a x) (bc3 b y)
 |.b a,.block id x=>.block id (bc3 a x)
 |.i a,.inner f x n c=>.inner f x n (bc3 a c)
 |.u S,_=>.sum S
 |_,c=>.pc c
theorem Ed9{E:Env}{k:Nat}(rt:RT)(c:PC):Va8 (λx=>∀s,aa1 (x.1 s) (N8 E k x.2 s)) (kc0 rt c)->ma6 E k (bc3 rt c) c:=by
 induction rt generalizing c with
 |p=>intro h;cases c<;>exact .pc _
 |s a b iha ihb =>
  intro h;cases c with
  |seq x y=>exact .seq (iha x (Va8.app h).1) (ihb y (Va8.app h).2)
  |_=>exact .pc _
 |c a b iha ihb =>
  intro h;cases c with
  |cond g x y=>exact .cond g (iha x (Va8.app h).1) (ihb y (Va8.app h).2)
  |_=>exact .pc _
 |b a iha =>
  intro h;cases c with
  |block id x=>exact .block id (iha x h)
  |_=>exact .pc _
 |l a iha=>intro h;cases c<;>exact .pc _
 |i a iha =>
  intro h;cases c with
  |inner f x n c=>exact .inner f x n (iha c h)
  |_=>exact .pc _
 |u S =>
  intro h
  have:kc0 (.u S) c=[(S,c)]:=by cases c<;>rfl
  rw[this] at h;cases h with
  |cons h t =>
   have e:bc3 (.u S) c=.sum S:=by cases c<;>rfl
   rw[e];exact .sum h
section
variable{π σ:Type}{E:Env}{k:Nat}{keep:List Nat}{alts:List (Al2 π σ)}{enc:π->σ->St}{step:π->σ->Stp σ}{xs:Xs π σ}{body:PS2}{c:PC}
theorem ac4.belowM(hb:ma6 E k body c)(hN:E.N=rounds+1)(w:ac4 Td5 k keep (Gc5 E k body) alts step xs enc)(s:St):aa1 (vd9 Td5 k keep alts step xs s) (N8 E k (.loopM keep c) s):=λr hr=>by
 obtain⟨t,h1,h2⟩:=w.go hr;rw[he3,hN];exact Qb7 hb.le _ _ _ (hc6 h1 h2)
theorem ac4.belowML(hb:ma6 E k body c)(hN:E.N=rounds+1)(w:ac4 Zb8 k keep (Gc5 E k body) alts step xs enc)(s:St):aa1 (vd9 Zb8 k keep alts step xs s) (N8 E k (.loop keep c) s):=λr hr=>by
 obtain⟨t,h1,h2⟩:=w.go hr;rw[vd8,hN];exact Qb7 hb.le _ _ _ (hc6 h1 h2)
end
end Go.Ev.L
namespace Go.Ev.Ab
open Go Go.Ev
@[reducible] def o(d:Nat)(x:PO):PI:=⟨some d,none,[],x⟩
@[reducible] def s(x:PO):PI:=⟨none,none,[],x⟩
@[reducible] def ci(n:Int):Arg:=.c (.v (.int .i64 n))
@[reducible] def cb(b:Bool):Arg:=.c (.v (.bool b))
@[reducible] def vi(n:Int):b7:=.v (.int .i64 n)
@[reducible] def rep{α:Type}(n:Nat)(x:α):List α:=List.replicate n x
@[reducible] def ki(n:Nat):List CK:=List.replicate n (.int .i64)
@[reducible] def mv(d n:Nat):PI:=o d (.mv (.t n))
@[reducible] def mc(d:Nat)(n:Int):PI:=o d (.mv (ci n))
@[reducible] def mb(d:Nat)(x:Bool):PI:=o d (.mv (cb x))
@[reducible] def fd(d k n:Nat):PI:=o d (.fld k (.t n))
@[reducible] def lf(d k n:Nat):PI:=o d (.load (ki k) k false (.t n))
@[reducible] def la(d k n:Nat):PI:=o d (.load (ki k) k true (.t n))
@[reducible] def ex(d x k:Nat):PI:=o d (.ext (.t x) k)
@[reducible] def gf(n:Nat)(x:PI):PI:=⟨x.dst,some (n,false),x.hide,x.op⟩
@[reducible] def so(l:List PI)(x:PC):PC:=.seq (.ops l) x
@[reducible] def sq(x y:PC):PC:=.seq x y
@[reducible] def ts(l:List Nat):List Arg:=l.map .t
@[reducible] def cl(f:Nat)(l:List Nat):PO:=.call f (ts l)
@[reducible] def sT(k a b:Nat):PI:=s (.store k (.t a) (.t b))
@[reducible] def pa(d c x:Nat):PI:=o d (.pick (.t c) (.t x) (cb false))
@[reducible] def po(d c x:Nat):PI:=o d (.pick (.t c) (cb true) (.t x))
@[reducible] def al(d k:Nat)(n:Int):PI:=o d (.alloc (rep k (vi n)))
@[reducible] def ap(d et es n x y:Nat):PI:=o d (.append et es n (.t x) (.t y))
end Go.Ev.Ab
namespace Go.Ev.L
open Go Go.Ev
def Cps{π σ:Type}(u:∀{α:Type},(σ->α)->(Nat->α)->α->π->σ->α):Prop :=
 ∀{α β:Type} (F:α->β) (k:σ->α) (e:Nat->α) (z:α) (p:π) (s:σ),F (u k e z p s)=u (λx=>F (k x)) (λt=>F (e t)) (F z) p s
@[reducible] noncomputable def foL{π σ:Type}(en:π->σ->St)(xs:Xs π σ)(p:π)(s:σ):Stp σ->Option (e8×St):=Zb9 (λs'=>some (.normal,en p s')) (λt=>xOf xs p s t 1) none
structure Lo(π σ:Type) where
 E:Env
 k:Nat
 F:PFn
 at':List Nat
 kp:List Nat
 rt:RT
 al:List (Al2 π σ)
 st:π->σ->Stp σ
 xs:Xs π σ
 en:π->σ->St
namespace Lo
variable{π σ:Type}(L:Lo π σ)
noncomputable def lc:PC:=Qf8 L.at' L.F.body
noncomputable def ls:St->DT (e8×St):=vd9 Zb8 L.k L.kp L.al L.st L.xs
noncomputable def lsM:St->DT (e8×St):=vd9 Td5 L.k L.kp L.al L.st L.xs
noncomputable def pr:(St->DT (e8×St))×PC:=(L.ls,.loop L.kp L.lc)
noncomputable def prM:(St->DT (e8×St))×PC:=(L.lsM,.loopM L.kp L.lc)
def Ok:Prop:=∀s,ga6 L.k L.F.res (L.pr.1 s) (N8 L.E L.k L.pr.2 s)
def OkE:Prop:=∀s,aa1 (L.pr.1 s) (N8 L.E L.k L.pr.2 s)
def OkM:Prop:=∀s,aa1 (L.prM.1 s) (N8 L.E L.k L.prM.2 s)
def Rd(hd:St->DT St)(bd:St->DT (e8×St))(p:π)(s:σ)(a:St)(b:Stp σ):Prop:=(Qb8 hd bd a).run=foL L.en L.xs p s b
def H0:Prop:=∀p s,L.Rd (Zb8 L.k L.kp) (me7 L.E L.k L.F.res (od5 L.rt L.lc)) p s (L.en p s) (L.st p s)
def H1:Prop:=∀p s,L.Rd (Zb8 L.k L.kp) (Gc5 L.E L.k (bc3 L.rt L.lc)) p s (L.en p s) (L.st p s)
def H2:Prop:=∀p s,L.Rd (Td5 L.k L.kp) (Gc5 L.E L.k (bc3 L.rt L.lc)) p s (L.en p s) (L.st p s)
def HA:Prop:=Va8 (λx=>∀a H,(⟨we1 x.sh a,we2 x.bl H⟩:St)=L.en (x.rd a H).1 (x.rd a H).2) L.al
variable{L}
theorem Rd.of {hd : St → DT St} {bd : St → DT (e8 × St)} {p : π} {s : σ} {a : St} (u : ∀ {α : Type}, (σ → α) → (Nat → α) → α → π → σ → α)
  (q:Cps @u) (H:(Qb8 hd bd a).run=u (λx=>foL L.en L.xs p s (.next x)) (λt=>foL L.en L.xs p s (.exit t)) (foL L.en L.xs p s .fail) p s):L.Rd hd bd p s a (u .next .exit .fail p s) :=
 H.trans (q (foL L.en L.xs p s) Stp.next Stp.exit Stp.fail p s).symm
theorem Rd.sel{hd:St->DT St}{bd:St->DT (e8×St)}{p:π}{s:σ}{a1 a0:St}{b1 b0:Stp σ}(c:Bool)(h1:L.Rd hd bd p s a1 b1)(h0:L.Rd hd bd p s a0 b0):L.Rd hd bd p s (sel c a1 a0) (sel c b1 b0):=by
 cases c with
 |true=>exact h1
 |false=>exact h0
theorem ok(l:List ((St->DT (e8×St))×PC))(hs:kc0 L.rt L.lc=l)(hl:Va8 (λx=>∀s,ga6 L.k L.F.res (x.1 s) (N8 L.E L.k x.2 s)) l)(hN:L.E.N=rounds+1)(ha:L.HA)(h:L.H0):L.Ok :=
 ac4.belowC (ne8 _ _ (by rw[hs];exact hl)) hN ⟨ha,h⟩
theorem okE(l:List ((St->DT (e8×St))×PC))(hs:kc0 L.rt L.lc=l)(hl:Va8 (λx=>∀s,aa1 (x.1 s) (N8 L.E L.k x.2 s)) l)(hN:L.E.N=rounds+1)(ha:L.HA)(h:L.H1):L.OkE :=
 ac4.belowML (Ed9 _ _ (by rw[hs];exact hl)) hN ⟨ha,h⟩
theorem okM(l:List ((St->DT (e8×St))×PC))(hs:kc0 L.rt L.lc=l)(hl:Va8 (λx=>∀s,aa1 (x.1 s) (N8 L.E L.k x.2 s)) l)(hN:L.E.N=rounds+1)(ha:L.HA)(h:L.H2):L.OkM :=
 ac4.belowM (Ed9 _ _ (by rw[hs];exact hl)) hN ⟨ha,h⟩
end Lo
theorem Ua7 {E : Env} {F : PFn} {args : List b7} {blks : List b8} {o : Option (b7 × List b8)} (rt : RT) (l : List ((St → DT (e8 × St)) × PC)) (hs : kc0 rt F.body = l)
  (hl:Va8 (λx=>∀s,ga6 (len blks) F.res (x.1 s) (N8 E (len blks) x.2 s)) l) (h:(Ff4 E F (od5 rt F.body) args blks).run=o) (r:b7×List b8) (hr:o=some r):(lc5 E F args blks).run=some r :=
 fe5 (ne8 rt _ (by rw[hs];exact hl)) r (h.trans hr)
theorem dd7 {E : Env} {F : PFn} {args : List b7} {blks : List b8} {o : Option (b7 × List b8)} (rt : RT) (l : List ((St → DT (e8 × St)) × PC)) (hs : kc0 rt F.body = l)
  (hl:Va8 (λx=>∀s,aa1 (x.1 s) (N8 E (len blks) x.2 s)) l) (h:(of9 E F (bc3 rt F.body) args blks).run=o) (r:b7×List b8) (hr:o=some r):(vb8 E F args blks).run=some r :=
 Td4 (Ed9 rt _ (by rw[hs];exact hl)) r (h.trans hr)
theorem q9{A o:Option (b7×List b8)}(h:A=o)(r:b7×List b8)(hr:o=some r):A=some r:=h.trans hr
noncomputable abbrev upq(x:St)(l:List (Nat×b7)):St:=⟨l.foldl (λa q=>a.set q.1 q.2) x.a,x.H⟩
noncomputable abbrev sIq:S2:=.s (.o (.int .i64))
noncomputable abbrev sUq:S2:=.s (.o .unk)
noncomputable abbrev sBq:S2:=.s (.o .bool)
noncomputable abbrev sPq(n:Nat):S2:=.s (.o (.ptr n 0 0 0))
noncomputable abbrev sTq(n:Nat):S2:=.s (.o (.tree n))
noncomputable abbrev sLq{α:Type}(t:Ty α):S2:=.s (.c t.es (nL t))
noncomputable abbrev kLq(n:Nat):List K:=List.replicate n (.o (.int .i64))
noncomputable abbrev aIq(a:List b7)(n:Nat):Int:=toI (slT a n)
noncomputable abbrev aBq(a:List b7)(n:Nat):Bool:=toB (slT a n)
noncomputable abbrev aNq(a:List b7)(n:Nat):Nat:=toN (slT a n)
noncomputable abbrev aGq(a:List b7)(n:Nat):Nat->List b7:=toG (slT a n)
noncomputable abbrev aLq{α:Type}(t:Ty α)(a:List b7)(n:Nat):List α:=rL t (slT a n)
noncomputable abbrev hIq(H:List b8)(m r n:Nat):Int:=toI (slT (rwT (elT H m) r) n)
noncomputable abbrev cIq(a:List b7)(m n:Nat):Int:=toI (slT (cellsOf (slT a m)) n)
noncomputable abbrev hLq{α:Type}(t:Ty α)(H:List b8)(m r n:Nat):List α:=rL t (slT (rwT (elT H m) r) n)
end Go.Ev.L
namespace Go.Ev.Ce
structure V3 where
 x:Int
 y:Int
 z:Int
structure Pln where
 n:V3
 b:Int
structure Pt where
 px:Int
 py:Int
 pz:Int
 pw:Int
def c8(a b:V3):V3:=⟨a.y*b.z-a.z*b.y,a.z*b.x-a.x*b.z,a.x*b.y-a.y*b.x⟩
def dot(a b:V3):Int:=a.x*b.x+a.y*b.y+a.z*b.z
def mw(p q r:Pln):Int:=dot p.n (c8 q.n r.n)
end Go.Ev.Ce
namespace Go.Ev.Ce
open Go Go.Ev Go.Ev.L Go.Proofs
@[reducible] noncomputable def prog:Program:=Tryz.prog
noncomputable def G:Nat->List Value:=λ_=>[]
noncomputable def En(l:List (Nat×Sum)):Env:={ P:=prog,G,fns:=λ_=>none,call:=vf3 l,own:=λf j=>Bool.and (ib3 f [150,121,154,91,139,144,146,148]) (Nat.beq j 0),N:=18446744073709551616 }
@[reducible] def u:b7:=.v (.tuple #[])
theorem Mf1{l:List (Nat×Sum)}(h:i4 prog G l):∀f,f9 (En l).P (En l).G f ((En l).call f):=me6 h
theorem bd{l:List (Nat×Sum)}{f:FuncId}{R:Env->Sum}(b:Ed8 prog f R)(h:i4 prog G l):f9 prog G f (R (En l)):=b rfl (Mf1 h)
noncomputable def tV:Ty V3 where
 es:=3
 row x:=[i x.x,i x.y,i x.z]
 rd r:=⟨toI (hdA r),toI (hdA (tlA r)),toI (hdA (tlA (tlA r)))⟩
 ok r:=Ea6 3 r
 cks:=List.replicate 3 (.int .i64)
 d:=⟨0,0,0⟩
 h0 _:=rfl
 h1 _:=rfl
 h2 _:=rfl
 h3 _ h:=.of (Ta6 h)
 h4 _:=rfl
 h5 _:=rfl
noncomputable def r1V:R1 V3:=r1A tV 3 λ_ h=>h
noncomputable def tP:Ty Pln where
 es:=4
 row x:=[i x.n.x,i x.n.y,i x.n.z,i x.b]
 rd r:=⟨⟨toI (hdA r),toI (hdA (tlA r)),toI (hdA (tlA (tlA r)))⟩,toI (hdA (tlA (tlA (tlA r))))⟩
 ok r:=Ea6 4 r
 cks:=List.replicate 4 (.int .i64)
 d:=⟨⟨0,0,0⟩,0⟩
 h0 _:=rfl
 h1 _:=rfl
 h2 _:=rfl
 h3 _ h:=.of (Ta6 h)
 h4 _:=rfl
 h5 _:=rfl
noncomputable def r1P:R1 Pln:=r1A tP 4 λ_ h=>h
noncomputable def tX:Ty Pt where
 es:=4
 row x:=[i x.px,i x.py,i x.pz,i x.pw]
 rd r:=⟨toI (hdA r),toI (hdA (tlA r)),toI (hdA (tlA (tlA r))),toI (hdA (tlA (tlA (tlA r))))⟩
 ok r:=Ea6 4 r
 cks:=List.replicate 4 (.int .i64)
 d:=⟨0,0,0,0⟩
 h0 _:=rfl
 h1 _:=rfl
 h2 _:=rfl
 h3 _ h:=.of (Ta6 h)
 h4 _:=rfl
 h5 _:=rfl
noncomputable def r1X:R1 Pt:=r1A tX 4 λ_ h=>h
structure Tp where
 p:Pln
 q:Pln
 r:Pln
noncomputable def tY:Ty Tp where
 es:=12
 row x:=[i x.p.n.x,i x.p.n.y,i x.p.n.z,i x.p.b,i x.q.n.x,i x.q.n.y,i x.q.n.z,i x.q.b,i x.r.n.x,i x.r.n.y,i x.r.n.z,i x.r.b]
 rd r:=⟨⟨⟨toI (hdA r),toI (hdA (tlA r)),toI (hdA (tlA (tlA r)))⟩,toI (hdA (tlA (tlA (tlA r))))⟩,⟨⟨toI (hdA (tlA (tlA (tlA (tlA r))))),toI (hdA (tlA (tlA (tlA (tlA (tlA r)))))),toI (hdA (tlA (tlA (tlA (tlA (tlA (tlA r)))))))⟩,toI (hdA (tlA (tlA (tlA (tlA (tlA (tlA (tlA r))))))))⟩,⟨⟨toI (hdA (tlA (tlA (tlA (tlA (tlA (tlA (tlA (tlA r))))))))),toI (hdA (tlA (tlA (tlA (tlA (tlA (tlA (tlA (tlA (tlA r)))))))))),toI (hdA (tlA (tlA (tlA (tlA (tlA (tlA (tlA (tlA (tlA (tlA r)))))))))))⟩,toI (hdA (tlA (tlA (tlA (tlA (tlA (tlA (tlA (tlA (tlA (tlA (tlA r))))))))))))⟩⟩
 ok r:=Ea6 12 r
 cks:=List.replicate 12 (.int .i64)
 d:=⟨⟨⟨0,0,0⟩,0⟩,⟨⟨0,0,0⟩,0⟩,⟨⟨0,0,0⟩,0⟩⟩
 h0 _:=rfl
 h1 _:=rfl
 h2 _:=rfl
 h3 _ h:=.of (Ta6 h)
 h4 _:=rfl
 h5 _:=rfl
structure Q2 where
 a:V3
 b:V3
set_option maxRecDepth 100000
noncomputable def he4:List (Nat×Sum):=[]
theorem Td8:i4 prog G he4:=trivial
noncomputable def bb9(x:V3)(y:V3):Int:=(W ((W ((W (x.x*y.x))+(W (x.y*y.y))))+(W (x.z*y.z))))
noncomputable def Gc7:Sum:=va4 (W8 tV) (W8 tV) (λx y=>.ret ((one r1I).enc (bb9 x y),[]))
theorem dd8:f9 prog G 84 Gc7:=Ia9 (bd b84 Td8) λx y=>q9 (by kernel_rfl)
noncomputable def Fd0:List (Nat×Sum):=[]
theorem od6:i4 prog G Fd0:=trivial
noncomputable def ib6(x:V3)(y:V3):V3:=(⟨W ((W (x.y*y.z))-(W (x.z*y.y))),W ((W (x.z*y.x))-(W (x.x*y.z))),W ((W (x.x*y.y))-(W (x.y*y.x)))⟩:V3)
noncomputable def Oc0:Sum:=va4 (W8 tV) (W8 tV) (λx y=>.ret ((one r1V).enc (ib6 x y),[]))
theorem Fd1:f9 prog G 164 Oc0:=Ia9 (bd Wf5 od6) λx y=>q9 (by kernel_rfl)
structure Ke5 where
structure Ke6 where
 (is0 is1:Int)
structure xf7 where
 j8:List Pln
 (d7 c7 d8 g7:Int)
structure xf8 where
 is5:Int
structure Ye0 where
 ja7:List Pt
 (d7 c7 d8 g7:Int)
structure Ye1 where
 is5:Int
structure Ce5 where
 j8:List Pln
 (is4 is5:Int)
structure Ce6 where
 ph:Nat
 is6:Int
 ns3:Nat
 eh0:List (List b7)
structure Ce7 where
 is4:Int
structure Ce8 where
 ph:Nat
 j8:List Pln
 is5:Int
 ns3:Nat
 eh0:List (List b7)
structure Ce9 where
structure De0 where
 ph:Nat
 j8:List Pln
 is4:Int
 ns3:Nat
 eh0:List (List b7)
noncomputable def Eb1:List (Nat×Sum):=[]
theorem sc1:i4 prog G Eb1:=trivial
@[reducible] noncomputable def Ja0:Sum:=lc5 (En Eb1) qf0
theorem Wa1:f9 prog G 191 Ja0:=bd Yf2 sc1
noncomputable def Qc7:List (Nat×Sum):=[]
theorem Gc8:i4 prog G Qc7:=trivial
noncomputable def Ea8(x:Int):Option (b7×List b8):=(sl (decide (x<0)) (some (i (W (0-x)),[])) (some (i x,[])))
noncomputable def ta9(x:Int):Int:=O9 (one r1I) (Ea8 x)
noncomputable def ua0(x:Int):Bool:=okO (one r1I) (Ea8 x)
noncomputable def bc4:Sum:=Q9 cI (λx=>.guard (ua0 x) (.ret ((one r1I).enc (ta9 x),[])))
theorem Qc8:f9 prog G 184 bc4:=Ea7 (bd Xf8 Gc8) (one r1I) (o:=Ea8) λx=>q9 (by kernel_rfl)
noncomputable def Oc1:List (Nat×Sum):=[(184,bc4),(191,Ja0)]
theorem Fd2:i4 prog G Oc1:=⟨Qc8,Wa1,trivial⟩
structure pa4 where
 (is6 d7 c7 d8 sa9 ta0 ta1:Int)
structure S8 where
 (is5 is7:Int)
noncomputable def mc5(p:pa4)(s:S8):St:=⟨.unk::.ptr 0 0 0 0::.ptr 1 0 0 0::.unk::.ptr 2 0 0 0::i s.is5::i p.is6::i s.is7::ra 38 [],[⟨0,3,[[i p.d7,i p.c7,i p.d8]],true,false,0⟩,⟨0,3,[[i 0,i 0,i 0]],true,false,0⟩,⟨0,3,[[i p.sa9,i p.ta0,i p.ta1]],true,false,0⟩]⟩
noncomputable def Ea9{α:Type}(k:S8->α)(e:Nat->α)(z:α)(p:pa4)(s:S8):α:=(sl (decide (s.is7>0)) (sl (s.is7==0) z (k ⟨s.is7,Int.tmod s.is5 s.is7⟩)) (e 1))
noncomputable def ia9(p:pa4)(s:S8):Stp S8:=Ea9 .next .exit .fail p s
noncomputable def Rb5:Lo pa4 S8:=⟨En Oc1,0,pf8,[1,1,1,0,1,4,4,1,0,4,1,1,4,4],[1,2,4,5,6,7],.p,[⟨sUq::sPq 0::sPq 1::sUq::sPq 2::sIq::sIq::sIq::ru2 38 [],[⟨0,3,true,some [kLq 3]⟩,⟨0,3,true,some [[.o (.lit .i64 0),.o (.lit .i64 0),.o (.lit .i64 0)]]⟩,⟨0,3,true,some [kLq 3]⟩],λa H=>(⟨aIq a 6,hIq H 0 0 0,hIq H 0 0 1,hIq H 0 0 2,hIq H 2 0 0,hIq H 2 0 1,hIq H 2 0 2⟩,⟨aIq a 5,aIq a 7⟩)⟩],ia9,[(some 2,λp s=>upq (mc5 p s) [(23,i s.is7),(24,b (decide (s.is7>0)))])],mc5⟩
theorem od7:Rb5.Ok:=Lo.ok [] (by kernel_rfl) .nil rfl (.cons (λa H=>by kernel_rfl) .nil) λp s=>(.of @Ea9 (λF _ _ _ _ _=>by unfold Ea9;(repeat' apply l5 (f:=F))<;>rfl) (by kernel_rfl))
noncomputable def wb0(x:V3):Option (b7×List b8):=let t1:=(ta9 x.x);let t2:=(lp (ia9 (⟨0,x.x,x.y,x.z,x.x,x.y,x.z⟩:pa4)) (⟨0,t1⟩:S8));let t3:=(ta9 x.y);let t4:=(lp (ia9 (⟨1,x.x,x.y,x.z,x.x,x.y,x.z⟩:pa4)) (⟨t2.2.is5,t3⟩:S8));let t5:=(ta9 x.z);let t6:=(lp (ia9 (⟨2,x.x,x.y,x.z,x.x,x.y,x.z⟩:pa4)) (⟨t4.2.is5,t5⟩:S8));(sl (x.x==(-9223372036854775808)) (some (.tup [.agg [i 0,i 0,i 0],i 0],[])) (sl (ua0 x.x) (sl (Nat.beq t2.1 1) (sl (x.y==(-9223372036854775808)) (some (.tup [.agg [i 0,i 0,i 0],i 0],[])) (sl (ua0 x.y) (sl (Nat.beq t4.1 1) (sl (x.z==(-9223372036854775808)) (some (.tup [.agg [i 0,i 0,i 0],i 0],[])) (sl (ua0 x.z) (sl (Nat.beq t6.1 1) (sl (t6.2.is5==0) (some (.tup [.agg [i 0,i 0,i 0],i 0],[])) (sl (t6.2.is5==0) none (sl (t6.2.is5==0) none (sl (t6.2.is5==0) none (some (.tup [.agg [i (W (Int.tdiv x.x t6.2.is5)),i (W (Int.tdiv x.y t6.2.is5)),i (W (Int.tdiv x.z t6.2.is5))],i t6.2.is5],[])))))) none) none)) none) none)) none) none))
noncomputable def Sa4(x:V3):V3×Int:=O9 (two r1V r1I) (wb0 x)
noncomputable def wb1(x:V3):Bool:=okO (two r1V r1I) (wb0 x)
noncomputable def sc2:Sum:=Q9 (W8 tV) (λx=>.guard (wb1 x) (.ret ((two r1V r1I).enc (Sa4 x),[])))
theorem Oc2:f9 prog G 163 sc2:=Ea7 (bd Wf4 Fd2) (two r1V r1I) (o:=wb0) λx=>Ua7 (.s .p (.s .p (.s .p (.s (.s .p (.b (.l (.s .p (.s (.b (.s .p (.s .p (.b (.u Rb5.ls))))) .p))))) .p)))) [Rb5.pr] (by kernel_rfl) (.cons od7 .nil) (by kernel_rfl)
noncomputable def Fd3:List (Nat×Sum):=[(163,sc2),(191,Ja0)]
theorem od8:i4 prog G Fd3:=⟨Oc2,Wa1,trivial⟩
noncomputable def ib7(x:Pln):Option (b7×List b8):=let t1:=(Sa4 x.n);(sl (decide (x.n.x<(-4608))) (some (b false,[])) (sl (decide (x.n.x>4608)) (some (b false,[])) (sl (decide (x.n.y<(-4608))) (some (b false,[])) (sl (decide (x.n.y>4608)) (some (b false,[])) (sl (decide (x.n.z<(-4608))) (some (b false,[])) (sl (decide (x.n.z>4608)) (some (b false,[])) (sl (wb1 x.n) (sl (t1.2==1) (sl (decide (x.b>=(-2097152))) (some (b (decide (x.b<=2097152)),[])) (some (b false,[]))) (some (b false,[]))) none)))))))
noncomputable def Eb2(x:Pln):Bool:=O9 (one r1B) (ib7 x)
noncomputable def Eb3(x:Pln):Bool:=okO (one r1B) (ib7 x)
noncomputable def Oc3:Sum:=Q9 (W8 tP) (λx=>.guard (Eb3 x) (.ret ((one r1B).enc (Eb2 x),[])))
theorem Fd4:f9 prog G 156 Oc3:=Ea7 (bd Wf1 od8) (one r1B) (o:=ib7) λx=>q9 (by kernel_rfl)
structure Ye2 where
 j8:List Pln
structure Ye3 where
 is3:Int
structure ef1 where
 j8:List Pln
 Xe8:List Pt
 is4:Int
structure ef2 where
 bs5:Bool
 is6:Int
structure ef3 where
structure ef4 where
 j8:List Pln
 Xe8:List Pt
 is4:Int
noncomputable def he5:List (Nat×Sum):=[]
theorem Td9:i4 prog G he5:=trivial
noncomputable def Lb8(x:Int)(y:Int):Option (b7×List b8):=(sl (decide (y<1)) (some (i 0,[])) (sl (y==0) none (sl (y==0) none (some (i (Int.tmod (W ((Int.tmod x y)+y)) y),[])))))
noncomputable def ic1(x:Int)(y:Int):Int:=O9 (one r1I) (Lb8 x y)
noncomputable def ic2(x:Int)(y:Int):Bool:=okO (one r1I) (Lb8 x y)
noncomputable def wd9:Sum:=va4 cI cI (λx y=>.guard (ic2 x y) (.ret ((one r1I).enc (ic1 x y),[])))
theorem he6:f9 prog G 27 wd9:=Rb0 (bd b27 Td9) (one r1I) (o:=Lb8) λx y=>q9 (by kernel_rfl)
noncomputable def Fd5:List (Nat×Sum):=[]
theorem od9:i4 prog G Fd5:=trivial
noncomputable def j7(x:V3)(y:V3):Int:=(W ((W ((W (x.x*y.x))+(W (x.y*y.y))))+(W (x.z*y.z))))
noncomputable def Fa0:Sum:=va4 (W8 tV) (W8 tV) (λx y=>.ret ((one r1I).enc (j7 x y),[]))
theorem Ja1:f9 prog G 83 Fa0:=Ia9 (bd b83 od9) λx y=>q9 (by kernel_rfl)
noncomputable def Fd6:List (Nat×Sum):=[]
theorem pd0:i4 prog G Fd6:=trivial
noncomputable def j5(x:V3)(y:V3):V3:=(⟨W (x.x+y.x),W (x.y+y.y),W (x.z+y.z)⟩:V3)
noncomputable def bc5:Sum:=va4 (W8 tV) (W8 tV) (λx y=>.ret ((one r1V).enc (j5 x y),[]))
theorem yc6:f9 prog G 34 bc5:=Ia9 (bd b34 pd0) λx y=>q9 (by kernel_rfl)
noncomputable def pd1:List (Nat×Sum):=[]
theorem dd9:i4 prog G pd1:=trivial
noncomputable def pa5(x:V3)(y:Int):V3:=(⟨W (x.x*y),W (x.y*y),W (x.z*y)⟩:V3)
noncomputable def yc7:Sum:=va4 (W8 tV) cI (λx y=>.ret ((one r1V).enc (pa5 x y),[]))
theorem pd2:f9 prog G 116 yc7:=Ia9 (bd Uf1 dd9) λx y=>q9 (by kernel_rfl)
noncomputable def ed0:List (Nat×Sum):=[]
theorem Qc9:i4 prog G ed0:=trivial
noncomputable def C5(x:V3)(y:V3):V3:=(⟨W ((W (x.y*y.z))-(W (x.z*y.y))),W ((W (x.z*y.x))-(W (x.x*y.z))),W ((W (x.x*y.y))-(W (x.y*y.x)))⟩:V3)
noncomputable def fb2:Sum:=va4 (W8 tV) (W8 tV) (λx y=>.ret ((one r1V).enc (C5 x y),[]))
theorem wb2:f9 prog G 142 fb2:=Ia9 (bd Vf4 Qc9) λx y=>q9 (by kernel_rfl)
noncomputable def Fd7:List (Nat×Sum):=[(83,Fa0)]
theorem pd3:i4 prog G Fd7:=⟨Ja1,trivial⟩
noncomputable def Fa1(x:Pln)(y:Pt):Int:=let t1:=(j7 x.n (⟨y.px,y.py,y.pz⟩:V3));(W ((W (x.b*y.pw))-t1))
noncomputable def bc6:Sum:=va4 (W8 tP) (W8 tX) (λx y=>.ret ((one r1I).enc (Fa1 x y),[]))
theorem yc8:f9 prog G 153 bc6:=Ia9 (bd Wf0 pd3) λx y=>q9 (by kernel_rfl)
noncomputable def bc7:List (Nat×Sum):=[]
theorem Fd8:i4 prog G bc7:=trivial
structure Ja2 where
 Ia4:List Int
 (is7 is8:Int)
structure pa6 where
 (is3 is5:Int)
noncomputable def mc6(p:Ja2)(s:pa6):St:=⟨ra 3 (i s.is3::.unk::i s.is5::eL tI p.Ia4::i p.is7::i p.is8::ra 14 []),[]⟩
noncomputable def Fa2{α:Type}(k:pa6->α)(e:Nat->α)(z:α)(p:Ja2)(s:pa6):α:=(sl (s.is5 != 0) (sl (s.is5==0) z (k ⟨s.is5,Int.tmod s.is3 s.is5⟩)) (e 1))
noncomputable def Na4(p:Ja2)(s:pa6):Stp pa6:=Fa2 .next .exit .fail p s
noncomputable def Rb6:Lo Ja2 pa6:=⟨En bc7,0,Ke4,[1,1,0,1,4,4,1,1,0,4,1,4,4],[3,5,6,7,8],.p,[⟨ru2 3 (sIq::sUq::sIq::sLq tI::sIq::sIq::ru2 14 []),[],λa H=>(⟨aLq tI a 6,aIq a 7,aIq a 8⟩,⟨aIq a 3,aIq a 5⟩)⟩],Na4,[(some 2,λp s=>upq (mc6 p s) [(12,i s.is5),(13,b (s.is5 != 0))])],mc6⟩
theorem pd4:Rb6.Ok:=Lo.ok [] (by kernel_rfl) .nil rfl (.cons (λa H=>by kernel_rfl) .nil) λp s=>(.of @Fa2 (λF _ _ _ _ _=>by unfold Fa2;(repeat' apply l5 (f:=F))<;>rfl) (by kernel_rfl))
structure Wa2 where
 is7:Int
structure pa7 where
 is3:Int
 Ia4:List Int
 is8:Int
noncomputable def mc7(p:Wa2)(s:pa7):St:=⟨ra 3 (i s.is3::.unk::.unk::eL tI s.Ia4::i p.is7::i s.is8::ra 14 []),[]⟩
noncomputable def Fa3{α:Type}(k:pa7->α)(e:Nat->α)(z:α)(p:Wa2)(s:pa7):α:=let t1:=(lp (Na4 (⟨rt tI s.Ia4,p.is7,s.is8⟩:Ja2)) (⟨s.is3,gL tI s.Ia4 s.is8.toNat⟩:pa6));(sl (decide (s.is8<p.is7)) (sl (inB s.is8 (List.length s.Ia4)) (sl ((cnE tI s.Ia4)&&true) (sl (Nat.beq t1.1 1) (k ⟨t1.2.is3,rt tI s.Ia4,W (s.is8+1)⟩) z) z) z) (e 1))
noncomputable def Ba4(p:Wa2)(s:pa7):Stp pa7:=Fa3 .next .exit .fail p s
noncomputable def Rb7:Lo Wa2 pa7:=⟨En bc7,0,Ke4,[1,1,0,1,4,4],[3,6,7,8],.s .p (.s .p (.s (.b (.s .p (.b (.u Rb6.ls)))) .p)),[⟨ru2 3 (sIq::sUq::sUq::sLq tI::sIq::sIq::ru2 14 []),[],λa H=>(⟨aIq a 7⟩,⟨aIq a 3,aLq tI a 6,aIq a 8⟩)⟩],Ba4,[(some 0,λp s=>upq (mc7 p s) [(9,b (decide (s.is8<p.is7)))])],mc7⟩
theorem pd5:Rb7.Ok:=Lo.ok [Rb6.pr] (by kernel_rfl) (.cons pd4 .nil) rfl (.cons (λa H=>by kernel_rfl) .nil) λp s=>(.of @Fa3 (λF _ _ _ _ _=>by unfold Fa3;(repeat' apply l5 (f:=F))<;>rfl) (by kernel_rfl))
noncomputable def wb3(x:List Int):Option (b7×List b8):=let t1:=(lp (Ba4 (⟨(↑(List.length x):Int)⟩:Wa2)) (⟨0,rt tI x,0⟩:pa7));(sl ((cnE tI x)&&true) (sl (Nat.beq t1.1 1) (some ((i (if (W (0-t1.2.is3))>t1.2.is3 then (W (0-t1.2.is3)) else t1.2.is3)),[])) none) none)
noncomputable def Rb8(x:List Int):Int:=O9 (one r1I) (wb3 x)
noncomputable def Rb9(x:List Int):Bool:=okO (one r1I) (wb3 x)
noncomputable def ed1:Sum:=Q9 (ta7 tI) (λx=>.guard (Rb9 x) (.ret ((one r1I).enc (Rb8 x),[])))
theorem Ud0:f9 prog G 222 ed1:=Ea7 (bd Zf0 Fd8) (one r1I) (o:=wb3) λx=>Ua7 (.s .p (.s .p (.s (.s .p (.b (.u Rb7.ls))) .p))) [Rb7.pr] (by kernel_rfl) (.cons pd5 .nil) (by kernel_rfl)
noncomputable def Fd9:List (Nat×Sum):=[(142,fb2),(83,Fa0),(116,yc7),(34,bc5),(222,ed1)]
theorem pd6:i4 prog G Fd9:=⟨wb2,Ja1,pd2,yc6,Ud0,trivial⟩
noncomputable def ib8(x:Tp):Option (b7×List b8):=let t1:=(C5 x.q.n x.r.n);let t3:=(pa5 t1 x.p.b);let t4:=(j5 (⟨0,0,0⟩:V3) t3);let t5:=(C5 x.r.n x.p.n);let t7:=(pa5 t5 x.q.b);let t8:=(j5 t4 t7);let t9:=(C5 x.p.n x.q.n);let t10:=(j7 x.r.n t9);let t11:=(pa5 t9 x.r.b);let t12:=(j5 t8 t11);let t13:=(Rb8 [t12.x,t12.y,t12.z,t10]);(sl (t10==0) (some (.tup [.agg [i 0,i 0,i 0,i 0],b false],[])) (sl (Rb9 [t12.x,t12.y,t12.z,t10]) (sl (decide (t10<0)) (sl ((W (0-t13))==0) none (sl ((W (0-t13))==0) none (sl ((W (0-t13))==0) none (sl ((W (0-t13))==0) none (some (.tup [.agg [i (W (Int.tdiv t12.x (W (0-t13)))),i (W (Int.tdiv t12.y (W (0-t13)))),i (W (Int.tdiv t12.z (W (0-t13)))),i (W (Int.tdiv t10 (W (0-t13))))],b true],[])))))) (sl (t13==0) none (sl (t13==0) none (sl (t13==0) none (sl (t13==0) none (some (.tup [.agg [i (W (Int.tdiv t12.x t13)),i (W (Int.tdiv t12.y t13)),i (W (Int.tdiv t12.z t13)),i (W (Int.tdiv t10 t13))],b true],[]))))))) none))
noncomputable def ib9(x:Tp):Pt×Bool:=O9 (two r1X r1B) (ib8 x)
noncomputable def jb0(x:Tp):Bool:=okO (two r1X r1B) (ib8 x)
noncomputable def Oc4:Sum:=Q9 (W8 tY) (λx=>.guard (jb0 x) (.ret ((two r1X r1B).enc (ib9 x),[])))
theorem Gd0:f9 prog G 195 Oc4:=Ea7 (bd Yf4 pd6) (two r1X r1B) (o:=ib8) λx=>q9 (by kernel_rfl)
structure Pa9 where
 (U8 U9 V0 bb1 d7 c7 d8 g7:Int)
noncomputable def Gc9:List (Nat×Sum):=[(153,bc6)]
theorem yc9:i4 prog G Gc9:=⟨yc8,trivial⟩
structure ya2 where
 bs0:Bool
noncomputable def ya3{α:Type}(kk:ya2->α)(x:Pa9):α:=let t1:=(Fa1 (⟨(⟨x.U8,x.U9,x.V0⟩:V3),x.bb1⟩:Pln) (⟨x.d7,x.c7,x.d8,x.g7⟩:Pt));(kk ⟨decide (t1<0)⟩)
noncomputable def mb1(x:Pa9):ya2:=ya3 (λr=>r) x
noncomputable def cb0(x:Pa9)(r:ya2):DT (b7×List b8):=.ret (b r.bs0,[⟨0,4,[[i x.d7,i x.c7,i x.d8,i x.g7]],true,false,0⟩])
theorem Rc0{α β:Type}(F:α->β)(kk:ya2->α)(x:Pa9):F (ya3 kk x)=ya3 (λr=>F (kk r)) x:=by unfold ya3;(repeat' apply l5 (f:=F))<;>rfl
noncomputable def Vb1:Sum:=Ea0 ⟨[.agg (kLq 4),sPq 0],[⟨0,4,true,some [kLq 4]⟩],λa H=>(⟨cIq a 0 0,cIq a 0 1,cIq a 0 2,cIq a 0 3,hIq H 0 0 0,hIq H 0 0 1,hIq H 0 0 2,hIq H 0 0 3⟩,())⟩ (λx=>cb0 x (mb1 x))
theorem Hc0:f9 prog G 172 Vb1:=B5 (enc:=λx=>⟨[.agg [i x.U8,i x.U9,i x.V0,i x.bb1],.ptr 0 0 0 0],[⟨0,4,[[i x.d7,i x.c7,i x.d8,i x.g7]],true,false,0⟩]⟩) (λa H=>by kernel_rfl) (bd Xf2 yc9) λx=>q9 (Qha (b:=ya3 (λr=>(cb0 x r).run) x) (by kernel_rfl) (Rc0 (λr=>(cb0 x r).run) (λr=>r) x).symm)
structure X0 where
 j8:List Pln
 (d7 c7 d8 g7:Int)
noncomputable def Fa4:List (Nat×Sum):=[(172,Vb1)]
theorem qb8:i4 prog G Fa4:=⟨Hc0,trivial⟩
structure I1 where
 j8:List Pln
 (is7 d7 c7 d8 g7:Int)
structure n5 where
 is8:Int
noncomputable def ya4(p:I1)(s:n5):St:=⟨eL tP p.j8::.fn 172 [.ptr 0 0 0 0]::ra 5 (i p.is7::i s.is8::ra 10 []),[⟨0,4,[[i p.d7,i p.c7,i p.d8,i p.g7]],true,false,0⟩]⟩
noncomputable def E2{α:Type}(k:n5->α)(e:Nat->α)(z:α)(p:I1)(s:n5):α:=let t1:=(mb1 ⟨(gL tP p.j8 s.is8.toNat).n.x,(gL tP p.j8 s.is8.toNat).n.y,(gL tP p.j8 s.is8.toNat).n.z,(gL tP p.j8 s.is8.toNat).b,p.d7,p.c7,p.d8,p.g7⟩);(sl (decide (s.is8<p.is7)) (sl (inB s.is8 (List.length p.j8)) (sl t1.bs0 (e 1) (k ⟨W (s.is8+1)⟩)) z) (e 2))
noncomputable def G6(p:I1)(s:n5):Stp n5:=E2 .next .exit .fail p s
noncomputable def ga7:Lo I1 n5:=⟨En Fa4,1,oe7,[1,0,1,4,4],[0,1,7,8],.p,[⟨sLq tP::.fn 172 [.o (.ptr 0 0 0 0)]::ru2 5 (sIq::sIq::ru2 10 []),[⟨0,4,true,some [kLq 4]⟩],λa H=>(⟨aLq tP a 0,aIq a 7,hIq H 0 0 0,hIq H 0 0 1,hIq H 0 0 2,hIq H 0 0 3⟩,⟨aIq a 8⟩)⟩],G6,[(none,λp s=>⟨[i s.is8],[⟨0,4,[[i p.d7,i p.c7,i p.d8,i p.g7]],true,false,0⟩]⟩),(some 0,λp s=>upq (ya4 p s) [(9,b (decide (s.is8<p.is7)))])],ya4⟩
theorem mb2:ga7.Ok:=Lo.ok [] (by kernel_rfl) .nil rfl (.cons (λa H=>by kernel_rfl) .nil) λp s=>(.of @E2 (λF _ _ _ _ _=>by unfold E2;(repeat' apply l5 (f:=F))<;>rfl) (by kernel_rfl))
structure X1 where
 alt:Nat
 is0:Int
noncomputable def F4{α:Type}(kk:X1->α)(x:X0):α:=let t1:=(lp (G6 (⟨rt tP x.j8,(↑(List.length x.j8):Int),x.d7,x.c7,x.d8,x.g7⟩:I1)) (⟨0⟩:n5));(sl ((cnE tP x.j8)&&true) (sl (Nat.beq t1.1 1) (kk ⟨1,t1.2.is8⟩) (sl (Nat.beq t1.1 2) (kk ⟨1,-1⟩) (kk ⟨0,0⟩))) (kk ⟨0,0⟩))
noncomputable def X2(x:X0):X1:=F4 (λr=>r) x
noncomputable def ka6(x:X0)(r:X1):DT (b7×List b8):=(.ite (Nat.beq r.alt 1) (.ret (i r.is0,[⟨0,4,[[i x.d7,i x.c7,i x.d8,i x.g7]],true,false,0⟩])) .fail)
theorem Bb8{α β:Type}(F:α->β)(kk:X1->α)(x:X0):F (F4 kk x)=F4 (λr=>F (kk r)) x:=by unfold F4;(repeat' apply l5 (f:=F))<;>rfl
noncomputable def Ka8:Sum:=Ea0 ⟨[sLq tP,.fn 172 [.o (.ptr 0 0 0 0)]],[⟨0,4,true,some [kLq 4]⟩],λa H=>(⟨aLq tP a 0,hIq H 0 0 0,hIq H 0 0 1,hIq H 0 0 2,hIq H 0 0 3⟩,())⟩ (λx=>ka6 x (X2 x))
theorem wb4:f9 prog G 139 Ka8:=B5 (enc:=λx=>⟨[eL tP x.j8,.fn 172 [.ptr 0 0 0 0]],[⟨0,4,[[i x.d7,i x.c7,i x.d8,i x.g7]],true,false,0⟩]⟩) (λa H=>by kernel_rfl) (bd xf5 qb8) λx=>Ua7 (.s .p (.s (.s .p (.b (.u ga7.ls))) .p)) [ga7.pr] (by kernel_rfl) (.cons mb2 .nil) (Qha (b:=F4 (λr=>(ka6 x r).run) x) (by kernel_rfl) (Bb8 (λr=>(ka6 x r).run) (λr=>r) x).symm)
structure P0 where
 j8:List Pln
 (d7 c7 d8 g7:Int)
noncomputable def jb1:List (Nat×Sum):=[(139,Ka8)]
theorem cb1:i4 prog G jb1:=⟨wb4,trivial⟩
structure P1 where
 alt:Nat
 bs0:Bool
noncomputable def A6{α:Type}(kk:P1->α)(x:P0):α:=let t1:=(X2 ⟨rt tP x.j8,x.d7,x.c7,x.d8,x.g7⟩);(sl ((cnE tP x.j8)&&true) (sl (Nat.beq t1.alt 1) (kk ⟨1,decide (t1.is0>=0)⟩) (kk ⟨0,false⟩)) (kk ⟨0,false⟩))
noncomputable def fa1(x:P0):P1:=A6 (λr=>r) x
noncomputable def aa8(x:P0)(r:P1):DT (b7×List b8):=(.ite (Nat.beq r.alt 1) (.ret (b r.bs0,[⟨0,4,[[i x.d7,i x.c7,i x.d8,i x.g7]],true,false,0⟩])) .fail)
theorem mb3{α β:Type}(F:α->β)(kk:P1->α)(x:P0):F (A6 kk x)=A6 (λr=>F (kk r)) x:=by unfold A6;(repeat' apply l5 (f:=F))<;>rfl
noncomputable def ya5:Sum:=Ea0 ⟨[sLq tP,.fn 172 [.o (.ptr 0 0 0 0)]],[⟨0,4,true,some [kLq 4]⟩],λa H=>(⟨aLq tP a 0,hIq H 0 0 0,hIq H 0 0 1,hIq H 0 0 2,hIq H 0 0 3⟩,())⟩ (λx=>aa8 x (fa1 x))
theorem jb2:f9 prog G 86 ya5:=B5 (enc:=λx=>⟨[eL tP x.j8,.fn 172 [.ptr 0 0 0 0]],[⟨0,4,[[i x.d7,i x.c7,i x.d8,i x.g7]],true,false,0⟩]⟩) (λa H=>by kernel_rfl) (bd b86 cb1) λx=>q9 (Qha (b:=A6 (λr=>(aa8 x r).run) x) (by kernel_rfl) (mb3 (λr=>(aa8 x r).run) (λr=>r) x).symm)
noncomputable def ed2:List (Nat×Sum):=[(86,ya5)]
theorem Rc1:i4 prog G ed2:=⟨jb2,trivial⟩
noncomputable def Na5(x:List Pln)(y:Pt):Option (b7×List b8):=let t1:=(fa1 ⟨rt tP x,y.px,y.py,y.pz,y.pw⟩);(sl ((cnE tP x)&&true) (sl (Nat.beq t1.alt 1) (some (b (!t1.bs0),[])) none) none)
noncomputable def ja0(x:List Pln)(y:Pt):Bool:=O9 (one r1B) (Na5 x y)
noncomputable def ja1(x:List Pln)(y:Pt):Bool:=okO (one r1B) (Na5 x y)
noncomputable def Hb1:Sum:=va4 (ta7 tP) (W8 tX) (λx y=>.guard (ja1 x y) (.ret ((one r1B).enc (ja0 x y),[])))
theorem bc8:f9 prog G 115 Hb1:=Rb0 (bd Uf0 Rc1) (one r1B) (o:=Na5) λx y=>q9 (by kernel_rfl)
noncomputable def Na6:List (Nat×Sum):=[]
theorem Bb9:i4 prog G Na6:=trivial
@[reducible] noncomputable def Ta7:Sum:=lc5 (En Na6) qf3
theorem Hb2:f9 prog G 221 Ta7:=bd Yf9 Bb9
noncomputable def Wa3:List (Nat×Sum):=[(221,Ta7)]
theorem Lb9:i4 prog G Wa3:=⟨Hb2,trivial⟩
@[reducible] noncomputable def ab6:Sum:=lc5 (En Wa3) qf1
theorem Sb0:f9 prog G 194 ab6:=bd Yf3 Lb9
noncomputable def ga8:List (Nat×Sum):=[(195,Oc4),(115,Hb1),(194,ab6)]
theorem Mb0:i4 prog G ga8:=⟨Gd0,bc8,Sb0,trivial⟩
structure i5 where
 is3:Int
 ea7:List Pln
 (r8 ca3:Int)
 td2:Nat
 Pb4:Nat->List b7
 (Mc8 Da1:Int)
 Xe9:Nat
 Bb2:Nat->List b7
 le5:Int
 e7:List Pln
 (B7 B9 C0 xa8 sa9 ta0 ta1 Ub5:Int)
 Ka7:List Pln
structure i6 where
 ph:Nat
 Ea1:Int
 tb5:Nat
 (eh6 eh7:List (List b7))
noncomputable def Ka9(p:i5)(s:i6):St:=⟨.unk::.ptr 0 0 0 0::.unk::i p.is3::.ptr 1 0 0 0::.unk::.ptr 2 0 0 0::.unk::.unk::eL tP p.ea7::i p.r8::i p.ca3::ra 7 (.tree 4 p.td2 p.Pb4::i p.Mc8::i p.Da1::ra 9 (.tree 4 p.Xe9 p.Bb2::i p.le5::i s.Ea1::ra 13 (i 0::.unk::.ptr 3 0 0 0::.v (.slice none 0 0)::.ptr 4 0 0 0::.ptr 5 0 0 0::ra 31 []))),[⟨0,1,[[eL tP p.e7]],true,false,0⟩,⟨0,4,[[i p.B7,i p.B9,i p.C0,i p.xa8]],true,false,0⟩,⟨0,4,[[i p.sa9,i p.ta0,i p.ta1,i p.Ub5]],true,false,0⟩,⟨0,1,[[eL tP p.Ka7]],true,false,0⟩,⟨0,0,[[.v (.slice none 0 0)]],true,false,0⟩,⟨0,0,[[.ptr 6 0 0 0]],true,false,0⟩,⟨182,0,[],true,false,0⟩]⟩
noncomputable def La0(p:i5)(s:i6):St:=⟨.unk::.ptr 0 0 0 0::.unk::i p.is3::.ptr 1 0 0 0::.unk::.ptr 2 0 0 0::.unk::.unk::eL tP p.ea7::i p.r8::i p.ca3::ra 7 (.tree 4 p.td2 p.Pb4::i p.Mc8::i p.Da1::ra 9 (.tree 4 p.Xe9 p.Bb2::i p.le5::i s.Ea1::ra 13 (i 0::.unk::.ptr 3 0 0 0::.v (.slice none 0 0)::.ptr 4 0 0 0::.ptr 5 0 0 0::ra 31 []))),[⟨0,1,[[eL tP p.e7]],true,false,0⟩,⟨0,4,[[i p.B7,i p.B9,i p.C0,i p.xa8]],true,false,0⟩,⟨0,4,[[i p.sa9,i p.ta0,i p.ta1,i p.Ub5]],true,false,0⟩,⟨0,1,[[eL tP p.Ka7]],true,false,0⟩,⟨0,0,[[.sl 6 0 s.tb5 0]],true,false,0⟩,⟨0,0,[[.ptr 7 0 0 0]],true,false,0⟩,⟨136,4,s.eh6,true,false,0⟩,⟨182,0,s.eh7,true,false,0⟩]⟩
noncomputable def Hb3(p:i5)(s:i6):St:=(sel (Nat.beq s.ph 1) (La0 p s) (Ka9 p s))
noncomputable def z7{α:Type}(k:i6->α)(e:Nat->α)(z:α)(p:i5)(s:i6):α:=let t1:=(ib9 (⟨(⟨(⟨p.B7,p.B9,p.C0⟩:V3),p.xa8⟩:Pln),(⟨(⟨p.sa9,p.ta0,p.ta1⟩:V3),p.Ub5⟩:Pln),(⟨(⟨toI (hdA (p.Bb2 s.Ea1.toNat)),toI (hdA (tlA (p.Bb2 s.Ea1.toNat))),toI (hdA (tlA (tlA (p.Bb2 s.Ea1.toNat))))⟩:V3),toI (hdA (tlA (tlA (tlA (p.Bb2 s.Ea1.toNat)))))⟩:Pln)⟩:Tp));let t2:=(ja0 (rt tP p.Ka7) t1.1);(sl (decide (s.Ea1<p.le5)) (sl (inB s.Ea1 p.Xe9) (sl ((Nat.ble 4 (len (p.Bb2 s.Ea1.toNat)))&&(ta2 [CK.int .i64,CK.int .i64,CK.int .i64,CK.int .i64] (p.Bb2 s.Ea1.toNat))) (sl (jb0 (⟨(⟨(⟨p.B7,p.B9,p.C0⟩:V3),p.xa8⟩:Pln),(⟨(⟨p.sa9,p.ta0,p.ta1⟩:V3),p.Ub5⟩:Pln),(⟨(⟨toI (hdA (p.Bb2 s.Ea1.toNat)),toI (hdA (tlA (p.Bb2 s.Ea1.toNat))),toI (hdA (tlA (tlA (p.Bb2 s.Ea1.toNat))))⟩:V3),toI (hdA (tlA (tlA (tlA (p.Bb2 s.Ea1.toNat)))))⟩:Pln)⟩:Tp)) (sl t1.2 (sl (!(Da3 4 [(0,.int .i64),(1,.int .i64),(2,.int .i64),(3,.int .i64)] [i t1.1.px,i t1.1.py,i t1.1.pz,i t1.1.pw] [])) (sl (okE tP p.Ka7) (sl (ja1 (rt tP p.Ka7) t1.1) (sl t2 (k ⟨1,W (s.Ea1+1),1,[[i t1.1.px,i t1.1.py,i t1.1.pz,i t1.1.pw]],V5 [(0,.int .i64),(1,.int .i64),(2,.int .i64),(3,.int .i64)] [i t1.1.px,i t1.1.py,i t1.1.pz,i t1.1.pw] [i t1.1.px,i t1.1.py,i t1.1.pz,i t1.1.pw,b true] []⟩) (k ⟨0,W (s.Ea1+1),0,[],[]⟩)) z) z) (k ⟨0,W (s.Ea1+1),0,[],[]⟩)) (k ⟨0,W (s.Ea1+1),0,[],[]⟩)) z) z) z) (e 1))
noncomputable def z8{α:Type}(k:i6->α)(e:Nat->α)(z:α)(p:i5)(s:i6):α:=let t1:=(ib9 (⟨(⟨(⟨p.B7,p.B9,p.C0⟩:V3),p.xa8⟩:Pln),(⟨(⟨p.sa9,p.ta0,p.ta1⟩:V3),p.Ub5⟩:Pln),(⟨(⟨toI (hdA (p.Bb2 s.Ea1.toNat)),toI (hdA (tlA (p.Bb2 s.Ea1.toNat))),toI (hdA (tlA (tlA (p.Bb2 s.Ea1.toNat))))⟩:V3),toI (hdA (tlA (tlA (tlA (p.Bb2 s.Ea1.toNat)))))⟩:Pln)⟩:Tp));let t2:=(ja0 (rt tP p.Ka7) t1.1);(sl (decide (s.Ea1<p.le5)) (sl (inB s.Ea1 p.Xe9) (sl ((Nat.ble 4 (len (p.Bb2 s.Ea1.toNat)))&&(ta2 [CK.int .i64,CK.int .i64,CK.int .i64,CK.int .i64] (p.Bb2 s.Ea1.toNat))) (sl (jb0 (⟨(⟨(⟨p.B7,p.B9,p.C0⟩:V3),p.xa8⟩:Pln),(⟨(⟨p.sa9,p.ta0,p.ta1⟩:V3),p.Ub5⟩:Pln),(⟨(⟨toI (hdA (p.Bb2 s.Ea1.toNat)),toI (hdA (tlA (p.Bb2 s.Ea1.toNat))),toI (hdA (tlA (tlA (p.Bb2 s.Ea1.toNat))))⟩:V3),toI (hdA (tlA (tlA (tlA (p.Bb2 s.Ea1.toNat)))))⟩:Pln)⟩:Tp)) (sl t1.2 (sl (!(Da3 4 [(0,.int .i64),(1,.int .i64),(2,.int .i64),(3,.int .i64)] [i t1.1.px,i t1.1.py,i t1.1.pz,i t1.1.pw] s.eh7)) (sl (okE tP p.Ka7) (sl (ja1 (rt tP p.Ka7) t1.1) (sl t2 (sl (Nat.beq s.tb5 (len s.eh6)&&Nat.ble ((s.tb5+1)*32) room) (k ⟨1,W (s.Ea1+1),s.tb5+1,app s.eh6 [[i t1.1.px,i t1.1.py,i t1.1.pz,i t1.1.pw]],V5 [(0,.int .i64),(1,.int .i64),(2,.int .i64),(3,.int .i64)] [i t1.1.px,i t1.1.py,i t1.1.pz,i t1.1.pw] [i t1.1.px,i t1.1.py,i t1.1.pz,i t1.1.pw,b true] s.eh7⟩) z) (k ⟨1,W (s.Ea1+1),s.tb5,s.eh6,s.eh7⟩)) z) z) (k ⟨1,W (s.Ea1+1),s.tb5,s.eh6,s.eh7⟩)) (k ⟨1,W (s.Ea1+1),s.tb5,s.eh6,s.eh7⟩)) z) z) z) (e 2))
noncomputable def w8(p:i5)(s:i6):Stp i6:=(sel (Nat.beq s.ph 1) (z8 .next .exit .fail p s) (z7 .next .exit .fail p s))
noncomputable def ua1:Lo i5 i6:=⟨En ga8,0,oe8,[1,1,1,0,1,4,4,1,4,4,1,1,0,4,1,1,4,4,1,1,0,4,1,1,4,4],[1,3,4,6,9,10,11,19,20,21,31,32,33,47,49,50,51,52],.p,[⟨sUq::sPq 0::sUq::sIq::sPq 1::sUq::sPq 2::sUq::sUq::sLq tP::sIq::sIq::ru2 7 (sTq 4::sIq::sIq::ru2 9 (sTq 4::sIq::sIq::ru2 13 (.s (.o (.lit .i64 0))::sUq::sPq 3::.s (.o .nil)::sPq 4::sPq 5::ru2 31 []))),[⟨0,1,true,some [[.c 4 (nL tP)]]⟩,⟨0,4,true,some [kLq 4]⟩,⟨0,4,true,some [kLq 4]⟩,⟨0,1,true,some [[.c 4 (nL tP)]]⟩,⟨0,0,true,some [[.o .nil]]⟩,⟨0,0,true,some [[.o (.ptr 6 0 0 0)]]⟩,⟨182,0,true,some []⟩],λa H=>(⟨aIq a 3,aLq tP a 9,aIq a 10,aIq a 11,aNq a 19,aGq a 19,aIq a 20,aIq a 21,aNq a 31,aGq a 31,aIq a 32,hLq tP H 0 0 0,hIq H 1 0 0,hIq H 1 0 1,hIq H 1 0 2,hIq H 1 0 3,hIq H 2 0 0,hIq H 2 0 1,hIq H 2 0 2,hIq H 2 0 3,hLq tP H 3 0 0⟩,⟨0,aIq a 33,0,[],[]⟩)⟩,⟨sUq::sPq 0::sUq::sIq::sPq 1::sUq::sPq 2::sUq::sUq::sLq tP::sIq::sIq::ru2 7 (sTq 4::sIq::sIq::ru2 9 (sTq 4::sIq::sIq::ru2 13 (.s (.o (.lit .i64 0))::sUq::sPq 3::.s (.o .nil)::sPq 4::sPq 5::ru2 31 []))),[⟨0,1,true,some [[.c 4 (nL tP)]]⟩,⟨0,4,true,some [kLq 4]⟩,⟨0,4,true,some [kLq 4]⟩,⟨0,1,true,some [[.c 4 (nL tP)]]⟩,⟨0,0,true,some [[.o (.sl 6 0 (some 0) none)]]⟩,⟨0,0,true,some [[.o (.ptr 7 0 0 0)]]⟩,⟨136,4,true,none⟩,⟨182,0,true,none⟩],λa H=>(⟨aIq a 3,aLq tP a 9,aIq a 10,aIq a 11,aNq a 19,aGq a 19,aIq a 20,aIq a 21,aNq a 31,aGq a 31,aIq a 32,hLq tP H 0 0 0,hIq H 1 0 0,hIq H 1 0 1,hIq H 1 0 2,hIq H 1 0 3,hIq H 2 0 0,hIq H 2 0 1,hIq H 2 0 2,hIq H 2 0 3,hLq tP H 3 0 0⟩,⟨1,aIq a 33,slN (slT (rwT (elT H 4) 0) 0),elT H 6,elT H 7⟩)⟩],w8,[(some 4,λp s=>upq (Ka9 p s) [(34,b (decide (s.Ea1<p.le5)))]),(some 4,λp s=>upq (La0 p s) [(34,b (decide (s.Ea1<p.le5)))])],Hb3⟩
theorem Hb4:ua1.OkM:=Lo.okM [] (by kernel_rfl) .nil rfl (.cons (λa H=>by kernel_rfl) (.cons (λa H=>by kernel_rfl) .nil)) λp s=>(.sel (Nat.beq s.ph 1) (.of @z8 (λF _ _ _ _ _=>by unfold z8;(repeat' apply l5 (f:=F))<;>rfl) (by kernel_rfl)) (.of @z7 (λF _ _ _ _ _=>by unfold z7;(repeat' apply l5 (f:=F))<;>rfl) (by kernel_rfl)))
structure i7 where
 (is3 r8 ca3:Int)
 td2:Nat
 Pb4:Nat->List b7
 (Mc8 B7 B9 C0 xa8:Int)
structure j6 where
 ph:Nat
 ea7:List Pln
 Da1:Int
 (e7 ea8:List Pln)
 y7:Nat
 (eh5 eh6:List (List b7))
noncomputable def La1(p:i7)(s:j6):St:=⟨.unk::.ptr 0 0 0 0::.unk::i p.is3::.ptr 1 0 0 0::ra 4 (eL tP s.ea7::i p.r8::i p.ca3::ra 7 (.tree 4 p.td2 p.Pb4::i p.Mc8::i s.Da1::ra 25 (i 0::.unk::.ptr 2 0 0 0::.v (.slice none 0 0)::.ptr 3 0 0 0::.ptr 4 0 0 0::ra 31 []))),[⟨0,1,[[eL tP s.e7]],true,false,0⟩,⟨0,4,[[i p.B7,i p.B9,i p.C0,i p.xa8]],true,false,0⟩,⟨0,1,[[eL tP s.ea8]],true,false,0⟩,⟨0,0,[[.v (.slice none 0 0)]],true,false,0⟩,⟨0,0,[[.ptr 5 0 0 0]],true,false,0⟩,⟨182,0,[],true,false,0⟩]⟩
noncomputable def La2(p:i7)(s:j6):St:=⟨.unk::.ptr 0 0 0 0::.unk::i p.is3::.ptr 1 0 0 0::ra 4 (eL tP s.ea7::i p.r8::i p.ca3::ra 7 (.tree 4 p.td2 p.Pb4::i p.Mc8::i s.Da1::ra 25 (i 0::.unk::.ptr 2 0 0 0::.v (.slice none 0 0)::.ptr 3 0 0 0::.ptr 4 0 0 0::ra 31 []))),[⟨0,1,[[eL tP s.e7]],true,false,0⟩,⟨0,4,[[i p.B7,i p.B9,i p.C0,i p.xa8]],true,false,0⟩,⟨0,1,[[eL tP s.ea8]],true,false,0⟩,⟨0,0,[[.sl 5 0 s.y7 0]],true,false,0⟩,⟨0,0,[[.ptr 6 0 0 0]],true,false,0⟩,⟨136,4,s.eh5,true,false,0⟩,⟨182,0,s.eh6,true,false,0⟩]⟩
noncomputable def Hb5(p:i7)(s:j6):St:=(sel (Nat.beq s.ph 1) (La2 p s) (La1 p s))
noncomputable def A0{α:Type}(k:j6->α)(e:Nat->α)(z:α)(p:i7)(s:j6):α:=let t1:=(lp (w8 (⟨p.is3,rt tP s.ea7,p.r8,p.ca3,p.td2,p.Pb4,p.Mc8,s.Da1,(List.length s.e7)-(W ((W (p.is3+s.Da1))+2)).toNat,(λk=>(λk=>(tP).row (gL tP s.e7 k)) ((W ((W (p.is3+s.Da1))+2)).toNat+k)),(↑((List.length s.e7)-(W ((W (p.is3+s.Da1))+2)).toNat):Int),rt tP s.e7,p.B7,p.B9,p.C0,p.xa8,toI (hdA (p.Pb4 s.Da1.toNat)),toI (hdA (tlA (p.Pb4 s.Da1.toNat))),toI (hdA (tlA (tlA (p.Pb4 s.Da1.toNat)))),toI (hdA (tlA (tlA (tlA (p.Pb4 s.Da1.toNat))))),rt tP s.ea8⟩:i5)) (⟨0,0,0,[],[]⟩:i6));(sl (decide (s.Da1<p.Mc8)) (sl (inB s.Da1 p.td2) (sl ((Nat.ble 4 (len (p.Pb4 s.Da1.toNat)))&&(ta2 [CK.int .i64,CK.int .i64,CK.int .i64,CK.int .i64] (p.Pb4 s.Da1.toNat))) (sl (inB (W ((W (p.is3+s.Da1))+2)) ((List.length s.e7)+1)) (sl ((cnE tP s.ea7)&&((cnE tP s.e7)&&((cnE tP s.ea8)&&true))) (sl (Nat.beq t1.1 1) (k ⟨0,rt tP s.ea7,W (s.Da1+1),rt tP s.e7,rt tP s.ea8,0,[],[]⟩) (sl (Nat.beq t1.1 2) (k ⟨1,rt tP s.ea7,W (s.Da1+1),rt tP s.e7,rt tP s.ea8,t1.2.tb5,t1.2.eh6,t1.2.eh7⟩) z)) z) z) z) z) (e 1))
noncomputable def A1{α:Type}(k:j6->α)(e:Nat->α)(z:α)(p:i7)(s:j6):α:=let t1:=(lp (w8 (⟨p.is3,rt tP s.ea7,p.r8,p.ca3,p.td2,p.Pb4,p.Mc8,s.Da1,(List.length s.e7)-(W ((W (p.is3+s.Da1))+2)).toNat,(λk=>(λk=>(tP).row (gL tP s.e7 k)) ((W ((W (p.is3+s.Da1))+2)).toNat+k)),(↑((List.length s.e7)-(W ((W (p.is3+s.Da1))+2)).toNat):Int),rt tP s.e7,p.B7,p.B9,p.C0,p.xa8,toI (hdA (p.Pb4 s.Da1.toNat)),toI (hdA (tlA (p.Pb4 s.Da1.toNat))),toI (hdA (tlA (tlA (p.Pb4 s.Da1.toNat)))),toI (hdA (tlA (tlA (tlA (p.Pb4 s.Da1.toNat))))),rt tP s.ea8⟩:i5)) (⟨1,0,s.y7,s.eh5,s.eh6⟩:i6));(sl (decide (s.Da1<p.Mc8)) (sl (inB s.Da1 p.td2) (sl ((Nat.ble 4 (len (p.Pb4 s.Da1.toNat)))&&(ta2 [CK.int .i64,CK.int .i64,CK.int .i64,CK.int .i64] (p.Pb4 s.Da1.toNat))) (sl (inB (W ((W (p.is3+s.Da1))+2)) ((List.length s.e7)+1)) (sl ((cnE tP s.ea7)&&((cnE tP s.e7)&&((cnE tP s.ea8)&&true))) (sl (Nat.beq t1.1 1) (k ⟨0,rt tP s.ea7,W (s.Da1+1),rt tP s.e7,rt tP s.ea8,0,[],[]⟩) (sl (Nat.beq t1.1 2) (k ⟨1,rt tP s.ea7,W (s.Da1+1),rt tP s.e7,rt tP s.ea8,t1.2.tb5,t1.2.eh6,t1.2.eh7⟩) z)) z) z) z) z) (e 2))
noncomputable def w9(p:i7)(s:j6):Stp j6:=(sel (Nat.beq s.ph 1) (A1 .next .exit .fail p s) (A0 .next .exit .fail p s))
noncomputable def ua2:Lo i7 j6:=⟨En ga8,0,oe8,[1,1,1,0,1,4,4,1,4,4,1,1,0,4,1,1,4,4],[1,3,4,9,10,11,19,20,21,47,49,50,51,52],.s .p (.s .p (.s (.b (.s .p (.s .p (.b (.u ua1.lsM))))) .p)),[⟨sUq::sPq 0::sUq::sIq::sPq 1::ru2 4 (sLq tP::sIq::sIq::ru2 7 (sTq 4::sIq::sIq::ru2 25 (.s (.o (.lit .i64 0))::sUq::sPq 2::.s (.o .nil)::sPq 3::sPq 4::ru2 31 []))),[⟨0,1,true,some [[.c 4 (nL tP)]]⟩,⟨0,4,true,some [kLq 4]⟩,⟨0,1,true,some [[.c 4 (nL tP)]]⟩,⟨0,0,true,some [[.o .nil]]⟩,⟨0,0,true,some [[.o (.ptr 5 0 0 0)]]⟩,⟨182,0,true,some []⟩],λa H=>(⟨aIq a 3,aIq a 10,aIq a 11,aNq a 19,aGq a 19,aIq a 20,hIq H 1 0 0,hIq H 1 0 1,hIq H 1 0 2,hIq H 1 0 3⟩,⟨0,aLq tP a 9,aIq a 21,hLq tP H 0 0 0,hLq tP H 2 0 0,0,[],[]⟩)⟩,⟨sUq::sPq 0::sUq::sIq::sPq 1::ru2 4 (sLq tP::sIq::sIq::ru2 7 (sTq 4::sIq::sIq::ru2 25 (.s (.o (.lit .i64 0))::sUq::sPq 2::.s (.o .nil)::sPq 3::sPq 4::ru2 31 []))),[⟨0,1,true,some [[.c 4 (nL tP)]]⟩,⟨0,4,true,some [kLq 4]⟩,⟨0,1,true,some [[.c 4 (nL tP)]]⟩,⟨0,0,true,some [[.o (.sl 5 0 (some 0) none)]]⟩,⟨0,0,true,some [[.o (.ptr 6 0 0 0)]]⟩,⟨136,4,true,none⟩,⟨182,0,true,none⟩],λa H=>(⟨aIq a 3,aIq a 10,aIq a 11,aNq a 19,aGq a 19,aIq a 20,hIq H 1 0 0,hIq H 1 0 1,hIq H 1 0 2,hIq H 1 0 3⟩,⟨1,aLq tP a 9,aIq a 21,hLq tP H 0 0 0,hLq tP H 2 0 0,slN (slT (rwT (elT H 3) 0) 0),elT H 5,elT H 6⟩)⟩],w9,[(some 2,λp s=>upq (La1 p s) [(22,b (decide (s.Da1<p.Mc8)))]),(some 2,λp s=>upq (La2 p s) [(22,b (decide (s.Da1<p.Mc8)))])],Hb5⟩
theorem Hb6:ua2.OkM:=Lo.okM [ua1.prM] (by kernel_rfl) (.cons Hb4 .nil) rfl (.cons (λa H=>by kernel_rfl) (.cons (λa H=>by kernel_rfl) .nil)) λp s=>(.sel (Nat.beq s.ph 1) (.of @A1 (λF _ _ _ _ _=>by unfold A1;(repeat' apply l5 (f:=F))<;>rfl) (by kernel_rfl)) (.of @A0 (λF _ _ _ _ _=>by unfold A0;(repeat' apply l5 (f:=F))<;>rfl) (by kernel_rfl)))
structure p6 where
 r8:Int
structure l7 where
 ph:Nat
 ea7:List Pln
 ca3:Int
 (e7 o6:List Pln)
 Yc8:Nat
 (eh4 eh5:List (List b7))
noncomputable def La3(p:p6)(s:l7):St:=⟨.unk::.ptr 0 0 0 0::ra 7 (eL tP s.ea7::i p.r8::i s.ca3::ra 35 (i 0::.unk::.ptr 1 0 0 0::.v (.slice none 0 0)::.ptr 2 0 0 0::.ptr 3 0 0 0::ra 31 [])),[⟨0,1,[[eL tP s.e7]],true,false,0⟩,⟨0,1,[[eL tP s.o6]],true,false,0⟩,⟨0,0,[[.v (.slice none 0 0)]],true,false,0⟩,⟨0,0,[[.ptr 4 0 0 0]],true,false,0⟩,⟨182,0,[],true,false,0⟩]⟩
noncomputable def La4(p:p6)(s:l7):St:=⟨.unk::.ptr 0 0 0 0::ra 7 (eL tP s.ea7::i p.r8::i s.ca3::ra 35 (i 0::.unk::.ptr 1 0 0 0::.v (.slice none 0 0)::.ptr 2 0 0 0::.ptr 3 0 0 0::ra 31 [])),[⟨0,1,[[eL tP s.e7]],true,false,0⟩,⟨0,1,[[eL tP s.o6]],true,false,0⟩,⟨0,0,[[.sl 4 0 s.Yc8 0]],true,false,0⟩,⟨0,0,[[.ptr 5 0 0 0]],true,false,0⟩,⟨136,4,s.eh4,true,false,0⟩,⟨182,0,s.eh5,true,false,0⟩]⟩
noncomputable def Hb7(p:p6)(s:l7):St:=(sel (Nat.beq s.ph 1) (La4 p s) (La3 p s))
noncomputable def A2{α:Type}(k:l7->α)(e:Nat->α)(z:α)(p:p6)(s:l7):α:=let t1:=(lp (w9 (⟨s.ca3,p.r8,s.ca3,(List.length s.e7)-(W (s.ca3+1)).toNat,(λk=>(λk=>(tP).row (gL tP s.e7 k)) ((W (s.ca3+1)).toNat+k)),(↑((List.length s.e7)-(W (s.ca3+1)).toNat):Int),(gL tP s.ea7 s.ca3.toNat).n.x,(gL tP s.ea7 s.ca3.toNat).n.y,(gL tP s.ea7 s.ca3.toNat).n.z,(gL tP s.ea7 s.ca3.toNat).b⟩:i7)) (⟨0,rt tP s.ea7,0,rt tP s.e7,rt tP s.o6,0,[],[]⟩:j6));(sl (decide (s.ca3<p.r8)) (sl (inB s.ca3 (List.length s.ea7)) (sl (inB (W (s.ca3+1)) ((List.length s.e7)+1)) (sl ((cnE tP s.ea7)&&((cnE tP s.e7)&&((cnE tP s.o6)&&true))) (sl (Nat.beq t1.1 1) (k ⟨0,t1.2.ea7,W (s.ca3+1),t1.2.e7,t1.2.ea8,0,[],[]⟩) (sl (Nat.beq t1.1 2) (k ⟨1,t1.2.ea7,W (s.ca3+1),t1.2.e7,t1.2.ea8,t1.2.y7,t1.2.eh5,t1.2.eh6⟩) z)) z) z) z) (e 1))
noncomputable def A3{α:Type}(k:l7->α)(e:Nat->α)(z:α)(p:p6)(s:l7):α:=let t1:=(lp (w9 (⟨s.ca3,p.r8,s.ca3,(List.length s.e7)-(W (s.ca3+1)).toNat,(λk=>(λk=>(tP).row (gL tP s.e7 k)) ((W (s.ca3+1)).toNat+k)),(↑((List.length s.e7)-(W (s.ca3+1)).toNat):Int),(gL tP s.ea7 s.ca3.toNat).n.x,(gL tP s.ea7 s.ca3.toNat).n.y,(gL tP s.ea7 s.ca3.toNat).n.z,(gL tP s.ea7 s.ca3.toNat).b⟩:i7)) (⟨1,rt tP s.ea7,0,rt tP s.e7,rt tP s.o6,s.Yc8,s.eh4,s.eh5⟩:j6));(sl (decide (s.ca3<p.r8)) (sl (inB s.ca3 (List.length s.ea7)) (sl (inB (W (s.ca3+1)) ((List.length s.e7)+1)) (sl ((cnE tP s.ea7)&&((cnE tP s.e7)&&((cnE tP s.o6)&&true))) (sl (Nat.beq t1.1 1) (k ⟨0,t1.2.ea7,W (s.ca3+1),t1.2.e7,t1.2.ea8,0,[],[]⟩) (sl (Nat.beq t1.1 2) (k ⟨1,t1.2.ea7,W (s.ca3+1),t1.2.e7,t1.2.ea8,t1.2.y7,t1.2.eh5,t1.2.eh6⟩) z)) z) z) z) (e 2))
noncomputable def y5(p:p6)(s:l7):Stp l7:=(sel (Nat.beq s.ph 1) (A3 .next .exit .fail p s) (A2 .next .exit .fail p s))
noncomputable def ua3:Lo p6 l7:=⟨En ga8,0,oe8,[1,1,1,0,1,4,4,1,4,4],[1,9,10,11,47,49,50,51,52],.s .p (.s .p (.s (.b (.s .p (.s .p (.b (.u ua2.lsM))))) .p)),[⟨sUq::sPq 0::ru2 7 (sLq tP::sIq::sIq::ru2 35 (.s (.o (.lit .i64 0))::sUq::sPq 1::.s (.o .nil)::sPq 2::sPq 3::ru2 31 [])),[⟨0,1,true,some [[.c 4 (nL tP)]]⟩,⟨0,1,true,some [[.c 4 (nL tP)]]⟩,⟨0,0,true,some [[.o .nil]]⟩,⟨0,0,true,some [[.o (.ptr 4 0 0 0)]]⟩,⟨182,0,true,some []⟩],λa H=>(⟨aIq a 10⟩,⟨0,aLq tP a 9,aIq a 11,hLq tP H 0 0 0,hLq tP H 1 0 0,0,[],[]⟩)⟩,⟨sUq::sPq 0::ru2 7 (sLq tP::sIq::sIq::ru2 35 (.s (.o (.lit .i64 0))::sUq::sPq 1::.s (.o .nil)::sPq 2::sPq 3::ru2 31 [])),[⟨0,1,true,some [[.c 4 (nL tP)]]⟩,⟨0,1,true,some [[.c 4 (nL tP)]]⟩,⟨0,0,true,some [[.o (.sl 4 0 (some 0) none)]]⟩,⟨0,0,true,some [[.o (.ptr 5 0 0 0)]]⟩,⟨136,4,true,none⟩,⟨182,0,true,none⟩],λa H=>(⟨aIq a 10⟩,⟨1,aLq tP a 9,aIq a 11,hLq tP H 0 0 0,hLq tP H 1 0 0,slN (slT (rwT (elT H 2) 0) 0),elT H 4,elT H 5⟩)⟩],y5,[(some 0,λp s=>upq (La3 p s) [(12,b (decide (s.ca3<p.r8)))]),(some 0,λp s=>upq (La4 p s) [(12,b (decide (s.ca3<p.r8)))])],Hb7⟩
theorem Hb8:ua3.OkM:=Lo.okM [ua2.prM] (by kernel_rfl) (.cons Hb6 .nil) rfl (.cons (λa H=>by kernel_rfl) (.cons (λa H=>by kernel_rfl) .nil)) λp s=>(.sel (Nat.beq s.ph 1) (.of @A3 (λF _ _ _ _ _=>by unfold A3;(repeat' apply l5 (f:=F))<;>rfl) (by kernel_rfl)) (.of @A2 (λF _ _ _ _ _=>by unfold A2;(repeat' apply l5 (f:=F))<;>rfl) (by kernel_rfl)))
noncomputable def Y4(x:List Pln):Option (b7×List b8):=let t1:=(lp (y5 (⟨(↑(List.length x):Int)⟩:p6)) (⟨0,rt tP x,0,rt tP x,rt tP x,0,[],[]⟩:l7));(sl ((cnE tP x)&&((cnE tP x)&&((cnE tP x)&&true))) (sl (Nat.beq t1.1 1) (some (.v (.slice none 0 0),[])) (sl (Nat.beq t1.1 2) (some (.sl 0 0 t1.2.Yc8 0,[⟨136,4,t1.2.eh4,true,false,0⟩])) none)) none)
noncomputable def Y5(x:List Pln):List Pt:=O9 (one (r1L tX)) (Y4 x)
noncomputable def Y6(x:List Pln):Bool:=okO (one (r1L tX)) (Y4 x)
noncomputable def Ca6:Sum:=Q9 (ta7 tP) (λx=>.guard (Y6 x) (.ret ((one (r1L tX)).enc (Y5 x),[])))
theorem Wa4:f9 prog G 167 Ca6:=Ea7 (bd Wf8 Mb0) (one (r1L tX)) (o:=Y4) λx=>dd7 (.s .p (.s .p (.s .p (.s (.s .p (.b (.i (.s .p (.b (.u ua3.lsM)))))) .p)))) [ua3.prM] (by kernel_rfl) (.cons Hb8 .nil) (by kernel_rfl)
noncomputable def Vb2:List (Nat×Sum):=[]
theorem Hc1:i4 prog G Vb2:=trivial
structure ua4 where
 is0:Int
 te0:List Int
 is8:Int
structure L9 where
 is9:Int
noncomputable def Eb4(p:ua4)(s:L9):St:=⟨i p.is0::ra 6 (eL tI p.te0::i p.is8::i s.is9::ra 13 []),[]⟩
noncomputable def ka7{α:Type}(k:L9->α)(e:Nat->α)(z:α)(p:ua4)(s:L9):α:=(sl (decide (s.is9<p.is8)) (sl (inB s.is9 (List.length p.te0)) (sl (decide ((gL tI p.te0 s.is9.toNat)<(W (0-p.is0)))) (e 1) (sl (decide ((gL tI p.te0 s.is9.toNat)>p.is0)) (e 1) (k ⟨W (s.is9+1)⟩))) z) (e 2))
noncomputable def pa8(p:ua4)(s:L9):Stp L9:=ka7 .next .exit .fail p s
noncomputable def cb2:Lo ua4 L9:=⟨En Vb2,0,pf2,[1,0,1,4,4],[0,7,8,9],.p,[⟨sIq::ru2 6 (sLq tI::sIq::sIq::ru2 13 []),[],λa H=>(⟨aIq a 0,aLq tI a 7,aIq a 8⟩,⟨aIq a 9⟩)⟩],pa8,[(none,λp s=>⟨[b false],[]⟩),(some 0,λp s=>upq (Eb4 p s) [(10,b (decide (s.is9<p.is8)))])],Eb4⟩
theorem zc0:cb2.Ok:=Lo.ok [] (by kernel_rfl) .nil rfl (.cons (λa H=>by kernel_rfl) .nil) λp s=>(.of @ka7 (λF _ _ _ _ _=>by unfold ka7;(repeat' apply l5 (f:=F))<;>rfl) (by kernel_rfl))
noncomputable def Fa5(x:Int)(y:List Int):Option (b7×List b8):=let t1:=(lp (pa8 (⟨x,rt tI y,(↑(List.length y):Int)⟩:ua4)) (⟨0⟩:L9));(sl ((cnE tI y)&&true) (sl (Nat.beq t1.1 1) (some (b false,[])) (sl (Nat.beq t1.1 2) (some (b true,[])) none)) none)
noncomputable def O2(x:Int)(y:List Int):Bool:=O9 (one r1B) (Fa5 x y)
noncomputable def O3(x:Int)(y:List Int):Bool:=okO (one r1B) (Fa5 x y)
noncomputable def Wa5:Sum:=va4 cI (ta7 tI) (λx y=>.guard (O3 x y) (.ret ((one r1B).enc (O2 x y),[])))
theorem mb4:f9 prog G 138 Wa5:=Rb0 (bd Vf1 Hc1) (one r1B) (o:=Fa5) λx y=>Ua7 (.s .p (.s (.s .p (.b (.u cb2.ls))) .p)) [cb2.pr] (by kernel_rfl) (.cons zc0 .nil) (by kernel_rfl)
noncomputable def zc1:List (Nat×Sum):=[]
theorem sc3:i4 prog G zc1:=trivial
noncomputable def Z0(x:Int):Int:=(if (W (0-x))>x then (W (0-x)) else x)
noncomputable def cb3:Sum:=Q9 cI (λx=>.ret ((one r1I).enc (Z0 x),[]))
theorem Eb5:f9 prog G 183 cb3:=Qb9 (bd Xf7 sc3) λx=>q9 (by kernel_rfl)
noncomputable def cb4:List (Nat×Sum):=[(183,cb3)]
theorem zc2:i4 prog G cb4:=⟨Eb5,trivial⟩
structure ca5 where
 Ia4:List Int
 (is7 is8:Int)
structure N6 where
 (is3 is5:Int)
noncomputable def wb5(p:ca5)(s:N6):St:=⟨ra 3 (i s.is3::.unk::i s.is5::eL tI p.Ia4::i p.is7::i p.is8::ra 15 []),[]⟩
noncomputable def ga3{α:Type}(k:N6->α)(e:Nat->α)(z:α)(p:ca5)(s:N6):α:=(sl (decide (s.is5>0)) (sl (s.is5==0) z (k ⟨s.is5,Int.tmod s.is3 s.is5⟩)) (e 1))
noncomputable def Z1(p:ca5)(s:N6):Stp N6:=ga3 .next .exit .fail p s
noncomputable def Wa6:Lo ca5 N6:=⟨En cb4,0,Ke3,[1,1,0,1,4,4,1,1,0,4,1,1,1,4,4],[3,5,6,7,8],.p,[⟨ru2 3 (sIq::sUq::sIq::sLq tI::sIq::sIq::ru2 15 []),[],λa H=>(⟨aLq tI a 6,aIq a 7,aIq a 8⟩,⟨aIq a 3,aIq a 5⟩)⟩],Z1,[(some 2,λp s=>upq (wb5 p s) [(16,i s.is5),(17,b (decide (s.is5>0)))])],wb5⟩
theorem sc4:Wa6.Ok:=Lo.ok [] (by kernel_rfl) .nil rfl (.cons (λa H=>by kernel_rfl) .nil) λp s=>(.of @ga3 (λF _ _ _ _ _=>by unfold ga3;(repeat' apply l5 (f:=F))<;>rfl) (by kernel_rfl))
structure pa9 where
 is7:Int
structure I4 where
 is3:Int
 Ia4:List Int
 is8:Int
noncomputable def wb6(p:pa9)(s:I4):St:=⟨ra 3 (i s.is3::.unk::.unk::eL tI s.Ia4::i p.is7::i s.is8::ra 15 []),[]⟩
noncomputable def ga4{α:Type}(k:I4->α)(e:Nat->α)(z:α)(p:pa9)(s:I4):α:=let t1:=(Z0 (gL tI s.Ia4 s.is8.toNat));let t2:=(lp (Z1 (⟨rt tI s.Ia4,p.is7,s.is8⟩:ca5)) (⟨s.is3,t1⟩:N6));(sl (decide (s.is8<p.is7)) (sl (inB s.is8 (List.length s.Ia4)) (sl ((gL tI s.Ia4 s.is8.toNat)==(-9223372036854775808)) (e 1) (sl ((cnE tI s.Ia4)&&true) (sl (Nat.beq t2.1 1) (k ⟨t2.2.is3,rt tI s.Ia4,W (s.is8+1)⟩) z) z)) z) (e 2))
noncomputable def ka8(p:pa9)(s:I4):Stp I4:=ga4 .next .exit .fail p s
noncomputable def Wa7:Lo pa9 I4:=⟨En cb4,0,Ke3,[1,1,0,1,4,4],[3,6,7,8],.s .p (.s .p (.s (.b (.s .p (.s .p (.s .p (.b (.u Wa6.ls)))))) .p)),[⟨ru2 3 (sIq::sUq::sUq::sLq tI::sIq::sIq::ru2 15 []),[],λa H=>(⟨aIq a 7⟩,⟨aIq a 3,aLq tI a 6,aIq a 8⟩)⟩],ka8,[(none,λp s=>⟨[i 0],[]⟩),(some 0,λp s=>upq (wb6 p s) [(9,b (decide (s.is8<p.is7)))])],wb6⟩
theorem sc5:Wa7.Ok:=Lo.ok [Wa6.pr] (by kernel_rfl) (.cons sc4 .nil) rfl (.cons (λa H=>by kernel_rfl) .nil) λp s=>(.of @ga4 (λF _ _ _ _ _=>by unfold ga4;(repeat' apply l5 (f:=F))<;>rfl) (by kernel_rfl))
noncomputable def ya6(x:List Int):Option (b7×List b8):=let t1:=(lp (ka8 (⟨(↑(List.length x):Int)⟩:pa9)) (⟨0,rt tI x,0⟩:I4));(sl ((cnE tI x)&&true) (sl (Nat.beq t1.1 1) (some (i 0,[])) (sl (Nat.beq t1.1 2) (some (i t1.2.is3,[])) none)) none)
noncomputable def fa2(x:List Int):Int:=O9 (one r1I) (ya6 x)
noncomputable def fa3(x:List Int):Bool:=okO (one r1I) (ya6 x)
noncomputable def mb5:Sum:=Q9 (ta7 tI) (λx=>.guard (fa3 x) (.ret ((one r1I).enc (fa2 x),[])))
theorem Mb1:f9 prog G 186 mb5:=Ea7 (bd Xf9 zc2) (one r1I) (o:=ya6) λx=>Ua7 (.s .p (.s .p (.s (.s .p (.b (.u Wa7.ls))) .p))) [Wa7.pr] (by kernel_rfl) (.cons sc5 .nil) (by kernel_rfl)
noncomputable def ed3:List (Nat×Sum):=[(138,Wa5),(186,mb5)]
theorem Rc2:i4 prog G ed3:=⟨mb4,Mb1,trivial⟩
noncomputable def Na7(x:Pln):Option (b7×List b8):=let t1:=(O2 4608 [x.n.x,x.n.y,x.n.z]);let t2:=(fa2 [x.n.x,x.n.y,x.n.z]);let t3:=(O2 2097152 [x.b]);(sl (O3 4608 [x.n.x,x.n.y,x.n.z]) (sl t1 (sl (fa3 [x.n.x,x.n.y,x.n.z]) (sl (t2==1) (sl (O3 2097152 [x.b]) (some (b t3,[])) none) (some (b false,[]))) none) (some (b false,[]))) none)
noncomputable def Ba5(x:Pln):Bool:=O9 (one r1B) (Na7 x)
noncomputable def Ba6(x:Pln):Bool:=okO (one r1B) (Na7 x)
noncomputable def fb3:Sum:=Q9 (W8 tP) (λx=>.guard (Ba6 x) (.ret ((one r1B).enc (Ba5 x),[])))
theorem wb7:f9 prog G 140 fb3:=Ea7 (bd Vf2 Rc2) (one r1B) (o:=Na7) λx=>q9 (by kernel_rfl)
noncomputable def Rc3:List (Nat×Sum):=[(140,fb3)]
theorem Hc2:i4 prog G Rc3:=⟨wb7,trivial⟩
noncomputable def Fa6(x:Pln):Option (b7×List b8):=let t1:=(Ba5 x);(sl (Ba6 x) (some (b (!t1),[])) none)
noncomputable def Wa8(x:Pln):Bool:=O9 (one r1B) (Fa6 x)
noncomputable def Wa9(x:Pln):Bool:=okO (one r1B) (Fa6 x)
noncomputable def bc9:Sum:=Q9 (W8 tP) (λx=>.guard (Wa9 x) (.ret ((one r1B).enc (Wa8 x),[])))
theorem Rc4:f9 prog G 149 bc9:=Ea7 (bd Vf9 Hc2) (one r1B) (o:=Fa6) λx=>q9 (by kernel_rfl)
structure X3 where
 j8:List Pln
noncomputable def Fa7:List (Nat×Sum):=[(149,bc9)]
theorem qb9:i4 prog G Fa7:=⟨Rc4,trivial⟩
structure I5 where
 j8:List Pln
 is7:Int
structure n7 where
 is8:Int
noncomputable def ya7(p:I5)(s:n7):St:=⟨eL tP p.j8::.fn 149 []::ra 5 (i p.is7::i s.is8::ra 10 []),[]⟩
noncomputable def E4{α:Type}(k:n7->α)(e:Nat->α)(z:α)(p:I5)(s:n7):α:=let t1:=(Wa8 (gL tP p.j8 s.is8.toNat));(sl (decide (s.is8<p.is7)) (sl (inB s.is8 (List.length p.j8)) (sl (Wa9 (gL tP p.j8 s.is8.toNat)) (sl t1 (e 1) (k ⟨W (s.is8+1)⟩)) z) z) (e 2))
noncomputable def G7(p:I5)(s:n7):Stp n7:=E4 .next .exit .fail p s
noncomputable def ga9:Lo I5 n7:=⟨En Fa7,0,oe7,[1,0,1,4,4],[0,1,7,8],.p,[⟨sLq tP::.s (.o (.fn 149))::ru2 5 (sIq::sIq::ru2 10 []),[],λa H=>(⟨aLq tP a 0,aIq a 7⟩,⟨aIq a 8⟩)⟩],G7,[(none,λp s=>⟨[i s.is8],[]⟩),(some 0,λp s=>upq (ya7 p s) [(9,b (decide (s.is8<p.is7)))])],ya7⟩
theorem mb6:ga9.Ok:=Lo.ok [] (by kernel_rfl) .nil rfl (.cons (λa H=>by kernel_rfl) .nil) λp s=>(.of @E4 (λF _ _ _ _ _=>by unfold E4;(repeat' apply l5 (f:=F))<;>rfl) (by kernel_rfl))
structure X4 where
 alt:Nat
 is0:Int
noncomputable def F5{α:Type}(kk:X4->α)(x:X3):α:=let t1:=(lp (G7 (⟨rt tP x.j8,(↑(List.length x.j8):Int)⟩:I5)) (⟨0⟩:n7));(sl ((cnE tP x.j8)&&true) (sl (Nat.beq t1.1 1) (kk ⟨1,t1.2.is8⟩) (sl (Nat.beq t1.1 2) (kk ⟨1,-1⟩) (kk ⟨0,0⟩))) (kk ⟨0,0⟩))
noncomputable def na0(x:X3):X4:=F5 (λr=>r) x
noncomputable def ka9(x:X3)(r:X4):DT (b7×List b8):=(.ite (Nat.beq r.alt 1) (.ret (i r.is0,[])) .fail)
theorem Cb0{α β:Type}(F:α->β)(kk:X4->α)(x:X3):F (F5 kk x)=F5 (λr=>F (kk r)) x:=by unfold F5;(repeat' apply l5 (f:=F))<;>rfl
noncomputable def La5:Sum:=Ea0 ⟨[sLq tP,.s (.o (.fn 149))],[],λa H=>(⟨aLq tP a 0⟩,())⟩ (λx=>ka9 x (na0 x))
theorem wb8:f9 prog G 139 La5:=B5 (enc:=λx=>⟨[eL tP x.j8,.fn 149 []],[]⟩) (λa H=>by kernel_rfl) (bd xf5 qb9) λx=>Ua7 (.s .p (.s (.s .p (.b (.u ga9.ls))) .p)) [ga9.pr] (by kernel_rfl) (.cons mb6 .nil) (Qha (b:=F5 (λr=>(ka9 x r).run) x) (by kernel_rfl) (Cb0 (λr=>(ka9 x r).run) (λr=>r) x).symm)
structure P4 where
 j8:List Pln
noncomputable def jb3:List (Nat×Sum):=[(139,La5)]
theorem cb5:i4 prog G jb3:=⟨wb8,trivial⟩
structure P5 where
 alt:Nat
 bs0:Bool
noncomputable def A7{α:Type}(kk:P5->α)(x:P4):α:=let t1:=(na0 ⟨rt tP x.j8⟩);(sl ((cnE tP x.j8)&&true) (sl (Nat.beq t1.alt 1) (kk ⟨1,decide (t1.is0>=0)⟩) (kk ⟨0,false⟩)) (kk ⟨0,false⟩))
noncomputable def fa4(x:P4):P5:=A7 (λr=>r) x
noncomputable def aa9(x:P4)(r:P5):DT (b7×List b8):=(.ite (Nat.beq r.alt 1) (.ret (b r.bs0,[])) .fail)
theorem mb7{α β:Type}(F:α->β)(kk:P5->α)(x:P4):F (A7 kk x)=A7 (λr=>F (kk r)) x:=by unfold A7;(repeat' apply l5 (f:=F))<;>rfl
noncomputable def ya8:Sum:=Ea0 ⟨[sLq tP,.s (.o (.fn 149))],[],λa H=>(⟨aLq tP a 0⟩,())⟩ (λx=>aa9 x (fa4 x))
theorem jb4:f9 prog G 86 ya8:=B5 (enc:=λx=>⟨[eL tP x.j8,.fn 149 []],[]⟩) (λa H=>by kernel_rfl) (bd b86 cb5) λx=>q9 (Qha (b:=A7 (λr=>(aa9 x r).run) x) (by kernel_rfl) (mb7 (λr=>(aa9 x r).run) (λr=>r) x).symm)
noncomputable def pd7:List (Nat×Sum):=[(86,ya8)]
theorem ed4:i4 prog G pd7:=⟨jb4,trivial⟩
noncomputable def Xa0(x:List Pln):Option (b7×List b8):=let t1:=(fa4 ⟨rt tP x⟩);(sl (decide ((↑(List.length x):Int)>48)) (some (i 2,[])) (sl ((cnE tP x)&&true) (sl (Nat.beq t1.alt 1) (sl t1.bs0 (some (i 12,[])) (some (i 0,[]))) none) none))
noncomputable def rb0(x:List Pln):Int:=O9 (one r1I) (Xa0 x)
noncomputable def rb1(x:List Pln):Bool:=okO (one r1I) (Xa0 x)
noncomputable def zc3:Sum:=Q9 (ta7 tP) (λx=>.guard (rb1 x) (.ret ((one r1I).enc (rb0 x),[])))
theorem pd8:f9 prog G 97 zc3:=Ea7 (bd b97 ed4) (one r1I) (o:=Xa0) λx=>q9 (by kernel_rfl)
noncomputable def Rc5:List (Nat×Sum):=[(97,zc3)]
theorem Hc3:i4 prog G Rc5:=⟨pd8,trivial⟩
noncomputable def Fa8(x:List Pln):Option (b7×List b8):=let t1:=(rb0 (rt tP x));(sl (okE tP x) (sl (rb1 (rt tP x)) (some (b (t1 != 0),[])) none) none)
noncomputable def Xa1(x:List Pln):Bool:=O9 (one r1B) (Fa8 x)
noncomputable def Xa2(x:List Pln):Bool:=okO (one r1B) (Fa8 x)
noncomputable def cc2:Sum:=Q9 (ta7 tP) (λx=>.guard (Xa2 x) (.ret ((one r1B).enc (Xa1 x),[])))
theorem Rc6:f9 prog G 165 cc2:=Ea7 (bd Wf6 Hc3) (one r1B) (o:=Fa8) λx=>q9 (by kernel_rfl)
end Go.Ev.Ce
namespace Go.Proofs
open Go.Shelf
set_option maxRecDepth 100000 in
def Ce.growP_ren:Go.Shelf.Ren:=⟨fun | 4=>193 | n=>n,fun | 22=>24 | 25=>73 | 3=>3 | 4=>4 | 9=>9 | 20=>20 | 0=>0 | n=>n,fun | n=>n⟩
set_option maxRecDepth 100000 in
theorem Ce.growP:Go.Proofs.Lays8.n4 Tryz.prog Ce.growP_ren:={
 mixed:=by kernel_rfl
 f4:=⟨Tryz.f193.name,by decide,Tryz.func193.trans (congrArg some (by kernel_rfl))⟩
 t0:=Tryz.underlying0
 a0:=Tryz.isAgg0
 z0:=Tryz.sizeOf0
 v0:=Tryz.zeroValue0
 t3:=Tryz.underlying3
 a3:=Tryz.isAgg3
 z3:=Tryz.sizeOf3
 v3:=Tryz.zeroValue3
 t4:=Tryz.underlying4
 a4:=Tryz.isAgg4
 z4:=Tryz.sizeOf4
 v4:=Tryz.zeroValue4
 t9:=Tryz.underlying9
 a9:=Tryz.isAgg9
 z9:=Tryz.sizeOf9
 v9:=Tryz.zeroValue9
 t20:=Tryz.underlying20
 a20:=Tryz.isAgg20
 z20:=Tryz.sizeOf20
 v20:=Tryz.zeroValue20
 t22:=Tryz.underlying24
 a22:=Tryz.isAgg24
 z22:=Tryz.sizeOf24
 v22:=Tryz.zeroValue24 }
end Go.Proofs
namespace Go.Ev.Ce
open Go Go.Ev Go.Proofs
noncomputable def Gd1:List b7:=[i 0,i 0,i 0,i 0]
noncomputable def Ma7:Sum:=λargs blks=>match args,blks with
 | [.v (.slice none 0 0), .v (.int .i64 n)], [] => .ite (n == 0) (.ret (.v (.slice none 0 0), []))
   (.guard (Bool.and (decide (0<n)) (Nat.ble (n.toNat*32) room)) (.ret (.sl 0 0 0 0,[⟨73,4,List.replicate n.toNat Gd1,true,false,0⟩])))
 |_,_=>.fail
theorem z73:zeT Tryz.prog 73=some Gd1:=by kernel_rfl
theorem s73:szT Tryz.prog 73=4:=by kernel_rfl
theorem y73:byT Tryz.prog 73=32:=by kernel_rfl
theorem t25:Ce.growP_ren.t 25=73:=by kernel_rfl
theorem f4:Ce.growP_ren.f 4=193:=by kernel_rfl
set_option maxRecDepth 100000 in
theorem cc3:f9 prog G 193 Ma7:=by
 intro args blks r out he W ρ F w args' hH hlen hargs hG;refine⟨⟨_,Tryz.func193,by kernel_rfl,of_decide_eq_true (by kernel_rfl)⟩,?_⟩
 unfold Ma7 at he
 split at he
 case h_2=>cases he
 rename_i n
 match args',hlen with
 |[v0,v1],_ =>
 have e0:=ca4 (hargs 0 _ _ rfl rfl);have e1:=ca4 (hargs 1 _ _ rfl rfl);subst e0 e1
 rcases DT.run_ite_some he with⟨h0,he⟩|⟨h0,he⟩
 ·have h0:n=0:=by simpa using h0
  subst h0;injection he with he;injection he with q1 q2;subst q1 q2
  have:=Any8.slices_Grow_room Ce.growP none 0 0 0 w (Qhd _) (by omega) (by omega) (by omega)
  rw[f4] at this;refine this.mono λe w' ⟨h1,h2⟩=>?_
  subst h1 h2;exact⟨_,rfl,ρ,F,.refl,hH,.ofv _⟩
 ·obtain⟨hg,he⟩:=DT.run_guard_some he;rw[Bool.and_eq_true,decide_eq_true_eq] at hg;obtain⟨hpos,hroom⟩:=hg;have hroom:=Nat.le_of_ble_eq_true hroom;unfold room at hroom;obtain⟨m,rfl⟩:=Int.eq_ofNat_of_zero_le (Int.le_of_lt hpos);have hm:0<m:=by omega
  have he:some (b7.sl 0 0 0 0,[(⟨73,4,List.replicate m Gd1,true,false,0⟩:b8)])=some (r,out):=he;injection he with he;injection he with q1 q2;subst q1 q2
  obtain⟨ti,zv,hi,hzz,hzr,hone⟩:=bb5 (E:=En []) z73;have hi:Tryz.prog.info? 73=some ti:=hi;have hts:ti.size=4:=by have:=s73;simp only[szT,hi] at this;exact this
  have hby:ti.bytes=32:=by have:=y73;simp only[byT,hi] at this;exact this
  have hzs:zv.cells.size=4:=by
   have:=congrArg List.length hzr
   simpa [Gd1] using this.symm
  have hroom':m*32<=140737488355328:=hroom
  have:=Any8.slices_Grow_grow Ce.growP ti zv (by rw[t25];exact hi) hzz (by omega) none 0 0 m [] w (Qhd _) (by omega) (by rw[hby];omega) (by omega) (by simp) (λ_=>rfl) (λa ha=>by cases ha)
  rw[f4,t25] at this;refine this.mono λe w' ⟨h1,h2⟩=>?_
  have hcap:=grownCap_ge w (0+m) 0 73;have hcap2:=grownCap_le_maxLen w (0+m) 0 73 (by unfold maxLen;omega)
  subst h1;generalize grownCap w (0+m) 0 73=G' at *
  have hsz:∀q,(Builtin.zeroCells zv.cells q).size=q*4:=λq=>by simp[Builtin.zeroCells,hzs]
  have hcc:(#[]++Builtin.zeroCells zv.cells (0+m-0)++Builtin.zeroCells zv.cells (G'-(0+m))).size=G'*4:=by
   rw[Array.size_append,Array.size_append,hsz,hsz];simp;omega
  have hobj:w'.heap[w.heap.size]?=some (.cells (#[]++Builtin.zeroCells zv.cells (0+m-0)++Builtin.zeroCells zv.cells (G'-(0+m))) 73 (0,0)):=by
   rw[h2];exact World.alloc_heap_new w.drew _
  have hold:∀k,k<w.heap.size->w'.heap[k]?=w.heap[k]?:=λk hk=>by
   rw[h2];simp only[World.alloc,Array.getElem?_push,World.drew];rw[if_neg (by omega)]
  have hws:w'.heap.size=w.heap.size+1:=by rw[h2];exact Array.size_push ..
  obtain⟨h6,h7⟩:=hH.newAt (w':=w') (by rw[h2];rfl) (by rw[h2];rfl) (by rw[h2];rfl) (by rw[h2];exact Nat.le_succ _) (by omega) hold w.heap.size (Qhd _) 73 4 (List.replicate m Gd1) _ 73 hobj
   (λj r hr=>by rw[Qhc] at hr;split at hr<;>cases hr;rfl) (by rw[List.length_replicate,hcc];omega)
   (λj r c x hr hx=>by
    have hjm:j<m:=by
     have:=(Qhb.1 hr).1
     simpa using this
    rw[Qhc,if_pos hjm] at hr;injection hr with hr;subst hr;have hc4:c<4:=(Qhb.1 hx).1;rw[hzr,List.getElem?_map] at hx;have hcz:c<zv.cells.size:=by omega
    have hq:zv.cells.toList[c]?=some zv.cells[c]:=by simp[hcz]
    rw[hq] at hx;injection hx with hx;subst hx;refine⟨zv.cells[c],?_,.v _ (hone _ (by simp))⟩
    have hlt:j*4+c<m*4:=by omega
    rw[Array.append_assoc,Array.empty_append,Array.getElem?_append_left (by rw[hsz];omega)]
    have hm4:(j*4+c) % 4=c:=by omega
    simp only[Builtin.zeroCells,hzs];rw[Array.getElem?_map,Array.getElem?_range];rw[if_pos (by omega)]
    simp[hm4,hcz])
   (λ_=>rfl)
  refine⟨_,rfl,_,F,h6,h7,.val (.cell ?_)⟩;refine .sl 0 0 0 0 _ _ { et:=73,es:=4,elems:=List.replicate m Gd1,own:=true,dead:=false,g:=0 } rfl rfl (Qhd _) (Nat.zero_le _) rfl hcap2 λ_=>⟨.inr ?_,?_,by simp⟩
  ·simp[ρnew]
  ·simp only[ρnew,List.length_nil,if_true];rw[hcc,Nat.zero_add]
end Go.Ev.Ce
namespace Go.Ev.Ce
open Go Go.Ev Go.Ev.L Go.Proofs
set_option maxRecDepth 100000
noncomputable def va9:List (Nat×Sum):=[(193,Ma7)]
theorem Mb2:i4 prog G va9:=⟨cc3,trivial⟩
structure R3 where
 (Na0 Ld9:List (List Pln))
 r8:Int
structure s6 where
 (is3 ca3:Int)
noncomputable def Na8(p:R3)(s:s6):St:=⟨eL (tLs tP) p.Na0::.unk::.unk::i s.is3::ra 5 (eL (tLs tP) p.Ld9::i p.r8::i s.ca3::ra 24 []),[]⟩
noncomputable def M3{α:Type}(k:s6->α)(e:Nat->α)(z:α)(p:R3)(s:s6):α:=(sl (decide (s.ca3<p.r8)) (sl (inB s.ca3 (List.length p.Ld9)) (sl (decide ((W (s.is3+(↑(List.length (gL (tLs tP) p.Ld9 s.ca3.toNat)):Int)))<0)) z (k ⟨W (s.is3+(↑(List.length (gL (tLs tP) p.Ld9 s.ca3.toNat)):Int)),W (s.ca3+1)⟩)) z) (e 1))
noncomputable def H8(p:R3)(s:s6):Stp s6:=M3 .next .exit .fail p s
noncomputable def ua5:Lo R3 s6:=⟨En va9,0,Ke1,[1,1,0,1,4,4],[0,3,9,10,11],.p,[⟨.s (.c 1 (nL (tLs tP)))::sUq::sUq::sIq::ru2 5 (.s (.c 1 (nL (tLs tP)))::sIq::sIq::ru2 24 []),[],λa H=>(⟨rL (tLs tP) (slT a 0),rL (tLs tP) (slT a 9),aIq a 10⟩,⟨aIq a 3,aIq a 11⟩)⟩],H8,[(some 0,λp s=>upq (Na8 p s) [(12,b (decide (s.ca3<p.r8)))])],Na8⟩
theorem Hb9:ua5.OkM:=Lo.okM [] (by kernel_rfl) .nil rfl (.cons (λa H=>by kernel_rfl) .nil) λp s=>(.of @M3 (λF _ _ _ _ _=>by unfold M3;(repeat' apply l5 (f:=F))<;>rfl) (by kernel_rfl))
structure s7 where
 Da9:List (List Pln)
 Be4:Int
structure l0 where
 ph:Nat
 Pb5:Int
 ns6:Nat
 eh0:List (List b7)
noncomputable def La6(p:s7)(s:l0):St:=⟨ra 6 (.v (.slice none 0 0)::ra 18 (eL (tLs tP) p.Da9::i p.Be4::i s.Pb5::ra 8 [])),[]⟩
noncomputable def La7(p:s7)(s:l0):St:=⟨ra 6 (.sl 0 0 s.ns6 0::ra 18 (eL (tLs tP) p.Da9::i p.Be4::i s.Pb5::ra 8 [])),[⟨73,4,s.eh0,true,false,0⟩]⟩
noncomputable def Ib0(p:s7)(s:l0):St:=(sel (Nat.beq s.ph 1) (La7 p s) (La6 p s))
noncomputable def A4{α:Type}(k:l0->α)(e:Nat->α)(z:α)(p:s7)(s:l0):α:=(sl (decide (s.Pb5<p.Be4)) (sl (inB s.Pb5 (List.length p.Da9)) (sl (Nat.beq (len (u7 (λk=>(tP).row (gL tP (gL (tLs tP) p.Da9 s.Pb5.toNat) k)) (List.range (List.length (gL (tLs tP) p.Da9 s.Pb5.toNat))))) 0) (k ⟨0,W (s.Pb5+1),0,[]⟩) z) z) (e 1))
noncomputable def A5{α:Type}(k:l0->α)(e:Nat->α)(z:α)(p:s7)(s:l0):α:=(sl (decide (s.Pb5<p.Be4)) (sl (inB s.Pb5 (List.length p.Da9)) (sl (Nat.ble (s.ns6+(len (u7 (λk=>(tP).row (gL tP (gL (tLs tP) p.Da9 s.Pb5.toNat) k)) (List.range (List.length (gL (tLs tP) p.Da9 s.Pb5.toNat)))))) (len s.eh0)) (k ⟨1,W (s.Pb5+1),(s.ns6+(len (u7 (λk=>(tP).row (gL tP (gL (tLs tP) p.Da9 s.Pb5.toNat) k)) (List.range (List.length (gL (tLs tP) p.Da9 s.Pb5.toNat)))))),(app (J6 s.eh0 s.ns6) (app (u7 (λk=>(tP).row (gL tP (gL (tLs tP) p.Da9 s.Pb5.toNat) k)) (List.range (List.length (gL (tLs tP) p.Da9 s.Pb5.toNat)))) (i9 s.eh0 (s.ns6+(len (u7 (λk=>(tP).row (gL tP (gL (tLs tP) p.Da9 s.Pb5.toNat) k)) (List.range (List.length (gL (tLs tP) p.Da9 s.Pb5.toNat)))))))))⟩) z) z) (e 2))
noncomputable def C6(p:s7)(s:l0):Stp l0:=(sel (Nat.beq s.ph 1) (A5 .next .exit .fail p s) (A4 .next .exit .fail p s))
noncomputable def ua6:Lo s7 l0:=⟨En va9,0,Ke1,[1,1,1,1,0,1,4,4],[6,25,26,27],.p,[⟨ru2 6 (.s (.o .nil)::ru2 18 (.s (.c 1 (nL (tLs tP)))::sIq::sIq::ru2 8 [])),[],λa H=>(⟨rL (tLs tP) (slT a 25),aIq a 26⟩,⟨0,aIq a 27,0,[]⟩)⟩,⟨ru2 6 (.s (.o (.sl 0 0 (some 0) none))::ru2 18 (.s (.c 1 (nL (tLs tP)))::sIq::sIq::ru2 8 [])),[⟨73,4,true,none⟩],λa H=>(⟨rL (tLs tP) (slT a 25),aIq a 26⟩,⟨1,aIq a 27,slN (slT a 6),elT H 0⟩)⟩],C6,[(some 2,λp s=>upq (La6 p s) [(28,b (decide (s.Pb5<p.Be4)))]),(some 2,λp s=>upq (La7 p s) [(28,b (decide (s.Pb5<p.Be4)))])],Ib0⟩
theorem Ib1:ua6.OkM:=Lo.okM [] (by kernel_rfl) .nil rfl (.cons (λa H=>by kernel_rfl) (.cons (λa H=>by kernel_rfl) .nil)) λp s=>(.sel (Nat.beq s.ph 1) (.of @A5 (λF _ _ _ _ _=>by unfold A5;(repeat' apply l5 (f:=F))<;>rfl) (by kernel_rfl)) (.of @A4 (λF _ _ _ _ _=>by unfold A4;(repeat' apply l5 (f:=F))<;>rfl) (by kernel_rfl)))
structure ma7 where
 (alt ns0:Nat)
 eh0:List (List b7)
noncomputable def O0{α:Type}(kk:ma7->α)(x:List (List Pln)):α:=let t1:=(lp (H8 (⟨rt (tLs tP) x,rt (tLs tP) x,(↑(List.length x):Int)⟩:R3)) (⟨0,0⟩:s6));let t2:=(lp (C6 (⟨rt (tLs tP) (rt (tLs tP) x),(↑(List.length (rt (tLs tP) x)):Int)⟩:s7)) (⟨0,0,0,[]⟩:l0));let t3:=(lp (C6 (⟨rt (tLs tP) (rt (tLs tP) x),(↑(List.length (rt (tLs tP) x)):Int)⟩:s7)) (⟨1,0,0,List.replicate t1.2.is3.toNat Gd1⟩:l0));(sl ((cnE (tLs tP) x)&&((cnE (tLs tP) x)&&true)) (sl (Nat.beq t1.1 1) (sl (t1.2.is3==0) (sl ((cnE (tLs tP) (rt (tLs tP) x))&&true) (sl (Nat.beq t2.1 1) (kk ⟨1,0,[]⟩) (sl (Nat.beq t2.1 2) (kk ⟨2,t2.2.ns6,t2.2.eh0⟩) (kk ⟨0,0,[]⟩))) (kk ⟨0,0,[]⟩)) (sl (Bool.and (decide (0<t1.2.is3)) (Nat.ble (t1.2.is3.toNat*32) room)) (sl ((cnE (tLs tP) (rt (tLs tP) x))&&true) (sl (Nat.beq t3.1 1) (kk ⟨1,0,[]⟩) (sl (Nat.beq t3.1 2) (kk ⟨2,t3.2.ns6,t3.2.eh0⟩) (kk ⟨0,0,[]⟩))) (kk ⟨0,0,[]⟩)) (kk ⟨0,0,[]⟩))) (kk ⟨0,0,[]⟩)) (kk ⟨0,0,[]⟩))
noncomputable def ma8(x:List (List Pln)):ma7:=O0 (λr=>r) x
noncomputable def wa0(r:ma7):DT (b7×List b8):=(.ite (Nat.beq r.alt 1) (.ret (.v (.slice none 0 0),[])) (.ite (Nat.beq r.alt 2) (.ret (.sl 0 0 r.ns0 0,[⟨73,4,r.eh0,true,false,0⟩])) .fail))
theorem Xb0{α β:Type}(F:α->β)(kk:ma7->α)(x:List (List Pln)):F (O0 kk x)=O0 (λr=>F (kk r)) x:=by unfold O0;(repeat' apply l5 (f:=F))<;>rfl
noncomputable def ab7:Sum:=Q9 (ta7 (tLs tP)) (λx=>wa0 (ma8 x))
theorem Sb1:f9 prog G 166 ab7:=Qb9 (bd Wf7 Mb2) λx=>dd7 (.s .p (.s .p (.s (.s .p (.b (.u ua5.lsM))) (.s .p (.s (.s .p (.b (.u ua6.lsM))) .p))))) [ua5.prM,ua6.prM] (by kernel_rfl) (.cons Hb9 (.cons Ib1 .nil)) (Qha (b:=O0 (λr=>(wa0 r).run) x) (by kernel_rfl) (Xb0 (λr=>(wa0 r).run) (λr=>r) x).symm)
noncomputable def he7:List (Nat×Sum):=[(166,ab7)]
theorem Ud1:i4 prog G he7:=⟨Sb1,trivial⟩
noncomputable def Mb3(x:List (List Pln)):Option (b7×List b8):=let t1:=(ma8 (rt (tLs tP) x));(sl (okE (tLs tP) x) (sl (Nat.beq t1.alt 1) (some (.sl 0 0 6 0,[⟨73,4,[[i 1,i 0,i 0,i 24],[i (-1),i 0,i 0,i 24],[i 0,i 1,i 0,i 24],[i 0,i (-1),i 0,i 24],[i 0,i 0,i 1,i 24],[i 0,i 0,i (-1),i 24]],true,false,0⟩])) (sl (Nat.beq t1.alt 2) (sl (Nat.beq t1.ns0 (len t1.eh0)&&Nat.ble ((t1.ns0+1)*32) room) (sl (Nat.beq (t1.ns0+1) (len (app t1.eh0 [[i 1,i 0,i 0,i 24]]))&&Nat.ble (((t1.ns0+1)+1)*32) room) (sl (Nat.beq ((t1.ns0+1)+1) (len (app (app t1.eh0 [[i 1,i 0,i 0,i 24]]) [[i (-1),i 0,i 0,i 24]]))&&Nat.ble ((((t1.ns0+1)+1)+1)*32) room) (sl (Nat.beq (((t1.ns0+1)+1)+1) (len (app (app (app t1.eh0 [[i 1,i 0,i 0,i 24]]) [[i (-1),i 0,i 0,i 24]]) [[i 0,i 1,i 0,i 24]]))&&Nat.ble (((((t1.ns0+1)+1)+1)+1)*32) room) (sl (Nat.beq ((((t1.ns0+1)+1)+1)+1) (len (app (app (app (app t1.eh0 [[i 1,i 0,i 0,i 24]]) [[i (-1),i 0,i 0,i 24]]) [[i 0,i 1,i 0,i 24]]) [[i 0,i (-1),i 0,i 24]]))&&Nat.ble ((((((t1.ns0+1)+1)+1)+1)+1)*32) room) (sl (Nat.beq (((((t1.ns0+1)+1)+1)+1)+1) (len (app (app (app (app (app t1.eh0 [[i 1,i 0,i 0,i 24]]) [[i (-1),i 0,i 0,i 24]]) [[i 0,i 1,i 0,i 24]]) [[i 0,i (-1),i 0,i 24]]) [[i 0,i 0,i 1,i 24]]))&&Nat.ble (((((((t1.ns0+1)+1)+1)+1)+1)+1)*32) room) (some (.sl 0 0 ((((((t1.ns0+1)+1)+1)+1)+1)+1) 0,[⟨73,4,app (app (app (app (app (app t1.eh0 [[i 1,i 0,i 0,i 24]]) [[i (-1),i 0,i 0,i 24]]) [[i 0,i 1,i 0,i 24]]) [[i 0,i (-1),i 0,i 24]]) [[i 0,i 0,i 1,i 24]]) [[i 0,i 0,i (-1),i 24]],true,false,0⟩])) none) none) none) none) none) none) none)) none)
noncomputable def ub1(x:List (List Pln)):List Pln:=O9 (one (r1L tP)) (Mb3 x)
noncomputable def ub2(x:List (List Pln)):Bool:=okO (one (r1L tP)) (Mb3 x)
noncomputable def Hc4:Sum:=Q9 (ta7 (tLs tP)) (λx=>.guard (ub2 x) (.ret ((one (r1L tP)).enc (ub1 x),[])))
theorem ed5:f9 prog G 110 Hc4:=Ea7 (bd Tf6 Ud1) (one (r1L tP)) (o:=Mb3) λx=>q9 (by kernel_rfl)
structure X5 where
 Na0:List (List Pln)
noncomputable def Fa9:List (Nat×Sum):=[(165,cc2)]
theorem rb2:i4 prog G Fa9:=⟨Rc6,trivial⟩
structure I6 where
 Na0:List (List Pln)
 is7:Int
structure n8 where
 is8:Int
noncomputable def ya9(p:I6)(s:n8):St:=⟨eL (tLs tP) p.Na0::.fn 165 []::ra 5 (i p.is7::i s.is8::ra 10 []),[]⟩
noncomputable def E5{α:Type}(k:n8->α)(e:Nat->α)(z:α)(p:I6)(s:n8):α:=let t1:=(Xa1 (rt tP (gL (tLs tP) p.Na0 s.is8.toNat)));(sl (decide (s.is8<p.is7)) (sl (inB s.is8 (List.length p.Na0)) (sl (okE tP (gL (tLs tP) p.Na0 s.is8.toNat)) (sl (Xa2 (rt tP (gL (tLs tP) p.Na0 s.is8.toNat))) (sl t1 (e 1) (k ⟨W (s.is8+1)⟩)) z) z) z) (e 2))
noncomputable def G8(p:I6)(s:n8):Stp n8:=E5 .next .exit .fail p s
noncomputable def ha0:Lo I6 n8:=⟨En Fa9,0,pf7,[1,0,1,4,4],[0,1,7,8],.p,[⟨.s (.c 1 (nL (tLs tP)))::.s (.o (.fn 165))::ru2 5 (sIq::sIq::ru2 10 []),[],λa H=>(⟨rL (tLs tP) (slT a 0),aIq a 7⟩,⟨aIq a 8⟩)⟩],G8,[(none,λp s=>⟨[i s.is8],[]⟩),(some 0,λp s=>upq (ya9 p s) [(9,b (decide (s.is8<p.is7)))])],ya9⟩
theorem mb8:ha0.Ok:=Lo.ok [] (by kernel_rfl) .nil rfl (.cons (λa H=>by kernel_rfl) .nil) λp s=>(.of @E5 (λF _ _ _ _ _=>by unfold E5;(repeat' apply l5 (f:=F))<;>rfl) (by kernel_rfl))
structure X6 where
 alt:Nat
 is0:Int
noncomputable def F6{α:Type}(kk:X6->α)(x:X5):α:=let t1:=(lp (G8 (⟨rt (tLs tP) x.Na0,(↑(List.length x.Na0):Int)⟩:I6)) (⟨0⟩:n8));(sl ((cnE (tLs tP) x.Na0)&&true) (sl (Nat.beq t1.1 1) (kk ⟨1,t1.2.is8⟩) (sl (Nat.beq t1.1 2) (kk ⟨1,-1⟩) (kk ⟨0,0⟩))) (kk ⟨0,0⟩))
noncomputable def na1(x:X5):X6:=F6 (λr=>r) x
noncomputable def la0(x:X5)(r:X6):DT (b7×List b8):=(.ite (Nat.beq r.alt 1) (.ret (i r.is0,[])) .fail)
theorem Cb1{α β:Type}(F:α->β)(kk:X6->α)(x:X5):F (F6 kk x)=F6 (λr=>F (kk r)) x:=by unfold F6;(repeat' apply l5 (f:=F))<;>rfl
noncomputable def La8:Sum:=Ea0 ⟨[.s (.c 1 (nL (tLs tP))),.s (.o (.fn 165))],[],λa H=>(⟨rL (tLs tP) (slT a 0)⟩,())⟩ (λx=>la0 x (na1 x))
theorem wb9:f9 prog G 161 La8:=B5 (enc:=λx=>⟨[eL (tLs tP) x.Na0,.fn 165 []],[]⟩) (λa H=>by kernel_rfl) (bd Wf2 rb2) λx=>Ua7 (.s .p (.s (.s .p (.b (.u ha0.ls))) .p)) [ha0.pr] (by kernel_rfl) (.cons mb8 .nil) (Qha (b:=F6 (λr=>(la0 x r).run) x) (by kernel_rfl) (Cb1 (λr=>(la0 x r).run) (λr=>r) x).symm)
structure P6 where
 Na0:List (List Pln)
noncomputable def jb5:List (Nat×Sum):=[(161,La8)]
theorem cb6:i4 prog G jb5:=⟨wb9,trivial⟩
structure P7 where
 alt:Nat
 bs0:Bool
noncomputable def A8{α:Type}(kk:P7->α)(x:P6):α:=let t1:=(na1 ⟨rt (tLs tP) x.Na0⟩);(sl ((cnE (tLs tP) x.Na0)&&true) (sl (Nat.beq t1.alt 1) (kk ⟨1,decide (t1.is0>=0)⟩) (kk ⟨0,false⟩)) (kk ⟨0,false⟩))
noncomputable def fa5(x:P6):P7:=A8 (λr=>r) x
noncomputable def ba0(x:P6)(r:P7):DT (b7×List b8):=(.ite (Nat.beq r.alt 1) (.ret (b r.bs0,[])) .fail)
theorem mb9{α β:Type}(F:α->β)(kk:P7->α)(x:P6):F (A8 kk x)=A8 (λr=>F (kk r)) x:=by unfold A8;(repeat' apply l5 (f:=F))<;>rfl
noncomputable def za0:Sum:=Ea0 ⟨[.s (.c 1 (nL (tLs tP))),.s (.o (.fn 165))],[],λa H=>(⟨rL (tLs tP) (slT a 0)⟩,())⟩ (λx=>ba0 x (fa5 x))
theorem jb6:f9 prog G 103 za0:=B5 (enc:=λx=>⟨[eL (tLs tP) x.Na0,.fn 165 []],[]⟩) (λa H=>by kernel_rfl) (bd Tf2 cb6) λx=>q9 (Qha (b:=A8 (λr=>(ba0 x r).run) x) (by kernel_rfl) (mb9 (λr=>(ba0 x r).run) (λr=>r) x).symm)
noncomputable def pd9:List (Nat×Sum):=[(103,za0)]
theorem ed6:i4 prog G pd9:=⟨jb6,trivial⟩
noncomputable def Xa3(x:List (List Pln)):Option (b7×List b8):=let t1:=(fa5 ⟨rt (tLs tP) x⟩);(sl ((cnE (tLs tP) x)&&true) (sl (Nat.beq t1.alt 1) (some (b (!t1.bs0),[])) none) none)
noncomputable def wa1(x:List (List Pln)):Bool:=O9 (one r1B) (Xa3 x)
noncomputable def wa2(x:List (List Pln)):Bool:=okO (one r1B) (Xa3 x)
noncomputable def rb3:Sum:=Q9 (ta7 (tLs tP)) (λx=>.guard (wa2 x) (.ret ((one r1B).enc (wa1 x),[])))
theorem Ib2:f9 prog G 109 rb3:=Ea7 (bd Tf5 ed6) (one r1B) (o:=Xa3) λx=>q9 (by kernel_rfl)
structure ha4 where
 (U8 U9 V0 bb1 d7 c7 d8 g7:Int)
noncomputable def Mb4:List (Nat×Sum):=[(153,bc6)]
theorem Ib3:i4 prog G Mb4:=⟨yc8,trivial⟩
structure S9 where
 bs0:Bool
noncomputable def T0{α:Type}(kk:S9->α)(x:ha4):α:=let t1:=(Fa1 (⟨(⟨x.d7,x.c7,x.d8⟩:V3),x.g7⟩:Pln) (⟨x.U8,x.U9,x.V0,x.bb1⟩:Pt));(kk ⟨decide (t1>0)⟩)
noncomputable def wa3(x:ha4):S9:=T0 (λr=>r) x
noncomputable def ua7(x:ha4)(r:S9):DT (b7×List b8):=.ret (b r.bs0,[⟨0,4,[[i x.d7,i x.c7,i x.d8,i x.g7]],true,false,0⟩])
theorem Sb2{α β:Type}(F:α->β)(kk:S9->α)(x:ha4):F (T0 kk x)=T0 (λr=>F (kk r)) x:=by unfold T0;(repeat' apply l5 (f:=F))<;>rfl
noncomputable def Xa4:Sum:=Ea0 ⟨[.agg (kLq 4),sPq 0],[⟨0,4,true,some [kLq 4]⟩],λa H=>(⟨cIq a 0 0,cIq a 0 1,cIq a 0 2,cIq a 0 3,hIq H 0 0 0,hIq H 0 0 1,hIq H 0 0 2,hIq H 0 0 3⟩,())⟩ (λx=>ua7 x (wa3 x))
theorem Mb5:f9 prog G 170 Xa4:=B5 (enc:=λx=>⟨[.agg [i x.U8,i x.U9,i x.V0,i x.bb1],.ptr 0 0 0 0],[⟨0,4,[[i x.d7,i x.c7,i x.d8,i x.g7]],true,false,0⟩]⟩) (λa H=>by kernel_rfl) (bd Xf1 Ib3) λx=>q9 (Qha (b:=T0 (λr=>(ua7 x r).run) x) (by kernel_rfl) (Sb2 (λr=>(ua7 x r).run) (λr=>r) x).symm)
structure aa2 where
 ja7:List Pt
 (d7 c7 d8 g7:Int)
noncomputable def La9:List (Nat×Sum):=[(170,Xa4)]
theorem xb0:i4 prog G La9:=⟨Mb5,trivial⟩
structure K4 where
 ja7:List Pt
 (is7 d7 c7 d8 g7:Int)
structure o4 where
 is8:Int
noncomputable def Da6(p:K4)(s:o4):St:=⟨eL tX p.ja7::.fn 170 [.ptr 0 0 0 0]::ra 5 (i p.is7::i s.is8::ra 10 []),[⟨0,4,[[i p.d7,i p.c7,i p.d8,i p.g7]],true,false,0⟩]⟩
noncomputable def G9{α:Type}(k:o4->α)(e:Nat->α)(z:α)(p:K4)(s:o4):α:=let t1:=(wa3 ⟨(gL tX p.ja7 s.is8.toNat).px,(gL tX p.ja7 s.is8.toNat).py,(gL tX p.ja7 s.is8.toNat).pz,(gL tX p.ja7 s.is8.toNat).pw,p.d7,p.c7,p.d8,p.g7⟩);(sl (decide (s.is8<p.is7)) (sl (inB s.is8 (List.length p.ja7)) (sl t1.bs0 (e 1) (k ⟨W (s.is8+1)⟩)) z) (e 2))
noncomputable def I7(p:K4)(s:o4):Stp o4:=G9 .next .exit .fail p s
noncomputable def la1:Lo K4 o4:=⟨En La9,1,Ke2,[1,0,1,4,4],[0,1,7,8],.p,[⟨sLq tX::.fn 170 [.o (.ptr 0 0 0 0)]::ru2 5 (sIq::sIq::ru2 10 []),[⟨0,4,true,some [kLq 4]⟩],λa H=>(⟨aLq tX a 0,aIq a 7,hIq H 0 0 0,hIq H 0 0 1,hIq H 0 0 2,hIq H 0 0 3⟩,⟨aIq a 8⟩)⟩],I7,[(none,λp s=>⟨[i s.is8],[⟨0,4,[[i p.d7,i p.c7,i p.d8,i p.g7]],true,false,0⟩]⟩),(some 0,λp s=>upq (Da6 p s) [(9,b (decide (s.is8<p.is7)))])],Da6⟩
theorem rb4:la1.Ok:=Lo.ok [] (by kernel_rfl) .nil rfl (.cons (λa H=>by kernel_rfl) .nil) λp s=>(.of @G9 (λF _ _ _ _ _=>by unfold G9;(repeat' apply l5 (f:=F))<;>rfl) (by kernel_rfl))
structure aa3 where
 alt:Nat
 is0:Int
noncomputable def H9{α:Type}(kk:aa3->α)(x:aa2):α:=let t1:=(lp (I7 (⟨rt tX x.ja7,(↑(List.length x.ja7):Int),x.d7,x.c7,x.d8,x.g7⟩:K4)) (⟨0⟩:o4));(sl ((cnE tX x.ja7)&&true) (sl (Nat.beq t1.1 1) (kk ⟨1,t1.2.is8⟩) (sl (Nat.beq t1.1 2) (kk ⟨1,-1⟩) (kk ⟨0,0⟩))) (kk ⟨0,0⟩))
noncomputable def ra7(x:aa2):aa3:=H9 (λr=>r) x
noncomputable def na2(x:aa2)(r:aa3):DT (b7×List b8):=(.ite (Nat.beq r.alt 1) (.ret (i r.is0,[⟨0,4,[[i x.d7,i x.c7,i x.d8,i x.g7]],true,false,0⟩])) .fail)
theorem Ib4{α β:Type}(F:α->β)(kk:aa3->α)(x:aa2):F (H9 kk x)=H9 (λr=>F (kk r)) x:=by unfold H9;(repeat' apply l5 (f:=F))<;>rfl
noncomputable def Na9:Sum:=Ea0 ⟨[sLq tX,.fn 170 [.o (.ptr 0 0 0 0)]],[⟨0,4,true,some [kLq 4]⟩],λa H=>(⟨aLq tX a 0,hIq H 0 0 0,hIq H 0 0 1,hIq H 0 0 2,hIq H 0 0 3⟩,())⟩ (λx=>na2 x (ra7 x))
theorem Cb2:f9 prog G 171 Na9:=B5 (enc:=λx=>⟨[eL tX x.ja7,.fn 170 [.ptr 0 0 0 0]],[⟨0,4,[[i x.d7,i x.c7,i x.d8,i x.g7]],true,false,0⟩]⟩) (λa H=>by kernel_rfl) (bd Mf0 xb0) λx=>Ua7 (.s .p (.s (.s .p (.b (.u la1.ls))) .p)) [la1.pr] (by kernel_rfl) (.cons rb4 .nil) (Qha (b:=H9 (λr=>(na2 x r).run) x) (by kernel_rfl) (Ib4 (λr=>(na2 x r).run) (λr=>r) x).symm)
structure R9 where
 ja7:List Pt
 (d7 c7 d8 g7:Int)
noncomputable def nb0:List (Nat×Sum):=[(171,Na9)]
theorem jb7:i4 prog G nb0:=⟨Cb2,trivial⟩
structure S3 where
 alt:Nat
 bs0:Bool
noncomputable def C8{α:Type}(kk:S3->α)(x:R9):α:=let t1:=(ra7 ⟨rt tX x.ja7,x.d7,x.c7,x.d8,x.g7⟩);(sl ((cnE tX x.ja7)&&true) (sl (Nat.beq t1.alt 1) (kk ⟨1,decide (t1.is0>=0)⟩) (kk ⟨0,false⟩)) (kk ⟨0,false⟩))
noncomputable def ha5(x:R9):S3:=C8 (λr=>r) x
noncomputable def fa6(x:R9)(r:S3):DT (b7×List b8):=(.ite (Nat.beq r.alt 1) (.ret (b r.bs0,[⟨0,4,[[i x.d7,i x.c7,i x.d8,i x.g7]],true,false,0⟩])) .fail)
theorem rb5{α β:Type}(F:α->β)(kk:S3->α)(x:R9):F (C8 kk x)=C8 (λr=>F (kk r)) x:=by unfold C8;(repeat' apply l5 (f:=F))<;>rfl
noncomputable def Da7:Sum:=Ea0 ⟨[sLq tX,.fn 170 [.o (.ptr 0 0 0 0)]],[⟨0,4,true,some [kLq 4]⟩],λa H=>(⟨aLq tX a 0,hIq H 0 0 0,hIq H 0 0 1,hIq H 0 0 2,hIq H 0 0 3⟩,())⟩ (λx=>fa6 x (ha5 x))
theorem nb1:f9 prog G 112 Da7:=B5 (enc:=λx=>⟨[eL tX x.ja7,.fn 170 [.ptr 0 0 0 0]],[⟨0,4,[[i x.d7,i x.c7,i x.d8,i x.g7]],true,false,0⟩]⟩) (λa H=>by kernel_rfl) (bd Lf9 jb7) λx=>q9 (Qha (b:=C8 (λr=>(fa6 x r).run) x) (by kernel_rfl) (rb5 (λr=>(fa6 x r).run) (λr=>r) x).symm)
structure qa0 where
 (U8 U9 V0 bb1:Int)
 o7:List Pt
noncomputable def Xb1:List (Nat×Sum):=[(112,Da7)]
theorem Sb3:i4 prog G Xb1:=⟨nb1,trivial⟩
structure ba1 where
 alt:Nat
 bs0:Bool
noncomputable def R4{α:Type}(kk:ba1->α)(x:qa0):α:=let t1:=(ha5 ⟨rt tX x.o7,x.U8,x.U9,x.V0,x.bb1⟩);(sl ((cnE tX x.o7)&&true) (sl (Nat.beq t1.alt 1) (kk ⟨1,!t1.bs0⟩) (kk ⟨0,false⟩)) (kk ⟨0,false⟩))
noncomputable def qa1(x:qa0):ba1:=R4 (λr=>r) x
noncomputable def Ca7(x:qa0)(r:ba1):DT (b7×List b8):=(.ite (Nat.beq r.alt 1) (.ret (b r.bs0,[⟨0,1,[[eL tX x.o7]],true,false,0⟩])) .fail)
theorem cc4{α β:Type}(F:α->β)(kk:ba1->α)(x:qa0):F (R4 kk x)=R4 (λr=>F (kk r)) x:=by unfold R4;(repeat' apply l5 (f:=F))<;>rfl
noncomputable def jb8:Sum:=Ea0 ⟨[.agg (kLq 4),sPq 0],[⟨0,1,true,some [[.c 4 (nL tX)]]⟩],λa H=>(⟨cIq a 0 0,cIq a 0 1,cIq a 0 2,cIq a 0 3,hLq tX H 0 0 0⟩,())⟩ (λx=>Ca7 x (qa1 x))
theorem Xb2:f9 prog G 169 jb8:=B5 (enc:=λx=>⟨[.agg [i x.U8,i x.U9,i x.V0,i x.bb1],.ptr 0 0 0 0],[⟨0,1,[[eL tX x.o7]],true,false,0⟩]⟩) (λa H=>by kernel_rfl) (bd Xf0 Sb3) λx=>q9 (Qha (b:=R4 (λr=>(Ca7 x r).run) x) (by kernel_rfl) (cc4 (λr=>(Ca7 x r).run) (λr=>r) x).symm)
structure X7 where
 j8:List Pln
 o7:List Pt
noncomputable def Ga0:List (Nat×Sum):=[(169,jb8)]
theorem rb6:i4 prog G Ga0:=⟨Xb2,trivial⟩
structure I8 where
 j8:List Pln
 is7:Int
structure n9 where
 is8:Int
 o7:List Pt
noncomputable def za1(p:I8)(s:n9):St:=⟨eL tP p.j8::.fn 169 [.ptr 0 0 0 0]::ra 5 (i p.is7::i s.is8::ra 10 []),[⟨0,1,[[eL tX s.o7]],true,false,0⟩]⟩
noncomputable def E6{α:Type}(k:n9->α)(e:Nat->α)(z:α)(p:I8)(s:n9):α:=let t1:=(qa1 ⟨(gL tP p.j8 s.is8.toNat).n.x,(gL tP p.j8 s.is8.toNat).n.y,(gL tP p.j8 s.is8.toNat).n.z,(gL tP p.j8 s.is8.toNat).b,rt tX s.o7⟩);(sl (decide (s.is8<p.is7)) (sl (inB s.is8 (List.length p.j8)) (sl ((cnE tX s.o7)&&true) (sl (Nat.beq t1.alt 1) (sl t1.bs0 (e 1) (k ⟨W (s.is8+1),rt tX s.o7⟩)) z) z) z) (e 2))
noncomputable def H4(p:I8)(s:n9):Stp n9:=E6 .next .exit .fail p s
noncomputable def ha6:Lo I8 n9:=⟨En Ga0,1,qf2,[1,0,1,4,4],[0,1,7,8],.p,[⟨sLq tP::.fn 169 [.o (.ptr 0 0 0 0)]::ru2 5 (sIq::sIq::ru2 10 []),[⟨0,1,true,some [[.c 4 (nL tX)]]⟩],λa H=>(⟨aLq tP a 0,aIq a 7⟩,⟨aIq a 8,hLq tX H 0 0 0⟩)⟩],H4,[(none,λp s=>⟨[i s.is8],[⟨0,1,[[eL tX (rt tX s.o7)]],true,false,0⟩]⟩),(some 0,λp s=>upq (za1 p s) [(9,b (decide (s.is8<p.is7)))])],za1⟩
theorem nb2:ha6.Ok:=Lo.ok [] (by kernel_rfl) .nil rfl (.cons (λa H=>by kernel_rfl) .nil) λp s=>(.of @E6 (λF _ _ _ _ _=>by unfold E6;(repeat' apply l5 (f:=F))<;>rfl) (by kernel_rfl))
structure X8 where
 alt:Nat
 is0:Int
 o7:List Pt
noncomputable def F7{α:Type}(kk:X8->α)(x:X7):α:=let t1:=(lp (H4 (⟨rt tP x.j8,(↑(List.length x.j8):Int)⟩:I8)) (⟨0,rt tX x.o7⟩:n9));(sl ((cnE tP x.j8)&&((cnE tX x.o7)&&true)) (sl (Nat.beq t1.1 1) (kk ⟨1,t1.2.is8,rt tX t1.2.o7⟩) (sl (Nat.beq t1.1 2) (kk ⟨1,-1,t1.2.o7⟩) (kk ⟨0,0,[]⟩))) (kk ⟨0,0,[]⟩))
noncomputable def na3(x:X7):X8:=F7 (λr=>r) x
noncomputable def la2(x:X7)(r:X8):DT (b7×List b8):=(.ite (Nat.beq r.alt 1) (.ret (i r.is0,[⟨0,1,[[eL tX r.o7]],true,false,0⟩])) .fail)
theorem Cb3{α β:Type}(F:α->β)(kk:X8->α)(x:X7):F (F7 kk x)=F7 (λr=>F (kk r)) x:=by unfold F7;(repeat' apply l5 (f:=F))<;>rfl
noncomputable def Ma0:Sum:=Ea0 ⟨[sLq tP,.fn 169 [.o (.ptr 0 0 0 0)]],[⟨0,1,true,some [[.c 4 (nL tX)]]⟩],λa H=>(⟨aLq tP a 0,hLq tX H 0 0 0⟩,())⟩ (λx=>la2 x (na3 x))
theorem xb1:f9 prog G 196 Ma0:=B5 (enc:=λx=>⟨[eL tP x.j8,.fn 169 [.ptr 0 0 0 0]],[⟨0,1,[[eL tX x.o7]],true,false,0⟩]⟩) (λa H=>by kernel_rfl) (bd Yf5 rb6) λx=>Ua7 (.s .p (.s (.s .p (.b (.u ha6.ls))) .p)) [ha6.pr] (by kernel_rfl) (.cons nb2 .nil) (Qha (b:=F7 (λr=>(la2 x r).run) x) (by kernel_rfl) (Cb3 (λr=>(la2 x r).run) (λr=>r) x).symm)
structure P8 where
 j8:List Pln
 o7:List Pt
noncomputable def jb9:List (Nat×Sum):=[(196,Ma0)]
theorem cb7:i4 prog G jb9:=⟨xb1,trivial⟩
structure P9 where
 alt:Nat
 bs0:Bool
 o7:List Pt
noncomputable def A9{α:Type}(kk:P9->α)(x:P8):α:=let t1:=(na3 ⟨rt tP x.j8,rt tX x.o7⟩);(sl ((cnE tP x.j8)&&((cnE tX x.o7)&&true)) (sl (Nat.beq t1.alt 1) (kk ⟨1,decide (t1.is0>=0),t1.o7⟩) (kk ⟨0,false,[]⟩)) (kk ⟨0,false,[]⟩))
noncomputable def fa7(x:P8):P9:=A9 (λr=>r) x
noncomputable def ba2(x:P8)(r:P9):DT (b7×List b8):=(.ite (Nat.beq r.alt 1) (.ret (b r.bs0,[⟨0,1,[[eL tX r.o7]],true,false,0⟩])) .fail)
theorem nb3{α β:Type}(F:α->β)(kk:P9->α)(x:P8):F (A9 kk x)=A9 (λr=>F (kk r)) x:=by unfold A9;(repeat' apply l5 (f:=F))<;>rfl
noncomputable def za2:Sum:=Ea0 ⟨[sLq tP,.fn 169 [.o (.ptr 0 0 0 0)]],[⟨0,1,true,some [[.c 4 (nL tX)]]⟩],λa H=>(⟨aLq tP a 0,hLq tX H 0 0 0⟩,())⟩ (λx=>ba2 x (fa7 x))
theorem kb0:f9 prog G 168 za2:=B5 (enc:=λx=>⟨[eL tP x.j8,.fn 169 [.ptr 0 0 0 0]],[⟨0,1,[[eL tX x.o7]],true,false,0⟩]⟩) (λa H=>by kernel_rfl) (bd Wf9 cb7) λx=>q9 (Qha (b:=A9 (λr=>(ba2 x r).run) x) (by kernel_rfl) (nb3 (λr=>(ba2 x r).run) (λr=>r) x).symm)
noncomputable def kc1:List (Nat×Sum):=[(167,Ca6),(168,za2)]
theorem cc5:i4 prog G kc1:=⟨Wa4,kb0,trivial⟩
noncomputable def la3(x:List Pln):Option (b7×List b8):=let t1:=(Y5 (rt tP x));let t2:=(fa7 ⟨rt tP x,rt tX t1⟩);(sl (okE tP x) (sl (Y6 (rt tP x)) (sl ((cnE tP x)&&((cnE tX t1)&&true)) (sl (Nat.beq t2.alt 1) (some (b (!t2.bs0),[])) none) none) none) none)
noncomputable def wa4(x:List Pln):Bool:=O9 (one r1B) (la3 x)
noncomputable def wa5(x:List Pln):Bool:=okO (one r1B) (la3 x)
noncomputable def xb2:Sum:=Q9 (ta7 tP) (λx=>.guard (wa5 x) (.ret ((one r1B).enc (wa4 x),[])))
theorem kc2:f9 prog G 111 xb2:=Ea7 (bd Tf7 cc5) (one r1B) (o:=la3) λx=>q9 (by kernel_rfl)
noncomputable def ed7:List (Nat×Sum):=[(109,rb3),(110,Hc4),(167,Ca6)]
theorem Rc7:i4 prog G ed7:=⟨Ib2,ed5,Wa4,trivial⟩
noncomputable def Oa0(x:List Pln):Option (b7×List b8):=let t1:=(wa1 [rt tP x]);let t2:=(ub1 [rt tP x]);let t3:=(Y5 (rt tP t2));(sl ((okE tP x)&&true) (sl (wa2 [rt tP x]) (sl (!t1) (some (.v (.slice none 0 0),[])) (sl ((okE tP x)&&true) (sl (ub2 [rt tP x]) (sl (okE tP t2) (sl (Y6 (rt tP t2)) (some (eL tX t3,[])) none) none) none) none)) none) none)
noncomputable def fb4(x:List Pln):List Pt:=O9 (one (r1L tX)) (Oa0 x)
noncomputable def fb5(x:List Pln):Bool:=okO (one (r1L tX)) (Oa0 x)
noncomputable def mc8:Sum:=Q9 (ta7 tP) (λx=>.guard (fb5 x) (.ret ((one (r1L tX)).enc (fb4 x),[])))
theorem ed8:f9 prog G 113 mc8:=Ea7 (bd Tf8 Rc7) (one (r1L tX)) (o:=Oa0) λx=>q9 (by kernel_rfl)
noncomputable def Gd2:List (Nat×Sum):=[(109,rb3),(110,Hc4),(111,xb2)]
theorem qd0:i4 prog G Gd2:=⟨Ib2,ed5,kc2,trivial⟩
noncomputable def kb1(x:List Pln):Option (b7×List b8):=let t1:=(wa1 [rt tP x]);let t2:=(ub1 [rt tP x]);let t3:=(wa4 (rt tP t2));(sl ((okE tP x)&&true) (sl (wa2 [rt tP x]) (sl t1 (sl ((okE tP x)&&true) (sl (ub2 [rt tP x]) (sl (okE tP t2) (sl (wa5 (rt tP t2)) (some (b t3,[])) none) none) none) none) (some (b false,[]))) none) none)
noncomputable def Eb6(x:List Pln):Bool:=O9 (one r1B) (kb1 x)
noncomputable def Eb7(x:List Pln):Bool:=okO (one r1B) (kb1 x)
noncomputable def Oc5:Sum:=Q9 (ta7 tP) (λx=>.guard (Eb7 x) (.ret ((one r1B).enc (Eb6 x),[])))
theorem Gd3:f9 prog G 55 Oc5:=Ea7 (bd b55 qd0) (one r1B) (o:=kb1) λx=>q9 (by kernel_rfl)
structure Ke7 where
 ag6:List Pt
 Wc1:Int
structure Ke8 where
 (Mc8 sa9 ta0 ta1 Pf5 Pf6 Pf7:Int)
structure Ye4 where
 (U8 U9 V0 bb1:Int)
 o7:List Pt
structure De1 where
 bg1:List Pt
 is8:Int
 o7:List Pt
 (B7 B9 C0 xa8:Int)
structure De2 where
 (is4 is9:Int)
structure Ye5 where
 alt:Nat
 bs0:Bool
 o7:List Pt
structure nd3 where
 ns0:Nat
 eh0:List (List b7)
 Pb6:List Pt
structure Xc3 where
 ns0:Nat
 is7:Int
 eh0:List (List b7)
structure Xc4 where
 is8:Int
 Pb6:List Pt
structure nd4 where
 alt:Nat
 is0:Int
 Pb6:List Pt
structure nd5 where
 ns0:Nat
 eh0:List (List b7)
 Pb6:List Pt
structure Xc5 where
 ns0:Nat
structure Xc6 where
 (is5 is6:Int)
 eh0:List (List b7)
 Pb6:List Pt
structure nd6 where
 (alt ns0:Nat)
 eh0:List (List b7)
 Pb6:List Pt
structure Gd4 where
 ns0:Nat
 eh0:List (List b7)
structure qd1 where
 (ns0 os4 ns4:Nat)
structure qd2 where
 (is3 is5:Int)
 eh0:List (List b7)
structure qd3 where
 ns0:Nat
 eh0:List (List b7)
structure qd4 where
 is3:Int
structure Gd5 where
 (alt ns0:Nat)
 eh0:List (List b7)
noncomputable def ed9:List (Nat×Sum):=[]
theorem Rc8:i4 prog G ed9:=trivial
noncomputable def Oa1(x:Int)(y:Int):Option (b7×List b8):=(sl (decide (x<y)) (some (i (-1),[])) (sl (decide (x>y)) (some (i 1,[])) (some (i 0,[]))))
noncomputable def ja2(x:Int)(y:Int):Int:=O9 (one r1I) (Oa1 x y)
noncomputable def ja3(x:Int)(y:Int):Bool:=okO (one r1I) (Oa1 x y)
noncomputable def Ib5:Sum:=va4 cI cI (λx y=>.guard (ja3 x y) (.ret ((one r1I).enc (ja2 x y),[])))
theorem cc6:f9 prog G 141 Ib5:=Rb0 (bd Vf3 Rc8) (one r1I) (o:=Oa1) λx y=>q9 (by kernel_rfl)
noncomputable def Hc5:List (Nat×Sum):=[(141,Ib5)]
theorem zc4:i4 prog G Hc5:=⟨cc6,trivial⟩
noncomputable def za3(x:Pln)(y:Pln):Option (b7×List b8):=let t1:=(ja2 x.n.x y.n.x);let t2:=(ja2 x.n.y y.n.y);let t3:=(ja2 x.n.z y.n.z);let t4:=(ja2 x.b y.b);(sl (ja3 x.n.x y.n.x) (sl (t1==0) (sl (ja3 x.n.y y.n.y) (sl (t2==0) (sl (ja3 x.n.z y.n.z) (sl (t3==0) (sl (ja3 x.b y.b) (sl (t4==0) (some (i t4,[])) (some (i t4,[]))) none) (some (i t3,[]))) none) (some (i t2,[]))) none) (some (i t1,[]))) none)
noncomputable def Qa0(x:Pln)(y:Pln):Int:=O9 (one r1I) (za3 x y)
noncomputable def Qa1(x:Pln)(y:Pln):Bool:=okO (one r1I) (za3 x y)
noncomputable def nb4:Sum:=va4 (W8 tP) (W8 tP) (λx y=>.guard (Qa1 x y) (.ret ((one r1I).enc (Qa0 x y),[])))
theorem Hc6:f9 prog G 122 nb4:=Rb0 (bd Uf5 zc4) (one r1I) (o:=za3) λx y=>q9 (by kernel_rfl)
noncomputable def Ud2:List (Nat×Sum):=[(138,Wa5)]
theorem Gd6:i4 prog G Ud2:=⟨mb4,trivial⟩
noncomputable def xb3(x:V3):Option (b7×List b8):=let t1:=(O2 24 [x.x,x.y,x.z]);(sl (O3 24 [x.x,x.y,x.z]) (some (b t1,[])) none)
noncomputable def wa6(x:V3):Bool:=O9 (one r1B) (xb3 x)
noncomputable def wa7(x:V3):Bool:=okO (one r1B) (xb3 x)
noncomputable def Sb4:Sum:=Q9 (W8 tV) (λx=>.guard (wa7 x) (.ret ((one r1B).enc (wa6 x),[])))
theorem cc7:f9 prog G 85 Sb4:=Ea7 (bd b85 Gd6) (one r1B) (o:=xb3) λx=>q9 (by kernel_rfl)
structure Qa2 where
 (U8 U9 V0 bb1:Int)
 e7:List Pln
noncomputable def Hc7:List (Nat×Sum):=[(115,Hb1)]
theorem zc5:i4 prog G Hc7:=⟨bc8,trivial⟩
structure za4 where
 alt:Nat
 bs0:Bool
noncomputable def oa4{α:Type}(kk:za4->α)(x:Qa2):α:=let t1:=(ja0 (rt tP x.e7) (⟨x.U8,x.U9,x.V0,x.bb1⟩:Pt));(sl (okE tP x.e7) (sl (ja1 (rt tP x.e7) (⟨x.U8,x.U9,x.V0,x.bb1⟩:Pt)) (kk ⟨1,!t1⟩) (kk ⟨0,false⟩)) (kk ⟨0,false⟩))
noncomputable def Qa3(x:Qa2):za4:=oa4 (λr=>r) x
noncomputable def cb8(x:Qa2)(r:za4):DT (b7×List b8):=(.ite (Nat.beq r.alt 1) (.ret (b r.bs0,[⟨0,1,[[eL tP x.e7]],true,false,0⟩])) .fail)
theorem Rc9{α β:Type}(F:α->β)(kk:za4->α)(x:Qa2):F (oa4 kk x)=oa4 (λr=>F (kk r)) x:=by unfold oa4;(repeat' apply l5 (f:=F))<;>rfl
noncomputable def Vb3:Sum:=Ea0 ⟨[.agg (kLq 4),sPq 0],[⟨0,1,true,some [[.c 4 (nL tP)]]⟩],λa H=>(⟨cIq a 0 0,cIq a 0 1,cIq a 0 2,cIq a 0 3,hLq tP H 0 0 0⟩,())⟩ (λx=>cb8 x (Qa3 x))
theorem Hc8:f9 prog G 114 Vb3:=B5 (enc:=λx=>⟨[.agg [i x.U8,i x.U9,i x.V0,i x.bb1],.ptr 0 0 0 0],[⟨0,1,[[eL tP x.e7]],true,false,0⟩]⟩) (λa H=>by kernel_rfl) (bd Tf9 zc5) λx=>q9 (Qha (b:=oa4 (λr=>(cb8 x r).run) x) (by kernel_rfl) (Rc9 (λr=>(cb8 x r).run) (λr=>r) x).symm)
structure X9 where
 ja7:List Pt
 e7:List Pln
noncomputable def Ga1:List (Nat×Sum):=[(114,Vb3)]
theorem rb7:i4 prog G Ga1:=⟨Hc8,trivial⟩
structure I9 where
 ja7:List Pt
 is7:Int
structure o0 where
 is8:Int
 e7:List Pln
noncomputable def za5(p:I9)(s:o0):St:=⟨eL tX p.ja7::.fn 114 [.ptr 0 0 0 0]::ra 5 (i p.is7::i s.is8::ra 10 []),[⟨0,1,[[eL tP s.e7]],true,false,0⟩]⟩
noncomputable def E7{α:Type}(k:o0->α)(e:Nat->α)(z:α)(p:I9)(s:o0):α:=let t1:=(Qa3 ⟨(gL tX p.ja7 s.is8.toNat).px,(gL tX p.ja7 s.is8.toNat).py,(gL tX p.ja7 s.is8.toNat).pz,(gL tX p.ja7 s.is8.toNat).pw,rt tP s.e7⟩);(sl (decide (s.is8<p.is7)) (sl (inB s.is8 (List.length p.ja7)) (sl ((cnE tP s.e7)&&true) (sl (Nat.beq t1.alt 1) (sl t1.bs0 (e 1) (k ⟨W (s.is8+1),rt tP s.e7⟩)) z) z) z) (e 2))
noncomputable def H5(p:I9)(s:o0):Stp o0:=E7 .next .exit .fail p s
noncomputable def ha7:Lo I9 o0:=⟨En Ga1,1,Ke2,[1,0,1,4,4],[0,1,7,8],.p,[⟨sLq tX::.fn 114 [.o (.ptr 0 0 0 0)]::ru2 5 (sIq::sIq::ru2 10 []),[⟨0,1,true,some [[.c 4 (nL tP)]]⟩],λa H=>(⟨aLq tX a 0,aIq a 7⟩,⟨aIq a 8,hLq tP H 0 0 0⟩)⟩],H5,[(none,λp s=>⟨[i s.is8],[⟨0,1,[[eL tP (rt tP s.e7)]],true,false,0⟩]⟩),(some 0,λp s=>upq (za5 p s) [(9,b (decide (s.is8<p.is7)))])],za5⟩
theorem nb5:ha7.Ok:=Lo.ok [] (by kernel_rfl) .nil rfl (.cons (λa H=>by kernel_rfl) .nil) λp s=>(.of @E7 (λF _ _ _ _ _=>by unfold E7;(repeat' apply l5 (f:=F))<;>rfl) (by kernel_rfl))
structure Y0 where
 alt:Nat
 is0:Int
 e7:List Pln
noncomputable def F8{α:Type}(kk:Y0->α)(x:X9):α:=let t1:=(lp (H5 (⟨rt tX x.ja7,(↑(List.length x.ja7):Int)⟩:I9)) (⟨0,rt tP x.e7⟩:o0));(sl ((cnE tX x.ja7)&&((cnE tP x.e7)&&true)) (sl (Nat.beq t1.1 1) (kk ⟨1,t1.2.is8,rt tP t1.2.e7⟩) (sl (Nat.beq t1.1 2) (kk ⟨1,-1,t1.2.e7⟩) (kk ⟨0,0,[]⟩))) (kk ⟨0,0,[]⟩))
noncomputable def na4(x:X9):Y0:=F8 (λr=>r) x
noncomputable def la4(x:X9)(r:Y0):DT (b7×List b8):=(.ite (Nat.beq r.alt 1) (.ret (i r.is0,[⟨0,1,[[eL tP r.e7]],true,false,0⟩])) .fail)
theorem Cb4{α β:Type}(F:α->β)(kk:Y0->α)(x:X9):F (F8 kk x)=F8 (λr=>F (kk r)) x:=by unfold F8;(repeat' apply l5 (f:=F))<;>rfl
noncomputable def Ma1:Sum:=Ea0 ⟨[sLq tX,.fn 114 [.o (.ptr 0 0 0 0)]],[⟨0,1,true,some [[.c 4 (nL tP)]]⟩],λa H=>(⟨aLq tX a 0,hLq tP H 0 0 0⟩,())⟩ (λx=>la4 x (na4 x))
theorem xb4:f9 prog G 171 Ma1:=B5 (enc:=λx=>⟨[eL tX x.ja7,.fn 114 [.ptr 0 0 0 0]],[⟨0,1,[[eL tP x.e7]],true,false,0⟩]⟩) (λa H=>by kernel_rfl) (bd Mf0 rb7) λx=>Ua7 (.s .p (.s (.s .p (.b (.u ha7.ls))) .p)) [ha7.pr] (by kernel_rfl) (.cons nb5 .nil) (Qha (b:=F8 (λr=>(la4 x r).run) x) (by kernel_rfl) (Cb4 (λr=>(la4 x r).run) (λr=>r) x).symm)
structure Q0 where
 ja7:List Pt
 e7:List Pln
noncomputable def kb2:List (Nat×Sum):=[(171,Ma1)]
theorem cb9:i4 prog G kb2:=⟨xb4,trivial⟩
structure Q1 where
 alt:Nat
 bs0:Bool
 e7:List Pln
noncomputable def B0{α:Type}(kk:Q1->α)(x:Q0):α:=let t1:=(na4 ⟨rt tX x.ja7,rt tP x.e7⟩);(sl ((cnE tX x.ja7)&&((cnE tP x.e7)&&true)) (sl (Nat.beq t1.alt 1) (kk ⟨1,decide (t1.is0>=0),t1.e7⟩) (kk ⟨0,false,[]⟩)) (kk ⟨0,false,[]⟩))
noncomputable def fa8(x:Q0):Q1:=B0 (λr=>r) x
noncomputable def ba3(x:Q0)(r:Q1):DT (b7×List b8):=(.ite (Nat.beq r.alt 1) (.ret (b r.bs0,[⟨0,1,[[eL tP r.e7]],true,false,0⟩])) .fail)
theorem nb6{α β:Type}(F:α->β)(kk:Q1->α)(x:Q0):F (B0 kk x)=B0 (λr=>F (kk r)) x:=by unfold B0;(repeat' apply l5 (f:=F))<;>rfl
noncomputable def za6:Sum:=Ea0 ⟨[sLq tX,.fn 114 [.o (.ptr 0 0 0 0)]],[⟨0,1,true,some [[.c 4 (nL tP)]]⟩],λa H=>(⟨aLq tX a 0,hLq tP H 0 0 0⟩,())⟩ (λx=>ba3 x (fa8 x))
theorem kb3:f9 prog G 112 za6:=B5 (enc:=λx=>⟨[eL tX x.ja7,.fn 114 [.ptr 0 0 0 0]],[⟨0,1,[[eL tP x.e7]],true,false,0⟩]⟩) (λa H=>by kernel_rfl) (bd Lf9 cb9) λx=>q9 (Qha (b:=B0 (λr=>(ba3 x r).run) x) (by kernel_rfl) (nb6 (λr=>(ba3 x r).run) (λr=>r) x).symm)
noncomputable def fd0:List (Nat×Sum):=[(55,Oc5),(109,rb3),(113,mc8),(112,za6)]
theorem Sc0:i4 prog G fd0:=⟨Gd3,Ib2,ed8,kb3,trivial⟩
noncomputable def Oa2(x:List Pln)(y:List Pln):Option (b7×List b8):=let t1:=(Eb6 (rt tP x));let t2:=(wa1 [rt tP y]);let t3:=(fb4 (rt tP x));let t4:=(fa8 ⟨rt tX t3,rt tP y⟩);(sl (okE tP x) (sl (Eb7 (rt tP x)) (sl t1 (sl ((okE tP y)&&true) (sl (wa2 [rt tP y]) (sl t2 (sl (okE tP x) (sl (fb5 (rt tP x)) (sl ((cnE tX t3)&&((cnE tP y)&&true)) (sl (Nat.beq t4.alt 1) (some (b (!t4.bs0),[])) none) none) none) none) (some (b false,[]))) none) none) (some (b false,[]))) none) none)
noncomputable def fb6(x:List Pln)(y:List Pln):Bool:=O9 (one r1B) (Oa2 x y)
noncomputable def fb7(x:List Pln)(y:List Pln):Bool:=okO (one r1B) (Oa2 x y)
noncomputable def mc9:Sum:=va4 (ta7 tP) (ta7 tP) (λx y=>.guard (fb7 x y) (.ret ((one r1B).enc (fb6 x y),[])))
theorem fd1:f9 prog G 57 mc9:=Rb0 (bd b57 Sc0) (one r1B) (o:=Oa2) λx y=>q9 (by kernel_rfl)
structure xf9 where
 (g7 Pf8 Pf9 Qf0 Qf1 Qf2:Int)
end Go.Ev.Ce
namespace Go.Proofs
open Go.Shelf
set_option maxRecDepth 100000 in
def Ce.sortLay_ren:Go.Shelf.Ren:=⟨fun | 6=>121 | 15=>180 | 14=>179 | 28=>207 | 29=>208 | 20=>199 | 21=>200 | 22=>201 | 23=>202 | 24=>203 | 25=>204 | 26=>205 | 27=>206 | 46=>223 | 47=>224 | 48=>225 | 49=>226 | 50=>227 | 57=>233 | n=>n,fun | 22=>24 | 24=>73 | 25=>148 | 3=>3 | 39=>173 | 0=>0 | 53=>197 | 55=>199 | 4=>4 | 46=>191 | 45=>190 | 50=>50 | 5=>5 | 9=>9 | 66=>210 | 70=>214 | 76=>218 | 77=>219 | n=>n,fun | n=>n⟩
set_option maxRecDepth 100000 in
theorem Ce.sortLay:Go.Proofs.SlLaysF0.n6 Tryz.prog Ce.sortLay_ren:={
 mixed:=by kernel_rfl
 f6:=⟨Tryz.f121.name,by decide,Tryz.func121.trans (congrArg some (by kernel_rfl))⟩
 f14:=⟨Tryz.f179.name,by decide,Tryz.func179.trans (congrArg some (by kernel_rfl))⟩
 f15:=Tryz.func180.trans (congrArg some (by kernel_rfl))
 f20:=⟨Tryz.f199.name,by decide,Tryz.func199.trans (congrArg some (by kernel_rfl))⟩
 f21:=⟨Tryz.f200.name,by decide,Tryz.func200.trans (congrArg some (by kernel_rfl))⟩
 f22:=⟨Tryz.f201.name,by decide,Tryz.func201.trans (congrArg some (by kernel_rfl))⟩
 f23:=⟨Tryz.f202.name,by decide,Tryz.func202.trans (congrArg some (by kernel_rfl))⟩
 f24:=⟨Tryz.f203.name,by decide,Tryz.func203.trans (congrArg some (by kernel_rfl))⟩
 f25:=⟨Tryz.f204.name,by decide,Tryz.func204.trans (congrArg some (by kernel_rfl))⟩
 f26:=⟨Tryz.f205.name,by decide,Tryz.func205.trans (congrArg some (by kernel_rfl))⟩
 f27:=⟨Tryz.f206.name,by decide,Tryz.func206.trans (congrArg some (by kernel_rfl))⟩
 f28:=Tryz.func207.trans (congrArg some (by kernel_rfl))
 f29:=Tryz.func208.trans (congrArg some (by kernel_rfl))
 f46:=⟨Tryz.f223.name,by decide,Tryz.func223.trans (congrArg some (by kernel_rfl))⟩
 f47:=Tryz.func224.trans (congrArg some (by kernel_rfl))
 f48:=Tryz.func225.trans (congrArg some (by kernel_rfl))
 f49:=⟨Tryz.f226.name,by decide,Tryz.func226.trans (congrArg some (by kernel_rfl))⟩
 f50:=⟨Tryz.f227.name,by decide,Tryz.func227.trans (congrArg some (by kernel_rfl))⟩
 f57:=⟨Tryz.f233.name,by decide,Tryz.func233.trans (congrArg some (by kernel_rfl))⟩
 t0:=Tryz.underlying0
 a0:=Tryz.isAgg0
 z0:=Tryz.sizeOf0
 v0:=Tryz.zeroValue0
 t3:=Tryz.underlying3
 a3:=Tryz.isAgg3
 z3:=Tryz.sizeOf3
 v3:=Tryz.zeroValue3
 t4:=Tryz.underlying4
 a4:=Tryz.isAgg4
 z4:=Tryz.sizeOf4
 v4:=Tryz.zeroValue4
 t5:=Tryz.underlying5
 a5:=Tryz.isAgg5
 z5:=Tryz.sizeOf5
 v5:=Tryz.zeroValue5
 t9:=Tryz.underlying9
 a9:=Tryz.isAgg9
 z9:=Tryz.sizeOf9
 v9:=Tryz.zeroValue9
 t22:=Tryz.underlying24
 a22:=Tryz.isAgg24
 z22:=Tryz.sizeOf24
 v22:=Tryz.zeroValue24
 t25:=Tryz.underlying148
 a25:=Tryz.isAgg148
 z25:=Tryz.sizeOf148
 v25:=Tryz.zeroValue148
 t39:=Tryz.underlying173
 a39:=Tryz.isAgg173
 z39:=Tryz.sizeOf173
 v39:=Tryz.zeroValue173
 t45:=Tryz.underlying190
 a45:=Tryz.isAgg190
 z45:=Tryz.sizeOf190
 v45:=Tryz.zeroValue190
 t46:=Tryz.underlying191
 a46:=Tryz.isAgg191
 z46:=Tryz.sizeOf191
 v46:=Tryz.zeroValue191
 t50:=Tryz.underlying50
 a50:=Tryz.isAgg50
 z50:=Tryz.sizeOf50
 v50:=Tryz.zeroValue50
 t53:=Tryz.underlying197
 a53:=Tryz.isAgg197
 z53:=Tryz.sizeOf197
 v53:=Tryz.zeroValue197
 t55:=Tryz.underlying199
 a55:=Tryz.isAgg199
 z55:=Tryz.sizeOf199
 v55:=Tryz.zeroValue199
 t66:=Tryz.underlying210
 a66:=Tryz.isAgg210
 z66:=Tryz.sizeOf210
 v66:=Tryz.zeroValue210
 t70:=Tryz.underlying214
 a70:=Tryz.isAgg214
 z70:=Tryz.sizeOf214
 v70:=Tryz.zeroValue214
 t76:=Tryz.underlying218
 a76:=Tryz.isAgg218
 z76:=Tryz.sizeOf218
 v76:=Tryz.zeroValue218
 t77:=Tryz.underlying219
 a77:=Tryz.isAgg219
 z77:=Tryz.sizeOf219
 v77:=Tryz.zeroValue219 }
end Go.Proofs
namespace Go.Ev.Ce
open Go Go.Ev Go.Ev.L Go.Proofs Go.Sort
def Ib6(x y:Int):Int:=if x<y then -1 else if x>y then 1 else 0
def Ib7(x y:Pln):Int :=
 if Ib6 x.n.x y.n.x=0 then if Ib6 x.n.y y.n.y=0 then if Ib6 x.n.z y.n.z=0 then Ib6 x.b y.b else Ib6 x.n.z y.n.z else Ib6 x.n.y y.n.y else Ib6 x.n.x y.n.x
theorem Sb5(x y:Int):Ib6 x y<0↔x<y:=by unfold Ib6;split<;>(try split)<;>omega
theorem zc6(x y:Int):Ib6 x y=0↔x=y:=by unfold Ib6;split<;>(try split)<;>omega
def LtP(x y:Pln):Prop:=x.n.x<y.n.x\/x.n.x=y.n.x/\(x.n.y<y.n.y\/x.n.y=y.n.y/\(x.n.z<y.n.z\/x.n.z=y.n.z/\x.b<y.b))
instance(x y:Pln):Decidable (LtP x y):=by unfold LtP;exact inferInstance
theorem Gd7(x y:Pln):Ib7 x y<0↔LtP x y:=by
 have h1:=Sb5 x.n.x y.n.x;have h2:=zc6 x.n.x y.n.x;have h3:=Sb5 x.n.y y.n.y;have h4:=zc6 x.n.y y.n.y;have h5:=Sb5 x.n.z y.n.z;have h6:=zc6 x.n.z y.n.z;have h7:=Sb5 x.b y.b;unfold Ib7 LtP;split
 ·split
  ·split<;>omega
  ·omega
 ·omega
theorem db0(x y:Pln):ltOf Ib7 x y=decide (LtP x y):=by
 unfold ltOf;rw[decide_eq_decide];exact Gd7 x y
theorem Mf2:SWO (ltOf Ib7) where
 irrefl x:=by rw[db0];simp[LtP]
 trans x y z h1 h2:=by rw[db0,decide_eq_true_eq] at *;unfold LtP at *;omega
 ntrans x y z h1 h2:=by rw[db0,decide_eq_false_iff_not] at *;unfold LtP at *;omega
theorem Zf1(x y:Pln)(h1:ltOf Ib7 x y=false)(h2:ltOf Ib7 y x=false):x=y:=by
 rw[db0,decide_eq_false_iff_not] at *
 unfold LtP at *
 obtain⟨⟨a,b,c⟩,d⟩:=x;obtain⟨⟨a',b',c'⟩,d'⟩:=y
 simp only at *
 have:a=a'/\b=b'/\c=c'/\d=d':=by omega
 obtain⟨rfl,rfl,rfl,rfl⟩:=this;rfl
theorem Ud3(x y:Int):Oa1 x y=some (i (Ib6 x y),[]):=by
 unfold Oa1 Ib6;simp only[Gb8,decide_eq_true_eq]
 split<;>(try split)<;>rfl
theorem pe0(x y:Int):ja2 x y=Ib6 x y:=by unfold ja2;rw[Ud3];rfl
theorem pe1(x y:Int):ja3 x y=true:=by unfold ja3;rw[Ud3];rfl
theorem fd2(x y:Pln):za3 x y=some (i (Ib7 x y),[]):=by
 unfold za3 Ib7;simp only[pe0,pe1,Gb8,beq_iff_eq,if_true]
 repeat' (first | rfl | split)
theorem Mf3(x y:Pln):Qa0 x y=Ib7 x y:=by unfold Qa0;rw[fd2];rfl
theorem Mf4(x y:Pln):Qa1 x y=true:=by unfold Qa1;rw[fd2];rfl
theorem Mf5(x y:Pln):(nb4 [.agg (tP.row x),.agg (tP.row y)] []).run=some (i (Ib7 x y),[]):=by
 have:(nb4 [.agg (tP.row x),.agg (tP.row y)] []).run=sel (Qa1 x y) (some (i (Qa0 x y),[])) none:=by kernel_rfl
 rw[this,Mf4,Mf3]
def Gc4(p:Pln):List Value:=[.int .i64 p.n.x,.int .i64 p.n.y,.int .i64 p.n.z,.int .i64 p.b]
instance:Inhabited Pln:=⟨⟨⟨0,0,0⟩,0⟩⟩
def nc0(l:List Pln):List Pln:=l.mergeSort λx y=>!ltOf Ib7 y x
theorem ic3(l:List Pln):(nc0 l).length=l.length:=List.length_mergeSort l
noncomputable def Ta8:Sum:=oe0 tP 122 73 nc0
theorem Ke9:Ce.sortLay_ren.f 6=121:=by kernel_rfl
theorem xd0:Ce.sortLay_ren.t 24=73:=by kernel_rfl
set_option maxRecDepth 100000 in
theorem Ib8:f9 prog G 121 Ta8:=by
 refine oe1 (enc:=Gc4) (cf:=Ib7) ⟨_,Tryz.func121,by kernel_rfl,of_decide_eq_true (by kernel_rfl)⟩ (by decide) (λ_=>rfl) (λr h=>Ta6 (n:=4) h) (λx v hv=>?_) ic3
  (λblk off size w=>ne9 Hc6 Mf5 (λ_=>rfl) (λ_=>rfl) _ _ _ _ _) (λblk cap d w hcl hH hb hs=>?_)
 ·simp[Gc4] at hv
  rcases hv with rfl|rfl|rfl|rfl<;>rfl
 ·have eg:∀args w,(callFunc 122 args).run Tryz.prog w=.ok (.enter 122 args) w:=enters_of Tryz.func122 (by kernel_rfl) rfl
  have:=AnyQ.slices_SortFunc Ce.sortLay 4 (by rw[xd0];exact Tryz.isAgg73) (by rw[xd0];exact Tryz.sizeOf73) Gc4 (λ_=>rfl) (λx v hv=>by simp[Gc4] at hv;rcases hv with rfl | rfl | rfl | rfl<;>rfl) Ib7 Mf2 122 #[] blk 0 cap d w eg (hcl 0 d.size) hH hb hs
  rw[Ke9] at this;refine this.mono λe w' ⟨h1,d',n,os,h2,h3,h4⟩=>⟨h1,n,os,?_⟩
  have h5:=sorted_unique_holds Mf2 Zf1 d d' h2 h3;rw[h4];show _=sortWorldK Gc4 4 w blk 0 n (d.toList.mergeSort λx y=>!ltOf Ib7 y x).toArray os
  rw[<- h5]
end Go.Ev.Ce
namespace Go.Ev.Ce
open Go Go.Ev Go.Ev.L Go.Proofs
set_option maxRecDepth 100000
structure Qa4 where
 is1:Int
 y8:List Int
 c7:Int
noncomputable def Hc9:List (Nat×Sum):=[(27,wd9)]
theorem zc7:i4 prog G Hc9:=⟨he6,trivial⟩
structure Qa5 where
 alt:Nat
 (is0 c7:Int)
noncomputable def oa5{α:Type}(kk:Qa5->α)(x:Qa4):α:=let t1:=(ic1 (gL tI x.y8 (W ((W (x.c7+1))-1)).toNat) x.is1);(sl (decide (x.c7>=(↑(List.length x.y8):Int))) (kk ⟨1,0,x.c7⟩) (sl (inB (W ((W (x.c7+1))-1)) (List.length x.y8)) (sl (ic2 (gL tI x.y8 (W ((W (x.c7+1))-1)).toNat) x.is1) (kk ⟨1,t1,W (x.c7+1)⟩) (kk ⟨0,0,0⟩)) (kk ⟨0,0,0⟩)))
noncomputable def D1(x:Qa4):Qa5:=oa5 (λr=>r) x
noncomputable def db1(x:Qa4)(r:Qa5):DT (b7×List b8):=(.ite (Nat.beq r.alt 1) (.ret (i r.is0,[⟨0,2,[[eL tI x.y8,i r.c7]],true,false,0⟩])) .fail)
theorem Sc1{α β:Type}(F:α->β)(kk:Qa5->α)(x:Qa4):F (oa5 kk x)=oa5 (λr=>F (kk r)) x:=by unfold oa5;(repeat' apply l5 (f:=F))<;>rfl
noncomputable def Vb4:Sum:=Ea0 ⟨[.s (.o (.ptr 0 0 0 0)),.s (.o (.int .i64))],[⟨0,2,true,some [[.c 1 (nL tI),.o (.int .i64)]]⟩],λa H=>(⟨toI (slT a 1),rL tI (slT (rwT (elT H 0) 0) 0),toI (slT (rwT (elT H 0) 0) 1)⟩,())⟩ (λx=>db1 x (D1 x))
theorem Ic0:f9 prog G 68 Vb4:=B5 (enc:=λx=>⟨[.ptr 0 0 0 0,i x.is1],[⟨0,2,[[eL tI x.y8,i x.c7]],true,false,0⟩]⟩) (λa H=>by kernel_rfl) (bd b68 zc7) λx=>q9 (Qha (b:=oa5 (λr=>(db1 x r).run) x) (by kernel_rfl) (Sc1 (λr=>(db1 x r).run) (λr=>r) x).symm)
structure Ef4 where
 is1:Int
 y8:List Int
 c7:Int
structure Ef5 where
 alt:Nat
 (U8 U9 V0:Int)
 y8:List Int
 c7:Int
noncomputable def he8:List (Nat×Sum):=[]
theorem Ud4:i4 prog G he8:=trivial
noncomputable def db2(x:V3)(y:V3):V3:=(⟨W (x.x-y.x),W (x.y-y.y),W (x.z-y.z)⟩:V3)
noncomputable def xd1:Sum:=va4 (W8 tV) (W8 tV) (λx y=>.ret ((one r1V).enc (db2 x y),[]))
theorem he9:f9 prog G 128 xd1:=Ia9 (bd Uf6 Ud4) λx y=>q9 (by kernel_rfl)
noncomputable def ye0:List (Nat×Sum):=[(191,Ja0)]
theorem ie0:i4 prog G ye0:=⟨Wa1,trivial⟩
noncomputable def cc8(x:V3):Option (b7×List b8):=(sl (decide (x.x<(-24))) (some (b false,[])) (sl (decide (x.x>24)) (some (b false,[])) (sl (decide (x.y<(-24))) (some (b false,[])) (sl (decide (x.y>24)) (some (b false,[])) (sl (decide (x.z<(-24))) (some (b false,[])) (sl (decide (x.z>24)) (some (b false,[])) (some (b true,[]))))))))
noncomputable def xb5(x:V3):Bool:=O9 (one r1B) (cc8 x)
noncomputable def xb6(x:V3):Bool:=okO (one r1B) (cc8 x)
noncomputable def fd3:Sum:=Q9 (W8 tV) (λx=>.guard (xb6 x) (.ret ((one r1B).enc (xb5 x),[])))
theorem xd2:f9 prog G 162 fd3:=Ea7 (bd Wf3 ie0) (one r1B) (o:=cc8) λx=>q9 (by kernel_rfl)
noncomputable def fd4:List (Nat×Sum):=[(162,fd3),(128,xd1),(164,Oc0),(163,sc2),(84,Gc7)]
theorem Sc2:i4 prog G fd4:=⟨xd2,he9,Fd1,Oc2,dd8,trivial⟩
noncomputable def Oa3(x:V3)(y:V3)(z:V3):Option (b7×List b8):=let t1:=(xb5 x);let t2:=(xb5 y);let t3:=(xb5 z);let t4:=(db2 y x);let t5:=(db2 z x);let t6:=(ib6 t4 t5);let t7:=(Sa4 t6);let t8:=(bb9 t7.1 x);(sl (xb6 x) (sl (!t1) (some (.tup [.agg [i 0,i 0,i 0,i 0],b false],[])) (sl (xb6 y) (sl (!t2) (some (.tup [.agg [i 0,i 0,i 0,i 0],b false],[])) (sl (xb6 z) (sl (!t3) (some (.tup [.agg [i 0,i 0,i 0,i 0],b false],[])) (sl (wb1 t6) (sl (t7.2==0) (some (.tup [.agg [i 0,i 0,i 0,i 0],b false],[])) (some (.tup [.agg [i t7.1.x,i t7.1.y,i t7.1.z,i t8],b true],[]))) none)) none)) none)) none)
noncomputable def fb8(x:V3)(y:V3)(z:V3):Pln×Bool:=O9 (two r1P r1B) (Oa3 x y z)
noncomputable def fb9(x:V3)(y:V3)(z:V3):Bool:=okO (two r1P r1B) (Oa3 x y z)
noncomputable def nc1:Sum:=Dd9 (W8 tV) (W8 tV) (W8 tV) (λx y z=>.guard (fb9 x y z) (.ret ((two r1P r1B).enc (fb8 x y z),[])))
theorem fd5:f9 prog G 107 nc1:=Ff7 (bd Tf3 Sc2) (two r1P r1B) (o:=Oa3) λx y z=>q9 (by kernel_rfl)
noncomputable def Ud5:List (Nat×Sum):=[(156,Oc3),(162,fd3),(84,Gc7)]
theorem Gd8:i4 prog G Ud5:=⟨Fd4,xd2,dd8,trivial⟩
noncomputable def Sa5(x:Pln)(y:V3):Option (b7×List b8):=let t1:=(Eb2 x);let t2:=(xb5 y);let t3:=(bb9 x.n y);(sl (Eb3 x) (sl (!t1) (some (i 0,[])) (sl (xb6 y) (sl (!t2) (some (i 0,[])) (sl (decide ((W (t3-x.b))<0)) (some (i (-1),[])) (sl (decide ((W (t3-x.b))>0)) (some (i 1,[])) (some (i 0,[]))))) none)) none)
noncomputable def Sb6(x:Pln)(y:V3):Int:=O9 (one r1I) (Sa5 x y)
noncomputable def sc6(x:Pln)(y:V3):Bool:=okO (one r1I) (Sa5 x y)
noncomputable def fd6:Sum:=va4 (W8 tP) (W8 tV) (λx y=>.guard (sc6 x y) (.ret ((one r1I).enc (Sb6 x y),[])))
theorem Ud6:f9 prog G 135 fd6:=Rb0 (bd Vf0 Gd8) (one r1I) (o:=Sa5) λx y=>q9 (by kernel_rfl)
structure De3 where
 (d7 c7 d8 g7 B7 B9 C0 xa8:Int)
structure De4 where
 is7:Int
noncomputable def kb4:List (Nat×Sum):=[(107,nc1),(135,fd6)]
theorem Gd9:i4 prog G kb4:=⟨fd5,Ud6,trivial⟩
structure wa8 where
 i8:List V3
 (is3 is4 is5:Int)
 bs7:Bool
 (d7 c7 d8 g7:Int)
structure ha8 where
 is8:Int
noncomputable def Ib9(p:wa8)(s:ha8):St:=⟨eL tV p.i8::.unk::.unk::i p.is3::i p.is4::i p.is5::.ptr 0 0 0 0::b p.bs7::i s.is8::ra 48 [],[⟨0,4,[[i p.d7,i p.c7,i p.d8,i p.g7]],true,false,0⟩]⟩
noncomputable def ba4{α:Type}(k:ha8->α)(e:Nat->α)(z:α)(p:wa8)(s:ha8):α:=let t1:=(Sb6 (⟨(⟨p.d7,p.c7,p.d8⟩:V3),p.g7⟩:Pln) (gL tV p.i8 s.is8.toNat));(sl (decide (s.is8<(↑(List.length p.i8):Int))) (sl p.bs7 (sl (inB s.is8 (List.length p.i8)) (sl (sc6 (⟨(⟨p.d7,p.c7,p.d8⟩:V3),p.g7⟩:Pln) (gL tV p.i8 s.is8.toNat)) (sl (t1 != 0) (e 1) (k ⟨W (s.is8+1)⟩)) z) z) (e 2)) (e 3))
noncomputable def C7(p:wa8)(s:ha8):Stp ha8:=ba4 .next .exit .fail p s
noncomputable def Sb7:Lo wa8 ha8:=⟨En kb4,0,Je9,[1,0,1,4,4,1,0,4,1,4,4,1,0,4,1,4,4,1,0,4,1,1,4,4],[0,3,4,5,6,7,8],.p,[⟨sLq tV::sUq::sUq::sIq::sIq::sIq::sPq 0::sBq::sIq::ru2 48 [],[⟨0,4,true,some [kLq 4]⟩],λa H=>(⟨aLq tV a 0,aIq a 3,aIq a 4,aIq a 5,aBq a 7,hIq H 0 0 0,hIq H 0 0 1,hIq H 0 0 2,hIq H 0 0 3⟩,⟨aIq a 8⟩)⟩],C7,[(none,λp s=>⟨[b false],[]⟩),(some 6,λp s=>upq (Ib9 p s) [(41,i s.is8),(42,eL tV p.i8),(43,i (↑(List.length p.i8):Int)),(44,b (decide (s.is8<(↑(List.length p.i8):Int)))),(45,b true),(46,b p.bs7),(47,b p.bs7)]),(some 6,λp s=>upq (Ib9 p s) [(41,i s.is8),(42,eL tV p.i8),(43,i (↑(List.length p.i8):Int)),(44,b (decide (s.is8<(↑(List.length p.i8):Int)))),(45,b false),(46,u),(47,b false)])],Ib9⟩
theorem qd5:Sb7.Ok:=Lo.ok [] (by kernel_rfl) .nil rfl (.cons (λa H=>by kernel_rfl) .nil) λp s=>(.of @ba4 (λF _ _ _ _ _=>by unfold ba4;(repeat' apply l5 (f:=F))<;>rfl) (by kernel_rfl))
structure Xa5 where
 (is3 is4:Int)
structure ha9 where
 i8:List V3
 is5:Int
noncomputable def nc2(p:Xa5)(s:ha9):St:=⟨eL tV s.i8::.unk::.unk::i p.is3::i p.is4::i s.is5::ra 51 [],[]⟩
noncomputable def la5{α:Type}(k:ha9->α)(e:Nat->α)(z:α)(p:Xa5)(s:ha9):α:=let t1:=(fb8 (gL tV s.i8 p.is3.toNat) (gL tV s.i8 p.is4.toNat) (gL tV s.i8 s.is5.toNat));let t2:=(lp (C7 (⟨rt tV s.i8,p.is3,p.is4,s.is5,t1.2,t1.1.n.x,t1.1.n.y,t1.1.n.z,t1.1.b⟩:wa8)) (⟨0⟩:ha8));(sl (decide (s.is5<p.is4)) (sl (inB p.is3 (List.length s.i8)) (sl (inB p.is4 (List.length s.i8)) (sl (inB s.is5 (List.length s.i8)) (sl (fb9 (gL tV s.i8 p.is3.toNat) (gL tV s.i8 p.is4.toNat) (gL tV s.i8 s.is5.toNat)) (sl ((cnE tV s.i8)&&true) (sl (Nat.beq t2.1 1) (e 1) (sl (Nat.beq t2.1 2) (k ⟨rt tV s.i8,W (s.is5+1)⟩) (sl (Nat.beq t2.1 3) (k ⟨rt tV s.i8,W (s.is5+1)⟩) z))) z) z) z) z) z) (e 2))
noncomputable def S5(p:Xa5)(s:ha9):Stp ha9:=la5 .next .exit .fail p s
noncomputable def Sb8:Lo Xa5 ha9:=⟨En kb4,0,Je9,[1,0,1,4,4,1,0,4,1,4,4,1,0,4,1,4,4],[0,3,4,5],.s .p (.s (.b (.s .p (.s .p (.b (.u Sb7.ls))))) .p),[⟨sLq tV::sUq::sUq::sIq::sIq::sIq::ru2 51 [],[],λa H=>(⟨aIq a 3,aIq a 4⟩,⟨aLq tV a 0,aIq a 5⟩)⟩],S5,[(none,λp s=>⟨[b false],[]⟩),(some 4,λp s=>upq (nc2 p s) [(20,i s.is5),(21,i p.is4),(22,b (decide (s.is5<p.is4)))])],nc2⟩
theorem qd6:Sb8.Ok:=Lo.ok [Sb7.pr] (by kernel_rfl) (.cons qd5 .nil) rfl (.cons (λa H=>by kernel_rfl) .nil) λp s=>(.of @la5 (λF _ _ _ _ _=>by unfold la5;(repeat' apply l5 (f:=F))<;>rfl) (by kernel_rfl))
structure Xa6 where
 is3:Int
structure ia0 where
 i8:List V3
 is4:Int
noncomputable def nc3(p:Xa6)(s:ia0):St:=⟨eL tV s.i8::.unk::.unk::i p.is3::i s.is4::ra 52 [],[]⟩
noncomputable def la6{α:Type}(k:ia0->α)(e:Nat->α)(z:α)(p:Xa6)(s:ia0):α:=let t1:=(lp (S5 (⟨p.is3,s.is4⟩:Xa5)) (⟨rt tV s.i8,0⟩:ha9));(sl (decide (s.is4<p.is3)) (sl ((cnE tV s.i8)&&true) (sl (Nat.beq t1.1 1) (e 1) (sl (Nat.beq t1.1 2) (k ⟨t1.2.i8,W (s.is4+1)⟩) z)) z) (e 2))
noncomputable def S6(p:Xa6)(s:ia0):Stp ia0:=la6 .next .exit .fail p s
noncomputable def Sb9:Lo Xa6 ia0:=⟨En kb4,0,Je9,[1,0,1,4,4,1,0,4,1,4,4],[0,3,4],.s .p (.s (.b (.s .p (.b (.u Sb8.ls)))) .p),[⟨sLq tV::sUq::sUq::sIq::sIq::ru2 52 [],[],λa H=>(⟨aIq a 3⟩,⟨aLq tV a 0,aIq a 4⟩)⟩],S6,[(none,λp s=>⟨[b false],[]⟩),(some 2,λp s=>upq (nc3 p s) [(15,i s.is4),(16,i p.is3),(17,b (decide (s.is4<p.is3)))])],nc3⟩
theorem qd7:Sb9.Ok:=Lo.ok [Sb8.pr] (by kernel_rfl) (.cons qd6 .nil) rfl (.cons (λa H=>by kernel_rfl) .nil) λp s=>(.of @la6 (λF _ _ _ _ _=>by unfold la6;(repeat' apply l5 (f:=F))<;>rfl) (by kernel_rfl))
structure Xa7 where
structure ia1 where
 i8:List V3
 is3:Int
noncomputable def nc4(p:Xa7)(s:ia1):St:=⟨eL tV s.i8::.unk::.unk::i s.is3::ra 53 [],[]⟩
noncomputable def la7{α:Type}(k:ia1->α)(e:Nat->α)(z:α)(p:Xa7)(s:ia1):α:=let t1:=(lp (S6 (⟨s.is3⟩:Xa6)) (⟨rt tV s.i8,0⟩:ia0));(sl (decide (s.is3<(↑(List.length s.i8):Int))) (sl ((cnE tV s.i8)&&true) (sl (Nat.beq t1.1 1) (e 1) (sl (Nat.beq t1.1 2) (k ⟨t1.2.i8,W (s.is3+1)⟩) z)) z) (e 2))
noncomputable def S7(p:Xa7)(s:ia1):Stp ia1:=la7 .next .exit .fail p s
noncomputable def Tb0:Lo Xa7 ia1:=⟨En kb4,0,Je9,[1,0,1,4,4],[0,3],.s .p (.s (.b (.s .p (.b (.u Sb9.ls)))) .p),[⟨sLq tV::sUq::sUq::sIq::ru2 53 [],[],λa H=>(⟨⟩,⟨aLq tV a 0,aIq a 3⟩)⟩],S7,[(none,λp s=>⟨[b false],[]⟩),(some 0,λp s=>upq (nc4 p s) [(9,i s.is3),(10,eL tV s.i8),(11,i (↑(List.length s.i8):Int)),(12,b (decide (s.is3<(↑(List.length s.i8):Int))))])],nc4⟩
theorem qd8:Tb0.Ok:=Lo.ok [Sb9.pr] (by kernel_rfl) (.cons qd7 .nil) rfl (.cons (λa H=>by kernel_rfl) .nil) λp s=>(.of @la7 (λF _ _ _ _ _=>by unfold la7;(repeat' apply l5 (f:=F))<;>rfl) (by kernel_rfl))
noncomputable def Sa6(x:List V3):Option (b7×List b8):=let t1:=(lp (S7 (⟨⟩:Xa7)) (⟨rt tV x,0⟩:ia1));(sl ((cnE tV x)&&true) (sl (Nat.beq t1.1 1) (some (b false,[])) (sl (Nat.beq t1.1 2) (some (b true,[])) none)) none)
noncomputable def xb7(x:List V3):Bool:=O9 (one r1B) (Sa6 x)
noncomputable def db3(x:List V3):Bool:=okO (one r1B) (Sa6 x)
noncomputable def fd7:Sum:=Q9 (ta7 tV) (λx=>.guard (db3 x) (.ret ((one r1B).enc (xb7 x),[])))
theorem Ud7:f9 prog G 78 fd7:=Ea7 (bd b78 Gd9) (one r1B) (o:=Sa6) λx=>Ua7 (.s .p (.s (.s .p (.b (.u Tb0.ls))) .p)) [Tb0.pr] (by kernel_rfl) (.cons qd8 .nil) (by kernel_rfl)
structure Ye6 where
 i8:List V3
structure Ye7 where
 is3:Int
structure Ye8 where
 ja8:List V3
 (d7 c7 d8 g7:Int)
structure Ye9 where
 is5:Int
structure qf4 where
 j8:List Pln
 (d7 c7 d8 g7:Int)
structure qf5 where
 is5:Int
structure Ze0 where
 i8:List V3
 (is6 is7:Int)
structure Ze1 where
 ph:Nat
 is8:Int
 tf6:List Pln
structure Ze2 where
 is6:Int
structure Ze3 where
 ph:Nat
 i8:List V3
 is7:Int
 tf6:List Pln
structure Ze4 where
structure Ze5 where
 ph:Nat
 i8:List V3
 is6:Int
 tf6:List Pln
noncomputable def nc5:List (Nat×Sum):=[(68,Vb4),(78,fd7)]
theorem fd8:i4 prog G nc5:=⟨Ic0,Ud7,trivial⟩
structure ba5 where
 is4:Int
structure r6 where
 ph:Nat
 is6:Int
 y8:List Int
 c7:Int
 ns5:Nat
 eh1:List (List b7)
noncomputable def Mb6(p:ba5)(s:r6):St:=⟨ra 3 (.ptr 0 0 0 0::i p.is4::.v (.slice none 0 0)::i s.is6::ra 127 []),[⟨0,2,[[eL tI s.y8,i s.c7]],true,false,0⟩]⟩
noncomputable def Mb7(p:ba5)(s:r6):St:=⟨ra 3 (.ptr 0 0 0 0::i p.is4::.sl 1 0 s.ns5 0::i s.is6::ra 127 []),[⟨0,2,[[eL tI s.y8,i s.c7]],true,false,0⟩,⟨27,3,s.eh1,true,false,0⟩]⟩
noncomputable def Sc3(p:ba5)(s:r6):St:=(sel (Nat.beq s.ph 1) (Mb7 p s) (Mb6 p s))
noncomputable def Z2{α:Type}(k:r6->α)(e:Nat->α)(z:α)(p:ba5)(s:r6):α:=let t1:=(D1 ⟨17,rt tI s.y8,s.c7⟩);let t2:=(D1 ⟨17,rt tI (rt tI s.y8),t1.c7⟩);let t3:=(D1 ⟨17,rt tI (rt tI (rt tI s.y8)),t2.c7⟩);let t4:=(D1 ⟨6,rt tI (rt tI (rt tI (rt tI s.y8))),t3.c7⟩);let w0:α:=(sl (t4.is0==3) (sl (decide (s.is6>2)) z (k ⟨1,W (s.is6+1),rt tI (rt tI (rt tI (rt tI s.y8))),t4.c7,1,[[i (W (t1.is0-8)),i (W (t2.is0-8)),i (W (t3.is0-8))]]⟩)) (k ⟨1,W (s.is6+1),rt tI (rt tI (rt tI (rt tI s.y8))),t4.c7,1,[[i (W (t1.is0-8)),i (W (t2.is0-8)),i (W (t3.is0-8))]]⟩));(sl (decide (s.is6<p.is4)) (sl ((cnE tI s.y8)&&true) (sl (Nat.beq t1.alt 1) (sl ((cnE tI (rt tI s.y8))&&true) (sl (Nat.beq t2.alt 1) (sl ((cnE tI (rt tI (rt tI s.y8)))&&true) (sl (Nat.beq t3.alt 1) (sl ((cnE tI (rt tI (rt tI (rt tI s.y8))))&&true) (sl (Nat.beq t4.alt 1) (sl (t4.is0==1) (sl (decide (s.is6>1)) z (sl (t4.is0==2) (sl (decide (s.is6>0)) z w0) w0)) (sl (t4.is0==2) (sl (decide (s.is6>0)) z w0) w0)) z) z) z) z) z) z) z) z) (e 1))
noncomputable def r4{α:Type}(k:r6->α)(e:Nat->α)(z:α)(p:ba5)(s:r6):α:=let t1:=(D1 ⟨17,rt tI s.y8,s.c7⟩);let a0:=(j9 s.eh1 (0+(W (s.is6-1)).toNat));let a1:=(Nat.beq s.ns5 (len s.eh1)&&Nat.ble ((s.ns5+1)*24) room);let a3:=(i9 (j9 s.eh1 (0+(W (s.is6-2)).toNat)) 0);let a4:=((Nat.blt (0+(W (s.is6-1)).toNat) (len s.eh1))&&(Nat.ble (2+1) (len a0)));let a5:=(i (W (Int.tdiv (W ((toI (hdA (tlA (i9 a0 0))))+(toI (hdA (tlA a3))))) 2)));let a6:=(i (W (Int.tdiv (W ((toI (hdA (i9 a0 0)))+(toI (hdA a3)))) 2)));let a7:=(app s.eh1 [[a6,a5,i (W (Int.tdiv (W ((toI (hdA (tlA (tlA (i9 a0 0)))))+(toI (hdA (tlA (tlA a3)))))) 2))]]);let a8:=(inB (W (s.is6-1)) s.ns5);let a9:=(i (toI (hdA (tlA (i9 a0 0)))));let a10:=((Nat.blt (0+(W (s.is6-1)).toNat) (len s.eh1))&&(Nat.ble (0+3) (len a0)));let a11:=(i (toI (hdA (i9 a0 0))));let a12:=(app s.eh1 [[a11,a9,i (toI (hdA (tlA (tlA (i9 a0 0)))))]]);let a13:=(i (toI (hdA (i9 a0 2))));let a14:=(rt tI (rt tI s.y8));let t2:=(D1 ⟨17,a14,t1.c7⟩);let t3:=(D1 ⟨17,rt tI a14,t2.c7⟩);let a2:=(rt tI (rt tI a14));let t4:=(D1 ⟨6,a2,t3.c7⟩);let w0:α:=(sl (t4.is0==3) (sl (decide (s.is6>2)) (sl a8 (sl (a4&&(ta2 [CK.int .i64] (i9 a0 2))) (sl a1 (k ⟨1,W (s.is6+1),a2,t4.c7,s.ns5+1,app s.eh1 [[i (W (t1.is0-8)),i (W (t2.is0-8)),a13]]⟩) z) z) z) (sl a1 (k ⟨1,W (s.is6+1),a2,t4.c7,s.ns5+1,app s.eh1 [[i (W (t1.is0-8)),i (W (t2.is0-8)),i (W (t3.is0-8))]]⟩) z)) (sl a1 (k ⟨1,W (s.is6+1),a2,t4.c7,s.ns5+1,app s.eh1 [[i (W (t1.is0-8)),i (W (t2.is0-8)),i (W (t3.is0-8))]]⟩) z));let w1:α:=(sl a8 (sl (a10&&(ta2 [CK.int .i64,CK.int .i64,CK.int .i64] (i9 a0 0))) (sl (t4.is0==3) (sl (decide (s.is6>2)) (sl a8 (sl (a4&&(ta2 [CK.int .i64] (i9 a0 2))) (sl a1 (k ⟨1,W (s.is6+1),a2,t4.c7,s.ns5+1,app s.eh1 [[a11,a9,a13]]⟩) z) z) z) (sl a1 (k ⟨1,W (s.is6+1),a2,t4.c7,s.ns5+1,a12⟩) z)) (sl a1 (k ⟨1,W (s.is6+1),a2,t4.c7,s.ns5+1,a12⟩) z)) z) z);let w2:α:=(sl (t4.is0==3) (sl (decide (s.is6>2)) (sl a8 (sl (a4&&(ta2 [CK.int .i64] (i9 a0 2))) (sl a1 (k ⟨1,W (s.is6+1),a2,t4.c7,s.ns5+1,app s.eh1 [[a6,a5,a13]]⟩) z) z) z) (sl a1 (k ⟨1,W (s.is6+1),a2,t4.c7,s.ns5+1,a7⟩) z)) (sl a1 (k ⟨1,W (s.is6+1),a2,t4.c7,s.ns5+1,a7⟩) z));(sl (decide (s.is6<p.is4)) (sl ((cnE tI s.y8)&&true) (sl (Nat.beq t1.alt 1) (sl ((cnE tI (rt tI s.y8))&&true) (sl (Nat.beq t2.alt 1) (sl ((cnE tI a14)&&true) (sl (Nat.beq t3.alt 1) (sl ((cnE tI (rt tI a14))&&true) (sl (Nat.beq t4.alt 1) (sl (t4.is0==1) (sl (decide (s.is6>1)) (sl a8 (sl (a10&&(ta2 [CK.int .i64,CK.int .i64,CK.int .i64] (i9 a0 0))) (sl (inB (W (s.is6-2)) s.ns5) (sl (((Nat.blt (0+(W (s.is6-2)).toNat) (len s.eh1))&&(Nat.ble (0+3) (len (j9 s.eh1 (0+(W (s.is6-2)).toNat)))))&&(ta2 [CK.int .i64,CK.int .i64,CK.int .i64] a3)) (sl (t4.is0==2) (sl (decide (s.is6>0)) w1 w2) w2) z) z) z) z) (sl (t4.is0==2) (sl (decide (s.is6>0)) w1 w0) w0)) (sl (t4.is0==2) (sl (decide (s.is6>0)) w1 w0) w0)) z) z) z) z) z) z) z) z) (e 2))
noncomputable def oa6(p:ba5)(s:r6):Stp r6:=(sel (Nat.beq s.ph 1) (r4 .next .exit .fail p s) (Z2 .next .exit .fail p s))
noncomputable def xb8:Lo ba5 r6:=⟨En nc5,0,Gf8,[1,1,1,1,0,1,4,4],[3,4,5,6],.p,[⟨ru2 3 (sPq 0::sIq::.s (.o .nil)::sIq::ru2 127 []),[⟨0,2,true,some [[.c 1 (nL tI),.o (.int .i64)]]⟩],λa H=>(⟨aIq a 4⟩,⟨0,aIq a 6,hLq tI H 0 0 0,hIq H 0 0 1,0,[]⟩)⟩,⟨ru2 3 (sPq 0::sIq::.s (.o (.sl 1 0 (some 0) none))::sIq::ru2 127 []),[⟨0,2,true,some [[.c 1 (nL tI),.o (.int .i64)]]⟩,⟨27,3,true,none⟩],λa H=>(⟨aIq a 4⟩,⟨1,aIq a 6,hLq tI H 0 0 0,hIq H 0 0 1,slN (slT a 5),elT H 1⟩)⟩],oa6,[(some 0,λp s=>upq (Mb6 p s) [(18,i s.is6),(19,i p.is4),(20,b (decide (s.is6<p.is4)))]),(some 0,λp s=>upq (Mb7 p s) [(18,i s.is6),(19,i p.is4),(20,b (decide (s.is6<p.is4)))])],Sc3⟩
theorem Sc4:xb8.Ok:=Lo.ok [] (by kernel_rfl) .nil rfl (.cons (λa H=>by kernel_rfl) (.cons (λa H=>by kernel_rfl) .nil)) λp s=>(.sel (Nat.beq s.ph 1) (.of @r4 (λF _ _ _ _ _=>by unfold r4;(repeat' apply l5 (f:=F))<;>rfl) (by kernel_rfl)) (.of @Z2 (λF _ _ _ _ _=>by unfold Z2;(repeat' apply l5 (f:=F))<;>rfl) (by kernel_rfl)))
noncomputable def wa9(x:List Int):Option (b7×List b8):=let t1:=(D1 ⟨5,rt tI x,0⟩);let t2:=(lp (oa6 (⟨W (4+t1.is0)⟩:ba5)) (⟨0,0,rt tI (rt tI x),t1.c7,0,[]⟩:r6));let t3:=(xb7 []);let t4:=(xb7 (lsL tV t2.2.ns5 (λk=>j9 t2.2.eh1 (0+k))));let a0:=(i9 (j9 t2.2.eh1 0) 0);let a1:=(i (toI (hdA (tlA (tlA a0)))));let a2:=(i (W ((toI (hdA a0))-3)));let a3:=(setAt t2.2.eh1 1 (W7 (j9 t2.2.eh1 1) 0 [a2,i (toI (hdA (tlA a0))),a1]));let a4:=(i (W ((toI (hdA (tlA a0)))-2)));(sl ((cnE tI x)&&true) (sl (Nat.beq t1.alt 1) (sl ((cnE tI (rt tI x))&&true) (sl (Nat.beq t2.1 1) (sl (db3 []) (sl t3 none (some (.v (.slice none 0 0),[]))) none) (sl (Nat.beq t2.1 2) (sl (okL tV t2.2.ns5 (λk=>j9 t2.2.eh1 (0+k))) (sl (db3 (lsL tV t2.2.ns5 (λk=>j9 t2.2.eh1 (0+k)))) (sl t4 (sl (inB 0 t2.2.ns5) (sl (((Nat.blt 0 (len t2.2.eh1))&&(Nat.ble (0+3) (len (j9 t2.2.eh1 0))))&&(ta2 [CK.int .i64,CK.int .i64,CK.int .i64] a0)) (sl (inB 1 t2.2.ns5) (sl ((Nat.blt 1 (len t2.2.eh1))&&(Nat.ble (0+3) (len (j9 t2.2.eh1 1)))) (sl (inB 2 t2.2.ns5) (sl ((Nat.blt 2 (len a3))&&(Nat.ble (0+3) (len (j9 a3 2)))) (sl (inB 3 t2.2.ns5) (sl ((Nat.blt 3 (len (setAt a3 2 (W7 (j9 a3 2) 0 [i (toI (hdA a0)),a4,a1]))))&&(Nat.ble (0+3) (len (j9 (setAt a3 2 (W7 (j9 a3 2) 0 [i (toI (hdA a0)),a4,a1])) 3)))) (some (.sl 0 0 t2.2.ns5 0,[⟨27,3,setAt (setAt a3 2 (W7 (j9 a3 2) 0 [i (toI (hdA a0)),a4,a1])) 3 (W7 (j9 (setAt a3 2 (W7 (j9 a3 2) 0 [i (toI (hdA a0)),a4,a1])) 3) 0 [i (toI (hdA a0)),i (toI (hdA (tlA a0))),i (W ((toI (hdA (tlA (tlA a0))))-1))]),true,false,0⟩])) none) none) none) none) none) none) none) none) (some (.sl 0 0 t2.2.ns5 0,[⟨27,3,t2.2.eh1,true,false,0⟩]))) none) none) none)) none) none) none)
noncomputable def d9(x:List Int):List V3:=O9 (one (r1L tV)) (wa9 x)
noncomputable def rb8(x:List Int):Bool:=okO (one (r1L tV)) (wa9 x)
noncomputable def Hd0:Sum:=Q9 (ta7 tI) (λx=>.guard (rb8 x) (.ret ((one (r1L tV)).enc (d9 x),[])))
theorem qd9:f9 prog G 25 Hd0:=Ea7 (bd b25 fd8) (one (r1L tV)) (o:=wa9) λx=>Ua7 (.s .p (.s .p (.s .p (.s .p (.s (.s .p (.b (.u xb8.ls))) .p))))) [xb8.pr] (by kernel_rfl) (.cons Sc4 .nil) (by kernel_rfl)
noncomputable def Oc6:List (Nat×Sum):=[]
theorem Hd1:i4 prog G Oc6:=trivial
structure Xa8 where
 (j8 qb3:List Pln)
structure ia2 where
 is5:Int
noncomputable def nc6(p:Xa8)(s:ia2):St:=⟨eL tP p.j8::eL tP p.qb3::ra 3 (i s.is5::ra 20 []),[]⟩
noncomputable def Ga2{α:Type}(k:ia2->α)(e:Nat->α)(z:α)(p:Xa8)(s:ia2):α:=(sl (decide (s.is5<(↑(List.length p.j8):Int))) (sl (inB s.is5 (List.length p.j8)) (sl (inB s.is5 (List.length p.qb3)) (sl (!(((gL tP p.j8 s.is5.toNat).n.x==(gL tP p.qb3 s.is5.toNat).n.x)&&(((gL tP p.j8 s.is5.toNat).n.y==(gL tP p.qb3 s.is5.toNat).n.y)&&(((gL tP p.j8 s.is5.toNat).n.z==(gL tP p.qb3 s.is5.toNat).n.z)&&(((gL tP p.j8 s.is5.toNat).b==(gL tP p.qb3 s.is5.toNat).b)&&true))))) (e 1) (k ⟨W (s.is5+1)⟩)) z) z) (e 2))
noncomputable def Oa4(p:Xa8)(s:ia2):Stp ia2:=Ga2 .next .exit .fail p s
noncomputable def Tb1:Lo Xa8 ia2:=⟨En Oc6,0,Gf7,[1,1,0,1,4,4],[0,1,5],.p,[⟨sLq tP::sLq tP::ru2 3 (sIq::ru2 20 []),[],λa H=>(⟨aLq tP a 0,aLq tP a 1⟩,⟨aIq a 5⟩)⟩],Oa4,[(none,λp s=>⟨[b false],[]⟩),(some 0,λp s=>upq (nc6 p s) [(11,i s.is5),(12,eL tP p.j8),(13,i (↑(List.length p.j8):Int)),(14,b (decide (s.is5<(↑(List.length p.j8):Int))))])],nc6⟩
theorem rd0:Tb1.Ok:=Lo.ok [] (by kernel_rfl) .nil rfl (.cons (λa H=>by kernel_rfl) .nil) λp s=>(.of @Ga2 (λF _ _ _ _ _=>by unfold Ga2;(repeat' apply l5 (f:=F))<;>rfl) (by kernel_rfl))
noncomputable def xb9(x:List Pln)(y:List Pln):Option (b7×List b8):=let t1:=(lp (Oa4 (⟨rt tP x,rt tP y⟩:Xa8)) (⟨0⟩:ia2));(sl ((↑(List.length x):Int) != (↑(List.length y):Int)) (some (b false,[])) (sl ((cnE tP x)&&((cnE tP y)&&true)) (sl (Nat.beq t1.1 1) (some (b false,[])) (sl (Nat.beq t1.1 2) (some (b true,[])) none)) none))
noncomputable def yb0(x:List Pln)(y:List Pln):Bool:=O9 (one r1B) (xb9 x y)
noncomputable def yb1(x:List Pln)(y:List Pln):Bool:=okO (one r1B) (xb9 x y)
noncomputable def fd9:Sum:=va4 (ta7 tP) (ta7 tP) (λx y=>.guard (yb1 x y) (.ret ((one r1B).enc (yb0 x y),[])))
theorem Ud8:f9 prog G 23 fd9:=Rb0 (bd b23 Hd1) (one r1B) (o:=xb9) λx y=>Ua7 (.s .p (.s .p (.s (.s .p (.b (.u Tb1.ls))) .p))) [Tb1.pr] (by kernel_rfl) (.cons rd0 .nil) (by kernel_rfl)
structure qf6 where
 is6:Int
structure qf7 where
 ns5:Nat
 eh0:List (List b7)
structure Ud9 where
 (alt ns0:Nat)
 eh0:List (List b7)
structure qf8 where
 j8:List Pln
 (d7 c7 d8 g7:Int)
structure qf9 where
 is5:Int
noncomputable def Hd2:List (Nat×Sum):=[]
theorem rd1:i4 prog G Hd2:=trivial
noncomputable def Ga3(x:V3)(y:V3):V3:=(⟨W (x.x-y.x),W (x.y-y.y),W (x.z-y.z)⟩:V3)
noncomputable def cc9:Sum:=va4 (W8 tV) (W8 tV) (λx y=>.ret ((one r1V).enc (Ga3 x y),[]))
theorem zc8:f9 prog G 108 cc9:=Ia9 (bd Tf4 rd1) λx y=>q9 (by kernel_rfl)
noncomputable def rd2:List (Nat×Sum):=[(108,cc9)]
theorem gd0:i4 prog G rd2:=⟨zc8,trivial⟩
noncomputable def Ja3(x:Pln):Pln:=let t1:=(Ga3 (⟨0,0,0⟩:V3) x.n);(⟨t1,W (0-x.b)⟩:Pln)
noncomputable def zc9:Sum:=Q9 (W8 tP) (λx=>.ret ((one r1P).enc (Ja3 x),[]))
theorem rd3:f9 prog G 52 zc9:=Qb9 (bd b52 gd0) λx=>q9 (by kernel_rfl)
end Go.Ev.Ce
