/- Own work. -/
import Derived.Test.YtekgjjgbdcgldaaGreatChecked
import Derived.Test.YtekgjjgbdcgldaaGreatEvOCePf
import Derived.KernelRfl
import Derived.Shelf.Spec.SlicesGrow
set_option linter.all false
def Qha:=@Eq.trans
def Qhb:=@Nat.gcd_pos_of_pos_right
def Qhc:=@List.getElem?_eq_some_iff
def Qhd:=@Nat.gcd_le_right
def Qhe:=@List.getElem?_replicate
def Qhf:=@Nat.le_refl
namespace Go.Ev.Ce
open Go Go.Ev Go.Proofs
set_option maxRecDepth 1000000
theorem mx:(Tryz.prog).follows .mixedOrders=true:=Checked.mixed Tryz.checked
abbrev Bdq(n:Nat)(pf:PFn):Prop:=de6 Tryz.prog n λE=>Hb5 E pf
theorem bdq{f:FuncId}{fn:Func}(hf:(Tryz.prog).funcs[f]?=some fn)(hn:decide (fn.name ≠ "runtime.NumGoroutine")=true:=by kernel_rfl)(hc:Option.isSome (e7 Tryz.prog fn)=true:=by kernel_rfl):Bdq f (got (e7 Tryz.prog fn)):=Cf9 mx hf hn (Bd7 hc)
theorem b3:Bdq 3 pf3:=bdq Tryz.func3
theorem b4:Bdq 4 pf4:=bdq Tryz.func4
theorem b5:Bdq 5 pf5:=bdq Tryz.func5
theorem b6:Bdq 6 pf6:=bdq Tryz.func6
theorem b8:Bdq 8 pf8:=bdq Tryz.func8
theorem b16:Bdq 16 Df0:=bdq Tryz.func16
theorem b23:Bdq 23 uf6:=bdq Tryz.func23
theorem b25:Bdq 25 uf7:=bdq Tryz.func25
theorem b27:Bdq 27 Df1:=bdq Tryz.func27
theorem b34:Bdq 34 Df2:=bdq Tryz.func34
theorem b37:Bdq 37 Df3:=bdq Tryz.func37
theorem b38:Bdq 38 Df4:=bdq Tryz.func38
theorem b40:Bdq 40 uf8:=bdq Tryz.func40
theorem b42:Bdq 42 Df5:=bdq Tryz.func42
theorem b45:Bdq 45 Df6:=bdq Tryz.func45
theorem b47:Bdq 47 uf9:=bdq Tryz.func47
theorem b49:Bdq 49 vf0:=bdq Tryz.func49
theorem b51:Bdq 51 Df7:=bdq Tryz.func51
theorem b52:Bdq 52 Df8:=bdq Tryz.func52
theorem b53:Bdq 53 Df9:=bdq Tryz.func53
theorem b54:Bdq 54 Ef0:=bdq Tryz.func54
theorem b55:Bdq 55 Ef1:=bdq Tryz.func55
theorem b56:Bdq 56 Ef2:=bdq Tryz.func56
theorem b63:Bdq 63 Ef3:=bdq Tryz.func63
theorem b68:Bdq 68 Ef4:=bdq Tryz.func68
theorem b69:Bdq 69 Ef5:=bdq Tryz.func69
theorem b70:Bdq 70 Ef6:=bdq Tryz.func70
theorem b71:Bdq 71 We2:=bdq Tryz.func71
theorem b73:Bdq 73 Ef7:=bdq Tryz.func73
theorem b78:Bdq 78 Fe8:=bdq Tryz.func78
theorem b80:Bdq 80 Ef8:=bdq Tryz.func80
theorem b83:Bdq 83 Ef9:=bdq Tryz.func83
theorem b84:Bdq 84 Ff0:=bdq Tryz.func84
theorem b86:Bdq 86 Ff1:=bdq Tryz.func86
theorem b93:Bdq 93 Ff2:=bdq Tryz.func93
theorem b94:Bdq 94 vf1:=bdq Tryz.func94
theorem b97:Bdq 97 Ff3:=bdq Tryz.func97
theorem b98:Bdq 98 Ff4:=bdq Tryz.func98
theorem b99:de6 Tryz.prog 99 λE=>Nb4 E lf9:=Fe7 (h:=h99) mx Tryz.func99 (by kernel_rfl) Tryz.func190 (by kernel_rfl) (Bd7 (by kernel_rfl))
theorem Ff5:Bdq 100 ef3:=bdq Tryz.func100
theorem Ff6:Bdq 101 Fe9:=bdq Tryz.func101
theorem yf9:Bdq 103 vf2:=bdq Tryz.func103
theorem Ff7:Bdq 104 vf3:=bdq Tryz.func104
theorem Ff8:Bdq 107 vf4:=bdq Tryz.func107
theorem Ff9:Bdq 108 vf5:=bdq Tryz.func108
theorem Gf0:Bdq 109 vf6:=bdq Tryz.func109
theorem Gf1:Bdq 110 vf7:=bdq Tryz.func110
theorem Gf2:Bdq 111 vf8:=bdq Tryz.func111
theorem Gf3:Bdq 112 vf9:=bdq Tryz.func112
theorem Gf4:Bdq 113 wf0:=bdq Tryz.func113
theorem Gf5:Bdq 115 wf1:=bdq Tryz.func115
theorem Gf6:Bdq 116 wf2:=bdq Tryz.func116
theorem Gf7:Bdq 121 wf3:=bdq Tryz.func121
theorem Gf8:Bdq 122 wf4:=bdq Tryz.func122
theorem Gf9:Bdq 123 Ge0:=bdq Tryz.func123
theorem Hf0:Bdq 124 wf5:=bdq Tryz.func124
theorem Hf1:Bdq 125 ef4:=bdq Tryz.func125
theorem Hf2:Bdq 126 ef5:=bdq Tryz.func126
theorem Hf3:Bdq 127 ef6:=bdq Tryz.func127
theorem Hf4:Bdq 128 wf6:=bdq Tryz.func128
theorem Hf5:Bdq 135 wf7:=bdq Tryz.func135
theorem Hf6:Bdq 138 ef7:=bdq Tryz.func138
theorem We3:Bdq 139 Pd3:=bdq Tryz.func139
theorem Hf7:Bdq 140 wf8:=bdq Tryz.func140
theorem Hf8:Bdq 141 wf9:=bdq Tryz.func141
theorem Hf9:Bdq 142 xf0:=bdq Tryz.func142
theorem If0:Bdq 149 xf1:=bdq Tryz.func149
theorem zf0:Bdq 150 ef8:=bdq Tryz.func150
theorem mf0:Bdq 151 xf2:=bdq Tryz.func151
theorem If1:Bdq 152 ef9:=bdq Tryz.func152
theorem If2:Bdq 153 xf3:=bdq Tryz.func153
theorem zf1:Bdq 154 Ge1:=bdq Tryz.func154
theorem If3:Bdq 155 ff0:=bdq Tryz.func155
theorem If4:Bdq 156 xf4:=bdq Tryz.func156
theorem If5:Bdq 157 xf5:=bdq Tryz.func157
theorem If6:Bdq 158 xf6:=bdq Tryz.func158
theorem If7:Bdq 159 ff1:=bdq Tryz.func159
theorem zf2:Bdq 161 Ge2:=bdq Tryz.func161
theorem If8:Bdq 162 xf7:=bdq Tryz.func162
theorem If9:Bdq 163 ff2:=bdq Tryz.func163
theorem Jf0:Bdq 164 xf8:=bdq Tryz.func164
theorem Jf1:Bdq 165 xf9:=bdq Tryz.func165
theorem Jf2:de6 Tryz.prog 166 λE=>Nb4 E Ge3:=Fe7 (h:=uf5) mx Tryz.func166 (by kernel_rfl) Tryz.func193 (by kernel_rfl) (Bd7 (by kernel_rfl))
theorem Jf3:de6 Tryz.prog 167 λE=>Nb4 E ke6:=Fe7 (h:=uf4) mx Tryz.func167 (by kernel_rfl) Tryz.func221 (by kernel_rfl) (Bd7 (by kernel_rfl))
theorem Jf4:Bdq 168 yf0:=bdq Tryz.func168
theorem Jf5:Bdq 169 yf1:=bdq Tryz.func169
theorem Jf6:Bdq 170 yf2:=bdq Tryz.func170
theorem Jf7:Bdq 171 ff3:=bdq Tryz.func171
theorem Jf8:Bdq 172 yf3:=bdq Tryz.func172
theorem Jf9:Bdq 179 ff4:=bdq Tryz.func179
theorem Kf0:Bdq 180 ff5:=bdq Tryz.func180
theorem Kf1:Bdq 181 ke7:=bdq Tryz.func181
theorem Kf2:Bdq 182 ff6:=bdq Tryz.func182
theorem Kf3:Bdq 183 yf4:=bdq Tryz.func183
theorem Kf4:Bdq 184 yf5:=bdq Tryz.func184
theorem Kf5:Bdq 186 Ge4:=bdq Tryz.func186
theorem Kf6:Bdq 191 ff7:=bdq Tryz.func191
theorem Kf7:Bdq 194 ff8:=bdq Tryz.func194
theorem Kf8:Bdq 195 yf6:=bdq Tryz.func195
theorem Kf9:Bdq 196 ff9:=bdq Tryz.func196
theorem Lf0:Bdq 199 gf0:=bdq Tryz.func199
theorem Lf1:Bdq 207 gf1:=bdq Tryz.func207
theorem Lf2:Bdq 208 gf2:=bdq Tryz.func208
theorem Lf3:Bdq 209 yf7:=bdq Tryz.func209
theorem Lf4:Bdq 210 gf3:=bdq Tryz.func210
theorem Lf5:Bdq 211 gf4:=bdq Tryz.func211
theorem Lf6:Bdq 221 gf5:=bdq Tryz.func221
theorem Lf7:Bdq 222 Ge5:=bdq Tryz.func222
theorem Lf8:Bdq 228 yf8:=bdq Tryz.func228
theorem Lf9:Bdq 229 gf6:=bdq Tryz.func229
end Go.Ev.Ce
namespace Go.Ev.L
open Go Go.Ev
noncomputable def Zb3:RT->PC->PS2
 |.s a b,.seq x y=>.seq (Zb3 a x) (Zb3 b y)
 |.c a b,.cond g x y=>.cond g (Zb3 a x) (Zb3 b y)
 |.b a,.block id x=>.block id (Zb3 a x)
 |.i a,.inner f x n c=>.inner f x n (Zb3 a c)
 |.u S,_=>.sum S
 |_,c=>.pc c
theorem Bd8{E:Env}{k:Nat}(rt:RT)(c:PC):Va5 (λx=>∀s,ba9 (x.1 s) (Q5 E k x.2 s)) (jc3 rt c)->na5 E k (Zb3 rt c) c:=by
 induction rt generalizing c with
 |p=>intro h;cases c<;>exact .pc _
 |s a b iha ihb =>
  intro h;cases c with
  |seq x y=>exact .seq (iha x (Va5.app h).1) (ihb y (Va5.app h).2)
  |_=>exact .pc _
 |c a b iha ihb =>
  intro h;cases c with
  |cond g x y=>exact .cond g (iha x (Va5.app h).1) (ihb y (Va5.app h).2)
  |_=>exact .pc _
 |b a iha =>
  intro h;cases c with
  |block id x=>exact .block id (iha x h)
  |_=>exact .pc _
 |l a iha=>intro h;cases c<;>exact .pc _
 |i a iha =>
  intro h;cases c with
  |inner f x n c=>exact .inner f x n (iha c h)
  |_=>exact .pc _
 |u S =>
  intro h
  have:jc3 (.u S) c=[(S,c)]:=by cases c<;>rfl
  rw[this] at h;cases h with
  |cons h t =>
   have e:Zb3 (.u S) c=.sum S:=by cases c<;>rfl
   rw[e];exact .sum h
section
variable{π σ:Type}{E:Env}{k:Nat}{keep:List Nat}{alts:List (Al2 π σ)}{enc:π->σ->St}{step:π->σ->Stp σ}{xs:Xs π σ}{body:PS2}{c:PC}
theorem Yb2.belowM(hb:na5 E k body c)(hN:E.N=rounds+1)(w:Yb2 Pd2 k keep (Ec9 E k body) alts step xs enc)(s:St):ba9 (sd8 Pd2 k keep alts step xs s) (Q5 E k (.loopM keep c) s):=λr hr=>by
 obtain⟨t,h1,h2⟩:=w.go hr;rw[de5,hN];exact Mb7 hb.le _ _ _ (gc6 h1 h2)
theorem Yb2.belowML(hb:na5 E k body c)(hN:E.N=rounds+1)(w:Yb2 Xb8 k keep (Ec9 E k body) alts step xs enc)(s:St):ba9 (sd8 Xb8 k keep alts step xs s) (Q5 E k (.loop keep c) s):=λr hr=>by
 obtain⟨t,h1,h2⟩:=w.go hr;rw[sd7,hN];exact Mb7 hb.le _ _ _ (gc6 h1 h2)
end
end Go.Ev.L
namespace Go.Ev.Ab
open Go Go.Ev
@[reducible] def o(d:Nat)(x:PO):PI:=⟨some d,none,[],x⟩
@[reducible] def s(x:PO):PI:=⟨none,none,[],x⟩
@[reducible] def ci(n:Int):Arg:=.c (.v (.int .i64 n))
@[reducible] def cb(b:Bool):Arg:=.c (.v (.bool b))
@[reducible] def vi(n:Int):b7:=.v (.int .i64 n)
@[reducible] def rep{α:Type}(n:Nat)(x:α):List α:=List.replicate n x
@[reducible] def ki(n:Nat):List CK:=List.replicate n (.int .i64)
@[reducible] def mv(d n:Nat):PI:=o d (.mv (.t n))
@[reducible] def mc(d:Nat)(n:Int):PI:=o d (.mv (ci n))
@[reducible] def mb(d:Nat)(x:Bool):PI:=o d (.mv (cb x))
@[reducible] def fd(d k n:Nat):PI:=o d (.fld k (.t n))
@[reducible] def bx(d n:Nat):PI:=o d (.box (.t n))
@[reducible] def lf(d k n:Nat):PI:=o d (.load (ki k) k false (.t n))
@[reducible] def ex(d x k:Nat):PI:=o d (.ext (.t x) k)
@[reducible] def gf(n:Nat)(x:PI):PI:=⟨x.dst,some (n,false),x.hide,x.op⟩
@[reducible] def so(l:List PI)(x:PC):PC:=.seq (.ops l) x
@[reducible] def ts(l:List Nat):List Arg:=l.map .t
@[reducible] def cl(f:Nat)(l:List Nat):PO:=.call f (ts l)
@[reducible] def sT(k a b:Nat):PI:=s (.store k (.t a) (.t b))
@[reducible] def pa(d c x:Nat):PI:=o d (.pick (.t c) (.t x) (cb false))
@[reducible] def po(d c x:Nat):PI:=o d (.pick (.t c) (cb true) (.t x))
@[reducible] def al(d k:Nat)(n:Int):PI:=o d (.alloc (rep k (vi n)))
@[reducible] def ap(d et es n x y:Nat):PI:=o d (.append et es n (.t x) (.t y))
end Go.Ev.Ab
namespace Go.Ev.L
open Go Go.Ev
def Cps{π σ:Type}(u:∀{α:Type},(σ->α)->(Nat->α)->α->π->σ->α):Prop :=
 ∀{α β:Type} (F:α->β) (k:σ->α) (e:Nat->α) (z:α) (p:π) (s:σ),F (u k e z p s)=u (λx=>F (k x)) (λt=>F (e t)) (F z) p s
@[reducible] noncomputable def foL{π σ:Type}(en:π->σ->St)(xs:Xs π σ)(p:π)(s:σ):Stp σ->Option (e8×St):=Xb9 (λs'=>some (.normal,en p s')) (λt=>xOf xs p s t 1) none
structure Lo(π σ:Type) where
 E:Env
 k:Nat
 F:PFn
 at':List Nat
 kp:List Nat
 rt:RT
 al:List (Al2 π σ)
 st:π->σ->Stp σ
 xs:Xs π σ
 en:π->σ->St
namespace Lo
variable{π σ:Type}(L:Lo π σ)
noncomputable def lc:PC:=Cf7 L.at' L.F.body
noncomputable def ls:St->DT (e8×St):=sd8 Xb8 L.k L.kp L.al L.st L.xs
noncomputable def lsM:St->DT (e8×St):=sd8 Pd2 L.k L.kp L.al L.st L.xs
noncomputable def pr:(St->DT (e8×St))×PC:=(L.ls,.loop L.kp L.lc)
noncomputable def prM:(St->DT (e8×St))×PC:=(L.lsM,.loopM L.kp L.lc)
def Ok:Prop:=∀s,ha8 L.k L.F.res (L.pr.1 s) (Q5 L.E L.k L.pr.2 s)
def OkE:Prop:=∀s,ba9 (L.pr.1 s) (Q5 L.E L.k L.pr.2 s)
def OkM:Prop:=∀s,ba9 (L.prM.1 s) (Q5 L.E L.k L.prM.2 s)
def Rd(hd:St->DT St)(bd:St->DT (e8×St))(p:π)(s:σ)(a:St)(b:Stp σ):Prop:=(Mb8 hd bd a).run=foL L.en L.xs p s b
def H0:Prop:=∀p s,L.Rd (Xb8 L.k L.kp) (je0 L.E L.k L.F.res (kd6 L.rt L.lc)) p s (L.en p s) (L.st p s)
def H1:Prop:=∀p s,L.Rd (Xb8 L.k L.kp) (Ec9 L.E L.k (Zb3 L.rt L.lc)) p s (L.en p s) (L.st p s)
def H2:Prop:=∀p s,L.Rd (Pd2 L.k L.kp) (Ec9 L.E L.k (Zb3 L.rt L.lc)) p s (L.en p s) (L.st p s)
def HA:Prop:=Va5 (λx=>∀a H,(⟨te0 x.sh a,te1 x.bl H⟩:St)=L.en (x.rd a H).1 (x.rd a H).2) L.al
variable{L}
theorem Rd.of {hd : St → DT St} {bd : St → DT (e8 × St)} {p : π} {s : σ} {a : St} (u : ∀ {α : Type}, (σ → α) → (Nat → α) → α → π → σ → α)
  (q:Cps @u) (H:(Mb8 hd bd a).run=u (λx=>foL L.en L.xs p s (.next x)) (λt=>foL L.en L.xs p s (.exit t)) (foL L.en L.xs p s .fail) p s):L.Rd hd bd p s a (u .next .exit .fail p s) :=
 H.trans (q (foL L.en L.xs p s) Stp.next Stp.exit Stp.fail p s).symm
theorem Rd.sel{hd:St->DT St}{bd:St->DT (e8×St)}{p:π}{s:σ}{a1 a0:St}{b1 b0:Stp σ}(c:Bool)(h1:L.Rd hd bd p s a1 b1)(h0:L.Rd hd bd p s a0 b0):L.Rd hd bd p s (sel c a1 a0) (sel c b1 b0):=by
 cases c with
 |true=>exact h1
 |false=>exact h0
theorem ok(l:List ((St->DT (e8×St))×PC))(hs:jc3 L.rt L.lc=l)(hl:Va5 (λx=>∀s,ha8 L.k L.F.res (x.1 s) (Q5 L.E L.k x.2 s)) l)(hN:L.E.N=rounds+1)(ha:L.HA)(h:L.H0):L.Ok :=
 Yb2.belowC (je8 _ _ (by rw[hs];exact hl)) hN ⟨ha,h⟩
theorem okE(l:List ((St->DT (e8×St))×PC))(hs:jc3 L.rt L.lc=l)(hl:Va5 (λx=>∀s,ba9 (x.1 s) (Q5 L.E L.k x.2 s)) l)(hN:L.E.N=rounds+1)(ha:L.HA)(h:L.H1):L.OkE :=
 Yb2.belowML (Bd8 _ _ (by rw[hs];exact hl)) hN ⟨ha,h⟩
theorem okM(l:List ((St->DT (e8×St))×PC))(hs:jc3 L.rt L.lc=l)(hl:Va5 (λx=>∀s,ba9 (x.1 s) (Q5 L.E L.k x.2 s)) l)(hN:L.E.N=rounds+1)(ha:L.HA)(h:L.H2):L.OkM :=
 Yb2.belowM (Bd8 _ _ (by rw[hs];exact hl)) hN ⟨ha,h⟩
end Lo
theorem xa3 {E : Env} {F : PFn} {args : List b7} {blks : List b9} {o : Option (b7 × List b9)} (rt : RT) (l : List ((St → DT (e8 × St)) × PC)) (hs : jc3 rt F.body = l)
  (hl:Va5 (λx=>∀s,ha8 (len blks) F.res (x.1 s) (Q5 E (len blks) x.2 s)) l) (h:(tf3 E F (kd6 rt F.body) args blks).run=o) (r:b7×List b9) (hr:o=some r):(Hb5 E F args blks).run=some r :=
 be8 (je8 rt _ (by rw[hs];exact hl)) r (h.trans hr)
theorem Ge6 {E : Env} {F : PFn} {args : List b7} {blks : List b9} {o : Option (b7 × List b9)} (rt : RT) (l : List ((St → DT (e8 × St)) × PC)) (hs : jc3 rt F.body = l)
  (hl:Va5 (λx=>∀s,ba9 (x.1 s) (Q5 E (len blks) x.2 s)) l) (h:(ef2 E F (Zb3 rt F.body) args blks).run=o) (r:b7×List b9) (hr:o=some r):(Nb4 E F args blks).run=some r :=
 Pd1 (Bd8 rt _ (by rw[hs];exact hl)) r (h.trans hr)
theorem y5{A o:Option (b7×List b9)}(h:A=o)(r:b7×List b9)(hr:o=some r):A=some r:=h.trans hr
noncomputable abbrev upq(x:St)(l:List (Nat×b7)):St:=⟨l.foldl (λa q=>a.set q.1 q.2) x.a,x.H⟩
noncomputable abbrev sIq:S2:=.s (.o (.int .i64))
noncomputable abbrev sUq:S2:=.s (.o .unk)
noncomputable abbrev sBq:S2:=.s (.o .bool)
noncomputable abbrev sPq(n:Nat):S2:=.s (.o (.ptr n 0 0 0))
noncomputable abbrev sTq(n:Nat):S2:=.s (.o (.tree n))
noncomputable abbrev sLq{α:Type}(t:Ty α):S2:=.s (.c t.es (nL t))
noncomputable abbrev kLq(n:Nat):List K:=List.replicate n (.o (.int .i64))
noncomputable abbrev aIq(a:List b7)(n:Nat):Int:=toI (slT a n)
noncomputable abbrev aBq(a:List b7)(n:Nat):Bool:=toB (slT a n)
noncomputable abbrev aNq(a:List b7)(n:Nat):Nat:=toN (slT a n)
noncomputable abbrev aGq(a:List b7)(n:Nat):Nat->List b7:=toG (slT a n)
noncomputable abbrev aLq{α:Type}(t:Ty α)(a:List b7)(n:Nat):List α:=rL t (slT a n)
noncomputable abbrev hIq(H:List b9)(m r n:Nat):Int:=toI (slT (rwT (elT H m) r) n)
noncomputable abbrev cIq(a:List b7)(m n:Nat):Int:=toI (slT (cellsOf (slT a m)) n)
noncomputable abbrev hLq{α:Type}(t:Ty α)(H:List b9)(m r n:Nat):List α:=rL t (slT (rwT (elT H m) r) n)
end Go.Ev.L
namespace Go.Ev.Ce
structure V3 where
 x:Int
 y:Int
 z:Int
structure Pln where
 n:V3
 b:Int
structure Pt where
 px:Int
 py:Int
 pz:Int
 pw:Int
def d9(a b:V3):V3:=⟨a.y*b.z-a.z*b.y,a.z*b.x-a.x*b.z,a.x*b.y-a.y*b.x⟩
def dot(a b:V3):Int:=a.x*b.x+a.y*b.y+a.z*b.z
def mw(p q r:Pln):Int:=dot p.n (d9 q.n r.n)
end Go.Ev.Ce
namespace Go.Ev.Ce
open Go Go.Ev Go.Ev.L Go.Proofs
@[reducible] noncomputable def prog:Program:=Tryz.prog
noncomputable def G:Nat->List Value:=λ_=>[]
noncomputable def En(l:List (Nat×Sum)):Env:={ P:=prog,G,fns:=λ_=>none,call:=kf0 l,own:=λf j=>Bool.and (gb3 f [150,121,154,91,139,144,146,148]) (Nat.beq j 0),N:=18446744073709551616 }
@[reducible] def u:b7:=.v (.tuple #[])
theorem zf3{l:List (Nat×Sum)}(h:i9 prog G l):∀f,g7 (En l).P (En l).G f ((En l).call f):=ie9 h
theorem bd{l:List (Nat×Sum)}{f:FuncId}{R:Env->Sum}(b:de6 prog f R)(h:i9 prog G l):g7 prog G f (R (En l)):=b rfl (zf3 h)
noncomputable def tV:Ty V3 where
 es:=3
 row x:=[i x.x,i x.y,i x.z]
 rd r:=⟨toI (hdA r),toI (hdA (tlA r)),toI (hdA (tlA (tlA r)))⟩
 ok r:=Ra9 3 r
 cks:=List.replicate 3 (.int .i64)
 d:=⟨0,0,0⟩
 h0 _:=rfl
 h1 _:=rfl
 h2 _:=rfl
 h3 _ h:=.of (bb3 h)
 h4 _:=rfl
 h5 _:=rfl
noncomputable def r1V:R1 V3:=r1A tV 3 λ_ h=>h
noncomputable def tP:Ty Pln where
 es:=4
 row x:=[i x.n.x,i x.n.y,i x.n.z,i x.b]
 rd r:=⟨⟨toI (hdA r),toI (hdA (tlA r)),toI (hdA (tlA (tlA r)))⟩,toI (hdA (tlA (tlA (tlA r))))⟩
 ok r:=Ra9 4 r
 cks:=List.replicate 4 (.int .i64)
 d:=⟨⟨0,0,0⟩,0⟩
 h0 _:=rfl
 h1 _:=rfl
 h2 _:=rfl
 h3 _ h:=.of (bb3 h)
 h4 _:=rfl
 h5 _:=rfl
noncomputable def r1P:R1 Pln:=r1A tP 4 λ_ h=>h
noncomputable def tX:Ty Pt where
 es:=4
 row x:=[i x.px,i x.py,i x.pz,i x.pw]
 rd r:=⟨toI (hdA r),toI (hdA (tlA r)),toI (hdA (tlA (tlA r))),toI (hdA (tlA (tlA (tlA r))))⟩
 ok r:=Ra9 4 r
 cks:=List.replicate 4 (.int .i64)
 d:=⟨0,0,0,0⟩
 h0 _:=rfl
 h1 _:=rfl
 h2 _:=rfl
 h3 _ h:=.of (bb3 h)
 h4 _:=rfl
 h5 _:=rfl
noncomputable def r1X:R1 Pt:=r1A tX 4 λ_ h=>h
structure Tp where
 p:Pln
 q:Pln
 r:Pln
noncomputable def tY:Ty Tp where
 es:=12
 row x:=[i x.p.n.x,i x.p.n.y,i x.p.n.z,i x.p.b,i x.q.n.x,i x.q.n.y,i x.q.n.z,i x.q.b,i x.r.n.x,i x.r.n.y,i x.r.n.z,i x.r.b]
 rd r:=⟨⟨⟨toI (hdA r),toI (hdA (tlA r)),toI (hdA (tlA (tlA r)))⟩,toI (hdA (tlA (tlA (tlA r))))⟩,⟨⟨toI (hdA (tlA (tlA (tlA (tlA r))))),toI (hdA (tlA (tlA (tlA (tlA (tlA r)))))),toI (hdA (tlA (tlA (tlA (tlA (tlA (tlA r)))))))⟩,toI (hdA (tlA (tlA (tlA (tlA (tlA (tlA (tlA r))))))))⟩,⟨⟨toI (hdA (tlA (tlA (tlA (tlA (tlA (tlA (tlA (tlA r))))))))),toI (hdA (tlA (tlA (tlA (tlA (tlA (tlA (tlA (tlA (tlA r)))))))))),toI (hdA (tlA (tlA (tlA (tlA (tlA (tlA (tlA (tlA (tlA (tlA r)))))))))))⟩,toI (hdA (tlA (tlA (tlA (tlA (tlA (tlA (tlA (tlA (tlA (tlA (tlA r))))))))))))⟩⟩
 ok r:=Ra9 12 r
 cks:=List.replicate 12 (.int .i64)
 d:=⟨⟨⟨0,0,0⟩,0⟩,⟨⟨0,0,0⟩,0⟩,⟨⟨0,0,0⟩,0⟩⟩
 h0 _:=rfl
 h1 _:=rfl
 h2 _:=rfl
 h3 _ h:=.of (bb3 h)
 h4 _:=rfl
 h5 _:=rfl
structure Q2 where
 a:V3
 b:V3
set_option maxRecDepth 100000
noncomputable def Pd4:List (Nat×Sum):=[]
theorem Bd9:i9 prog G Pd4:=trivial
noncomputable def Sa1(x:Pln)(y:Pt):Int:=(W ((W ((W ((W (x.b*y.pw))-(W (x.n.x*y.px))))-(W (x.n.y*y.py))))-(W (x.n.z*y.pz))))
noncomputable def Nb7:Sum:=ta8 (fa0 tP) (fa0 tX) (λx y=>.ret ((one r1I).enc (Sa1 x y),[]))
theorem Zb4:g7 prog G 158 Nb7:=Da9 (bd If6 Bd9) λx y=>y5 (by kernel_rfl)
noncomputable def de7:List (Nat×Sum):=[]
theorem Pd5:i9 prog G de7:=trivial
noncomputable def rb7(x:V3)(y:V3):V3:=(⟨W (x.x+y.x),W (x.y+y.y),W (x.z+y.z)⟩:V3)
noncomputable def td8:Sum:=ta8 (fa0 tV) (fa0 tV) (λx y=>.ret ((one r1V).enc (rb7 x y),[]))
theorem de8:g7 prog G 80 td8:=Da9 (bd b80 Pd5) λx y=>y5 (by kernel_rfl)
noncomputable def de9:List (Nat×Sum):=[]
theorem Pd6:i9 prog G de9:=trivial
noncomputable def Ca1(x:V3)(y:V3):Int:=(W ((W ((W (x.x*y.x))+(W (x.y*y.y))))+(W (x.z*y.z))))
noncomputable def hc7:Sum:=ta8 (fa0 tV) (fa0 tV) (λx y=>.ret ((one r1I).enc (Ca1 x y),[]))
theorem pc8:g7 prog G 84 hc7:=Da9 (bd b84 Pd6) λx y=>y5 (by kernel_rfl)
noncomputable def Cd0:List (Nat×Sum):=[]
theorem kd8:i9 prog G Cd0:=trivial
noncomputable def Y3(x:V3)(y:V3):V3:=(⟨W ((W (x.y*y.z))-(W (x.z*y.y))),W ((W (x.z*y.x))-(W (x.x*y.z))),W ((W (x.x*y.y))-(W (x.y*y.x)))⟩:V3)
noncomputable def Zb5:Sum:=ta8 (fa0 tV) (fa0 tV) (λx y=>.ret ((one r1V).enc (Y3 x y),[]))
theorem xc4:g7 prog G 164 Zb5:=Da9 (bd Jf0 kd8) λx y=>y5 (by kernel_rfl)
noncomputable def kd9:List (Nat×Sum):=[]
theorem Zc3:i9 prog G kd9:=trivial
noncomputable def V2(x:V3)(y:Int):V3:=(⟨W (x.x*y),W (x.y*y),W (x.z*y)⟩:V3)
noncomputable def xc5:Sum:=ta8 (fa0 tV) cI (λx y=>.ret ((one r1V).enc (V2 x y),[]))
theorem ld0:g7 prog G 228 xc5:=Da9 (bd Lf8 Zc3) λx y=>y5 (by kernel_rfl)
noncomputable def lc2:List (Nat×Sum):=[]
theorem Zc4:i9 prog G lc2:=trivial
structure Fa3 where
structure da5 where
 (is0 is1:Int)
noncomputable def Sb4(p:Fa3)(s:da5):St:=⟨i s.is0::i s.is1::ra 10 [],[]⟩
noncomputable def ua1{α:Type}(k:da5->α)(e:Nat->α)(z:α)(p:Fa3)(s:da5):α:=(sl (s.is1 != 0) (sl (s.is1==0) z (k ⟨s.is1,Int.tmod s.is0 s.is1⟩)) (e 1))
noncomputable def za2(p:Fa3)(s:da5):Stp da5:=ua1 .next .exit .fail p s
noncomputable def ub2:Lo Fa3 da5:=⟨En lc2,0,gf6,[1,0,4,4],[0,1],.p,[⟨sIq::sIq::ru2 10 [],[],λa H=>(⟨⟩,⟨aIq a 0,aIq a 1⟩)⟩],za2,[(some 0,λp s=>upq (Sb4 p s) [(5,i s.is1),(6,b (s.is1 != 0))])],Sb4⟩
theorem Oc6:ub2.Ok:=Lo.ok [] (by kernel_rfl) .nil rfl (.cons (λa H=>by kernel_rfl) .nil) λp s=>(.of @ua1 (λF _ _ _ _ _=>by unfold ua1;(repeat' apply m8 (f:=F))<;>rfl) (by kernel_rfl))
noncomputable def Va7(x:Int)(y:Int):Option (b7×List b9):=let t1:=(lp (za2 (⟨⟩:Fa3)) (⟨x,y⟩:da5));(sl (Nat.beq t1.1 1) (some (i t1.2.is0,[])) none)
noncomputable def V4(x:Int)(y:Int):Int:=N9 (one r1I) (Va7 x y)
noncomputable def V5(x:Int)(y:Int):Bool:=okO (one r1I) (Va7 x y)
noncomputable def xc6:Sum:=ta8 cI cI (λx y=>.guard (V5 x y) (.ret ((one r1I).enc (V4 x y),[])))
theorem ld1:g7 prog G 229 xc6:=Eb2 (bd Lf9 Zc4) (one r1I) (o:=Va7) λx y=>xa3 (.s .p (.s (.b (.u ub2.ls)) .p)) [ub2.pr] (by kernel_rfl) (.cons Oc6 .nil) (by kernel_rfl)
noncomputable def Pd7:List (Nat×Sum):=[(164,Zb5),(84,hc7),(228,xc5),(80,td8),(229,xc6)]
theorem Cd1:i9 prog G Pd7:=⟨xc4,pc8,ld0,de8,ld1,trivial⟩
noncomputable def ub3(x:Pln)(y:Pln)(z:Pln):Option (b7×List b9):=let t1:=(Y3 y.n z.n);let t2:=(Ca1 x.n t1);let t3:=(V2 t1 x.b);let t4:=(Y3 z.n x.n);let t5:=(V2 t4 y.b);let t6:=(rb7 t3 t5);let t7:=(Y3 x.n y.n);let t8:=(V2 t7 z.b);let t9:=(rb7 t6 t8);let t10:=(V2 t9 (-1));let t11:=(V4 (if (W (0-t10.x))>t10.x then (W (0-t10.x)) else t10.x) (if (W (0-t10.y))>t10.y then (W (0-t10.y)) else t10.y));let t12:=(V4 (if (W (0-t10.z))>t10.z then (W (0-t10.z)) else t10.z) (W (0-t2)));let t13:=(V4 t11 t12);let t14:=(V4 (if (W (0-t9.x))>t9.x then (W (0-t9.x)) else t9.x) (if (W (0-t9.y))>t9.y then (W (0-t9.y)) else t9.y));let t15:=(V4 (if (W (0-t9.z))>t9.z then (W (0-t9.z)) else t9.z) t2);let t16:=(V4 t14 t15);(sl (t2==0) (some (.tup [.agg [i 0,i 0,i 0,i 0],b false],[])) (sl (decide (t2<0)) (sl (V5 (if (W (0-t10.x))>t10.x then (W (0-t10.x)) else t10.x) (if (W (0-t10.y))>t10.y then (W (0-t10.y)) else t10.y)) (sl (V5 (if (W (0-t10.z))>t10.z then (W (0-t10.z)) else t10.z) (W (0-t2))) (sl (V5 t11 t12) (sl (t13==0) none (sl (t13==0) none (sl (t13==0) none (sl (t13==0) none (some (.tup [.agg [i (W (Int.tdiv t10.x t13)),i (W (Int.tdiv t10.y t13)),i (W (Int.tdiv t10.z t13)),i (W (Int.tdiv (W (0-t2)) t13))],b true],[])))))) none) none) none) (sl (V5 (if (W (0-t9.x))>t9.x then (W (0-t9.x)) else t9.x) (if (W (0-t9.y))>t9.y then (W (0-t9.y)) else t9.y)) (sl (V5 (if (W (0-t9.z))>t9.z then (W (0-t9.z)) else t9.z) t2) (sl (V5 t14 t15) (sl (t16==0) none (sl (t16==0) none (sl (t16==0) none (sl (t16==0) none (some (.tup [.agg [i (W (Int.tdiv t9.x t16)),i (W (Int.tdiv t9.y t16)),i (W (Int.tdiv t9.z t16)),i (W (Int.tdiv t2 t16))],b true],[])))))) none) none) none)))
noncomputable def ub4(x:Pln)(y:Pln)(z:Pln):Pt×Bool:=N9 (two r1X r1B) (ub3 x y z)
noncomputable def ub5(x:Pln)(y:Pln)(z:Pln):Bool:=okO (two r1X r1B) (ub3 x y z)
noncomputable def Zc5:Sum:=pc2 (fa0 tP) (fa0 tP) (fa0 tP) (λx y z=>.guard (ub5 x y z) (.ret ((two r1X r1B).enc (ub4 x y z),[])))
theorem Pd8:g7 prog G 209 Zc5:=se9 (bd Lf3 Cd1) (two r1X r1B) (o:=ub3) λx y z=>y5 (by kernel_rfl)
noncomputable def td9:List (Nat×Sum):=[(158,Nb7)]
theorem ee0:i9 prog G td9:=⟨Zb4,trivial⟩
structure ub6 where
 d7:List Pln
 (j8 d8 j9 k8:Int)
structure xa4 where
 is5:Int
noncomputable def Lc1(p:ub6)(s:xa4):St:=⟨eL tP p.d7::.unk::.unk::.ptr 0 0 0 0::.unk::i s.is5::ra 13 [],[⟨0,4,[[i p.j8,i p.d8,i p.j9,i p.k8]],true,false,0⟩]⟩
noncomputable def Va8{α:Type}(k:xa4->α)(e:Nat->α)(z:α)(p:ub6)(s:xa4):α:=let t1:=(Sa1 (gL tP p.d7 s.is5.toNat) (⟨p.j8,p.d8,p.j9,p.k8⟩:Pt));(sl (decide (s.is5<(↑(List.length p.d7):Int))) (sl (inB s.is5 (List.length p.d7)) (sl (decide (t1<0)) (e 1) (k ⟨W (s.is5+1)⟩)) z) (e 2))
noncomputable def gb5(p:ub6)(s:xa4):Stp xa4:=Va8 .next .exit .fail p s
noncomputable def pc9:Lo ub6 xa4:=⟨En td9,0,gf3,[1,0,1,4,4],[0,3,5],.p,[⟨sLq tP::sUq::sUq::sPq 0::sUq::sIq::ru2 13 [],[⟨0,4,true,some [kLq 4]⟩],λa H=>(⟨aLq tP a 0,hIq H 0 0 0,hIq H 0 0 1,hIq H 0 0 2,hIq H 0 0 3⟩,⟨aIq a 5⟩)⟩],gb5,[(none,λp s=>⟨[b false],[]⟩),(some 0,λp s=>upq (Lc1 p s) [(6,i s.is5),(7,eL tP p.d7),(8,i (↑(List.length p.d7):Int)),(9,b (decide (s.is5<(↑(List.length p.d7):Int))))])],Lc1⟩
theorem Pd9:pc9.Ok:=Lo.ok [] (by kernel_rfl) .nil rfl (.cons (λa H=>by kernel_rfl) .nil) λp s=>(.of @Va8 (λF _ _ _ _ _=>by unfold Va8;(repeat' apply m8 (f:=F))<;>rfl) (by kernel_rfl))
noncomputable def Zb6(x:List Pln)(y:Pt):Option (b7×List b9):=let t1:=(lp (gb5 (⟨rt tP x,y.px,y.py,y.pz,y.pw⟩:ub6)) (⟨0⟩:xa4));(sl ((cnE tP x)&&true) (sl (Nat.beq t1.1 1) (some (b false,[])) (sl (Nat.beq t1.1 2) (some (b true,[])) none)) none)
noncomputable def Ib4(x:List Pln)(y:Pt):Bool:=N9 (one r1B) (Zb6 x y)
noncomputable def Ib5(x:List Pln)(y:Pt):Bool:=okO (one r1B) (Zb6 x y)
noncomputable def Qd0:Sum:=ta8 (R5 tP) (fa0 tX) (λx y=>.guard (Ib5 x y) (.ret ((one r1B).enc (Ib4 x y),[])))
theorem ve0:g7 prog G 210 Qd0:=Eb2 (bd Lf4 ee0) (one r1B) (o:=Zb6) λx y=>xa3 (.s .p (.s (.s .p (.b (.u pc9.ls))) .p)) [pc9.pr] (by kernel_rfl) (.cons Pd9 .nil) (by kernel_rfl)
noncomputable def xc7:List (Nat×Sum):=[]
theorem ld2:i9 prog G xc7:=trivial
structure Na5 where
 ra4:List Pt
 (j8 d8 j9 k8:Int)
structure ca2 where
 is5:Int
noncomputable def Zb7(p:Na5)(s:ca2):St:=⟨eL tX p.ra4::.unk::.unk::.ptr 0 0 0 0::.unk::i s.is5::ra 12 [],[⟨0,4,[[i p.j8,i p.d8,i p.j9,i p.k8]],true,false,0⟩]⟩
noncomputable def za3{α:Type}(k:ca2->α)(e:Nat->α)(z:α)(p:Na5)(s:ca2):α:=(sl (decide (s.is5<(↑(List.length p.ra4):Int))) (sl (inB s.is5 (List.length p.ra4)) (sl (((gL tX p.ra4 s.is5.toNat).px==p.j8)&&(((gL tX p.ra4 s.is5.toNat).py==p.d8)&&(((gL tX p.ra4 s.is5.toNat).pz==p.j9)&&(((gL tX p.ra4 s.is5.toNat).pw==p.k8)&&true)))) (e 1) (k ⟨W (s.is5+1)⟩)) z) (e 2))
noncomputable def Fa4(p:Na5)(s:ca2):Stp ca2:=za3 .next .exit .fail p s
noncomputable def Eb3:Lo Na5 ca2:=⟨En xc7,0,gf4,[1,0,1,4,4],[0,3,5],.p,[⟨sLq tX::sUq::sUq::sPq 0::sUq::sIq::ru2 12 [],[⟨0,4,true,some [kLq 4]⟩],λa H=>(⟨aLq tX a 0,hIq H 0 0 0,hIq H 0 0 1,hIq H 0 0 2,hIq H 0 0 3⟩,⟨aIq a 5⟩)⟩],Fa4,[(none,λp s=>⟨[b true],[]⟩),(some 0,λp s=>upq (Zb7 p s) [(6,i s.is5),(7,eL tX p.ra4),(8,i (↑(List.length p.ra4):Int)),(9,b (decide (s.is5<(↑(List.length p.ra4):Int))))])],Zb7⟩
theorem Zc6:Eb3.Ok:=Lo.ok [] (by kernel_rfl) .nil rfl (.cons (λa H=>by kernel_rfl) .nil) λp s=>(.of @za3 (λF _ _ _ _ _=>by unfold za3;(repeat' apply m8 (f:=F))<;>rfl) (by kernel_rfl))
noncomputable def gb6(x:List Pt)(y:Pt):Option (b7×List b9):=let t1:=(lp (Fa4 (⟨rt tX x,y.px,y.py,y.pz,y.pw⟩:Na5)) (⟨0⟩:ca2));(sl ((cnE tX x)&&true) (sl (Nat.beq t1.1 1) (some (b true,[])) (sl (Nat.beq t1.1 2) (some (b false,[])) none)) none)
noncomputable def Ta3(x:List Pt)(y:Pt):Bool:=N9 (one r1B) (gb6 x y)
noncomputable def Ta4(x:List Pt)(y:Pt):Bool:=okO (one r1B) (gb6 x y)
noncomputable def Lc2:Sum:=ta8 (R5 tX) (fa0 tX) (λx y=>.guard (Ta4 x y) (.ret ((one r1B).enc (Ta3 x y),[])))
theorem Cd2:g7 prog G 211 Lc2:=Eb2 (bd Lf5 ld2) (one r1B) (o:=gb6) λx y=>xa3 (.s .p (.s (.s .p (.b (.u Eb3.ls))) .p)) [Eb3.pr] (by kernel_rfl) (.cons Zc6 .nil) (by kernel_rfl)
noncomputable def Va9:List (Nat×Sum):=[(209,Zc5),(210,Qd0),(211,Lc2)]
theorem Oc7:i9 prog G Va9:=⟨Pd8,ve0,Cd2,trivial⟩
structure R6 where
 d7:List Pln
 (is4 is5:Int)
structure w7 where
 ph:Nat
 is6:Int
 ns3:Nat
 eh0:List (List b7)
noncomputable def Bb4(p:R6)(s:w7):St:=⟨eL tP p.d7::.unk::.unk::.v (.slice none 0 0)::i p.is4::i p.is5::i s.is6::ra 57 [],[]⟩
noncomputable def Bb5(p:R6)(s:w7):St:=⟨eL tP p.d7::.unk::.unk::.sl 0 0 s.ns3 0::i p.is4::i p.is5::i s.is6::ra 57 [],[⟨136,4,s.eh0,true,false,0⟩]⟩
noncomputable def Fc0(p:R6)(s:w7):St:=(sel (Nat.beq s.ph 1) (Bb5 p s) (Bb4 p s))
noncomputable def V6{α:Type}(k:w7->α)(e:Nat->α)(z:α)(p:R6)(s:w7):α:=let t1:=(ub4 (gL tP p.d7 p.is4.toNat) (gL tP p.d7 p.is5.toNat) (gL tP p.d7 s.is6.toNat));let t2:=(Ib4 (rt tP p.d7) t1.1);let t3:=(Ta3 [] t1.1);(sl (decide (s.is6<(↑(List.length p.d7):Int))) (sl (inB p.is4 (List.length p.d7)) (sl (inB p.is5 (List.length p.d7)) (sl (inB s.is6 (List.length p.d7)) (sl (ub5 (gL tP p.d7 p.is4.toNat) (gL tP p.d7 p.is5.toNat) (gL tP p.d7 s.is6.toNat)) (sl t1.2 (sl (okE tP p.d7) (sl (Ib5 (rt tP p.d7) t1.1) (sl t2 (sl (Ta4 [] t1.1) (sl (!t3) (k ⟨1,W (s.is6+1),1,[[i t1.1.px,i t1.1.py,i t1.1.pz,i t1.1.pw]]⟩) (k ⟨0,W (s.is6+1),0,[]⟩)) z) (k ⟨0,W (s.is6+1),0,[]⟩)) z) z) (k ⟨0,W (s.is6+1),0,[]⟩)) z) z) z) z) (e 1))
noncomputable def V7{α:Type}(k:w7->α)(e:Nat->α)(z:α)(p:R6)(s:w7):α:=let t1:=(ub4 (gL tP p.d7 p.is4.toNat) (gL tP p.d7 p.is5.toNat) (gL tP p.d7 s.is6.toNat));let t2:=(Ib4 (rt tP p.d7) t1.1);let t3:=(Ta3 (slR tX s.eh0 0 s.ns3) t1.1);(sl (decide (s.is6<(↑(List.length p.d7):Int))) (sl (inB p.is4 (List.length p.d7)) (sl (inB p.is5 (List.length p.d7)) (sl (inB s.is6 (List.length p.d7)) (sl (ub5 (gL tP p.d7 p.is4.toNat) (gL tP p.d7 p.is5.toNat) (gL tP p.d7 s.is6.toNat)) (sl t1.2 (sl (okE tP p.d7) (sl (Ib5 (rt tP p.d7) t1.1) (sl t2 (sl (okS tX s.eh0 0 s.ns3) (sl (Ta4 (slR tX s.eh0 0 s.ns3) t1.1) (sl (!t3) (sl (Nat.beq s.ns3 (len s.eh0)&&Nat.ble ((s.ns3+1)*32) room) (k ⟨1,W (s.is6+1),s.ns3+1,app s.eh0 [[i t1.1.px,i t1.1.py,i t1.1.pz,i t1.1.pw]]⟩) z) (k ⟨1,W (s.is6+1),s.ns3,s.eh0⟩)) z) z) (k ⟨1,W (s.is6+1),s.ns3,s.eh0⟩)) z) z) (k ⟨1,W (s.is6+1),s.ns3,s.eh0⟩)) z) z) z) z) (e 2))
noncomputable def T4(p:R6)(s:w7):Stp w7:=(sel (Nat.beq s.ph 1) (V7 .next .exit .fail p s) (V6 .next .exit .fail p s))
noncomputable def lb1:Lo R6 w7:=⟨En Va9,0,ke7,[1,1,0,1,4,4,1,0,4,1,4,4,1,0,4,1,4,4],[0,3,4,5,6],.p,[⟨sLq tP::sUq::sUq::.s (.o .nil)::sIq::sIq::sIq::ru2 57 [],[],λa H=>(⟨aLq tP a 0,aIq a 4,aIq a 5⟩,⟨0,aIq a 6,0,[]⟩)⟩,⟨sLq tP::sUq::sUq::.s (.o (.sl 0 0 (some 0) none))::sIq::sIq::sIq::ru2 57 [],[⟨136,4,true,none⟩],λa H=>(⟨aLq tP a 0,aIq a 4,aIq a 5⟩,⟨1,aIq a 6,slN (slT a 3),elT H 0⟩)⟩],T4,[(some 4,λp s=>upq (Bb4 p s) [(25,i s.is6),(26,eL tP p.d7),(27,i (↑(List.length p.d7):Int)),(28,b (decide (s.is6<(↑(List.length p.d7):Int))))]),(some 4,λp s=>upq (Bb5 p s) [(25,i s.is6),(26,eL tP p.d7),(27,i (↑(List.length p.d7):Int)),(28,b (decide (s.is6<(↑(List.length p.d7):Int))))])],Fc0⟩
theorem Fc1:lb1.Ok:=Lo.ok [] (by kernel_rfl) .nil rfl (.cons (λa H=>by kernel_rfl) (.cons (λa H=>by kernel_rfl) .nil)) λp s=>(.sel (Nat.beq s.ph 1) (.of @V7 (λF _ _ _ _ _=>by unfold V7;(repeat' apply m8 (f:=F))<;>rfl) (by kernel_rfl)) (.of @V6 (λF _ _ _ _ _=>by unfold V6;(repeat' apply m8 (f:=F))<;>rfl) (by kernel_rfl)))
structure R7 where
 is4:Int
structure y9 where
 ph:Nat
 d7:List Pln
 is5:Int
 ns3:Nat
 eh0:List (List b7)
noncomputable def Bb6(p:R7)(s:y9):St:=⟨eL tP s.d7::.unk::.unk::.v (.slice none 0 0)::i p.is4::i s.is5::ra 58 [],[]⟩
noncomputable def Bb7(p:R7)(s:y9):St:=⟨eL tP s.d7::.unk::.unk::.sl 0 0 s.ns3 0::i p.is4::i s.is5::ra 58 [],[⟨136,4,s.eh0,true,false,0⟩]⟩
noncomputable def Fc2(p:R7)(s:y9):St:=(sel (Nat.beq s.ph 1) (Bb7 p s) (Bb6 p s))
noncomputable def V8{α:Type}(k:y9->α)(e:Nat->α)(z:α)(p:R7)(s:y9):α:=let t1:=(lp (T4 (⟨rt tP s.d7,p.is4,s.is5⟩:R6)) (⟨0,W (s.is5+1),0,[]⟩:w7));(sl (decide (s.is5<(↑(List.length s.d7):Int))) (sl ((cnE tP s.d7)&&true) (sl (Nat.beq t1.1 1) (k ⟨0,rt tP s.d7,W (s.is5+1),0,[]⟩) (sl (Nat.beq t1.1 2) (k ⟨1,rt tP s.d7,W (s.is5+1),t1.2.ns3,t1.2.eh0⟩) z)) z) (e 1))
noncomputable def V9{α:Type}(k:y9->α)(e:Nat->α)(z:α)(p:R7)(s:y9):α:=let t1:=(lp (T4 (⟨rt tP s.d7,p.is4,s.is5⟩:R6)) (⟨1,W (s.is5+1),s.ns3,s.eh0⟩:w7));(sl (decide (s.is5<(↑(List.length s.d7):Int))) (sl ((cnE tP s.d7)&&true) (sl (Nat.beq t1.1 1) (k ⟨0,rt tP s.d7,W (s.is5+1),0,[]⟩) (sl (Nat.beq t1.1 2) (k ⟨1,rt tP s.d7,W (s.is5+1),t1.2.ns3,t1.2.eh0⟩) z)) z) (e 2))
noncomputable def O0(p:R7)(s:y9):Stp y9:=(sel (Nat.beq s.ph 1) (V9 .next .exit .fail p s) (V8 .next .exit .fail p s))
noncomputable def lb2:Lo R7 y9:=⟨En Va9,0,ke7,[1,1,0,1,4,4,1,0,4,1,4,4],[0,3,4,5],.s .p (.s (.b (.s .p (.b (.u lb1.ls)))) .p),[⟨sLq tP::sUq::sUq::.s (.o .nil)::sIq::sIq::ru2 58 [],[],λa H=>(⟨aIq a 4⟩,⟨0,aLq tP a 0,aIq a 5,0,[]⟩)⟩,⟨sLq tP::sUq::sUq::.s (.o (.sl 0 0 (some 0) none))::sIq::sIq::ru2 58 [],[⟨136,4,true,none⟩],λa H=>(⟨aIq a 4⟩,⟨1,aLq tP a 0,aIq a 5,slN (slT a 3),elT H 0⟩)⟩],O0,[(some 2,λp s=>upq (Bb6 p s) [(17,i s.is5),(18,eL tP s.d7),(19,i (↑(List.length s.d7):Int)),(20,b (decide (s.is5<(↑(List.length s.d7):Int))))]),(some 2,λp s=>upq (Bb7 p s) [(17,i s.is5),(18,eL tP s.d7),(19,i (↑(List.length s.d7):Int)),(20,b (decide (s.is5<(↑(List.length s.d7):Int))))])],Fc2⟩
theorem Fc3:lb2.Ok:=Lo.ok [lb1.pr] (by kernel_rfl) (.cons Fc1 .nil) rfl (.cons (λa H=>by kernel_rfl) (.cons (λa H=>by kernel_rfl) .nil)) λp s=>(.sel (Nat.beq s.ph 1) (.of @V9 (λF _ _ _ _ _=>by unfold V9;(repeat' apply m8 (f:=F))<;>rfl) (by kernel_rfl)) (.of @V8 (λF _ _ _ _ _=>by unfold V8;(repeat' apply m8 (f:=F))<;>rfl) (by kernel_rfl)))
structure Y4 where
structure D3 where
 ph:Nat
 d7:List Pln
 is4:Int
 ns3:Nat
 eh0:List (List b7)
noncomputable def Bb8(p:Y4)(s:D3):St:=⟨eL tP s.d7::.unk::.unk::.v (.slice none 0 0)::i s.is4::ra 59 [],[]⟩
noncomputable def Bb9(p:Y4)(s:D3):St:=⟨eL tP s.d7::.unk::.unk::.sl 0 0 s.ns3 0::i s.is4::ra 59 [],[⟨136,4,s.eh0,true,false,0⟩]⟩
noncomputable def Fc4(p:Y4)(s:D3):St:=(sel (Nat.beq s.ph 1) (Bb9 p s) (Bb8 p s))
noncomputable def W4{α:Type}(k:D3->α)(e:Nat->α)(z:α)(p:Y4)(s:D3):α:=let t1:=(lp (O0 (⟨s.is4⟩:R7)) (⟨0,rt tP s.d7,W (s.is4+1),0,[]⟩:y9));(sl (decide (s.is4<(↑(List.length s.d7):Int))) (sl ((cnE tP s.d7)&&true) (sl (Nat.beq t1.1 1) (k ⟨0,t1.2.d7,W (s.is4+1),0,[]⟩) (sl (Nat.beq t1.1 2) (k ⟨1,t1.2.d7,W (s.is4+1),t1.2.ns3,t1.2.eh0⟩) z)) z) (e 1))
noncomputable def W5{α:Type}(k:D3->α)(e:Nat->α)(z:α)(p:Y4)(s:D3):α:=let t1:=(lp (O0 (⟨s.is4⟩:R7)) (⟨1,rt tP s.d7,W (s.is4+1),s.ns3,s.eh0⟩:y9));(sl (decide (s.is4<(↑(List.length s.d7):Int))) (sl ((cnE tP s.d7)&&true) (sl (Nat.beq t1.1 1) (k ⟨0,t1.2.d7,W (s.is4+1),0,[]⟩) (sl (Nat.beq t1.1 2) (k ⟨1,t1.2.d7,W (s.is4+1),t1.2.ns3,t1.2.eh0⟩) z)) z) (e 2))
noncomputable def T5(p:Y4)(s:D3):Stp D3:=(sel (Nat.beq s.ph 1) (W5 .next .exit .fail p s) (W4 .next .exit .fail p s))
noncomputable def lb3:Lo Y4 D3:=⟨En Va9,0,ke7,[1,1,0,1,4,4],[0,3,4],.s .p (.s (.b (.s .p (.b (.u lb2.ls)))) .p),[⟨sLq tP::sUq::sUq::.s (.o .nil)::sIq::ru2 59 [],[],λa H=>(⟨⟩,⟨0,aLq tP a 0,aIq a 4,0,[]⟩)⟩,⟨sLq tP::sUq::sUq::.s (.o (.sl 0 0 (some 0) none))::sIq::ru2 59 [],[⟨136,4,true,none⟩],λa H=>(⟨⟩,⟨1,aLq tP a 0,aIq a 4,slN (slT a 3),elT H 0⟩)⟩],T5,[(some 0,λp s=>upq (Bb8 p s) [(9,i s.is4),(10,eL tP s.d7),(11,i (↑(List.length s.d7):Int)),(12,b (decide (s.is4<(↑(List.length s.d7):Int))))]),(some 0,λp s=>upq (Bb9 p s) [(9,i s.is4),(10,eL tP s.d7),(11,i (↑(List.length s.d7):Int)),(12,b (decide (s.is4<(↑(List.length s.d7):Int))))])],Fc4⟩
theorem Fc5:lb3.Ok:=Lo.ok [lb2.pr] (by kernel_rfl) (.cons Fc3 .nil) rfl (.cons (λa H=>by kernel_rfl) (.cons (λa H=>by kernel_rfl) .nil)) λp s=>(.sel (Nat.beq s.ph 1) (.of @W5 (λF _ _ _ _ _=>by unfold W5;(repeat' apply m8 (f:=F))<;>rfl) (by kernel_rfl)) (.of @W4 (λF _ _ _ _ _=>by unfold W4;(repeat' apply m8 (f:=F))<;>rfl) (by kernel_rfl)))
noncomputable def Na6(x:List Pln):Option (b7×List b9):=let t1:=(lp (T5 (⟨⟩:Y4)) (⟨0,rt tP x,0,0,[]⟩:D3));(sl ((cnE tP x)&&true) (sl (Nat.beq t1.1 1) (some (.v (.slice none 0 0),[])) (sl (Nat.beq t1.1 2) (some (.sl 0 0 t1.2.ns3 0,[⟨136,4,t1.2.eh0,true,false,0⟩])) none)) none)
noncomputable def Na7(x:List Pln):List Pt:=N9 (one (r1L tX)) (Na6 x)
noncomputable def Na8(x:List Pln):Bool:=okO (one (r1L tX)) (Na6 x)
noncomputable def Eb4:Sum:=V1 (R5 tP) (λx=>.guard (Na8 x) (.ret ((one (r1L tX)).enc (Na7 x),[])))
theorem Zb8:g7 prog G 181 Eb4:=Fa2 (bd Kf1 Oc7) (one (r1L tX)) (o:=Na6) λx=>xa3 (.s .p (.s .p (.s (.s .p (.b (.u lb3.ls))) .p))) [lb3.pr] (by kernel_rfl) (.cons Fc5 .nil) (by kernel_rfl)
noncomputable def Cb0:List (Nat×Sum):=[]
theorem qc0:i9 prog G Cb0:=trivial
@[reducible] noncomputable def Ja6:Sum:=Hb5 (En Cb0) ff7
theorem Wa0:g7 prog G 191 Ja6:=bd Kf6 qc0
noncomputable def Oc8:List (Nat×Sum):=[]
theorem Fc6:i9 prog G Oc8:=trivial
noncomputable def Fa5(x:Int):Option (b7×List b9):=(sl (decide (x<0)) (some (i (W (0-x)),[])) (some (i x,[])))
noncomputable def ua2(x:Int):Int:=N9 (one r1I) (Fa5 x)
noncomputable def ua3(x:Int):Bool:=okO (one r1I) (Fa5 x)
noncomputable def Zb9:Sum:=V1 cI (λx=>.guard (ua3 x) (.ret ((one r1I).enc (ua2 x),[])))
theorem Oc9:g7 prog G 184 Zb9:=Fa2 (bd Kf4 Fc6) (one r1I) (o:=Fa5) λx=>y5 (by kernel_rfl)
noncomputable def Lc3:List (Nat×Sum):=[(184,Zb9),(191,Ja6)]
theorem Cd3:i9 prog G Lc3:=⟨Oc9,Wa0,trivial⟩
structure pa6 where
 (is6 j8 d8 j9 fb9 gb0 gb1:Int)
structure W6 where
 (is5 is7:Int)
noncomputable def lc3(p:pa6)(s:W6):St:=⟨.unk::.ptr 0 0 0 0::.ptr 1 0 0 0::.unk::.ptr 2 0 0 0::i s.is5::i p.is6::i s.is7::ra 38 [],[⟨0,3,[[i p.j8,i p.d8,i p.j9]],true,false,0⟩,⟨0,3,[[i 0,i 0,i 0]],true,false,0⟩,⟨0,3,[[i p.fb9,i p.gb0,i p.gb1]],true,false,0⟩]⟩
noncomputable def Fa6{α:Type}(k:W6->α)(e:Nat->α)(z:α)(p:pa6)(s:W6):α:=(sl (decide (s.is7>0)) (sl (s.is7==0) z (k ⟨s.is7,Int.tmod s.is5 s.is7⟩)) (e 1))
noncomputable def ka3(p:pa6)(s:W6):Stp W6:=Fa6 .next .exit .fail p s
noncomputable def Nb8:Lo pa6 W6:=⟨En Lc3,0,ff2,[1,1,1,0,1,4,4,1,0,4,1,1,4,4],[1,2,4,5,6,7],.p,[⟨sUq::sPq 0::sPq 1::sUq::sPq 2::sIq::sIq::sIq::ru2 38 [],[⟨0,3,true,some [kLq 3]⟩,⟨0,3,true,some [[.o (.lit .i64 0),.o (.lit .i64 0),.o (.lit .i64 0)]]⟩,⟨0,3,true,some [kLq 3]⟩],λa H=>(⟨aIq a 6,hIq H 0 0 0,hIq H 0 0 1,hIq H 0 0 2,hIq H 2 0 0,hIq H 2 0 1,hIq H 2 0 2⟩,⟨aIq a 5,aIq a 7⟩)⟩],ka3,[(some 2,λp s=>upq (lc3 p s) [(23,i s.is7),(24,b (decide (s.is7>0)))])],lc3⟩
theorem ld3:Nb8.Ok:=Lo.ok [] (by kernel_rfl) .nil rfl (.cons (λa H=>by kernel_rfl) .nil) λp s=>(.of @Fa6 (λF _ _ _ _ _=>by unfold Fa6;(repeat' apply m8 (f:=F))<;>rfl) (by kernel_rfl))
noncomputable def ub7(x:V3):Option (b7×List b9):=let t1:=(ua2 x.x);let t2:=(lp (ka3 (⟨0,x.x,x.y,x.z,x.x,x.y,x.z⟩:pa6)) (⟨0,t1⟩:W6));let t3:=(ua2 x.y);let t4:=(lp (ka3 (⟨1,x.x,x.y,x.z,x.x,x.y,x.z⟩:pa6)) (⟨t2.2.is5,t3⟩:W6));let t5:=(ua2 x.z);let t6:=(lp (ka3 (⟨2,x.x,x.y,x.z,x.x,x.y,x.z⟩:pa6)) (⟨t4.2.is5,t5⟩:W6));(sl (x.x==(-9223372036854775808)) (some (.tup [.agg [i 0,i 0,i 0],i 0],[])) (sl (ua3 x.x) (sl (Nat.beq t2.1 1) (sl (x.y==(-9223372036854775808)) (some (.tup [.agg [i 0,i 0,i 0],i 0],[])) (sl (ua3 x.y) (sl (Nat.beq t4.1 1) (sl (x.z==(-9223372036854775808)) (some (.tup [.agg [i 0,i 0,i 0],i 0],[])) (sl (ua3 x.z) (sl (Nat.beq t6.1 1) (sl (t6.2.is5==0) (some (.tup [.agg [i 0,i 0,i 0],i 0],[])) (sl (t6.2.is5==0) none (sl (t6.2.is5==0) none (sl (t6.2.is5==0) none (some (.tup [.agg [i (W (Int.tdiv x.x t6.2.is5)),i (W (Int.tdiv x.y t6.2.is5)),i (W (Int.tdiv x.z t6.2.is5))],i t6.2.is5],[])))))) none) none)) none) none)) none) none))
noncomputable def Sa2(x:V3):V3×Int:=N9 (two r1V r1I) (ub7 x)
noncomputable def ub8(x:V3):Bool:=okO (two r1V r1I) (ub7 x)
noncomputable def qc1:Sum:=V1 (fa0 tV) (λx=>.guard (ub8 x) (.ret ((two r1V r1I).enc (Sa2 x),[])))
theorem Lc4:g7 prog G 163 qc1:=Fa2 (bd If9 Cd3) (two r1V r1I) (o:=ub7) λx=>xa3 (.s .p (.s .p (.s .p (.s (.s .p (.b (.l (.s .p (.s (.b (.s .p (.s .p (.b (.u Nb8.ls))))) .p))))) .p)))) [Nb8.pr] (by kernel_rfl) (.cons ld3 .nil) (by kernel_rfl)
noncomputable def Cd4:List (Nat×Sum):=[(163,qc1),(191,Ja6)]
theorem ld4:i9 prog G Cd4:=⟨Lc4,Wa0,trivial⟩
noncomputable def gb7(x:Pln):Option (b7×List b9):=let t1:=(Sa2 x.n);(sl (decide (x.n.x<(-4608))) (some (b false,[])) (sl (decide (x.n.x>4608)) (some (b false,[])) (sl (decide (x.n.y<(-4608))) (some (b false,[])) (sl (decide (x.n.y>4608)) (some (b false,[])) (sl (decide (x.n.z<(-4608))) (some (b false,[])) (sl (decide (x.n.z>4608)) (some (b false,[])) (sl (ub8 x.n) (sl (t1.2==1) (sl (decide (x.b>=(-2097152))) (some (b (decide (x.b<=2097152)),[])) (some (b false,[]))) (some (b false,[]))) none)))))))
noncomputable def gb8(x:Pln):Bool:=N9 (one r1B) (gb7 x)
noncomputable def gb9(x:Pln):Bool:=okO (one r1B) (gb7 x)
noncomputable def ac0:Sum:=V1 (fa0 tP) (λx=>.guard (gb9 x) (.ret ((one r1B).enc (gb8 x),[])))
theorem xc8:g7 prog G 156 ac0:=Fa2 (bd If4 ld4) (one r1B) (o:=gb7) λx=>y5 (by kernel_rfl)
noncomputable def xc9:List (Nat×Sum):=[(156,ac0)]
theorem ld5:i9 prog G xc9:=⟨xc8,trivial⟩
structure Na9 where
 d7:List Pln
structure ca3 where
 is3:Int
noncomputable def ac4(p:Na9)(s:ca3):St:=⟨eL tP p.d7::.unk::.unk::i s.is3::ra 15 [],[]⟩
noncomputable def za4{α:Type}(k:ca3->α)(e:Nat->α)(z:α)(p:Na9)(s:ca3):α:=let t1:=(gb8 (gL tP p.d7 s.is3.toNat));(sl (decide (s.is3<(↑(List.length p.d7):Int))) (sl (inB s.is3 (List.length p.d7)) (sl (gb9 (gL tP p.d7 s.is3.toNat)) (sl (!t1) (e 1) (k ⟨W (s.is3+1)⟩)) z) z) (e 2))
noncomputable def Fa7(p:Na9)(s:ca3):Stp ca3:=za4 .next .exit .fail p s
noncomputable def Eb5:Lo Na9 ca3:=⟨En xc9,0,ef3,[1,1,0,1,4,4],[0,3],.p,[⟨sLq tP::sUq::sUq::sIq::ru2 15 [],[],λa H=>(⟨aLq tP a 0⟩,⟨aIq a 3⟩)⟩],Fa7,[(none,λp s=>⟨[i 12],[]⟩),(some 0,λp s=>upq (ac4 p s) [(7,i s.is3),(8,eL tP p.d7),(9,i (↑(List.length p.d7):Int)),(10,b (decide (s.is3<(↑(List.length p.d7):Int))))])],ac4⟩
theorem Zc7:Eb5.Ok:=Lo.ok [] (by kernel_rfl) .nil rfl (.cons (λa H=>by kernel_rfl) .nil) λp s=>(.of @za4 (λF _ _ _ _ _=>by unfold za4;(repeat' apply m8 (f:=F))<;>rfl) (by kernel_rfl))
noncomputable def hb5(x:List Pln):Option (b7×List b9):=let t1:=(lp (Fa7 (⟨rt tP x⟩:Na9)) (⟨0⟩:ca3));(sl (decide ((↑(List.length x):Int)>48)) (some (i 2,[])) (sl ((cnE tP x)&&true) (sl (Nat.beq t1.1 1) (some (i 12,[])) (sl (Nat.beq t1.1 2) (some (i 0,[])) none)) none))
noncomputable def hb6(x:List Pln):Int:=N9 (one r1I) (hb5 x)
noncomputable def hb7(x:List Pln):Bool:=okO (one r1I) (hb5 x)
noncomputable def ac5:Sum:=V1 (R5 tP) (λx=>.guard (hb7 x) (.ret ((one r1I).enc (hb6 x),[])))
theorem yc0:g7 prog G 100 ac5:=Fa2 (bd Ff5 ld5) (one r1I) (o:=hb5) λx=>xa3 (.s .p (.s .p (.s (.s .p (.b (.u Eb5.ls))) .p))) [Eb5.pr] (by kernel_rfl) (.cons Zc7 .nil) (by kernel_rfl)
noncomputable def ee1:List (Nat×Sum):=[]
theorem Qd1:i9 prog G ee1:=trivial
noncomputable def hc8(x:V3)(y:V3):Option (b7×List b9):=(some (.sl 0 0 6 0,[⟨73,4,[[i 1,i 0,i 0,i y.x],[i (-1),i 0,i 0,i (W (0-x.x))],[i 0,i 1,i 0,i y.y],[i 0,i (-1),i 0,i (W (0-x.y))],[i 0,i 0,i 1,i y.z],[i 0,i 0,i (-1),i (W (0-x.z))]],true,false,0⟩]))
noncomputable def Ib6(x:V3)(y:V3):List Pln:=N9 (one (r1L tP)) (hc8 x y)
noncomputable def Ib7(x:V3)(y:V3):Bool:=okO (one (r1L tP)) (hc8 x y)
noncomputable def Fc7:Sum:=ta8 (fa0 tV) (fa0 tV) (λx y=>.guard (Ib7 x y) (.ret ((one (r1L tP)).enc (Ib6 x y),[])))
theorem Zc8:g7 prog G 63 Fc7:=Eb2 (bd b63 Qd1) (one (r1L tP)) (o:=hc8) λx y=>y5 (by kernel_rfl)
noncomputable def ee2:List (Nat×Sum):=[(63,Fc7)]
theorem Qd2:i9 prog G ee2:=⟨Zc8,trivial⟩
noncomputable def Ib8(x:List Pln):Option (b7×List b9):=let t1:=(Ib6 (⟨-24,-24,-24⟩:V3) (⟨24,24,24⟩:V3));(sl (Nat.beq 0 0&&Nat.ble ((0+(len (o8 (λk=>(tP).row (gL tP x k)) (List.range (List.length x)))))*32) room) (sl (Ib7 (⟨-24,-24,-24⟩:V3) (⟨24,24,24⟩:V3)) (sl (Nat.beq (0+(len (o8 (λk=>(tP).row (gL tP x k)) (List.range (List.length x))))) (len (app [] (o8 (λk=>(tP).row (gL tP x k)) (List.range (List.length x)))))&&Nat.ble (((0+(len (o8 (λk=>(tP).row (gL tP x k)) (List.range (List.length x)))))+(len (o8 (λk=>(tP).row (gL tP t1 k)) (List.range (List.length t1)))))*32) room) (some ((.sl 0 0 ((0+(len (o8 (λk=>(tP).row (gL tP x k)) (List.range (List.length x)))))+(len (o8 (λk=>(tP).row (gL tP t1 k)) (List.range (List.length t1))))) 0),[⟨73,4,(app (app [] (o8 (λk=>(tP).row (gL tP x k)) (List.range (List.length x)))) (o8 (λk=>(tP).row (gL tP t1 k)) (List.range (List.length t1)))),true,false,0⟩])) none) none) none)
noncomputable def Ib9(x:List Pln):List Pln:=N9 (one (r1L tP)) (Ib8 x)
noncomputable def Jb0(x:List Pln):Bool:=okO (one (r1L tP)) (Ib8 x)
noncomputable def Fc8:Sum:=V1 (R5 tP) (λx=>.guard (Jb0 x) (.ret ((one (r1L tP)).enc (Ib9 x),[])))
theorem Zc9:g7 prog G 124 Fc8:=Fa2 (bd Hf0 Qd2) (one (r1L tP)) (o:=Ib8) λx=>y5 (by kernel_rfl)
noncomputable def ld6:List (Nat×Sum):=[(100,ac5),(124,Fc8),(181,Eb4)]
theorem ad1:i9 prog G ld6:=⟨yc0,Zc9,Zb8,trivial⟩
noncomputable def Wa1(x:List Pln):Option (b7×List b9):=let t1:=(hb6 (rt tP x));let t2:=(Ib9 (rt tP x));let t3:=(Na7 (rt tP t2));(sl (okE tP x) (sl (hb7 (rt tP x)) (sl (t1 != 0) (some (.v (.slice none 0 0),[])) (sl (okE tP x) (sl (Jb0 (rt tP x)) (sl (okE tP t2) (sl (Na8 (rt tP t2)) (some (eL tX t3,[])) none) none) none) none)) none) none)
noncomputable def ob6(x:List Pln):List Pt:=N9 (one (r1L tX)) (Wa1 x)
noncomputable def ob7(x:List Pln):Bool:=okO (one (r1L tX)) (Wa1 x)
noncomputable def yc1:Sum:=V1 (R5 tP) (λx=>.guard (ob7 x) (.ret ((one (r1L tX)).enc (ob6 x),[])))
theorem ld7:g7 prog G 157 yc1:=Fa2 (bd If5 ad1) (one (r1L tX)) (o:=Wa1) λx=>y5 (by kernel_rfl)
noncomputable def ac6:List (Nat×Sum):=[(181,Eb4),(158,Nb7)]
theorem Cd5:i9 prog G ac6:=⟨Zb8,Zb4,trivial⟩
structure Wa2 where
 d7:List Pln
 T1:List Pt
 is4:Int
structure pa7 where
 bs5:Bool
 is6:Int
noncomputable def lc4(p:Wa2)(s:pa7):St:=⟨eL tP p.d7::.unk::.unk::eL tX p.T1::i p.is4::b s.bs5::i s.is6::ra 29 [],[]⟩
noncomputable def Fa8{α:Type}(k:pa7->α)(e:Nat->α)(z:α)(p:Wa2)(s:pa7):α:=let t1:=(Sa1 (gL tP p.d7 p.is4.toNat) (gL tX p.T1 s.is6.toNat));(sl (decide (s.is6<(↑(List.length p.T1):Int))) (sl s.bs5 (k ⟨true,W (s.is6+1)⟩) (sl (inB p.is4 (List.length p.d7)) (sl (inB s.is6 (List.length p.T1)) (k ⟨decide (t1>0),W (s.is6+1)⟩) z) z)) (e 1))
noncomputable def Ca2(p:Wa2)(s:pa7):Stp pa7:=Fa8 .next .exit .fail p s
noncomputable def Nb9:Lo Wa2 pa7:=⟨En ac6,0,Ge0,[1,1,0,1,4,4,1,0,4,1,0,1,4,4],[0,3,4,5,6],.p,[⟨sLq tP::sUq::sUq::sLq tX::sIq::sBq::sIq::ru2 29 [],[],λa H=>(⟨aLq tP a 0,aLq tX a 3,aIq a 4⟩,⟨aBq a 5,aIq a 6⟩)⟩],Ca2,[(some 2,λp s=>upq (lc4 p s) [(15,i s.is6),(16,eL tX p.T1),(17,i (↑(List.length p.T1):Int)),(18,b (decide (s.is6<(↑(List.length p.T1):Int))))])],lc4⟩
theorem ld8:Nb9.Ok:=Lo.ok [] (by kernel_rfl) .nil rfl (.cons (λa H=>by kernel_rfl) .nil) λp s=>(.of @Fa8 (λF _ _ _ _ _=>by unfold Fa8;(repeat' apply m8 (f:=F))<;>rfl) (by kernel_rfl))
structure Wa3 where
structure ha9 where
 d7:List Pln
 T1:List Pt
 is4:Int
noncomputable def lc5(p:Wa3)(s:ha9):St:=⟨eL tP s.d7::.unk::.unk::eL tX s.T1::i s.is4::ra 31 [],[]⟩
noncomputable def Fa9{α:Type}(k:ha9->α)(e:Nat->α)(z:α)(p:Wa3)(s:ha9):α:=let t1:=(lp (Ca2 (⟨rt tP s.d7,rt tX s.T1,s.is4⟩:Wa2)) (⟨false,0⟩:pa7));(sl (decide (s.is4<(↑(List.length s.d7):Int))) (sl ((cnE tP s.d7)&&((cnE tX s.T1)&&true)) (sl (Nat.beq t1.1 1) (sl (!t1.2.bs5) (e 1) (k ⟨rt tP s.d7,rt tX s.T1,W (s.is4+1)⟩)) z) z) (e 2))
noncomputable def Oa0(p:Wa3)(s:ha9):Stp ha9:=Fa9 .next .exit .fail p s
noncomputable def Ob0:Lo Wa3 ha9:=⟨En ac6,0,Ge0,[1,1,0,1,4,4],[0,3,4],.s .p (.s (.b (.s .p (.s (.s .p (.b (.u Nb9.ls))) .p))) .p),[⟨sLq tP::sUq::sUq::sLq tX::sIq::ru2 31 [],[],λa H=>(⟨⟩,⟨aLq tP a 0,aLq tX a 3,aIq a 4⟩)⟩],Oa0,[(none,λp s=>⟨[b false],[]⟩),(some 0,λp s=>upq (lc5 p s) [(9,i s.is4),(10,eL tP s.d7),(11,i (↑(List.length s.d7):Int)),(12,b (decide (s.is4<(↑(List.length s.d7):Int))))])],lc5⟩
theorem ld9:Ob0.Ok:=Lo.ok [Nb9.pr] (by kernel_rfl) (.cons ld8 .nil) rfl (.cons (λa H=>by kernel_rfl) .nil) λp s=>(.of @Fa9 (λF _ _ _ _ _=>by unfold Fa9;(repeat' apply m8 (f:=F))<;>rfl) (by kernel_rfl))
noncomputable def ub9(x:List Pln):Option (b7×List b9):=let t1:=(Na7 (rt tP x));let t2:=(lp (Oa0 (⟨⟩:Wa3)) (⟨rt tP x,rt tX t1,0⟩:ha9));(sl (okE tP x) (sl (Na8 (rt tP x)) (sl ((cnE tP x)&&((cnE tX t1)&&true)) (sl (Nat.beq t2.1 1) (some (b false,[])) (sl (Nat.beq t2.1 2) (some (b true,[])) none)) none) none) none)
noncomputable def Ob1(x:List Pln):Bool:=N9 (one r1B) (ub9 x)
noncomputable def Ob2(x:List Pln):Bool:=okO (one r1B) (ub9 x)
noncomputable def ad2:Sum:=V1 (R5 tP) (λx=>.guard (Ob2 x) (.ret ((one r1B).enc (Ob1 x),[])))
theorem Qd3:g7 prog G 123 ad2:=Fa2 (bd Gf9 Cd5) (one r1B) (o:=ub9) λx=>xa3 (.s .p (.s .p (.s (.s .p (.b (.u Ob0.ls))) .p))) [Ob0.pr] (by kernel_rfl) (.cons ld9 .nil) (by kernel_rfl)
noncomputable def Qd4:List (Nat×Sum):=[(100,ac5),(124,Fc8),(123,ad2)]
theorem Cd6:i9 prog G Qd4:=⟨yc0,Zc9,Qd3,trivial⟩
noncomputable def vb0(x:List Pln):Option (b7×List b9):=let t1:=(hb6 (rt tP x));let t2:=(Ib9 (rt tP x));let t3:=(Ob1 (rt tP t2));(sl (okE tP x) (sl (hb7 (rt tP x)) (sl (t1==0) (sl (okE tP x) (sl (Jb0 (rt tP x)) (sl (okE tP t2) (sl (Ob2 (rt tP t2)) (some (b t3,[])) none) none) none) none) (some (b false,[]))) none) none)
noncomputable def bb4(x:List Pln):Bool:=N9 (one r1B) (vb0 x)
noncomputable def bb5(x:List Pln):Bool:=okO (one r1B) (vb0 x)
noncomputable def qc2:Sum:=V1 (R5 tP) (λx=>.guard (bb5 x) (.ret ((one r1B).enc (bb4 x),[])))
theorem Lc5:g7 prog G 70 qc2:=Fa2 (bd b70 Cd6) (one r1B) (o:=vb0) λx=>y5 (by kernel_rfl)
noncomputable def ee3:List (Nat×Sum):=[]
theorem Qd5:i9 prog G ee3:=trivial
noncomputable def Jb1(x:Int)(y:Int):Option (b7×List b9):=(sl (decide (y<1)) (some (i 0,[])) (sl (y==0) none (sl (y==0) none (some (i (Int.tmod (W ((Int.tmod x y)+y)) y),[])))))
noncomputable def Jb2(x:Int)(y:Int):Int:=N9 (one r1I) (Jb1 x y)
noncomputable def Jb3(x:Int)(y:Int):Bool:=okO (one r1I) (Jb1 x y)
noncomputable def Fc9:Sum:=ta8 cI cI (λx y=>.guard (Jb3 x y) (.ret ((one r1I).enc (Jb2 x y),[])))
theorem ad3:g7 prog G 27 Fc9:=Eb2 (bd b27 Qd5) (one r1I) (o:=Jb1) λx y=>y5 (by kernel_rfl)
noncomputable def Cd7:List (Nat×Sum):=[]
theorem md0:i9 prog G Cd7:=trivial
noncomputable def Ta5(x:V3)(y:V3):Int:=(W ((W ((W (x.x*y.x))+(W (x.y*y.y))))+(W (x.z*y.z))))
noncomputable def ac7:Sum:=ta8 (fa0 tV) (fa0 tV) (λx y=>.ret ((one r1I).enc (Ta5 x y),[]))
theorem yc2:g7 prog G 83 ac7:=Da9 (bd b83 md0) λx y=>y5 (by kernel_rfl)
noncomputable def Cd8:List (Nat×Sum):=[]
theorem md1:i9 prog G Cd8:=trivial
noncomputable def wa6(x:V3)(y:V3):V3:=(⟨W (x.x+y.x),W (x.y+y.y),W (x.z+y.z)⟩:V3)
noncomputable def Lc6:Sum:=ta8 (fa0 tV) (fa0 tV) (λx y=>.ret ((one r1V).enc (wa6 x y),[]))
theorem Cd9:g7 prog G 34 Lc6:=Da9 (bd b34 md1) λx y=>y5 (by kernel_rfl)
noncomputable def md2:List (Nat×Sum):=[]
theorem ad4:i9 prog G md2:=trivial
noncomputable def pa8(x:V3)(y:Int):V3:=(⟨W (x.x*y),W (x.y*y),W (x.z*y)⟩:V3)
noncomputable def yc3:Sum:=ta8 (fa0 tV) cI (λx y=>.ret ((one r1V).enc (pa8 x y),[]))
theorem md3:g7 prog G 116 yc3:=Da9 (bd Gf6 ad4) λx y=>y5 (by kernel_rfl)
noncomputable def ad5:List (Nat×Sum):=[]
theorem Pc0:i9 prog G ad5:=trivial
noncomputable def U5(x:V3)(y:V3):V3:=(⟨W ((W (x.y*y.z))-(W (x.z*y.y))),W ((W (x.z*y.x))-(W (x.x*y.z))),W ((W (x.x*y.y))-(W (x.y*y.x)))⟩:V3)
noncomputable def lc6:Sum:=ta8 (fa0 tV) (fa0 tV) (λx y=>.ret ((one r1V).enc (U5 x y),[]))
theorem ad6:g7 prog G 142 lc6:=Da9 (bd Hf9 Pc0) λx y=>y5 (by kernel_rfl)
noncomputable def Dd0:List (Nat×Sum):=[(83,ac7)]
theorem md4:i9 prog G Dd0:=⟨yc2,trivial⟩
noncomputable def wa7(x:Pln)(y:Pt):Int:=let t1:=(Ta5 x.n (⟨y.px,y.py,y.pz⟩:V3));(W ((W (x.b*y.pw))-t1))
noncomputable def Cb1:Sum:=ta8 (fa0 tP) (fa0 tX) (λx y=>.ret ((one r1I).enc (wa7 x y),[]))
theorem Ob3:g7 prog G 153 Cb1:=Da9 (bd If2 md4) λx y=>y5 (by kernel_rfl)
noncomputable def ac8:List (Nat×Sum):=[]
theorem Dd1:i9 prog G ac8:=trivial
structure Ja7 where
 ab5:List Int
 (is7 is8:Int)
structure pa9 where
 (is3 is5:Int)
noncomputable def lc7(p:Ja7)(s:pa9):St:=⟨ra 3 (i s.is3::.unk::i s.is5::eL tI p.ab5::i p.is7::i p.is8::ra 14 []),[]⟩
noncomputable def Ga0{α:Type}(k:pa9->α)(e:Nat->α)(z:α)(p:Ja7)(s:pa9):α:=(sl (s.is5 != 0) (sl (s.is5==0) z (k ⟨s.is5,Int.tmod s.is3 s.is5⟩)) (e 1))
noncomputable def Oa1(p:Ja7)(s:pa9):Stp pa9:=Ga0 .next .exit .fail p s
noncomputable def Ob4:Lo Ja7 pa9:=⟨En ac8,0,Ge5,[1,1,0,1,4,4,1,1,0,4,1,4,4],[3,5,6,7,8],.p,[⟨ru2 3 (sIq::sUq::sIq::sLq tI::sIq::sIq::ru2 14 []),[],λa H=>(⟨aLq tI a 6,aIq a 7,aIq a 8⟩,⟨aIq a 3,aIq a 5⟩)⟩],Oa1,[(some 2,λp s=>upq (lc7 p s) [(12,i s.is5),(13,b (s.is5 != 0))])],lc7⟩
theorem md5:Ob4.Ok:=Lo.ok [] (by kernel_rfl) .nil rfl (.cons (λa H=>by kernel_rfl) .nil) λp s=>(.of @Ga0 (λF _ _ _ _ _=>by unfold Ga0;(repeat' apply m8 (f:=F))<;>rfl) (by kernel_rfl))
structure Wa4 where
 is7:Int
structure qa0 where
 is3:Int
 ab5:List Int
 is8:Int
noncomputable def lc8(p:Wa4)(s:qa0):St:=⟨ra 3 (i s.is3::.unk::.unk::eL tI s.ab5::i p.is7::i s.is8::ra 14 []),[]⟩
noncomputable def Ga1{α:Type}(k:qa0->α)(e:Nat->α)(z:α)(p:Wa4)(s:qa0):α:=let t1:=(lp (Oa1 (⟨rt tI s.ab5,p.is7,s.is8⟩:Ja7)) (⟨s.is3,gL tI s.ab5 s.is8.toNat⟩:pa9));(sl (decide (s.is8<p.is7)) (sl (inB s.is8 (List.length s.ab5)) (sl ((cnE tI s.ab5)&&true) (sl (Nat.beq t1.1 1) (k ⟨t1.2.is3,rt tI s.ab5,W (s.is8+1)⟩) z) z) z) (e 1))
noncomputable def Ca3(p:Wa4)(s:qa0):Stp qa0:=Ga1 .next .exit .fail p s
noncomputable def Ob5:Lo Wa4 qa0:=⟨En ac8,0,Ge5,[1,1,0,1,4,4],[3,6,7,8],.s .p (.s .p (.s (.b (.s .p (.b (.u Ob4.ls)))) .p)),[⟨ru2 3 (sIq::sUq::sUq::sLq tI::sIq::sIq::ru2 14 []),[],λa H=>(⟨aIq a 7⟩,⟨aIq a 3,aLq tI a 6,aIq a 8⟩)⟩],Ca3,[(some 0,λp s=>upq (lc8 p s) [(9,b (decide (s.is8<p.is7)))])],lc8⟩
theorem md6:Ob5.Ok:=Lo.ok [Ob4.pr] (by kernel_rfl) (.cons md5 .nil) rfl (.cons (λa H=>by kernel_rfl) .nil) λp s=>(.of @Ga1 (λF _ _ _ _ _=>by unfold Ga1;(repeat' apply m8 (f:=F))<;>rfl) (by kernel_rfl))
noncomputable def vb1(x:List Int):Option (b7×List b9):=let t1:=(lp (Ca3 (⟨(↑(List.length x):Int)⟩:Wa4)) (⟨0,rt tI x,0⟩:qa0));(sl ((cnE tI x)&&true) (sl (Nat.beq t1.1 1) (some ((i (if (W (0-t1.2.is3))>t1.2.is3 then (W (0-t1.2.is3)) else t1.2.is3)),[])) none) none)
noncomputable def Ob6(x:List Int):Int:=N9 (one r1I) (vb1 x)
noncomputable def Ob7(x:List Int):Bool:=okO (one r1I) (vb1 x)
noncomputable def ad7:Sum:=V1 (R5 tI) (λx=>.guard (Ob7 x) (.ret ((one r1I).enc (Ob6 x),[])))
theorem Qd6:g7 prog G 222 ad7:=Fa2 (bd Lf7 Dd1) (one r1I) (o:=vb1) λx=>xa3 (.s .p (.s .p (.s (.s .p (.b (.u Ob5.ls))) .p))) [Ob5.pr] (by kernel_rfl) (.cons md6 .nil) (by kernel_rfl)
noncomputable def Dd2:List (Nat×Sum):=[(142,lc6),(83,ac7),(116,yc3),(34,Lc6),(222,ad7)]
theorem md7:i9 prog G Dd2:=⟨ad6,yc2,md3,Cd9,Qd6,trivial⟩
noncomputable def hb8(x:Tp):Option (b7×List b9):=let t1:=(U5 x.q.n x.r.n);let t3:=(pa8 t1 x.p.b);let t4:=(wa6 (⟨0,0,0⟩:V3) t3);let t5:=(U5 x.r.n x.p.n);let t7:=(pa8 t5 x.q.b);let t8:=(wa6 t4 t7);let t9:=(U5 x.p.n x.q.n);let t10:=(Ta5 x.r.n t9);let t11:=(pa8 t9 x.r.b);let t12:=(wa6 t8 t11);let t13:=(Ob6 [t12.x,t12.y,t12.z,t10]);(sl (t10==0) (some (.tup [.agg [i 0,i 0,i 0,i 0],b false],[])) (sl (Ob7 [t12.x,t12.y,t12.z,t10]) (sl (decide (t10<0)) (sl ((W (0-t13))==0) none (sl ((W (0-t13))==0) none (sl ((W (0-t13))==0) none (sl ((W (0-t13))==0) none (some (.tup [.agg [i (W (Int.tdiv t12.x (W (0-t13)))),i (W (Int.tdiv t12.y (W (0-t13)))),i (W (Int.tdiv t12.z (W (0-t13)))),i (W (Int.tdiv t10 (W (0-t13))))],b true],[])))))) (sl (t13==0) none (sl (t13==0) none (sl (t13==0) none (sl (t13==0) none (some (.tup [.agg [i (W (Int.tdiv t12.x t13)),i (W (Int.tdiv t12.y t13)),i (W (Int.tdiv t12.z t13)),i (W (Int.tdiv t10 t13))],b true],[]))))))) none))
noncomputable def hb9(x:Tp):Pt×Bool:=N9 (two r1X r1B) (hb8 x)
noncomputable def ib0(x:Tp):Bool:=okO (two r1X r1B) (hb8 x)
noncomputable def Lc7:Sum:=V1 (fa0 tY) (λx=>.guard (ib0 x) (.ret ((two r1X r1B).enc (hb9 x),[])))
theorem Dd3:g7 prog G 195 Lc7:=Fa2 (bd Kf8 md7) (two r1X r1B) (o:=hb8) λx=>y5 (by kernel_rfl)
structure Qa4 where
 (Ba7 Ba8 Ba9 Ub3 j8 d8 j9 k8:Int)
noncomputable def Gc0:List (Nat×Sum):=[(153,Cb1)]
theorem yc4:i9 prog G Gc0:=⟨Ob3,trivial⟩
structure za5 where
 bs0:Bool
noncomputable def za6{α:Type}(kk:za5->α)(x:Qa4):α:=let t1:=(wa7 (⟨(⟨x.Ba7,x.Ba8,x.Ba9⟩:V3),x.Ub3⟩:Pln) (⟨x.j8,x.d8,x.j9,x.k8⟩:Pt));(kk ⟨decide (t1<0)⟩)
noncomputable def lb4(x:Qa4):za5:=za6 (λr=>r) x
noncomputable def bb6(x:Qa4)(r:za5):DT (b7×List b9):=.ret (b r.bs0,[⟨0,4,[[i x.j8,i x.d8,i x.j9,i x.k8]],true,false,0⟩])
theorem Pc1{α β:Type}(F:α->β)(kk:za5->α)(x:Qa4):F (za6 kk x)=za6 (λr=>F (kk r)) x:=by unfold za6;(repeat' apply m8 (f:=F))<;>rfl
noncomputable def Sb5:Sum:=Va6 ⟨[.agg (kLq 4),sPq 0],[⟨0,4,true,some [kLq 4]⟩],λa H=>(⟨cIq a 0 0,cIq a 0 1,cIq a 0 2,cIq a 0 3,hIq H 0 0 0,hIq H 0 0 1,hIq H 0 0 2,hIq H 0 0 3⟩,())⟩ (λx=>bb6 x (lb4 x))
theorem Gc1:g7 prog G 172 Sb5:=M9 (enc:=λx=>⟨[.agg [i x.Ba7,i x.Ba8,i x.Ba9,i x.Ub3],.ptr 0 0 0 0],[⟨0,4,[[i x.j8,i x.d8,i x.j9,i x.k8]],true,false,0⟩]⟩) (λa H=>by kernel_rfl) (bd Jf8 yc4) λx=>y5 (Qha (b:=za6 (λr=>(bb6 x r).run) x) (by kernel_rfl) (Pc1 (λr=>(bb6 x r).run) (λr=>r) x).symm)
structure Y9 where
 d7:List Pln
 (j8 d8 j9 k8:Int)
noncomputable def Ga2:List (Nat×Sum):=[(172,Sb5)]
theorem ob8:i9 prog G Ga2:=⟨Gc1,trivial⟩
structure L6 where
 d7:List Pln
 (is7 j8 d8 j9 k8:Int)
structure p6 where
 is8:Int
noncomputable def za7(p:L6)(s:p6):St:=⟨eL tP p.d7::.fn 172 [.ptr 0 0 0 0]::ra 5 (i p.is7::i s.is8::ra 10 []),[⟨0,4,[[i p.j8,i p.d8,i p.j9,i p.k8]],true,false,0⟩]⟩
noncomputable def G4{α:Type}(k:p6->α)(e:Nat->α)(z:α)(p:L6)(s:p6):α:=let t1:=(lb4 ⟨(gL tP p.d7 s.is8.toNat).n.x,(gL tP p.d7 s.is8.toNat).n.y,(gL tP p.d7 s.is8.toNat).n.z,(gL tP p.d7 s.is8.toNat).b,p.j8,p.d8,p.j9,p.k8⟩);(sl (decide (s.is8<p.is7)) (sl (inB s.is8 (List.length p.d7)) (sl t1.bs0 (e 1) (k ⟨W (s.is8+1)⟩)) z) (e 2))
noncomputable def I9(p:L6)(s:p6):Stp p6:=G4 .next .exit .fail p s
noncomputable def ia0:Lo L6 p6:=⟨En Ga2,1,Pd3,[1,0,1,4,4],[0,1,7,8],.p,[⟨sLq tP::.fn 172 [.o (.ptr 0 0 0 0)]::ru2 5 (sIq::sIq::ru2 10 []),[⟨0,4,true,some [kLq 4]⟩],λa H=>(⟨aLq tP a 0,aIq a 7,hIq H 0 0 0,hIq H 0 0 1,hIq H 0 0 2,hIq H 0 0 3⟩,⟨aIq a 8⟩)⟩],I9,[(none,λp s=>⟨[i s.is8],[⟨0,4,[[i p.j8,i p.d8,i p.j9,i p.k8]],true,false,0⟩]⟩),(some 0,λp s=>upq (za7 p s) [(9,b (decide (s.is8<p.is7)))])],za7⟩
theorem lb5:ia0.Ok:=Lo.ok [] (by kernel_rfl) .nil rfl (.cons (λa H=>by kernel_rfl) .nil) λp s=>(.of @G4 (λF _ _ _ _ _=>by unfold G4;(repeat' apply m8 (f:=F))<;>rfl) (by kernel_rfl))
structure Z0 where
 alt:Nat
 is0:Int
noncomputable def H5{α:Type}(kk:Z0->α)(x:Y9):α:=let t1:=(lp (I9 (⟨rt tP x.d7,(↑(List.length x.d7):Int),x.j8,x.d8,x.j9,x.k8⟩:L6)) (⟨0⟩:p6));(sl ((cnE tP x.d7)&&true) (sl (Nat.beq t1.1 1) (kk ⟨1,t1.2.is8⟩) (sl (Nat.beq t1.1 2) (kk ⟨1,-1⟩) (kk ⟨0,0⟩))) (kk ⟨0,0⟩))
noncomputable def Z1(x:Y9):Z0:=H5 (λr=>r) x
noncomputable def la1(x:Y9)(r:Z0):DT (b7×List b9):=(.ite (Nat.beq r.alt 1) (.ret (i r.is0,[⟨0,4,[[i x.j8,i x.d8,i x.j9,i x.k8]],true,false,0⟩])) .fail)
theorem zb0{α β:Type}(F:α->β)(kk:Z0->α)(x:Y9):F (H5 kk x)=H5 (λr=>F (kk r)) x:=by unfold H5;(repeat' apply m8 (f:=F))<;>rfl
noncomputable def Ka8:Sum:=Va6 ⟨[sLq tP,.fn 172 [.o (.ptr 0 0 0 0)]],[⟨0,4,true,some [kLq 4]⟩],λa H=>(⟨aLq tP a 0,hIq H 0 0 0,hIq H 0 0 1,hIq H 0 0 2,hIq H 0 0 3⟩,())⟩ (λx=>la1 x (Z1 x))
theorem vb2:g7 prog G 139 Ka8:=M9 (enc:=λx=>⟨[eL tP x.d7,.fn 172 [.ptr 0 0 0 0]],[⟨0,4,[[i x.j8,i x.d8,i x.j9,i x.k8]],true,false,0⟩]⟩) (λa H=>by kernel_rfl) (bd We3 ob8) λx=>xa3 (.s .p (.s (.s .p (.b (.u ia0.ls))) .p)) [ia0.pr] (by kernel_rfl) (.cons lb5 .nil) (Qha (b:=H5 (λr=>(la1 x r).run) x) (by kernel_rfl) (zb0 (λr=>(la1 x r).run) (λr=>r) x).symm)
structure R8 where
 d7:List Pln
 (j8 d8 j9 k8:Int)
noncomputable def ib1:List (Nat×Sum):=[(139,Ka8)]
theorem bb7:i9 prog G ib1:=⟨vb2,trivial⟩
structure R9 where
 alt:Nat
 bs0:Bool
noncomputable def D4{α:Type}(kk:R9->α)(x:R8):α:=let t1:=(Z1 ⟨rt tP x.d7,x.j8,x.d8,x.j9,x.k8⟩);(sl ((cnE tP x.d7)&&true) (sl (Nat.beq t1.alt 1) (kk ⟨1,decide (t1.is0>=0)⟩) (kk ⟨0,false⟩)) (kk ⟨0,false⟩))
noncomputable def fa8(x:R8):R9:=D4 (λr=>r) x
noncomputable def da6(x:R8)(r:R9):DT (b7×List b9):=(.ite (Nat.beq r.alt 1) (.ret (b r.bs0,[⟨0,4,[[i x.j8,i x.d8,i x.j9,i x.k8]],true,false,0⟩])) .fail)
theorem lb6{α β:Type}(F:α->β)(kk:R9->α)(x:R8):F (D4 kk x)=D4 (λr=>F (kk r)) x:=by unfold D4;(repeat' apply m8 (f:=F))<;>rfl
noncomputable def za8:Sum:=Va6 ⟨[sLq tP,.fn 172 [.o (.ptr 0 0 0 0)]],[⟨0,4,true,some [kLq 4]⟩],λa H=>(⟨aLq tP a 0,hIq H 0 0 0,hIq H 0 0 1,hIq H 0 0 2,hIq H 0 0 3⟩,())⟩ (λx=>da6 x (fa8 x))
theorem ib2:g7 prog G 86 za8:=M9 (enc:=λx=>⟨[eL tP x.d7,.fn 172 [.ptr 0 0 0 0]],[⟨0,4,[[i x.j8,i x.d8,i x.j9,i x.k8]],true,false,0⟩]⟩) (λa H=>by kernel_rfl) (bd b86 bb7) λx=>y5 (Qha (b:=D4 (λr=>(da6 x r).run) x) (by kernel_rfl) (lb6 (λr=>(da6 x r).run) (λr=>r) x).symm)
noncomputable def ad8:List (Nat×Sum):=[(86,za8)]
theorem Pc2:i9 prog G ad8:=⟨ib2,trivial⟩
noncomputable def Oa2(x:List Pln)(y:Pt):Option (b7×List b9):=let t1:=(fa8 ⟨rt tP x,y.px,y.py,y.pz,y.pw⟩);(sl ((cnE tP x)&&true) (sl (Nat.beq t1.alt 1) (some (b (!t1.bs0),[])) none) none)
noncomputable def Ca4(x:List Pln)(y:Pt):Bool:=N9 (one r1B) (Oa2 x y)
noncomputable def Ca5(x:List Pln)(y:Pt):Bool:=okO (one r1B) (Oa2 x y)
noncomputable def lc9:Sum:=ta8 (R5 tP) (fa0 tX) (λx y=>.guard (Ca5 x y) (.ret ((one r1B).enc (Ca4 x y),[])))
theorem ad9:g7 prog G 115 lc9:=Eb2 (bd Gf5 Pc2) (one r1B) (o:=Oa2) λx y=>y5 (by kernel_rfl)
noncomputable def Oa3:List (Nat×Sum):=[]
theorem zb1:i9 prog G Oa3:=trivial
@[reducible] noncomputable def Ta6:Sum:=Hb5 (En Oa3) gf5
theorem Eb6:g7 prog G 221 Ta6:=bd Lf6 zb1
noncomputable def Wa5:List (Nat×Sum):=[(221,Ta6)]
theorem Jb4:i9 prog G Wa5:=⟨Eb6,trivial⟩
@[reducible] noncomputable def ab1:Sum:=Hb5 (En Wa5) ff8
theorem Ob8:g7 prog G 194 ab1:=bd Kf7 Jb4
noncomputable def ia1:List (Nat×Sum):=[(195,Lc7),(115,lc9),(194,ab1)]
theorem Jb5:i9 prog G ia1:=⟨Dd3,ad9,Ob8,trivial⟩
structure l0 where
 is3:Int
 y8:List Pln
 (ra5 p4:Int)
 qd1:Nat
 Lb6:Nat->List b7
 (Jc8 Da8:Int)
 Re1:Nat
 yb7:Nat->List b7
 he8:Int
 f0:List Pln
 (aa5 aa6 aa7 aa8 fb9 gb0 gb1 Rb8:Int)
 Ka6:List Pln
structure l5 where
 ph:Nat
 Ea7:Int
 rb1:Nat
 (eh6 eh7:List (List b7))
noncomputable def Ka9(p:l0)(s:l5):St:=⟨.unk::.ptr 0 0 0 0::.unk::i p.is3::.ptr 1 0 0 0::.unk::.ptr 2 0 0 0::.unk::.unk::eL tP p.y8::i p.ra5::i p.p4::ra 7 (.tree 4 p.qd1 p.Lb6::i p.Jc8::i p.Da8::ra 9 (.tree 4 p.Re1 p.yb7::i p.he8::i s.Ea7::ra 13 (i 0::.unk::.ptr 3 0 0 0::.v (.slice none 0 0)::.ptr 4 0 0 0::.ptr 5 0 0 0::ra 31 []))),[⟨0,1,[[eL tP p.f0]],true,false,0⟩,⟨0,4,[[i p.aa5,i p.aa6,i p.aa7,i p.aa8]],true,false,0⟩,⟨0,4,[[i p.fb9,i p.gb0,i p.gb1,i p.Rb8]],true,false,0⟩,⟨0,1,[[eL tP p.Ka6]],true,false,0⟩,⟨0,0,[[.v (.slice none 0 0)]],true,false,0⟩,⟨0,0,[[.ptr 6 0 0 0]],true,false,0⟩,⟨182,0,[],true,false,0⟩]⟩
noncomputable def La0(p:l0)(s:l5):St:=⟨.unk::.ptr 0 0 0 0::.unk::i p.is3::.ptr 1 0 0 0::.unk::.ptr 2 0 0 0::.unk::.unk::eL tP p.y8::i p.ra5::i p.p4::ra 7 (.tree 4 p.qd1 p.Lb6::i p.Jc8::i p.Da8::ra 9 (.tree 4 p.Re1 p.yb7::i p.he8::i s.Ea7::ra 13 (i 0::.unk::.ptr 3 0 0 0::.v (.slice none 0 0)::.ptr 4 0 0 0::.ptr 5 0 0 0::ra 31 []))),[⟨0,1,[[eL tP p.f0]],true,false,0⟩,⟨0,4,[[i p.aa5,i p.aa6,i p.aa7,i p.aa8]],true,false,0⟩,⟨0,4,[[i p.fb9,i p.gb0,i p.gb1,i p.Rb8]],true,false,0⟩,⟨0,1,[[eL tP p.Ka6]],true,false,0⟩,⟨0,0,[[.sl 6 0 s.rb1 0]],true,false,0⟩,⟨0,0,[[.ptr 7 0 0 0]],true,false,0⟩,⟨136,4,s.eh6,true,false,0⟩,⟨182,0,s.eh7,true,false,0⟩]⟩
noncomputable def Eb7(p:l0)(s:l5):St:=(sel (Nat.beq s.ph 1) (La0 p s) (Ka9 p s))
noncomputable def C5{α:Type}(k:l5->α)(e:Nat->α)(z:α)(p:l0)(s:l5):α:=let t1:=(hb9 (⟨(⟨(⟨p.aa5,p.aa6,p.aa7⟩:V3),p.aa8⟩:Pln),(⟨(⟨p.fb9,p.gb0,p.gb1⟩:V3),p.Rb8⟩:Pln),(⟨(⟨toI (hdA (p.yb7 s.Ea7.toNat)),toI (hdA (tlA (p.yb7 s.Ea7.toNat))),toI (hdA (tlA (tlA (p.yb7 s.Ea7.toNat))))⟩:V3),toI (hdA (tlA (tlA (tlA (p.yb7 s.Ea7.toNat)))))⟩:Pln)⟩:Tp));let t2:=(Ca4 (rt tP p.Ka6) t1.1);(sl (decide (s.Ea7<p.he8)) (sl (inB s.Ea7 p.Re1) (sl ((Nat.ble 4 (len (p.yb7 s.Ea7.toNat)))&&(na9 [CK.int .i64,CK.int .i64,CK.int .i64,CK.int .i64] (p.yb7 s.Ea7.toNat))) (sl (ib0 (⟨(⟨(⟨p.aa5,p.aa6,p.aa7⟩:V3),p.aa8⟩:Pln),(⟨(⟨p.fb9,p.gb0,p.gb1⟩:V3),p.Rb8⟩:Pln),(⟨(⟨toI (hdA (p.yb7 s.Ea7.toNat)),toI (hdA (tlA (p.yb7 s.Ea7.toNat))),toI (hdA (tlA (tlA (p.yb7 s.Ea7.toNat))))⟩:V3),toI (hdA (tlA (tlA (tlA (p.yb7 s.Ea7.toNat)))))⟩:Pln)⟩:Tp)) (sl t1.2 (sl (!(tc8 4 [(0,.int .i64),(1,.int .i64),(2,.int .i64),(3,.int .i64)] [i t1.1.px,i t1.1.py,i t1.1.pz,i t1.1.pw] [])) (sl (okE tP p.Ka6) (sl (Ca5 (rt tP p.Ka6) t1.1) (sl t2 (k ⟨1,W (s.Ea7+1),1,[[i t1.1.px,i t1.1.py,i t1.1.pz,i t1.1.pw]],Db6 [(0,.int .i64),(1,.int .i64),(2,.int .i64),(3,.int .i64)] [i t1.1.px,i t1.1.py,i t1.1.pz,i t1.1.pw] [i t1.1.px,i t1.1.py,i t1.1.pz,i t1.1.pw,b true] []⟩) (k ⟨0,W (s.Ea7+1),0,[],[]⟩)) z) z) (k ⟨0,W (s.Ea7+1),0,[],[]⟩)) (k ⟨0,W (s.Ea7+1),0,[],[]⟩)) z) z) z) (e 1))
noncomputable def C6{α:Type}(k:l5->α)(e:Nat->α)(z:α)(p:l0)(s:l5):α:=let t1:=(hb9 (⟨(⟨(⟨p.aa5,p.aa6,p.aa7⟩:V3),p.aa8⟩:Pln),(⟨(⟨p.fb9,p.gb0,p.gb1⟩:V3),p.Rb8⟩:Pln),(⟨(⟨toI (hdA (p.yb7 s.Ea7.toNat)),toI (hdA (tlA (p.yb7 s.Ea7.toNat))),toI (hdA (tlA (tlA (p.yb7 s.Ea7.toNat))))⟩:V3),toI (hdA (tlA (tlA (tlA (p.yb7 s.Ea7.toNat)))))⟩:Pln)⟩:Tp));let t2:=(Ca4 (rt tP p.Ka6) t1.1);(sl (decide (s.Ea7<p.he8)) (sl (inB s.Ea7 p.Re1) (sl ((Nat.ble 4 (len (p.yb7 s.Ea7.toNat)))&&(na9 [CK.int .i64,CK.int .i64,CK.int .i64,CK.int .i64] (p.yb7 s.Ea7.toNat))) (sl (ib0 (⟨(⟨(⟨p.aa5,p.aa6,p.aa7⟩:V3),p.aa8⟩:Pln),(⟨(⟨p.fb9,p.gb0,p.gb1⟩:V3),p.Rb8⟩:Pln),(⟨(⟨toI (hdA (p.yb7 s.Ea7.toNat)),toI (hdA (tlA (p.yb7 s.Ea7.toNat))),toI (hdA (tlA (tlA (p.yb7 s.Ea7.toNat))))⟩:V3),toI (hdA (tlA (tlA (tlA (p.yb7 s.Ea7.toNat)))))⟩:Pln)⟩:Tp)) (sl t1.2 (sl (!(tc8 4 [(0,.int .i64),(1,.int .i64),(2,.int .i64),(3,.int .i64)] [i t1.1.px,i t1.1.py,i t1.1.pz,i t1.1.pw] s.eh7)) (sl (okE tP p.Ka6) (sl (Ca5 (rt tP p.Ka6) t1.1) (sl t2 (sl (Nat.beq s.rb1 (len s.eh6)&&Nat.ble ((s.rb1+1)*32) room) (k ⟨1,W (s.Ea7+1),s.rb1+1,app s.eh6 [[i t1.1.px,i t1.1.py,i t1.1.pz,i t1.1.pw]],Db6 [(0,.int .i64),(1,.int .i64),(2,.int .i64),(3,.int .i64)] [i t1.1.px,i t1.1.py,i t1.1.pz,i t1.1.pw] [i t1.1.px,i t1.1.py,i t1.1.pz,i t1.1.pw,b true] s.eh7⟩) z) (k ⟨1,W (s.Ea7+1),s.rb1,s.eh6,s.eh7⟩)) z) z) (k ⟨1,W (s.Ea7+1),s.rb1,s.eh6,s.eh7⟩)) (k ⟨1,W (s.Ea7+1),s.rb1,s.eh6,s.eh7⟩)) z) z) z) (e 2))
noncomputable def A5(p:l0)(s:l5):Stp l5:=(sel (Nat.beq s.ph 1) (C6 .next .exit .fail p s) (C5 .next .exit .fail p s))
noncomputable def ua4:Lo l0 l5:=⟨En ia1,0,ke6,[1,1,1,0,1,4,4,1,4,4,1,1,0,4,1,1,4,4,1,1,0,4,1,1,4,4],[1,3,4,6,9,10,11,19,20,21,31,32,33,47,49,50,51,52],.p,[⟨sUq::sPq 0::sUq::sIq::sPq 1::sUq::sPq 2::sUq::sUq::sLq tP::sIq::sIq::ru2 7 (sTq 4::sIq::sIq::ru2 9 (sTq 4::sIq::sIq::ru2 13 (.s (.o (.lit .i64 0))::sUq::sPq 3::.s (.o .nil)::sPq 4::sPq 5::ru2 31 []))),[⟨0,1,true,some [[.c 4 (nL tP)]]⟩,⟨0,4,true,some [kLq 4]⟩,⟨0,4,true,some [kLq 4]⟩,⟨0,1,true,some [[.c 4 (nL tP)]]⟩,⟨0,0,true,some [[.o .nil]]⟩,⟨0,0,true,some [[.o (.ptr 6 0 0 0)]]⟩,⟨182,0,true,some []⟩],λa H=>(⟨aIq a 3,aLq tP a 9,aIq a 10,aIq a 11,aNq a 19,aGq a 19,aIq a 20,aIq a 21,aNq a 31,aGq a 31,aIq a 32,hLq tP H 0 0 0,hIq H 1 0 0,hIq H 1 0 1,hIq H 1 0 2,hIq H 1 0 3,hIq H 2 0 0,hIq H 2 0 1,hIq H 2 0 2,hIq H 2 0 3,hLq tP H 3 0 0⟩,⟨0,aIq a 33,0,[],[]⟩)⟩,⟨sUq::sPq 0::sUq::sIq::sPq 1::sUq::sPq 2::sUq::sUq::sLq tP::sIq::sIq::ru2 7 (sTq 4::sIq::sIq::ru2 9 (sTq 4::sIq::sIq::ru2 13 (.s (.o (.lit .i64 0))::sUq::sPq 3::.s (.o .nil)::sPq 4::sPq 5::ru2 31 []))),[⟨0,1,true,some [[.c 4 (nL tP)]]⟩,⟨0,4,true,some [kLq 4]⟩,⟨0,4,true,some [kLq 4]⟩,⟨0,1,true,some [[.c 4 (nL tP)]]⟩,⟨0,0,true,some [[.o (.sl 6 0 (some 0) none)]]⟩,⟨0,0,true,some [[.o (.ptr 7 0 0 0)]]⟩,⟨136,4,true,none⟩,⟨182,0,true,none⟩],λa H=>(⟨aIq a 3,aLq tP a 9,aIq a 10,aIq a 11,aNq a 19,aGq a 19,aIq a 20,aIq a 21,aNq a 31,aGq a 31,aIq a 32,hLq tP H 0 0 0,hIq H 1 0 0,hIq H 1 0 1,hIq H 1 0 2,hIq H 1 0 3,hIq H 2 0 0,hIq H 2 0 1,hIq H 2 0 2,hIq H 2 0 3,hLq tP H 3 0 0⟩,⟨1,aIq a 33,slN (slT (rwT (elT H 4) 0) 0),elT H 6,elT H 7⟩)⟩],A5,[(some 4,λp s=>upq (Ka9 p s) [(34,b (decide (s.Ea7<p.he8)))]),(some 4,λp s=>upq (La0 p s) [(34,b (decide (s.Ea7<p.he8)))])],Eb7⟩
theorem Eb8:ua4.OkM:=Lo.okM [] (by kernel_rfl) .nil rfl (.cons (λa H=>by kernel_rfl) (.cons (λa H=>by kernel_rfl) .nil)) λp s=>(.sel (Nat.beq s.ph 1) (.of @C6 (λF _ _ _ _ _=>by unfold C6;(repeat' apply m8 (f:=F))<;>rfl) (by kernel_rfl)) (.of @C5 (λF _ _ _ _ _=>by unfold C5;(repeat' apply m8 (f:=F))<;>rfl) (by kernel_rfl)))
structure l6 where
 (is3 ra5 p4:Int)
 qd1:Nat
 Lb6:Nat->List b7
 (Jc8 aa5 aa6 aa7 aa8:Int)
structure l7 where
 ph:Nat
 y8:List Pln
 Da8:Int
 (f0 fa5:List Pln)
 Uc3:Nat
 (eh5 eh6:List (List b7))
noncomputable def La1(p:l6)(s:l7):St:=⟨.unk::.ptr 0 0 0 0::.unk::i p.is3::.ptr 1 0 0 0::ra 4 (eL tP s.y8::i p.ra5::i p.p4::ra 7 (.tree 4 p.qd1 p.Lb6::i p.Jc8::i s.Da8::ra 25 (i 0::.unk::.ptr 2 0 0 0::.v (.slice none 0 0)::.ptr 3 0 0 0::.ptr 4 0 0 0::ra 31 []))),[⟨0,1,[[eL tP s.f0]],true,false,0⟩,⟨0,4,[[i p.aa5,i p.aa6,i p.aa7,i p.aa8]],true,false,0⟩,⟨0,1,[[eL tP s.fa5]],true,false,0⟩,⟨0,0,[[.v (.slice none 0 0)]],true,false,0⟩,⟨0,0,[[.ptr 5 0 0 0]],true,false,0⟩,⟨182,0,[],true,false,0⟩]⟩
noncomputable def La2(p:l6)(s:l7):St:=⟨.unk::.ptr 0 0 0 0::.unk::i p.is3::.ptr 1 0 0 0::ra 4 (eL tP s.y8::i p.ra5::i p.p4::ra 7 (.tree 4 p.qd1 p.Lb6::i p.Jc8::i s.Da8::ra 25 (i 0::.unk::.ptr 2 0 0 0::.v (.slice none 0 0)::.ptr 3 0 0 0::.ptr 4 0 0 0::ra 31 []))),[⟨0,1,[[eL tP s.f0]],true,false,0⟩,⟨0,4,[[i p.aa5,i p.aa6,i p.aa7,i p.aa8]],true,false,0⟩,⟨0,1,[[eL tP s.fa5]],true,false,0⟩,⟨0,0,[[.sl 5 0 s.Uc3 0]],true,false,0⟩,⟨0,0,[[.ptr 6 0 0 0]],true,false,0⟩,⟨136,4,s.eh5,true,false,0⟩,⟨182,0,s.eh6,true,false,0⟩]⟩
noncomputable def Eb9(p:l6)(s:l7):St:=(sel (Nat.beq s.ph 1) (La2 p s) (La1 p s))
noncomputable def C7{α:Type}(k:l7->α)(e:Nat->α)(z:α)(p:l6)(s:l7):α:=let t1:=(lp (A5 (⟨p.is3,rt tP s.y8,p.ra5,p.p4,p.qd1,p.Lb6,p.Jc8,s.Da8,(List.length s.f0)-(W ((W (p.is3+s.Da8))+2)).toNat,(λk=>(λk=>(tP).row (gL tP s.f0 k)) ((W ((W (p.is3+s.Da8))+2)).toNat+k)),(↑((List.length s.f0)-(W ((W (p.is3+s.Da8))+2)).toNat):Int),rt tP s.f0,p.aa5,p.aa6,p.aa7,p.aa8,toI (hdA (p.Lb6 s.Da8.toNat)),toI (hdA (tlA (p.Lb6 s.Da8.toNat))),toI (hdA (tlA (tlA (p.Lb6 s.Da8.toNat)))),toI (hdA (tlA (tlA (tlA (p.Lb6 s.Da8.toNat))))),rt tP s.fa5⟩:l0)) (⟨0,0,0,[],[]⟩:l5));(sl (decide (s.Da8<p.Jc8)) (sl (inB s.Da8 p.qd1) (sl ((Nat.ble 4 (len (p.Lb6 s.Da8.toNat)))&&(na9 [CK.int .i64,CK.int .i64,CK.int .i64,CK.int .i64] (p.Lb6 s.Da8.toNat))) (sl (inB (W ((W (p.is3+s.Da8))+2)) ((List.length s.f0)+1)) (sl ((cnE tP s.y8)&&((cnE tP s.f0)&&((cnE tP s.fa5)&&true))) (sl (Nat.beq t1.1 1) (k ⟨0,rt tP s.y8,W (s.Da8+1),rt tP s.f0,rt tP s.fa5,0,[],[]⟩) (sl (Nat.beq t1.1 2) (k ⟨1,rt tP s.y8,W (s.Da8+1),rt tP s.f0,rt tP s.fa5,t1.2.rb1,t1.2.eh6,t1.2.eh7⟩) z)) z) z) z) z) (e 1))
noncomputable def C8{α:Type}(k:l7->α)(e:Nat->α)(z:α)(p:l6)(s:l7):α:=let t1:=(lp (A5 (⟨p.is3,rt tP s.y8,p.ra5,p.p4,p.qd1,p.Lb6,p.Jc8,s.Da8,(List.length s.f0)-(W ((W (p.is3+s.Da8))+2)).toNat,(λk=>(λk=>(tP).row (gL tP s.f0 k)) ((W ((W (p.is3+s.Da8))+2)).toNat+k)),(↑((List.length s.f0)-(W ((W (p.is3+s.Da8))+2)).toNat):Int),rt tP s.f0,p.aa5,p.aa6,p.aa7,p.aa8,toI (hdA (p.Lb6 s.Da8.toNat)),toI (hdA (tlA (p.Lb6 s.Da8.toNat))),toI (hdA (tlA (tlA (p.Lb6 s.Da8.toNat)))),toI (hdA (tlA (tlA (tlA (p.Lb6 s.Da8.toNat))))),rt tP s.fa5⟩:l0)) (⟨1,0,s.Uc3,s.eh5,s.eh6⟩:l5));(sl (decide (s.Da8<p.Jc8)) (sl (inB s.Da8 p.qd1) (sl ((Nat.ble 4 (len (p.Lb6 s.Da8.toNat)))&&(na9 [CK.int .i64,CK.int .i64,CK.int .i64,CK.int .i64] (p.Lb6 s.Da8.toNat))) (sl (inB (W ((W (p.is3+s.Da8))+2)) ((List.length s.f0)+1)) (sl ((cnE tP s.y8)&&((cnE tP s.f0)&&((cnE tP s.fa5)&&true))) (sl (Nat.beq t1.1 1) (k ⟨0,rt tP s.y8,W (s.Da8+1),rt tP s.f0,rt tP s.fa5,0,[],[]⟩) (sl (Nat.beq t1.1 2) (k ⟨1,rt tP s.y8,W (s.Da8+1),rt tP s.f0,rt tP s.fa5,t1.2.rb1,t1.2.eh6,t1.2.eh7⟩) z)) z) z) z) z) (e 2))
noncomputable def A6(p:l6)(s:l7):Stp l7:=(sel (Nat.beq s.ph 1) (C8 .next .exit .fail p s) (C7 .next .exit .fail p s))
noncomputable def ua5:Lo l6 l7:=⟨En ia1,0,ke6,[1,1,1,0,1,4,4,1,4,4,1,1,0,4,1,1,4,4],[1,3,4,9,10,11,19,20,21,47,49,50,51,52],.s .p (.s .p (.s (.b (.s .p (.s .p (.b (.u ua4.lsM))))) .p)),[⟨sUq::sPq 0::sUq::sIq::sPq 1::ru2 4 (sLq tP::sIq::sIq::ru2 7 (sTq 4::sIq::sIq::ru2 25 (.s (.o (.lit .i64 0))::sUq::sPq 2::.s (.o .nil)::sPq 3::sPq 4::ru2 31 []))),[⟨0,1,true,some [[.c 4 (nL tP)]]⟩,⟨0,4,true,some [kLq 4]⟩,⟨0,1,true,some [[.c 4 (nL tP)]]⟩,⟨0,0,true,some [[.o .nil]]⟩,⟨0,0,true,some [[.o (.ptr 5 0 0 0)]]⟩,⟨182,0,true,some []⟩],λa H=>(⟨aIq a 3,aIq a 10,aIq a 11,aNq a 19,aGq a 19,aIq a 20,hIq H 1 0 0,hIq H 1 0 1,hIq H 1 0 2,hIq H 1 0 3⟩,⟨0,aLq tP a 9,aIq a 21,hLq tP H 0 0 0,hLq tP H 2 0 0,0,[],[]⟩)⟩,⟨sUq::sPq 0::sUq::sIq::sPq 1::ru2 4 (sLq tP::sIq::sIq::ru2 7 (sTq 4::sIq::sIq::ru2 25 (.s (.o (.lit .i64 0))::sUq::sPq 2::.s (.o .nil)::sPq 3::sPq 4::ru2 31 []))),[⟨0,1,true,some [[.c 4 (nL tP)]]⟩,⟨0,4,true,some [kLq 4]⟩,⟨0,1,true,some [[.c 4 (nL tP)]]⟩,⟨0,0,true,some [[.o (.sl 5 0 (some 0) none)]]⟩,⟨0,0,true,some [[.o (.ptr 6 0 0 0)]]⟩,⟨136,4,true,none⟩,⟨182,0,true,none⟩],λa H=>(⟨aIq a 3,aIq a 10,aIq a 11,aNq a 19,aGq a 19,aIq a 20,hIq H 1 0 0,hIq H 1 0 1,hIq H 1 0 2,hIq H 1 0 3⟩,⟨1,aLq tP a 9,aIq a 21,hLq tP H 0 0 0,hLq tP H 2 0 0,slN (slT (rwT (elT H 3) 0) 0),elT H 5,elT H 6⟩)⟩],A6,[(some 2,λp s=>upq (La1 p s) [(22,b (decide (s.Da8<p.Jc8)))]),(some 2,λp s=>upq (La2 p s) [(22,b (decide (s.Da8<p.Jc8)))])],Eb9⟩
theorem Fb0:ua5.OkM:=Lo.okM [ua4.prM] (by kernel_rfl) (.cons Eb8 .nil) rfl (.cons (λa H=>by kernel_rfl) (.cons (λa H=>by kernel_rfl) .nil)) λp s=>(.sel (Nat.beq s.ph 1) (.of @C8 (λF _ _ _ _ _=>by unfold C8;(repeat' apply m8 (f:=F))<;>rfl) (by kernel_rfl)) (.of @C7 (λF _ _ _ _ _=>by unfold C7;(repeat' apply m8 (f:=F))<;>rfl) (by kernel_rfl)))
structure u7 where
 ra5:Int
structure n8 where
 ph:Nat
 y8:List Pln
 p4:Int
 (f0 sb1:List Pln)
 B5:Nat
 (eh4 eh5:List (List b7))
noncomputable def La3(p:u7)(s:n8):St:=⟨.unk::.ptr 0 0 0 0::ra 7 (eL tP s.y8::i p.ra5::i s.p4::ra 35 (i 0::.unk::.ptr 1 0 0 0::.v (.slice none 0 0)::.ptr 2 0 0 0::.ptr 3 0 0 0::ra 31 [])),[⟨0,1,[[eL tP s.f0]],true,false,0⟩,⟨0,1,[[eL tP s.sb1]],true,false,0⟩,⟨0,0,[[.v (.slice none 0 0)]],true,false,0⟩,⟨0,0,[[.ptr 4 0 0 0]],true,false,0⟩,⟨182,0,[],true,false,0⟩]⟩
noncomputable def La4(p:u7)(s:n8):St:=⟨.unk::.ptr 0 0 0 0::ra 7 (eL tP s.y8::i p.ra5::i s.p4::ra 35 (i 0::.unk::.ptr 1 0 0 0::.v (.slice none 0 0)::.ptr 2 0 0 0::.ptr 3 0 0 0::ra 31 [])),[⟨0,1,[[eL tP s.f0]],true,false,0⟩,⟨0,1,[[eL tP s.sb1]],true,false,0⟩,⟨0,0,[[.sl 4 0 s.B5 0]],true,false,0⟩,⟨0,0,[[.ptr 5 0 0 0]],true,false,0⟩,⟨136,4,s.eh4,true,false,0⟩,⟨182,0,s.eh5,true,false,0⟩]⟩
noncomputable def Fb1(p:u7)(s:n8):St:=(sel (Nat.beq s.ph 1) (La4 p s) (La3 p s))
noncomputable def C9{α:Type}(k:n8->α)(e:Nat->α)(z:α)(p:u7)(s:n8):α:=let t1:=(lp (A6 (⟨s.p4,p.ra5,s.p4,(List.length s.f0)-(W (s.p4+1)).toNat,(λk=>(λk=>(tP).row (gL tP s.f0 k)) ((W (s.p4+1)).toNat+k)),(↑((List.length s.f0)-(W (s.p4+1)).toNat):Int),(gL tP s.y8 s.p4.toNat).n.x,(gL tP s.y8 s.p4.toNat).n.y,(gL tP s.y8 s.p4.toNat).n.z,(gL tP s.y8 s.p4.toNat).b⟩:l6)) (⟨0,rt tP s.y8,0,rt tP s.f0,rt tP s.sb1,0,[],[]⟩:l7));(sl (decide (s.p4<p.ra5)) (sl (inB s.p4 (List.length s.y8)) (sl (inB (W (s.p4+1)) ((List.length s.f0)+1)) (sl ((cnE tP s.y8)&&((cnE tP s.f0)&&((cnE tP s.sb1)&&true))) (sl (Nat.beq t1.1 1) (k ⟨0,t1.2.y8,W (s.p4+1),t1.2.f0,t1.2.fa5,0,[],[]⟩) (sl (Nat.beq t1.1 2) (k ⟨1,t1.2.y8,W (s.p4+1),t1.2.f0,t1.2.fa5,t1.2.Uc3,t1.2.eh5,t1.2.eh6⟩) z)) z) z) z) (e 1))
noncomputable def D0{α:Type}(k:n8->α)(e:Nat->α)(z:α)(p:u7)(s:n8):α:=let t1:=(lp (A6 (⟨s.p4,p.ra5,s.p4,(List.length s.f0)-(W (s.p4+1)).toNat,(λk=>(λk=>(tP).row (gL tP s.f0 k)) ((W (s.p4+1)).toNat+k)),(↑((List.length s.f0)-(W (s.p4+1)).toNat):Int),(gL tP s.y8 s.p4.toNat).n.x,(gL tP s.y8 s.p4.toNat).n.y,(gL tP s.y8 s.p4.toNat).n.z,(gL tP s.y8 s.p4.toNat).b⟩:l6)) (⟨1,rt tP s.y8,0,rt tP s.f0,rt tP s.sb1,s.B5,s.eh4,s.eh5⟩:l7));(sl (decide (s.p4<p.ra5)) (sl (inB s.p4 (List.length s.y8)) (sl (inB (W (s.p4+1)) ((List.length s.f0)+1)) (sl ((cnE tP s.y8)&&((cnE tP s.f0)&&((cnE tP s.sb1)&&true))) (sl (Nat.beq t1.1 1) (k ⟨0,t1.2.y8,W (s.p4+1),t1.2.f0,t1.2.fa5,0,[],[]⟩) (sl (Nat.beq t1.1 2) (k ⟨1,t1.2.y8,W (s.p4+1),t1.2.f0,t1.2.fa5,t1.2.Uc3,t1.2.eh5,t1.2.eh6⟩) z)) z) z) z) (e 2))
noncomputable def A7(p:u7)(s:n8):Stp n8:=(sel (Nat.beq s.ph 1) (D0 .next .exit .fail p s) (C9 .next .exit .fail p s))
noncomputable def ua6:Lo u7 n8:=⟨En ia1,0,ke6,[1,1,1,0,1,4,4,1,4,4],[1,9,10,11,47,49,50,51,52],.s .p (.s .p (.s (.b (.s .p (.s .p (.b (.u ua5.lsM))))) .p)),[⟨sUq::sPq 0::ru2 7 (sLq tP::sIq::sIq::ru2 35 (.s (.o (.lit .i64 0))::sUq::sPq 1::.s (.o .nil)::sPq 2::sPq 3::ru2 31 [])),[⟨0,1,true,some [[.c 4 (nL tP)]]⟩,⟨0,1,true,some [[.c 4 (nL tP)]]⟩,⟨0,0,true,some [[.o .nil]]⟩,⟨0,0,true,some [[.o (.ptr 4 0 0 0)]]⟩,⟨182,0,true,some []⟩],λa H=>(⟨aIq a 10⟩,⟨0,aLq tP a 9,aIq a 11,hLq tP H 0 0 0,hLq tP H 1 0 0,0,[],[]⟩)⟩,⟨sUq::sPq 0::ru2 7 (sLq tP::sIq::sIq::ru2 35 (.s (.o (.lit .i64 0))::sUq::sPq 1::.s (.o .nil)::sPq 2::sPq 3::ru2 31 [])),[⟨0,1,true,some [[.c 4 (nL tP)]]⟩,⟨0,1,true,some [[.c 4 (nL tP)]]⟩,⟨0,0,true,some [[.o (.sl 4 0 (some 0) none)]]⟩,⟨0,0,true,some [[.o (.ptr 5 0 0 0)]]⟩,⟨136,4,true,none⟩,⟨182,0,true,none⟩],λa H=>(⟨aIq a 10⟩,⟨1,aLq tP a 9,aIq a 11,hLq tP H 0 0 0,hLq tP H 1 0 0,slN (slT (rwT (elT H 2) 0) 0),elT H 4,elT H 5⟩)⟩],A7,[(some 0,λp s=>upq (La3 p s) [(12,b (decide (s.p4<p.ra5)))]),(some 0,λp s=>upq (La4 p s) [(12,b (decide (s.p4<p.ra5)))])],Fb1⟩
theorem Fb2:ua6.OkM:=Lo.okM [ua5.prM] (by kernel_rfl) (.cons Fb0 .nil) rfl (.cons (λa H=>by kernel_rfl) (.cons (λa H=>by kernel_rfl) .nil)) λp s=>(.sel (Nat.beq s.ph 1) (.of @D0 (λF _ _ _ _ _=>by unfold D0;(repeat' apply m8 (f:=F))<;>rfl) (by kernel_rfl)) (.of @C9 (λF _ _ _ _ _=>by unfold C9;(repeat' apply m8 (f:=F))<;>rfl) (by kernel_rfl)))
noncomputable def aa9(x:List Pln):Option (b7×List b9):=let t1:=(lp (A7 (⟨(↑(List.length x):Int)⟩:u7)) (⟨0,rt tP x,0,rt tP x,rt tP x,0,[],[]⟩:n8));(sl ((cnE tP x)&&((cnE tP x)&&((cnE tP x)&&true))) (sl (Nat.beq t1.1 1) (some (.v (.slice none 0 0),[])) (sl (Nat.beq t1.1 2) (some (.sl 0 0 t1.2.B5 0,[⟨136,4,t1.2.eh4,true,false,0⟩])) none)) none)
noncomputable def ba0(x:List Pln):List Pt:=N9 (one (r1L tX)) (aa9 x)
noncomputable def ba1(x:List Pln):Bool:=okO (one (r1L tX)) (aa9 x)
noncomputable def Da4:Sum:=V1 (R5 tP) (λx=>.guard (ba1 x) (.ret ((one (r1L tX)).enc (ba0 x),[])))
theorem Wa6:g7 prog G 167 Da4:=Fa2 (bd Jf3 Jb5) (one (r1L tX)) (o:=aa9) λx=>Ge6 (.s .p (.s .p (.s .p (.s (.s .p (.b (.i (.s .p (.b (.u ua6.lsM)))))) .p)))) [ua6.prM] (by kernel_rfl) (.cons Fb2 .nil) (by kernel_rfl)
noncomputable def Sb6:List (Nat×Sum):=[]
theorem Gc2:i9 prog G Sb6:=trivial
structure ua7 where
 is0:Int
 pe2:List Int
 is8:Int
structure O1 where
 is9:Int
noncomputable def Cb2(p:ua7)(s:O1):St:=⟨i p.is0::ra 6 (eL tI p.pe2::i p.is8::i s.is9::ra 13 []),[]⟩
noncomputable def la2{α:Type}(k:O1->α)(e:Nat->α)(z:α)(p:ua7)(s:O1):α:=(sl (decide (s.is9<p.is8)) (sl (inB s.is9 (List.length p.pe2)) (sl (decide ((gL tI p.pe2 s.is9.toNat)<(W (0-p.is0)))) (e 1) (sl (decide ((gL tI p.pe2 s.is9.toNat)>p.is0)) (e 1) (k ⟨W (s.is9+1)⟩))) z) (e 2))
noncomputable def qa1(p:ua7)(s:O1):Stp O1:=la2 .next .exit .fail p s
noncomputable def bb8:Lo ua7 O1:=⟨En Sb6,0,ef7,[1,0,1,4,4],[0,7,8,9],.p,[⟨sIq::ru2 6 (sLq tI::sIq::sIq::ru2 13 []),[],λa H=>(⟨aIq a 0,aLq tI a 7,aIq a 8⟩,⟨aIq a 9⟩)⟩],qa1,[(none,λp s=>⟨[b false],[]⟩),(some 0,λp s=>upq (Cb2 p s) [(10,b (decide (s.is9<p.is8)))])],Cb2⟩
theorem yc5:bb8.Ok:=Lo.ok [] (by kernel_rfl) .nil rfl (.cons (λa H=>by kernel_rfl) .nil) λp s=>(.of @la2 (λF _ _ _ _ _=>by unfold la2;(repeat' apply m8 (f:=F))<;>rfl) (by kernel_rfl))
noncomputable def Ga3(x:Int)(y:List Int):Option (b7×List b9):=let t1:=(lp (qa1 (⟨x,rt tI y,(↑(List.length y):Int)⟩:ua7)) (⟨0⟩:O1));(sl ((cnE tI y)&&true) (sl (Nat.beq t1.1 1) (some (b false,[])) (sl (Nat.beq t1.1 2) (some (b true,[])) none)) none)
noncomputable def Ga4(x:Int)(y:List Int):Bool:=N9 (one r1B) (Ga3 x y)
noncomputable def Ga5(x:Int)(y:List Int):Bool:=okO (one r1B) (Ga3 x y)
noncomputable def ac9:Sum:=ta8 cI (R5 tI) (λx y=>.guard (Ga5 x y) (.ret ((one r1B).enc (Ga4 x y),[])))
theorem Pc3:g7 prog G 138 ac9:=Eb2 (bd Hf6 Gc2) (one r1B) (o:=Ga3) λx y=>xa3 (.s .p (.s (.s .p (.b (.u bb8.ls))) .p)) [bb8.pr] (by kernel_rfl) (.cons yc5 .nil) (by kernel_rfl)
noncomputable def yc6:List (Nat×Sum):=[]
theorem qc3:i9 prog G yc6:=trivial
noncomputable def Ja8(x:Int):Int:=(if (W (0-x))>x then (W (0-x)) else x)
noncomputable def Jb6:Sum:=V1 cI (λx=>.ret ((one r1I).enc (Ja8 x),[]))
theorem yc7:g7 prog G 183 Jb6:=Bb1 (bd Kf3 qc3) λx=>y5 (by kernel_rfl)
noncomputable def bb9:List (Nat×Sum):=[(183,Jb6)]
theorem yc8:i9 prog G bb9:=⟨yc7,trivial⟩
structure fa1 where
 ab5:List Int
 (is7 is8:Int)
structure Q0 where
 (is3 is5:Int)
noncomputable def vb3(p:fa1)(s:Q0):St:=⟨ra 3 (i s.is3::.unk::i s.is5::eL tI p.ab5::i p.is7::i p.is8::ra 15 []),[]⟩
noncomputable def ha3{α:Type}(k:Q0->α)(e:Nat->α)(z:α)(p:fa1)(s:Q0):α:=(sl (decide (s.is5>0)) (sl (s.is5==0) z (k ⟨s.is5,Int.tmod s.is3 s.is5⟩)) (e 1))
noncomputable def ba7(p:fa1)(s:Q0):Stp Q0:=ha3 .next .exit .fail p s
noncomputable def Wa7:Lo fa1 Q0:=⟨En bb9,0,Ge4,[1,1,0,1,4,4,1,1,0,4,1,1,1,4,4],[3,5,6,7,8],.p,[⟨ru2 3 (sIq::sUq::sIq::sLq tI::sIq::sIq::ru2 15 []),[],λa H=>(⟨aLq tI a 6,aIq a 7,aIq a 8⟩,⟨aIq a 3,aIq a 5⟩)⟩],ba7,[(some 2,λp s=>upq (vb3 p s) [(16,i s.is5),(17,b (decide (s.is5>0)))])],vb3⟩
theorem qc4:Wa7.Ok:=Lo.ok [] (by kernel_rfl) .nil rfl (.cons (λa H=>by kernel_rfl) .nil) λp s=>(.of @ha3 (λF _ _ _ _ _=>by unfold ha3;(repeat' apply m8 (f:=F))<;>rfl) (by kernel_rfl))
structure qa2 where
 is7:Int
structure L7 where
 is3:Int
 ab5:List Int
 is8:Int
noncomputable def vb4(p:qa2)(s:L7):St:=⟨ra 3 (i s.is3::.unk::.unk::eL tI s.ab5::i p.is7::i s.is8::ra 15 []),[]⟩
noncomputable def ha4{α:Type}(k:L7->α)(e:Nat->α)(z:α)(p:qa2)(s:L7):α:=let t1:=(Ja8 (gL tI s.ab5 s.is8.toNat));let t2:=(lp (ba7 (⟨rt tI s.ab5,p.is7,s.is8⟩:fa1)) (⟨s.is3,t1⟩:Q0));(sl (decide (s.is8<p.is7)) (sl (inB s.is8 (List.length s.ab5)) (sl ((gL tI s.ab5 s.is8.toNat)==(-9223372036854775808)) (e 1) (sl ((cnE tI s.ab5)&&true) (sl (Nat.beq t2.1 1) (k ⟨t2.2.is3,rt tI s.ab5,W (s.is8+1)⟩) z) z)) z) (e 2))
noncomputable def la3(p:qa2)(s:L7):Stp L7:=ha4 .next .exit .fail p s
noncomputable def Wa8:Lo qa2 L7:=⟨En bb9,0,Ge4,[1,1,0,1,4,4],[3,6,7,8],.s .p (.s .p (.s (.b (.s .p (.s .p (.s .p (.b (.u Wa7.ls)))))) .p)),[⟨ru2 3 (sIq::sUq::sUq::sLq tI::sIq::sIq::ru2 15 []),[],λa H=>(⟨aIq a 7⟩,⟨aIq a 3,aLq tI a 6,aIq a 8⟩)⟩],la3,[(none,λp s=>⟨[i 0],[]⟩),(some 0,λp s=>upq (vb4 p s) [(9,b (decide (s.is8<p.is7)))])],vb4⟩
theorem qc5:Wa8.Ok:=Lo.ok [Wa7.pr] (by kernel_rfl) (.cons qc4 .nil) rfl (.cons (λa H=>by kernel_rfl) .nil) λp s=>(.of @ha4 (λF _ _ _ _ _=>by unfold ha4;(repeat' apply m8 (f:=F))<;>rfl) (by kernel_rfl))
noncomputable def za9(x:List Int):Option (b7×List b9):=let t1:=(lp (la3 (⟨(↑(List.length x):Int)⟩:qa2)) (⟨0,rt tI x,0⟩:L7));(sl ((cnE tI x)&&true) (sl (Nat.beq t1.1 1) (some (i 0,[])) (sl (Nat.beq t1.1 2) (some (i t1.2.is3,[])) none)) none)
noncomputable def Qa5(x:List Int):Int:=N9 (one r1I) (za9 x)
noncomputable def Qa6(x:List Int):Bool:=okO (one r1I) (za9 x)
noncomputable def Sb7:Sum:=V1 (R5 tI) (λx=>.guard (Qa6 x) (.ret ((one r1I).enc (Qa5 x),[])))
theorem Gc3:g7 prog G 186 Sb7:=Fa2 (bd Kf5 yc8) (one r1I) (o:=za9) λx=>xa3 (.s .p (.s .p (.s (.s .p (.b (.u Wa8.ls))) .p))) [Wa8.pr] (by kernel_rfl) (.cons qc5 .nil) (by kernel_rfl)
noncomputable def bd0:List (Nat×Sum):=[(138,ac9),(186,Sb7)]
theorem Pc4:i9 prog G bd0:=⟨Pc3,Gc3,trivial⟩
noncomputable def Oa4(x:Pln):Option (b7×List b9):=let t1:=(Ga4 4608 [x.n.x,x.n.y,x.n.z]);let t2:=(Qa5 [x.n.x,x.n.y,x.n.z]);let t3:=(Ga4 2097152 [x.b]);(sl (Ga5 4608 [x.n.x,x.n.y,x.n.z]) (sl t1 (sl (Qa6 [x.n.x,x.n.y,x.n.z]) (sl (t2==1) (sl (Ga5 2097152 [x.b]) (some (b t3,[])) none) (some (b false,[]))) none) (some (b false,[]))) none)
noncomputable def eb6(x:Pln):Bool:=N9 (one r1B) (Oa4 x)
noncomputable def eb7(x:Pln):Bool:=okO (one r1B) (Oa4 x)
noncomputable def mc0:Sum:=V1 (fa0 tP) (λx=>.guard (eb7 x) (.ret ((one r1B).enc (eb6 x),[])))
theorem bd1:g7 prog G 140 mc0:=Fa2 (bd Hf7 Pc4) (one r1B) (o:=Oa4) λx=>y5 (by kernel_rfl)
noncomputable def Pc5:List (Nat×Sum):=[(140,mc0)]
theorem Gc4:i9 prog G Pc5:=⟨bd1,trivial⟩
noncomputable def Ga6(x:Pln):Option (b7×List b9):=let t1:=(eb6 x);(sl (eb7 x) (some (b (!t1),[])) none)
noncomputable def Wa9(x:Pln):Bool:=N9 (one r1B) (Ga6 x)
noncomputable def Xa0(x:Pln):Bool:=okO (one r1B) (Ga6 x)
noncomputable def bc0:Sum:=V1 (fa0 tP) (λx=>.guard (Xa0 x) (.ret ((one r1B).enc (Wa9 x),[])))
theorem Pc6:g7 prog G 149 bc0:=Fa2 (bd If0 Gc4) (one r1B) (o:=Ga6) λx=>y5 (by kernel_rfl)
structure Z2 where
 d7:List Pln
noncomputable def Ga7:List (Nat×Sum):=[(149,bc0)]
theorem ob9:i9 prog G Ga7:=⟨Pc6,trivial⟩
structure L8 where
 d7:List Pln
 is7:Int
structure p7 where
 is8:Int
noncomputable def Aa0(p:L8)(s:p7):St:=⟨eL tP p.d7::.fn 149 []::ra 5 (i p.is7::i s.is8::ra 10 []),[]⟩
noncomputable def G5{α:Type}(k:p7->α)(e:Nat->α)(z:α)(p:L8)(s:p7):α:=let t1:=(Wa9 (gL tP p.d7 s.is8.toNat));(sl (decide (s.is8<p.is7)) (sl (inB s.is8 (List.length p.d7)) (sl (Xa0 (gL tP p.d7 s.is8.toNat)) (sl t1 (e 1) (k ⟨W (s.is8+1)⟩)) z) z) (e 2))
noncomputable def J0(p:L8)(s:p7):Stp p7:=G5 .next .exit .fail p s
noncomputable def ia2:Lo L8 p7:=⟨En Ga7,0,Pd3,[1,0,1,4,4],[0,1,7,8],.p,[⟨sLq tP::.s (.o (.fn 149))::ru2 5 (sIq::sIq::ru2 10 []),[],λa H=>(⟨aLq tP a 0,aIq a 7⟩,⟨aIq a 8⟩)⟩],J0,[(none,λp s=>⟨[i s.is8],[]⟩),(some 0,λp s=>upq (Aa0 p s) [(9,b (decide (s.is8<p.is7)))])],Aa0⟩
theorem lb7:ia2.Ok:=Lo.ok [] (by kernel_rfl) .nil rfl (.cons (λa H=>by kernel_rfl) .nil) λp s=>(.of @G5 (λF _ _ _ _ _=>by unfold G5;(repeat' apply m8 (f:=F))<;>rfl) (by kernel_rfl))
structure Z3 where
 alt:Nat
 is0:Int
noncomputable def H6{α:Type}(kk:Z3->α)(x:Z2):α:=let t1:=(lp (J0 (⟨rt tP x.d7,(↑(List.length x.d7):Int)⟩:L8)) (⟨0⟩:p7));(sl ((cnE tP x.d7)&&true) (sl (Nat.beq t1.1 1) (kk ⟨1,t1.2.is8⟩) (sl (Nat.beq t1.1 2) (kk ⟨1,-1⟩) (kk ⟨0,0⟩))) (kk ⟨0,0⟩))
noncomputable def oa1(x:Z2):Z3:=H6 (λr=>r) x
noncomputable def la4(x:Z2)(r:Z3):DT (b7×List b9):=(.ite (Nat.beq r.alt 1) (.ret (i r.is0,[])) .fail)
theorem zb2{α β:Type}(F:α->β)(kk:Z3->α)(x:Z2):F (H6 kk x)=H6 (λr=>F (kk r)) x:=by unfold H6;(repeat' apply m8 (f:=F))<;>rfl
noncomputable def La5:Sum:=Va6 ⟨[sLq tP,.s (.o (.fn 149))],[],λa H=>(⟨aLq tP a 0⟩,())⟩ (λx=>la4 x (oa1 x))
theorem vb5:g7 prog G 139 La5:=M9 (enc:=λx=>⟨[eL tP x.d7,.fn 149 []],[]⟩) (λa H=>by kernel_rfl) (bd We3 ob9) λx=>xa3 (.s .p (.s (.s .p (.b (.u ia2.ls))) .p)) [ia2.pr] (by kernel_rfl) (.cons lb7 .nil) (Qha (b:=H6 (λr=>(la4 x r).run) x) (by kernel_rfl) (zb2 (λr=>(la4 x r).run) (λr=>r) x).symm)
structure S1 where
 d7:List Pln
noncomputable def ib3:List (Nat×Sum):=[(139,La5)]
theorem cb0:i9 prog G ib3:=⟨vb5,trivial⟩
structure S3 where
 alt:Nat
 bs0:Bool
noncomputable def D5{α:Type}(kk:S3->α)(x:S1):α:=let t1:=(oa1 ⟨rt tP x.d7⟩);(sl ((cnE tP x.d7)&&true) (sl (Nat.beq t1.alt 1) (kk ⟨1,decide (t1.is0>=0)⟩) (kk ⟨0,false⟩)) (kk ⟨0,false⟩))
noncomputable def fa9(x:S1):S3:=D5 (λr=>r) x
noncomputable def da7(x:S1)(r:S3):DT (b7×List b9):=(.ite (Nat.beq r.alt 1) (.ret (b r.bs0,[])) .fail)
theorem lb8{α β:Type}(F:α->β)(kk:S3->α)(x:S1):F (D5 kk x)=D5 (λr=>F (kk r)) x:=by unfold D5;(repeat' apply m8 (f:=F))<;>rfl
noncomputable def Aa1:Sum:=Va6 ⟨[sLq tP,.s (.o (.fn 149))],[],λa H=>(⟨aLq tP a 0⟩,())⟩ (λx=>da7 x (fa9 x))
theorem ib4:g7 prog G 86 Aa1:=M9 (enc:=λx=>⟨[eL tP x.d7,.fn 149 []],[]⟩) (λa H=>by kernel_rfl) (bd b86 cb0) λx=>y5 (Qha (b:=D5 (λr=>(da7 x r).run) x) (by kernel_rfl) (lb8 (λr=>(da7 x r).run) (λr=>r) x).symm)
noncomputable def md8:List (Nat×Sum):=[(86,Aa1)]
theorem bd2:i9 prog G md8:=⟨ib4,trivial⟩
noncomputable def Xa1(x:List Pln):Option (b7×List b9):=let t1:=(fa9 ⟨rt tP x⟩);(sl (decide ((↑(List.length x):Int)>48)) (some (i 2,[])) (sl ((cnE tP x)&&true) (sl (Nat.beq t1.alt 1) (sl t1.bs0 (some (i 12,[])) (some (i 0,[]))) none) none))
noncomputable def qa3(x:List Pln):Int:=N9 (one r1I) (Xa1 x)
noncomputable def Ja9(x:List Pln):Bool:=okO (one r1I) (Xa1 x)
noncomputable def pb0:Sum:=V1 (R5 tP) (λx=>.guard (Ja9 x) (.ret ((one r1I).enc (qa3 x),[])))
theorem Fb3:g7 prog G 97 pb0:=Fa2 (bd b97 bd2) (one r1I) (o:=Xa1) λx=>y5 (by kernel_rfl)
noncomputable def Pc7:List (Nat×Sum):=[(97,pb0)]
theorem Gc5:i9 prog G Pc7:=⟨Fb3,trivial⟩
noncomputable def Ga8(x:List Pln):Option (b7×List b9):=let t1:=(qa3 (rt tP x));(sl (okE tP x) (sl (Ja9 (rt tP x)) (some (b (t1 != 0),[])) none) none)
noncomputable def Xa2(x:List Pln):Bool:=N9 (one r1B) (Ga8 x)
noncomputable def Xa3(x:List Pln):Bool:=okO (one r1B) (Ga8 x)
noncomputable def bc1:Sum:=V1 (R5 tP) (λx=>.guard (Xa3 x) (.ret ((one r1B).enc (Xa2 x),[])))
theorem Pc8:g7 prog G 165 bc1:=Fa2 (bd Jf1 Gc5) (one r1B) (o:=Ga8) λx=>y5 (by kernel_rfl)
end Go.Ev.Ce
namespace Go.Proofs
open Go.Shelf
set_option maxRecDepth 100000 in
def Ce.growP_ren:Go.Shelf.Ren:=⟨fun | 4=>193 | n=>n,fun | 22=>24 | 25=>73 | 3=>3 | 4=>4 | 9=>9 | 20=>20 | 0=>0 | n=>n,fun | n=>n⟩
set_option maxRecDepth 100000 in
theorem Ce.growP:Go.Proofs.Lays8.n4 Tryz.prog Ce.growP_ren:={
 mixed:=by kernel_rfl
 f4:=⟨Tryz.f193.name,by decide,Tryz.func193.trans (congrArg some (by kernel_rfl))⟩
 t0:=Tryz.underlying0
 a0:=Tryz.isAgg0
 z0:=Tryz.sizeOf0
 v0:=Tryz.zeroValue0
 t3:=Tryz.underlying3
 a3:=Tryz.isAgg3
 z3:=Tryz.sizeOf3
 v3:=Tryz.zeroValue3
 t4:=Tryz.underlying4
 a4:=Tryz.isAgg4
 z4:=Tryz.sizeOf4
 v4:=Tryz.zeroValue4
 t9:=Tryz.underlying9
 a9:=Tryz.isAgg9
 z9:=Tryz.sizeOf9
 v9:=Tryz.zeroValue9
 t20:=Tryz.underlying20
 a20:=Tryz.isAgg20
 z20:=Tryz.sizeOf20
 v20:=Tryz.zeroValue20
 t22:=Tryz.underlying24
 a22:=Tryz.isAgg24
 z22:=Tryz.sizeOf24
 v22:=Tryz.zeroValue24 }
end Go.Proofs
namespace Go.Ev.Ce
open Go Go.Ev Go.Proofs
noncomputable def Dd4:List b7:=[i 0,i 0,i 0,i 0]
noncomputable def Ma8:Sum:=λargs blks=>match args,blks with
 | [.v (.slice none 0 0), .v (.int .i64 n)], [] => .ite (n == 0) (.ret (.v (.slice none 0 0), []))
   (.guard (Bool.and (decide (0<n)) (Nat.ble (n.toNat*32) room)) (.ret (.sl 0 0 0 0,[⟨73,4,List.replicate n.toNat Dd4,true,false,0⟩])))
 |_,_=>.fail
theorem z73:zeT Tryz.prog 73=some Dd4:=by kernel_rfl
theorem s73:szT Tryz.prog 73=4:=by kernel_rfl
theorem y73:byT Tryz.prog 73=32:=by kernel_rfl
theorem t25:Ce.growP_ren.t 25=73:=by kernel_rfl
theorem f4:Ce.growP_ren.f 4=193:=by kernel_rfl
set_option maxRecDepth 100000 in
theorem bc2:g7 prog G 193 Ma8:=by
 intro args blks r out he W ρ F w args' hH hlen hargs hG;refine⟨⟨_,Tryz.func193,by kernel_rfl,of_decide_eq_true (by kernel_rfl)⟩,?_⟩
 unfold Ma8 at he
 split at he
 case h_2=>cases he
 rename_i n
 match args',hlen with
 |[v0,v1],_ =>
 have e0:=ga9 (hargs 0 _ _ rfl rfl);have e1:=ga9 (hargs 1 _ _ rfl rfl);subst e0 e1
 rcases DT.run_ite_some he with⟨h0,he⟩|⟨h0,he⟩
 ·have h0:n=0:=by simpa using h0
  subst h0;injection he with he;injection he with q1 q2;subst q1 q2
  have:=Any8.slices_Grow_room Ce.growP none 0 0 0 w (Qhf _) (by omega) (by omega) (by omega)
  rw[f4] at this;refine this.mono λe w' ⟨h1,h2⟩=>?_
  subst h1 h2;exact⟨_,rfl,ρ,F,.refl,hH,.ofv _⟩
 ·obtain⟨hg,he⟩:=DT.run_guard_some he;rw[Bool.and_eq_true,decide_eq_true_eq] at hg;obtain⟨hpos,hroom⟩:=hg;have hroom:=Nat.le_of_ble_eq_true hroom;unfold room at hroom;obtain⟨m,rfl⟩:=Int.eq_ofNat_of_zero_le (Int.le_of_lt hpos);have hm:0<m:=by omega
  have he:some (b7.sl 0 0 0 0,[(⟨73,4,List.replicate m Dd4,true,false,0⟩:b9)])=some (r,out):=he;injection he with he;injection he with q1 q2;subst q1 q2
  obtain⟨ti,zv,hi,hzz,hzr,hone⟩:=ab9 (E:=En []) z73;have hi:Tryz.prog.info? 73=some ti:=hi;have hts:ti.size=4:=by have:=s73;simp only[szT,hi] at this;exact this
  have hby:ti.bytes=32:=by have:=y73;simp only[byT,hi] at this;exact this
  have hzs:zv.cells.size=4:=by
   have:=congrArg List.length hzr
   simpa [Dd4] using this.symm
  have hroom':m*32<=140737488355328:=hroom
  have:=Any8.slices_Grow_grow Ce.growP ti zv (by rw[t25];exact hi) hzz (by omega) none 0 0 m [] w (Qhf _) (by omega) (by rw[hby];omega) (by omega) (by simp) (λ_=>rfl) (λa ha=>by cases ha)
  rw[f4,t25] at this;refine this.mono λe w' ⟨h1,h2⟩=>?_
  have hcap:=grownCap_ge w (0+m) 0 73;have hcap2:=grownCap_le_maxLen w (0+m) 0 73 (by unfold maxLen;omega)
  subst h1;generalize grownCap w (0+m) 0 73=G' at *
  have hsz:∀q,(Builtin.zeroCells zv.cells q).size=q*4:=λq=>by simp[Builtin.zeroCells,hzs]
  have hcc:(#[]++Builtin.zeroCells zv.cells (0+m-0)++Builtin.zeroCells zv.cells (G'-(0+m))).size=G'*4:=by
   rw[Array.size_append,Array.size_append,hsz,hsz];simp;omega
  have hobj:w'.heap[w.heap.size]?=some (.cells (#[]++Builtin.zeroCells zv.cells (0+m-0)++Builtin.zeroCells zv.cells (G'-(0+m))) 73 (0,0)):=by
   rw[h2];exact World.alloc_heap_new w.drew _
  have hold:∀k,k<w.heap.size->w'.heap[k]?=w.heap[k]?:=λk hk=>by
   rw[h2];simp only[World.alloc,Array.getElem?_push,World.drew];rw[if_neg (by omega)]
  have hws:w'.heap.size=w.heap.size+1:=by rw[h2];exact Array.size_push ..
  obtain⟨h6,h7⟩:=hH.newAt (w':=w') (by rw[h2];rfl) (by rw[h2];rfl) (by rw[h2];rfl) (by rw[h2];exact Nat.le_succ _) (by omega) hold w.heap.size (Qhf _) 73 4 (List.replicate m Dd4) _ 73 hobj
   (λj r hr=>by rw[Qhe] at hr;split at hr<;>cases hr;rfl) (by rw[List.length_replicate,hcc];omega)
   (λj r c x hr hx=>by
    have hjm:j<m:=by
     have:=(Qhc.1 hr).1
     simpa using this
    rw[Qhe,if_pos hjm] at hr;injection hr with hr;subst hr;have hc4:c<4:=(Qhc.1 hx).1;rw[hzr,List.getElem?_map] at hx;have hcz:c<zv.cells.size:=by omega
    have hq:zv.cells.toList[c]?=some zv.cells[c]:=by simp[hcz]
    rw[hq] at hx;injection hx with hx;subst hx;refine⟨zv.cells[c],?_,.v _ (hone _ (by simp))⟩
    have hlt:j*4+c<m*4:=by omega
    rw[Array.append_assoc,Array.empty_append,Array.getElem?_append_left (by rw[hsz];omega)]
    have hm4:(j*4+c) % 4=c:=by omega
    simp only[Builtin.zeroCells,hzs];rw[Array.getElem?_map,Array.getElem?_range];rw[if_pos (by omega)]
    simp[hm4,hcz])
   (λ_=>rfl)
  refine⟨_,rfl,_,F,h6,h7,.val (.cell ?_)⟩;refine .sl 0 0 0 0 _ _ { et:=73,es:=4,elems:=List.replicate m Dd4,own:=true,dead:=false,g:=0 } rfl rfl (Qhf _) (Nat.zero_le _) rfl hcap2 λ_=>⟨.inr ?_,?_,by simp⟩
  ·simp[ρnew]
  ·simp only[ρnew,List.length_nil,if_true];rw[hcc,Nat.zero_add]
end Go.Ev.Ce
namespace Go.Ev.Ce
open Go Go.Ev Go.Ev.L Go.Proofs
set_option maxRecDepth 100000
noncomputable def xa5:List (Nat×Sum):=[(193,Ma8)]
theorem Jb7:i9 prog G xa5:=⟨bc2,trivial⟩
structure T6 where
 (U4 yb8:List (List Pln))
 ra5:Int
structure u8 where
 (is3 p4:Int)
noncomputable def Oa5(p:T6)(s:u8):St:=⟨eL (tLs tP) p.U4::.unk::.unk::i s.is3::ra 5 (eL (tLs tP) p.yb8::i p.ra5::i s.p4::ra 24 []),[]⟩
noncomputable def P5{α:Type}(k:u8->α)(e:Nat->α)(z:α)(p:T6)(s:u8):α:=(sl (decide (s.p4<p.ra5)) (sl (inB s.p4 (List.length p.yb8)) (sl (decide ((W (s.is3+(↑(List.length (gL (tLs tP) p.yb8 s.p4.toNat)):Int)))<0)) z (k ⟨W (s.is3+(↑(List.length (gL (tLs tP) p.yb8 s.p4.toNat)):Int)),W (s.p4+1)⟩)) z) (e 1))
noncomputable def K6(p:T6)(s:u8):Stp u8:=P5 .next .exit .fail p s
noncomputable def ua8:Lo T6 u8:=⟨En xa5,0,Ge3,[1,1,0,1,4,4],[0,3,9,10,11],.p,[⟨.s (.c 1 (nL (tLs tP)))::sUq::sUq::sIq::ru2 5 (.s (.c 1 (nL (tLs tP)))::sIq::sIq::ru2 24 []),[],λa H=>(⟨rL (tLs tP) (slT a 0),rL (tLs tP) (slT a 9),aIq a 10⟩,⟨aIq a 3,aIq a 11⟩)⟩],K6,[(some 0,λp s=>upq (Oa5 p s) [(12,b (decide (s.p4<p.ra5)))])],Oa5⟩
theorem Fb4:ua8.OkM:=Lo.okM [] (by kernel_rfl) .nil rfl (.cons (λa H=>by kernel_rfl) .nil) λp s=>(.of @P5 (λF _ _ _ _ _=>by unfold P5;(repeat' apply m8 (f:=F))<;>rfl) (by kernel_rfl))
structure y6 where
 Ea4:List (List Pln)
 qd2:Int
structure m9 where
 ph:Nat
 Na2:Int
 ns6:Nat
 eh0:List (List b7)
noncomputable def La6(p:y6)(s:m9):St:=⟨ra 6 (.v (.slice none 0 0)::ra 18 (eL (tLs tP) p.Ea4::i p.qd2::i s.Na2::ra 8 [])),[]⟩
noncomputable def La7(p:y6)(s:m9):St:=⟨ra 6 (.sl 0 0 s.ns6 0::ra 18 (eL (tLs tP) p.Ea4::i p.qd2::i s.Na2::ra 8 [])),[⟨73,4,s.eh0,true,false,0⟩]⟩
noncomputable def Fb5(p:y6)(s:m9):St:=(sel (Nat.beq s.ph 1) (La7 p s) (La6 p s))
noncomputable def D1{α:Type}(k:m9->α)(e:Nat->α)(z:α)(p:y6)(s:m9):α:=(sl (decide (s.Na2<p.qd2)) (sl (inB s.Na2 (List.length p.Ea4)) (sl (Nat.beq (len (o8 (λk=>(tP).row (gL tP (gL (tLs tP) p.Ea4 s.Na2.toNat) k)) (List.range (List.length (gL (tLs tP) p.Ea4 s.Na2.toNat))))) 0) (k ⟨0,W (s.Na2+1),0,[]⟩) z) z) (e 1))
noncomputable def D2{α:Type}(k:m9->α)(e:Nat->α)(z:α)(p:y6)(s:m9):α:=(sl (decide (s.Na2<p.qd2)) (sl (inB s.Na2 (List.length p.Ea4)) (sl (Nat.ble (s.ns6+(len (o8 (λk=>(tP).row (gL tP (gL (tLs tP) p.Ea4 s.Na2.toNat) k)) (List.range (List.length (gL (tLs tP) p.Ea4 s.Na2.toNat)))))) (len s.eh0)) (k ⟨1,W (s.Na2+1),(s.ns6+(len (o8 (λk=>(tP).row (gL tP (gL (tLs tP) p.Ea4 s.Na2.toNat) k)) (List.range (List.length (gL (tLs tP) p.Ea4 s.Na2.toNat)))))),(app (q9 s.eh0 s.ns6) (app (o8 (λk=>(tP).row (gL tP (gL (tLs tP) p.Ea4 s.Na2.toNat) k)) (List.range (List.length (gL (tLs tP) p.Ea4 s.Na2.toNat)))) (f9 s.eh0 (s.ns6+(len (o8 (λk=>(tP).row (gL tP (gL (tLs tP) p.Ea4 s.Na2.toNat) k)) (List.range (List.length (gL (tLs tP) p.Ea4 s.Na2.toNat)))))))))⟩) z) z) (e 2))
noncomputable def E3(p:y6)(s:m9):Stp m9:=(sel (Nat.beq s.ph 1) (D2 .next .exit .fail p s) (D1 .next .exit .fail p s))
noncomputable def ua9:Lo y6 m9:=⟨En xa5,0,Ge3,[1,1,1,1,0,1,4,4],[6,25,26,27],.p,[⟨ru2 6 (.s (.o .nil)::ru2 18 (.s (.c 1 (nL (tLs tP)))::sIq::sIq::ru2 8 [])),[],λa H=>(⟨rL (tLs tP) (slT a 25),aIq a 26⟩,⟨0,aIq a 27,0,[]⟩)⟩,⟨ru2 6 (.s (.o (.sl 0 0 (some 0) none))::ru2 18 (.s (.c 1 (nL (tLs tP)))::sIq::sIq::ru2 8 [])),[⟨73,4,true,none⟩],λa H=>(⟨rL (tLs tP) (slT a 25),aIq a 26⟩,⟨1,aIq a 27,slN (slT a 6),elT H 0⟩)⟩],E3,[(some 2,λp s=>upq (La6 p s) [(28,b (decide (s.Na2<p.qd2)))]),(some 2,λp s=>upq (La7 p s) [(28,b (decide (s.Na2<p.qd2)))])],Fb5⟩
theorem Fb6:ua9.OkM:=Lo.okM [] (by kernel_rfl) .nil rfl (.cons (λa H=>by kernel_rfl) (.cons (λa H=>by kernel_rfl) .nil)) λp s=>(.sel (Nat.beq s.ph 1) (.of @D2 (λF _ _ _ _ _=>by unfold D2;(repeat' apply m8 (f:=F))<;>rfl) (by kernel_rfl)) (.of @D1 (λF _ _ _ _ _=>by unfold D1;(repeat' apply m8 (f:=F))<;>rfl) (by kernel_rfl)))
structure na6 where
 (alt ns0:Nat)
 eh0:List (List b7)
noncomputable def L2{α:Type}(kk:na6->α)(x:List (List Pln)):α:=let t1:=(lp (K6 (⟨rt (tLs tP) x,rt (tLs tP) x,(↑(List.length x):Int)⟩:T6)) (⟨0,0⟩:u8));let t2:=(lp (E3 (⟨rt (tLs tP) (rt (tLs tP) x),(↑(List.length (rt (tLs tP) x)):Int)⟩:y6)) (⟨0,0,0,[]⟩:m9));let t3:=(lp (E3 (⟨rt (tLs tP) (rt (tLs tP) x),(↑(List.length (rt (tLs tP) x)):Int)⟩:y6)) (⟨1,0,0,List.replicate t1.2.is3.toNat Dd4⟩:m9));(sl ((cnE (tLs tP) x)&&((cnE (tLs tP) x)&&true)) (sl (Nat.beq t1.1 1) (sl (t1.2.is3==0) (sl ((cnE (tLs tP) (rt (tLs tP) x))&&true) (sl (Nat.beq t2.1 1) (kk ⟨1,0,[]⟩) (sl (Nat.beq t2.1 2) (kk ⟨2,t2.2.ns6,t2.2.eh0⟩) (kk ⟨0,0,[]⟩))) (kk ⟨0,0,[]⟩)) (sl (Bool.and (decide (0<t1.2.is3)) (Nat.ble (t1.2.is3.toNat*32) room)) (sl ((cnE (tLs tP) (rt (tLs tP) x))&&true) (sl (Nat.beq t3.1 1) (kk ⟨1,0,[]⟩) (sl (Nat.beq t3.1 2) (kk ⟨2,t3.2.ns6,t3.2.eh0⟩) (kk ⟨0,0,[]⟩))) (kk ⟨0,0,[]⟩)) (kk ⟨0,0,[]⟩))) (kk ⟨0,0,[]⟩)) (kk ⟨0,0,[]⟩))
noncomputable def v7(x:List (List Pln)):na6:=L2 (λr=>r) x
noncomputable def xa6(r:na6):DT (b7×List b9):=(.ite (Nat.beq r.alt 1) (.ret (.v (.slice none 0 0),[])) (.ite (Nat.beq r.alt 2) (.ret (.sl 0 0 r.ns0 0,[⟨73,4,r.eh0,true,false,0⟩])) .fail))
theorem Ub5{α β:Type}(F:α->β)(kk:na6->α)(x:List (List Pln)):F (L2 kk x)=L2 (λr=>F (kk r)) x:=by unfold L2;(repeat' apply m8 (f:=F))<;>rfl
noncomputable def Da5:Sum:=V1 (R5 (tLs tP)) (λx=>xa6 (v7 x))
theorem Xa4:g7 prog G 166 Da5:=Bb1 (bd Jf2 Jb7) λx=>Ge6 (.s .p (.s .p (.s (.s .p (.b (.u ua8.lsM))) (.s .p (.s (.s .p (.b (.u ua9.lsM))) .p))))) [ua8.prM,ua9.prM] (by kernel_rfl) (.cons Fb4 (.cons Fb6 .nil)) (Qha (b:=L2 (λr=>(xa6 r).run) x) (by kernel_rfl) (Ub5 (λr=>(xa6 r).run) (λr=>r) x).symm)
noncomputable def ee4:List (Nat×Sum):=[(166,Da5)]
theorem Qd7:i9 prog G ee4:=⟨Xa4,trivial⟩
noncomputable def Jb8(x:List (List Pln)):Option (b7×List b9):=let t1:=(v7 (rt (tLs tP) x));(sl (okE (tLs tP) x) (sl (Nat.beq t1.alt 1) (some (.sl 0 0 6 0,[⟨73,4,[[i 1,i 0,i 0,i 24],[i (-1),i 0,i 0,i 24],[i 0,i 1,i 0,i 24],[i 0,i (-1),i 0,i 24],[i 0,i 0,i 1,i 24],[i 0,i 0,i (-1),i 24]],true,false,0⟩])) (sl (Nat.beq t1.alt 2) (sl (Nat.beq t1.ns0 (len t1.eh0)&&Nat.ble ((t1.ns0+1)*32) room) (sl (Nat.beq (t1.ns0+1) (len (app t1.eh0 [[i 1,i 0,i 0,i 24]]))&&Nat.ble (((t1.ns0+1)+1)*32) room) (sl (Nat.beq ((t1.ns0+1)+1) (len (app (app t1.eh0 [[i 1,i 0,i 0,i 24]]) [[i (-1),i 0,i 0,i 24]]))&&Nat.ble ((((t1.ns0+1)+1)+1)*32) room) (sl (Nat.beq (((t1.ns0+1)+1)+1) (len (app (app (app t1.eh0 [[i 1,i 0,i 0,i 24]]) [[i (-1),i 0,i 0,i 24]]) [[i 0,i 1,i 0,i 24]]))&&Nat.ble (((((t1.ns0+1)+1)+1)+1)*32) room) (sl (Nat.beq ((((t1.ns0+1)+1)+1)+1) (len (app (app (app (app t1.eh0 [[i 1,i 0,i 0,i 24]]) [[i (-1),i 0,i 0,i 24]]) [[i 0,i 1,i 0,i 24]]) [[i 0,i (-1),i 0,i 24]]))&&Nat.ble ((((((t1.ns0+1)+1)+1)+1)+1)*32) room) (sl (Nat.beq (((((t1.ns0+1)+1)+1)+1)+1) (len (app (app (app (app (app t1.eh0 [[i 1,i 0,i 0,i 24]]) [[i (-1),i 0,i 0,i 24]]) [[i 0,i 1,i 0,i 24]]) [[i 0,i (-1),i 0,i 24]]) [[i 0,i 0,i 1,i 24]]))&&Nat.ble (((((((t1.ns0+1)+1)+1)+1)+1)+1)*32) room) (some (.sl 0 0 ((((((t1.ns0+1)+1)+1)+1)+1)+1) 0,[⟨73,4,app (app (app (app (app (app t1.eh0 [[i 1,i 0,i 0,i 24]]) [[i (-1),i 0,i 0,i 24]]) [[i 0,i 1,i 0,i 24]]) [[i 0,i (-1),i 0,i 24]]) [[i 0,i 0,i 1,i 24]]) [[i 0,i 0,i (-1),i 24]],true,false,0⟩])) none) none) none) none) none) none) none)) none)
noncomputable def cb1(x:List (List Pln)):List Pln:=N9 (one (r1L tP)) (Jb8 x)
noncomputable def cb2(x:List (List Pln)):Bool:=okO (one (r1L tP)) (Jb8 x)
noncomputable def hc9:Sum:=V1 (R5 (tLs tP)) (λx=>.guard (cb2 x) (.ret ((one (r1L tP)).enc (cb1 x),[])))
theorem qc6:g7 prog G 110 hc9:=Fa2 (bd Gf1 Qd7) (one (r1L tP)) (o:=Jb8) λx=>y5 (by kernel_rfl)
structure Z4 where
 U4:List (List Pln)
noncomputable def Ga9:List (Nat×Sum):=[(165,bc1)]
theorem pb1:i9 prog G Ga9:=⟨Pc8,trivial⟩
structure L9 where
 U4:List (List Pln)
 is7:Int
structure p8 where
 is8:Int
noncomputable def Aa2(p:L9)(s:p8):St:=⟨eL (tLs tP) p.U4::.fn 165 []::ra 5 (i p.is7::i s.is8::ra 10 []),[]⟩
noncomputable def G6{α:Type}(k:p8->α)(e:Nat->α)(z:α)(p:L9)(s:p8):α:=let t1:=(Xa2 (rt tP (gL (tLs tP) p.U4 s.is8.toNat)));(sl (decide (s.is8<p.is7)) (sl (inB s.is8 (List.length p.U4)) (sl (okE tP (gL (tLs tP) p.U4 s.is8.toNat)) (sl (Xa3 (rt tP (gL (tLs tP) p.U4 s.is8.toNat))) (sl t1 (e 1) (k ⟨W (s.is8+1)⟩)) z) z) z) (e 2))
noncomputable def J1(p:L9)(s:p8):Stp p8:=G6 .next .exit .fail p s
noncomputable def ia3:Lo L9 p8:=⟨En Ga9,0,Ge2,[1,0,1,4,4],[0,1,7,8],.p,[⟨.s (.c 1 (nL (tLs tP)))::.s (.o (.fn 165))::ru2 5 (sIq::sIq::ru2 10 []),[],λa H=>(⟨rL (tLs tP) (slT a 0),aIq a 7⟩,⟨aIq a 8⟩)⟩],J1,[(none,λp s=>⟨[i s.is8],[]⟩),(some 0,λp s=>upq (Aa2 p s) [(9,b (decide (s.is8<p.is7)))])],Aa2⟩
theorem lb9:ia3.Ok:=Lo.ok [] (by kernel_rfl) .nil rfl (.cons (λa H=>by kernel_rfl) .nil) λp s=>(.of @G6 (λF _ _ _ _ _=>by unfold G6;(repeat' apply m8 (f:=F))<;>rfl) (by kernel_rfl))
structure Z5 where
 alt:Nat
 is0:Int
noncomputable def H7{α:Type}(kk:Z5->α)(x:Z4):α:=let t1:=(lp (J1 (⟨rt (tLs tP) x.U4,(↑(List.length x.U4):Int)⟩:L9)) (⟨0⟩:p8));(sl ((cnE (tLs tP) x.U4)&&true) (sl (Nat.beq t1.1 1) (kk ⟨1,t1.2.is8⟩) (sl (Nat.beq t1.1 2) (kk ⟨1,-1⟩) (kk ⟨0,0⟩))) (kk ⟨0,0⟩))
noncomputable def oa2(x:Z4):Z5:=H7 (λr=>r) x
noncomputable def la5(x:Z4)(r:Z5):DT (b7×List b9):=(.ite (Nat.beq r.alt 1) (.ret (i r.is0,[])) .fail)
theorem zb3{α β:Type}(F:α->β)(kk:Z5->α)(x:Z4):F (H7 kk x)=H7 (λr=>F (kk r)) x:=by unfold H7;(repeat' apply m8 (f:=F))<;>rfl
noncomputable def La8:Sum:=Va6 ⟨[.s (.c 1 (nL (tLs tP))),.s (.o (.fn 165))],[],λa H=>(⟨rL (tLs tP) (slT a 0)⟩,())⟩ (λx=>la5 x (oa2 x))
theorem vb6:g7 prog G 161 La8:=M9 (enc:=λx=>⟨[eL (tLs tP) x.U4,.fn 165 []],[]⟩) (λa H=>by kernel_rfl) (bd zf2 pb1) λx=>xa3 (.s .p (.s (.s .p (.b (.u ia3.ls))) .p)) [ia3.pr] (by kernel_rfl) (.cons lb9 .nil) (Qha (b:=H7 (λr=>(la5 x r).run) x) (by kernel_rfl) (zb3 (λr=>(la5 x r).run) (λr=>r) x).symm)
structure S4 where
 U4:List (List Pln)
noncomputable def ib5:List (Nat×Sum):=[(161,La8)]
theorem cb3:i9 prog G ib5:=⟨vb6,trivial⟩
structure S5 where
 alt:Nat
 bs0:Bool
noncomputable def D6{α:Type}(kk:S5->α)(x:S4):α:=let t1:=(oa2 ⟨rt (tLs tP) x.U4⟩);(sl ((cnE (tLs tP) x.U4)&&true) (sl (Nat.beq t1.alt 1) (kk ⟨1,decide (t1.is0>=0)⟩) (kk ⟨0,false⟩)) (kk ⟨0,false⟩))
noncomputable def ga0(x:S4):S5:=D6 (λr=>r) x
noncomputable def da8(x:S4)(r:S5):DT (b7×List b9):=(.ite (Nat.beq r.alt 1) (.ret (b r.bs0,[])) .fail)
theorem mb0{α β:Type}(F:α->β)(kk:S5->α)(x:S4):F (D6 kk x)=D6 (λr=>F (kk r)) x:=by unfold D6;(repeat' apply m8 (f:=F))<;>rfl
noncomputable def Aa3:Sum:=Va6 ⟨[.s (.c 1 (nL (tLs tP))),.s (.o (.fn 165))],[],λa H=>(⟨rL (tLs tP) (slT a 0)⟩,())⟩ (λx=>da8 x (ga0 x))
theorem ib6:g7 prog G 103 Aa3:=M9 (enc:=λx=>⟨[eL (tLs tP) x.U4,.fn 165 []],[]⟩) (λa H=>by kernel_rfl) (bd yf9 cb3) λx=>y5 (Qha (b:=D6 (λr=>(da8 x r).run) x) (by kernel_rfl) (mb0 (λr=>(da8 x r).run) (λr=>r) x).symm)
noncomputable def md9:List (Nat×Sum):=[(103,Aa3)]
theorem bd3:i9 prog G md9:=⟨ib6,trivial⟩
noncomputable def Xa5(x:List (List Pln)):Option (b7×List b9):=let t1:=(ga0 ⟨rt (tLs tP) x⟩);(sl ((cnE (tLs tP) x)&&true) (sl (Nat.beq t1.alt 1) (some (b (!t1.bs0),[])) none) none)
noncomputable def xa7(x:List (List Pln)):Bool:=N9 (one r1B) (Xa5 x)
noncomputable def xa8(x:List (List Pln)):Bool:=okO (one r1B) (Xa5 x)
noncomputable def pb2:Sum:=V1 (R5 (tLs tP)) (λx=>.guard (xa8 x) (.ret ((one r1B).enc (xa7 x),[])))
theorem Fb7:g7 prog G 109 pb2:=Fa2 (bd Gf0 bd3) (one r1B) (o:=Xa5) λx=>y5 (by kernel_rfl)
structure ia4 where
 (Ba7 Ba8 Ba9 Ub3 j8 d8 j9 k8:Int)
noncomputable def Jb9:List (Nat×Sum):=[(153,Cb1)]
theorem Fb8:i9 prog G Jb9:=⟨Ob3,trivial⟩
structure W7 where
 bs0:Bool
noncomputable def W8{α:Type}(kk:W7->α)(x:ia4):α:=let t1:=(wa7 (⟨(⟨x.j8,x.d8,x.j9⟩:V3),x.k8⟩:Pln) (⟨x.Ba7,x.Ba8,x.Ba9,x.Ub3⟩:Pt));(kk ⟨decide (t1>0)⟩)
noncomputable def xa9(x:ia4):W7:=W8 (λr=>r) x
noncomputable def va0(x:ia4)(r:W7):DT (b7×List b9):=.ret (b r.bs0,[⟨0,4,[[i x.j8,i x.d8,i x.j9,i x.k8]],true,false,0⟩])
theorem Ob9{α β:Type}(F:α->β)(kk:W7->α)(x:ia4):F (W8 kk x)=W8 (λr=>F (kk r)) x:=by unfold W8;(repeat' apply m8 (f:=F))<;>rfl
noncomputable def Xa6:Sum:=Va6 ⟨[.agg (kLq 4),sPq 0],[⟨0,4,true,some [kLq 4]⟩],λa H=>(⟨cIq a 0 0,cIq a 0 1,cIq a 0 2,cIq a 0 3,hIq H 0 0 0,hIq H 0 0 1,hIq H 0 0 2,hIq H 0 0 3⟩,())⟩ (λx=>va0 x (xa9 x))
theorem Kb0:g7 prog G 170 Xa6:=M9 (enc:=λx=>⟨[.agg [i x.Ba7,i x.Ba8,i x.Ba9,i x.Ub3],.ptr 0 0 0 0],[⟨0,4,[[i x.j8,i x.d8,i x.j9,i x.k8]],true,false,0⟩]⟩) (λa H=>by kernel_rfl) (bd Jf6 Fb8) λx=>y5 (Qha (b:=W8 (λr=>(va0 x r).run) x) (by kernel_rfl) (Ob9 (λr=>(va0 x r).run) (λr=>r) x).symm)
structure ca4 where
 ra4:List Pt
 (j8 d8 j9 k8:Int)
noncomputable def La9:List (Nat×Sum):=[(170,Xa6)]
theorem vb7:i9 prog G La9:=⟨Kb0,trivial⟩
structure N4 where
 ra4:List Pt
 (is7 j8 d8 j9 k8:Int)
structure r7 where
 is8:Int
noncomputable def Ea1(p:N4)(s:r7):St:=⟨eL tX p.ra4::.fn 170 [.ptr 0 0 0 0]::ra 5 (i p.is7::i s.is8::ra 10 []),[⟨0,4,[[i p.j8,i p.d8,i p.j9,i p.k8]],true,false,0⟩]⟩
noncomputable def J2{α:Type}(k:r7->α)(e:Nat->α)(z:α)(p:N4)(s:r7):α:=let t1:=(xa9 ⟨(gL tX p.ra4 s.is8.toNat).px,(gL tX p.ra4 s.is8.toNat).py,(gL tX p.ra4 s.is8.toNat).pz,(gL tX p.ra4 s.is8.toNat).pw,p.j8,p.d8,p.j9,p.k8⟩);(sl (decide (s.is8<p.is7)) (sl (inB s.is8 (List.length p.ra4)) (sl t1.bs0 (e 1) (k ⟨W (s.is8+1)⟩)) z) (e 2))
noncomputable def M1(p:N4)(s:r7):Stp r7:=J2 .next .exit .fail p s
noncomputable def la6:Lo N4 r7:=⟨En La9,1,ff3,[1,0,1,4,4],[0,1,7,8],.p,[⟨sLq tX::.fn 170 [.o (.ptr 0 0 0 0)]::ru2 5 (sIq::sIq::ru2 10 []),[⟨0,4,true,some [kLq 4]⟩],λa H=>(⟨aLq tX a 0,aIq a 7,hIq H 0 0 0,hIq H 0 0 1,hIq H 0 0 2,hIq H 0 0 3⟩,⟨aIq a 8⟩)⟩],M1,[(none,λp s=>⟨[i s.is8],[⟨0,4,[[i p.j8,i p.d8,i p.j9,i p.k8]],true,false,0⟩]⟩),(some 0,λp s=>upq (Ea1 p s) [(9,b (decide (s.is8<p.is7)))])],Ea1⟩
theorem pb3:la6.Ok:=Lo.ok [] (by kernel_rfl) .nil rfl (.cons (λa H=>by kernel_rfl) .nil) λp s=>(.of @J2 (λF _ _ _ _ _=>by unfold J2;(repeat' apply m8 (f:=F))<;>rfl) (by kernel_rfl))
structure ca5 where
 alt:Nat
 is0:Int
noncomputable def K7{α:Type}(kk:ca5->α)(x:ca4):α:=let t1:=(lp (M1 (⟨rt tX x.ra4,(↑(List.length x.ra4):Int),x.j8,x.d8,x.j9,x.k8⟩:N4)) (⟨0⟩:r7));(sl ((cnE tX x.ra4)&&true) (sl (Nat.beq t1.1 1) (kk ⟨1,t1.2.is8⟩) (sl (Nat.beq t1.1 2) (kk ⟨1,-1⟩) (kk ⟨0,0⟩))) (kk ⟨0,0⟩))
noncomputable def ra8(x:ca4):ca5:=K7 (λr=>r) x
noncomputable def oa3(x:ca4)(r:ca5):DT (b7×List b9):=(.ite (Nat.beq r.alt 1) (.ret (i r.is0,[⟨0,4,[[i x.j8,i x.d8,i x.j9,i x.k8]],true,false,0⟩])) .fail)
theorem Fb9{α β:Type}(F:α->β)(kk:ca5->α)(x:ca4):F (K7 kk x)=K7 (λr=>F (kk r)) x:=by unfold K7;(repeat' apply m8 (f:=F))<;>rfl
noncomputable def Oa6:Sum:=Va6 ⟨[sLq tX,.fn 170 [.o (.ptr 0 0 0 0)]],[⟨0,4,true,some [kLq 4]⟩],λa H=>(⟨aLq tX a 0,hIq H 0 0 0,hIq H 0 0 1,hIq H 0 0 2,hIq H 0 0 3⟩,())⟩ (λx=>oa3 x (ra8 x))
theorem zb4:g7 prog G 171 Oa6:=M9 (enc:=λx=>⟨[eL tX x.ra4,.fn 170 [.ptr 0 0 0 0]],[⟨0,4,[[i x.j8,i x.d8,i x.j9,i x.k8]],true,false,0⟩]⟩) (λa H=>by kernel_rfl) (bd Jf7 vb7) λx=>xa3 (.s .p (.s (.s .p (.b (.u la6.ls))) .p)) [la6.pr] (by kernel_rfl) (.cons pb3 .nil) (Qha (b:=K7 (λr=>(oa3 x r).run) x) (by kernel_rfl) (Fb9 (λr=>(oa3 x r).run) (λr=>r) x).symm)
structure U1 where
 ra4:List Pt
 (j8 d8 j9 k8:Int)
noncomputable def mb1:List (Nat×Sum):=[(171,Oa6)]
theorem ib7:i9 prog G mb1:=⟨zb4,trivial⟩
structure U2 where
 alt:Nat
 bs0:Bool
noncomputable def E6{α:Type}(kk:U2->α)(x:U1):α:=let t1:=(ra8 ⟨rt tX x.ra4,x.j8,x.d8,x.j9,x.k8⟩);(sl ((cnE tX x.ra4)&&true) (sl (Nat.beq t1.alt 1) (kk ⟨1,decide (t1.is0>=0)⟩) (kk ⟨0,false⟩)) (kk ⟨0,false⟩))
noncomputable def ia5(x:U1):U2:=E6 (λr=>r) x
noncomputable def ga1(x:U1)(r:U2):DT (b7×List b9):=(.ite (Nat.beq r.alt 1) (.ret (b r.bs0,[⟨0,4,[[i x.j8,i x.d8,i x.j9,i x.k8]],true,false,0⟩])) .fail)
theorem pb4{α β:Type}(F:α->β)(kk:U2->α)(x:U1):F (E6 kk x)=E6 (λr=>F (kk r)) x:=by unfold E6;(repeat' apply m8 (f:=F))<;>rfl
noncomputable def Ea2:Sum:=Va6 ⟨[sLq tX,.fn 170 [.o (.ptr 0 0 0 0)]],[⟨0,4,true,some [kLq 4]⟩],λa H=>(⟨aLq tX a 0,hIq H 0 0 0,hIq H 0 0 1,hIq H 0 0 2,hIq H 0 0 3⟩,())⟩ (λx=>ga1 x (ia5 x))
theorem mb2:g7 prog G 112 Ea2:=M9 (enc:=λx=>⟨[eL tX x.ra4,.fn 170 [.ptr 0 0 0 0]],[⟨0,4,[[i x.j8,i x.d8,i x.j9,i x.k8]],true,false,0⟩]⟩) (λa H=>by kernel_rfl) (bd Gf3 ib7) λx=>y5 (Qha (b:=E6 (λr=>(ga1 x r).run) x) (by kernel_rfl) (pb4 (λr=>(ga1 x r).run) (λr=>r) x).symm)
structure qa4 where
 (Ba7 Ba8 Ba9 Ub3:Int)
 g8:List Pt
noncomputable def Ub6:List (Nat×Sum):=[(112,Ea2)]
theorem Pb0:i9 prog G Ub6:=⟨mb2,trivial⟩
structure da9 where
 alt:Nat
 bs0:Bool
noncomputable def T7{α:Type}(kk:da9->α)(x:qa4):α:=let t1:=(ia5 ⟨rt tX x.g8,x.Ba7,x.Ba8,x.Ba9,x.Ub3⟩);(sl ((cnE tX x.g8)&&true) (sl (Nat.beq t1.alt 1) (kk ⟨1,!t1.bs0⟩) (kk ⟨0,false⟩)) (kk ⟨0,false⟩))
noncomputable def qa5(x:qa4):da9:=T7 (λr=>r) x
noncomputable def Da6(x:qa4)(r:da9):DT (b7×List b9):=(.ite (Nat.beq r.alt 1) (.ret (b r.bs0,[⟨0,1,[[eL tX x.g8]],true,false,0⟩])) .fail)
theorem bc3{α β:Type}(F:α->β)(kk:da9->α)(x:qa4):F (T7 kk x)=T7 (λr=>F (kk r)) x:=by unfold T7;(repeat' apply m8 (f:=F))<;>rfl
noncomputable def ib8:Sum:=Va6 ⟨[.agg (kLq 4),sPq 0],[⟨0,1,true,some [[.c 4 (nL tX)]]⟩],λa H=>(⟨cIq a 0 0,cIq a 0 1,cIq a 0 2,cIq a 0 3,hLq tX H 0 0 0⟩,())⟩ (λx=>Da6 x (qa5 x))
theorem Ub7:g7 prog G 169 ib8:=M9 (enc:=λx=>⟨[.agg [i x.Ba7,i x.Ba8,i x.Ba9,i x.Ub3],.ptr 0 0 0 0],[⟨0,1,[[eL tX x.g8]],true,false,0⟩]⟩) (λa H=>by kernel_rfl) (bd Jf5 Pb0) λx=>y5 (Qha (b:=T7 (λr=>(Da6 x r).run) x) (by kernel_rfl) (bc3 (λr=>(Da6 x r).run) (λr=>r) x).symm)
structure Z6 where
 d7:List Pln
 g8:List Pt
noncomputable def Ha0:List (Nat×Sum):=[(169,ib8)]
theorem pb5:i9 prog G Ha0:=⟨Ub7,trivial⟩
structure M2 where
 d7:List Pln
 is7:Int
structure p9 where
 is8:Int
 g8:List Pt
noncomputable def Aa4(p:M2)(s:p9):St:=⟨eL tP p.d7::.fn 169 [.ptr 0 0 0 0]::ra 5 (i p.is7::i s.is8::ra 10 []),[⟨0,1,[[eL tX s.g8]],true,false,0⟩]⟩
noncomputable def G7{α:Type}(k:p9->α)(e:Nat->α)(z:α)(p:M2)(s:p9):α:=let t1:=(qa5 ⟨(gL tP p.d7 s.is8.toNat).n.x,(gL tP p.d7 s.is8.toNat).n.y,(gL tP p.d7 s.is8.toNat).n.z,(gL tP p.d7 s.is8.toNat).b,rt tX s.g8⟩);(sl (decide (s.is8<p.is7)) (sl (inB s.is8 (List.length p.d7)) (sl ((cnE tX s.g8)&&true) (sl (Nat.beq t1.alt 1) (sl t1.bs0 (e 1) (k ⟨W (s.is8+1),rt tX s.g8⟩)) z) z) z) (e 2))
noncomputable def J3(p:M2)(s:p9):Stp p9:=G7 .next .exit .fail p s
noncomputable def ia6:Lo M2 p9:=⟨En Ha0,1,ff9,[1,0,1,4,4],[0,1,7,8],.p,[⟨sLq tP::.fn 169 [.o (.ptr 0 0 0 0)]::ru2 5 (sIq::sIq::ru2 10 []),[⟨0,1,true,some [[.c 4 (nL tX)]]⟩],λa H=>(⟨aLq tP a 0,aIq a 7⟩,⟨aIq a 8,hLq tX H 0 0 0⟩)⟩],J3,[(none,λp s=>⟨[i s.is8],[⟨0,1,[[eL tX (rt tX s.g8)]],true,false,0⟩]⟩),(some 0,λp s=>upq (Aa4 p s) [(9,b (decide (s.is8<p.is7)))])],Aa4⟩
theorem mb3:ia6.Ok:=Lo.ok [] (by kernel_rfl) .nil rfl (.cons (λa H=>by kernel_rfl) .nil) λp s=>(.of @G7 (λF _ _ _ _ _=>by unfold G7;(repeat' apply m8 (f:=F))<;>rfl) (by kernel_rfl))
structure Z7 where
 alt:Nat
 is0:Int
 g8:List Pt
noncomputable def H8{α:Type}(kk:Z7->α)(x:Z6):α:=let t1:=(lp (J3 (⟨rt tP x.d7,(↑(List.length x.d7):Int)⟩:M2)) (⟨0,rt tX x.g8⟩:p9));(sl ((cnE tP x.d7)&&((cnE tX x.g8)&&true)) (sl (Nat.beq t1.1 1) (kk ⟨1,t1.2.is8,rt tX t1.2.g8⟩) (sl (Nat.beq t1.1 2) (kk ⟨1,-1,t1.2.g8⟩) (kk ⟨0,0,[]⟩))) (kk ⟨0,0,[]⟩))
noncomputable def oa4(x:Z6):Z7:=H8 (λr=>r) x
noncomputable def la7(x:Z6)(r:Z7):DT (b7×List b9):=(.ite (Nat.beq r.alt 1) (.ret (i r.is0,[⟨0,1,[[eL tX r.g8]],true,false,0⟩])) .fail)
theorem zb5{α β:Type}(F:α->β)(kk:Z7->α)(x:Z6):F (H8 kk x)=H8 (λr=>F (kk r)) x:=by unfold H8;(repeat' apply m8 (f:=F))<;>rfl
noncomputable def Ma0:Sum:=Va6 ⟨[sLq tP,.fn 169 [.o (.ptr 0 0 0 0)]],[⟨0,1,true,some [[.c 4 (nL tX)]]⟩],λa H=>(⟨aLq tP a 0,hLq tX H 0 0 0⟩,())⟩ (λx=>la7 x (oa4 x))
theorem vb8:g7 prog G 196 Ma0:=M9 (enc:=λx=>⟨[eL tP x.d7,.fn 169 [.ptr 0 0 0 0]],[⟨0,1,[[eL tX x.g8]],true,false,0⟩]⟩) (λa H=>by kernel_rfl) (bd Kf9 pb5) λx=>xa3 (.s .p (.s (.s .p (.b (.u ia6.ls))) .p)) [ia6.pr] (by kernel_rfl) (.cons mb3 .nil) (Qha (b:=H8 (λr=>(la7 x r).run) x) (by kernel_rfl) (zb5 (λr=>(la7 x r).run) (λr=>r) x).symm)
structure S6 where
 d7:List Pln
 g8:List Pt
noncomputable def ib9:List (Nat×Sum):=[(196,Ma0)]
theorem cb4:i9 prog G ib9:=⟨vb8,trivial⟩
structure S7 where
 alt:Nat
 bs0:Bool
 g8:List Pt
noncomputable def D7{α:Type}(kk:S7->α)(x:S6):α:=let t1:=(oa4 ⟨rt tP x.d7,rt tX x.g8⟩);(sl ((cnE tP x.d7)&&((cnE tX x.g8)&&true)) (sl (Nat.beq t1.alt 1) (kk ⟨1,decide (t1.is0>=0),t1.g8⟩) (kk ⟨0,false,[]⟩)) (kk ⟨0,false,[]⟩))
noncomputable def ga2(x:S6):S7:=D7 (λr=>r) x
noncomputable def ea0(x:S6)(r:S7):DT (b7×List b9):=(.ite (Nat.beq r.alt 1) (.ret (b r.bs0,[⟨0,1,[[eL tX r.g8]],true,false,0⟩])) .fail)
theorem mb4{α β:Type}(F:α->β)(kk:S7->α)(x:S6):F (D7 kk x)=D7 (λr=>F (kk r)) x:=by unfold D7;(repeat' apply m8 (f:=F))<;>rfl
noncomputable def Aa5:Sum:=Va6 ⟨[sLq tP,.fn 169 [.o (.ptr 0 0 0 0)]],[⟨0,1,true,some [[.c 4 (nL tX)]]⟩],λa H=>(⟨aLq tP a 0,hLq tX H 0 0 0⟩,())⟩ (λx=>ea0 x (ga2 x))
theorem jb0:g7 prog G 168 Aa5:=M9 (enc:=λx=>⟨[eL tP x.d7,.fn 169 [.ptr 0 0 0 0]],[⟨0,1,[[eL tX x.g8]],true,false,0⟩]⟩) (λa H=>by kernel_rfl) (bd Jf4 cb4) λx=>y5 (Qha (b:=D7 (λr=>(ea0 x r).run) x) (by kernel_rfl) (mb4 (λr=>(ea0 x r).run) (λr=>r) x).symm)
noncomputable def jc4:List (Nat×Sum):=[(167,Da4),(168,Aa5)]
theorem bc4:i9 prog G jc4:=⟨Wa6,jb0,trivial⟩
noncomputable def la8(x:List Pln):Option (b7×List b9):=let t1:=(ba0 (rt tP x));let t2:=(ga2 ⟨rt tP x,rt tX t1⟩);(sl (okE tP x) (sl (ba1 (rt tP x)) (sl ((cnE tP x)&&((cnE tX t1)&&true)) (sl (Nat.beq t2.alt 1) (some (b (!t2.bs0),[])) none) none) none) none)
noncomputable def la9(x:List Pln):Bool:=N9 (one r1B) (la8 x)
noncomputable def ma0(x:List Pln):Bool:=okO (one r1B) (la8 x)
noncomputable def Sa3:Sum:=V1 (R5 tP) (λx=>.guard (ma0 x) (.ret ((one r1B).enc (la9 x),[])))
theorem nb7:g7 prog G 111 Sa3:=Fa2 (bd Gf2 bc4) (one r1B) (o:=la8) λx=>y5 (by kernel_rfl)
noncomputable def bd4:List (Nat×Sum):=[(109,pb2),(110,hc9),(167,Da4)]
theorem Pc9:i9 prog G bd4:=⟨Fb7,qc6,Wa6,trivial⟩
noncomputable def Oa7(x:List Pln):Option (b7×List b9):=let t1:=(xa7 [rt tP x]);let t2:=(cb1 [rt tP x]);let t3:=(ba0 (rt tP t2));(sl ((okE tP x)&&true) (sl (xa8 [rt tP x]) (sl (!t1) (some (.v (.slice none 0 0),[])) (sl ((okE tP x)&&true) (sl (cb2 [rt tP x]) (sl (okE tP t2) (sl (ba1 (rt tP t2)) (some (eL tX t3,[])) none) none) none) none)) none) none)
noncomputable def Ca6(x:List Pln):List Pt:=N9 (one (r1L tX)) (Oa7 x)
noncomputable def Ca7(x:List Pln):Bool:=okO (one (r1L tX)) (Oa7 x)
noncomputable def eb8:Sum:=V1 (R5 tP) (λx=>.guard (Ca7 x) (.ret ((one (r1L tX)).enc (Ca6 x),[])))
theorem vb9:g7 prog G 113 eb8:=Fa2 (bd Gf4 Pc9) (one (r1L tX)) (o:=Oa7) λx=>y5 (by kernel_rfl)
noncomputable def Dd5:List (Nat×Sum):=[(109,pb2),(110,hc9),(111,Sa3)]
theorem nd0:i9 prog G Dd5:=⟨Fb7,qc6,nb7,trivial⟩
noncomputable def jb1(x:List Pln):Option (b7×List b9):=let t1:=(xa7 [rt tP x]);let t2:=(cb1 [rt tP x]);let t3:=(la9 (rt tP t2));(sl ((okE tP x)&&true) (sl (xa8 [rt tP x]) (sl t1 (sl ((okE tP x)&&true) (sl (cb2 [rt tP x]) (sl (okE tP t2) (sl (ma0 (rt tP t2)) (some (b t3,[])) none) none) none) none) (some (b false,[]))) none) none)
noncomputable def ka4(x:List Pln):Bool:=N9 (one r1B) (jb1 x)
noncomputable def ka5(x:List Pln):Bool:=okO (one r1B) (jb1 x)
noncomputable def Ha1:Sum:=V1 (R5 tP) (λx=>.guard (ka5 x) (.ret ((one r1B).enc (ka4 x),[])))
theorem Ka0:g7 prog G 55 Ha1:=Fa2 (bd b55 nd0) (one r1B) (o:=jb1) λx=>y5 (by kernel_rfl)
structure Ge7 where
 Nf2:List Pt
 wa5:Int
structure Ge8 where
 (Jc8 fb9 gb0 gb1 Cf3 Cf4 Cf5:Int)
theorem ve1(P:Ja7)(g n:Int)(hn:n.natAbs<=9223372036854775808):lp (Oa1 P) ⟨g,n⟩=(1,⟨eu g n,0⟩) :=
 ke0 (mk:=λg n=>(⟨g,n⟩:pa9)) (λg n h=>by simp[Oa1,Ga0,tb3,h]) (λg=>by simp[Oa1,Ga0,tb3]) g n hn
theorem ve2(l:List Int)(hl:l.length<=1000000000)(hb:∀x∈l,x.natAbs<=9223372036854775808):lp (Ca3 ⟨(l.length:Int)⟩) ⟨0,l,0⟩=(1,⟨l.foldl eu 0,l,l.length⟩):=by
 have := wc5 (step := Ca3 ⟨(l.length : Int)⟩) (mk := fun j a => (⟨a, l, (j : Int)⟩ : qa0)) (f := eu) (fin := 1) tI l (fun _ _ => True) hl (fun j a hj _ => ⟨by
   simp only[Ca3,Ga1,Int.toNat_natCast,i5,i8,ve1 _ _ _ (hb _ (ta9 tI hj)),o4 hj (by omega)]
   rw[bt (Yb4 hj),bt (f7 hj)]
   rfl,trivial⟩) (λa _=>by simp[Ca3,Ga1,tb3]) 0 (Nat.zero_le _) 0 trivial
 simpa using this.1
theorem yc9:∀(l:List Int) (g:Int),(l.foldl eu g).natAbs=l.foldl (λa x=>Nat.gcd a x.natAbs) g.natAbs
 |[],_=>rfl
 |x::l,g=>by rw[List.foldl_cons,yc9 l,List.foldl_cons,Ce6];rfl
theorem mf1(l:List Int)(hl:l.length<=1000000000)(hb:∀x∈l,x.natAbs<=9223372036854775807)(h0:(l.foldl eu 0).natAbs<=9223372036854775807):vb1 l=some (i ((l.foldl eu 0).natAbs:Int),[]):=by
 unfold vb1;simp only[i5,i8,ve2 l hl (λx hx=>Nat.le_succ_of_le (hb x hx))]
 generalize l.foldl eu 0=e at *
 have:W (0-e)=-e:=by rw[ha0 (by omega) (by omega)];omega
 rw[this];show some (i (if -e>e then -e else e),[])=_
 congr 3
 split<;>omega
theorem ud0(x y:Int)(hx:0<=x)(hy:0<=y)(hb:y<=9223372036854775807):Va7 x y=some (i (Int.gcd x y:Int),[]):=by
 unfold Va7
 have:=ke0 (step:=za2 ⟨⟩) (mk:=λg n=>(⟨g,n⟩:da5)) (λg n h=>by simp[za2,ua1,tb3,h]) (λg=>by simp[za2,ua1,tb3]) x y (by omega)
 simp only[this,Ce7 hx hy];rfl
theorem bd5(x y:Int)(hx:0<=x)(hy:0<=y)(hb:y<=9223372036854775807):V4 x y=(Int.gcd x y:Int):=by unfold V4;rw[ud0 x y hx hy hb];rfl
theorem bd6(x y:Int)(hx:0<=x)(hy:0<=y)(hb:y<=9223372036854775807):V5 x y=true:=by unfold V5;rw[ud0 x y hx hy hb];rfl
noncomputable def rm(p:Pln)(x:Pt):Int:=W (p.b*x.pw-(p.n.x*x.px+p.n.y*x.py+p.n.z*x.pz))
theorem Dd6(p:Pln)(x:Pt):wa7 p x=rm p x:=by
 unfold wa7 Ta5 rm;simp only[tb5,Yb3,Yc2,Bd3]
theorem Tc4(p:Pln)(x:Pt):Sa1 p x=rm p x:=by
 unfold Sa1 rm;simp only[tb5,Yb3,Yc2,Bd3];congr 1;omega
structure Bd(p:Pln):Prop where
 x1:-4608<=p.n.x
 x2:p.n.x<=4608
 y1:-4608<=p.n.y
 y2:p.n.y<=4608
 z1:-4608<=p.n.z
 z2:p.n.z<=4608
 b1:-2097152<=p.b
 b2:p.b<=2097152
def mv(p q r:Pln):V3 :=
 ⟨(d9 q.n r.n).x*p.b+(d9 r.n p.n).x*q.b+(d9 p.n q.n).x*r.b,
  (d9 q.n r.n).y*p.b+(d9 r.n p.n).y*q.b+(d9 p.n q.n).y*r.b,
  (d9 q.n r.n).z*p.b+(d9 r.n p.n).z*q.b+(d9 p.n q.n).z*r.b⟩
def gc(v:V3)(w:Int):Int:=(Nat.gcd (Nat.gcd v.x.natAbs v.y.natAbs) (Nat.gcd v.z.natAbs w.natAbs):Nat)
def mpt(p q r:Pln):Pt×Bool :=
 if mw p q r=0 then (⟨0,0,0,0⟩,false)
 else if mw p q r<0 then (⟨Int.tdiv (-(mv p q r).x) (gc (mv p q r) (mw p q r)),Int.tdiv (-(mv p q r).y) (gc (mv p q r) (mw p q r)),Int.tdiv (-(mv p q r).z) (gc (mv p q r) (mw p q r)),Int.tdiv (-(mw p q r)) (gc (mv p q r) (mw p q r))⟩,true)
 else (⟨Int.tdiv (mv p q r).x (gc (mv p q r) (mw p q r)),Int.tdiv (mv p q r).y (gc (mv p q r) (mw p q r)),Int.tdiv (mv p q r).z (gc (mv p q r) (mw p q r)),Int.tdiv (mw p q r) (gc (mv p q r) (mw p q r))⟩,true)
def Sm(n:Int)(x:Int):Prop:=-n<=x/\x<=n
theorem zc0{a b:V3}(ha:Sm 4608 a.x/\Sm 4608 a.y/\Sm 4608 a.z)(hb:Sm 4608 b.x/\Sm 4608 b.y/\Sm 4608 b.z):Sm 42467328 (d9 a b).x/\Sm 42467328 (d9 a b).y/\Sm 42467328 (d9 a b).z:=by
 obtain⟨⟨a1,a2⟩,⟨a3,a4⟩,a5,a6⟩:=ha;obtain⟨⟨b1,b2⟩,⟨b3,b4⟩,b5,b6⟩:=hb;have h1:=mb a3 a4 b5 b6;have h2:=mb a5 a6 b3 b4;have h3:=mb a5 a6 b1 b2;have h4:=mb a1 a2 b5 b6;have h5:=mb a1 a2 b3 b4;have h6:=mb a3 a4 b1 b2;unfold Sm d9
 simp only
 omega
theorem Bd.n{p:Pln}(h:Bd p):Sm 4608 p.n.x/\Sm 4608 p.n.y/\Sm 4608 p.n.z:=⟨⟨h.x1,h.x2⟩,⟨h.y1,h.y2⟩,h.z1,h.z2⟩
theorem Ge9{p q r:Pln}(hp:Bd p)(hq:Bd q)(hr:Bd r):Sm 600000000000 (mw p q r):=by
 obtain⟨⟨c1,c2⟩,⟨c3,c4⟩,c5,c6⟩:=zc0 hq.n hr.n;have h1:=mb hp.x1 hp.x2 c1 c2;have h2:=mb hp.y1 hp.y2 c3 c4;have h3:=mb hp.z1 hp.z2 c5 c6;unfold Sm mw dot;omega
theorem He0{p q r:Pln}(hp:Bd p)(hq:Bd q)(hr:Bd r):Sm 300000000000000 (mv p q r).x/\Sm 300000000000000 (mv p q r).y/\Sm 300000000000000 (mv p q r).z:=by
 obtain⟨⟨c1,c2⟩,⟨c3,c4⟩,c5,c6⟩:=zc0 hq.n hr.n;obtain⟨⟨d1,d2⟩,⟨d3,d4⟩,d5,d6⟩:=zc0 hr.n hp.n;obtain⟨⟨e1,e2⟩,⟨e3,e4⟩,e5,e6⟩:=zc0 hp.n hq.n;have a1:=mb c1 c2 hp.b1 hp.b2;have a2:=mb c3 c4 hp.b1 hp.b2;have a3:=mb c5 c6 hp.b1 hp.b2;have b1:=mb d1 d2 hq.b1 hq.b2;have b2:=mb d3 d4 hq.b1 hq.b2;have b3:=mb d5 d6 hq.b1 hq.b2;have f1:=mb e1 e2 hr.b1 hr.b2;have f2:=mb e3 e4 hr.b1 hr.b2;have f3:=mb e5 e6 hr.b1 hr.b2;unfold Sm mv
 simp only
 omega
theorem Tc5(a b:V3):U5 a b=⟨W (d9 a b).x,W (d9 a b).y,W (d9 a b).z⟩:=by
 unfold U5 d9;simp only[Yc2,Bd3]
theorem zc1(a b:V3):Y3 a b=⟨W (d9 a b).x,W (d9 a b).y,W (d9 a b).z⟩:=by
 unfold Y3 d9;simp only[Yc2,Bd3]
theorem mf2(p q r:Pln):dot r.n (d9 p.n q.n)=mw p q r:=by unfold mw dot d9;grind
theorem Mf0(a b c d:Nat):[a,b,c,d].foldl Nat.gcd 0=Nat.gcd (Nat.gcd a b) (Nat.gcd c d):=by
 simp only[List.foldl_cons,List.foldl_nil,Nat.gcd_zero_left];rw[Nat.gcd_assoc]
theorem bd7{v:V3}{w:Int}(h:w≠0):0<gc v w:=by
 unfold gc
 have:0<Nat.gcd v.z.natAbs w.natAbs:=Qhb _ (by omega)
 have:=Qhb (Nat.gcd v.x.natAbs v.y.natAbs) this
 omega
theorem He1{v:V3}{w:Int}(h:w≠0):gc v w<=w.natAbs:=by
 unfold gc;have h1:Nat.gcd v.z.natAbs w.natAbs<=w.natAbs:=Qhd _ (by omega)
 have h2:0<Nat.gcd v.z.natAbs w.natAbs:=Qhb _ (by omega)
 have h3:=Qhd (m:=Nat.gcd v.x.natAbs v.y.natAbs) (n:=Nat.gcd v.z.natAbs w.natAbs) h2;omega
theorem Ha2{x:Int}(h:Sm 1000000000000000000 x):W x=x:=ha0 (by have:=h.1;omega) (by have:=h.2;omega)
theorem Sm.mono{n m x:Int}(h:Sm n x)(hn:n<=m):Sm m x:=⟨by have:=h.1;omega,by have:=h.2;omega⟩
theorem K3{n x g:Int}(h:Sm n x)(hg:0<g):Sm n (Int.tdiv x g):=by
 have h1:(Int.tdiv x g).natAbs<=x.natAbs:=by rw[Int.natAbs_tdiv];exact Nat.div_le_self _ _
 have:=h.1;have:=h.2
 constructor<;>omega
theorem ee5{p q r:Pln}(hp:Bd p)(hq:Bd q)(hr:Bd r)(h:(mpt p q r).2=true):0<(mpt p q r).1.pw/\Sm 300000000000000 (mpt p q r).1.px/\Sm 300000000000000 (mpt p q r).1.py/\Sm 300000000000000 (mpt p q r).1.pz/\(mpt p q r).1.pw<=600000000000:=by
 have hw:=Ge9 hp hq hr;obtain⟨v1,v2,v3⟩:=He0 hp hq hr;have neg:∀{n x:Int},Sm n x->Sm n (-x):=λh=>⟨by have:=h.2;omega,by have:=h.1;omega⟩
 have pos:∀{x:Int},0<x->x.natAbs=(mw p q r).natAbs->0<Int.tdiv x (gc (mv p q r) (mw p q r)):=λ{x} hx he=>by
  have h0:mw p q r≠0:=by omega
  have h1:=bd7 (v:=mv p q r) h0;have h2:=He1 (v:=mv p q r) h0;rw[Int.tdiv_eq_ediv_of_nonneg (by omega)]
  exact Int.ediv_pos_of_pos_of_dvd hx (by omega) (by
   rw[<- Int.dvd_natAbs,he];exact Int.natCast_dvd_natCast.2 (Nat.dvd_trans (Nat.gcd_dvd_right _ _) (Nat.gcd_dvd_right _ _)))
 unfold mpt at h ⊢;by_cases h0:mw p q r=0
 ·rw[if_pos h0] at h;cases h
 ·rw[if_neg h0];have hg:=bd7 (v:=mv p q r) h0;by_cases h1:mw p q r<0
  ·rw[if_pos h1];exact⟨pos (by omega) (by omega),K3 (neg v1) hg,K3 (neg v2) hg,K3 (neg v3) hg,(K3 (neg hw) hg).2⟩
  ·rw[if_neg h1];exact⟨pos (by omega) rfl,K3 v1 hg,K3 v2 hg,K3 v3 hg,(K3 hw hg).2⟩
theorem ke8{p q r:Pln}(hp:Bd p)(hq:Bd q)(hr:Bd r):hb8 ⟨p,q,r⟩=some (.tup [.agg (tX.row (mpt p q r).1),b (mpt p q r).2],[]):=by
 have hw:=Ge9 hp hq hr;obtain⟨v1,v2,v3⟩:=He0 hp hq hr;have e1:Ta5 r.n (U5 p.n q.n)=mw p q r:=by
  rw[Tc5];unfold Ta5;simp only[tb5,Yb3,Ce4];show W (dot r.n (d9 p.n q.n))=_;rw[mf2,Ha2 (hw.mono (by omega))]
 have e2:wa6 (wa6 (wa6 ⟨0,0,0⟩ (pa8 (U5 q.n r.n) p.b)) (pa8 (U5 r.n p.n) q.b)) (pa8 (U5 p.n q.n) r.b)=mv p q r:=by
  rw[Tc5,Tc5,Tc5];unfold wa6 pa8;simp only[tb5,Yb3,ce4,Int.zero_add];show (⟨W (mv p q r).x,W (mv p q r).y,W (mv p q r).z⟩:V3)=_;rw[Ha2 (v1.mono (by omega)),Ha2 (v2.mono (by omega)),Ha2 (v3.mono (by omega))]
 unfold hb8;simp only[e1,e2];have hb:∀x∈[(mv p q r).x,(mv p q r).y,(mv p q r).z,mw p q r],x.natAbs<=9223372036854775807:=by
  intro x hx;simp only[List.mem_cons,List.not_mem_nil,or_false] at hx;unfold Sm at *
  rcases hx with rfl|rfl|rfl|rfl<;>omega
 have hf:([(mv p q r).x,(mv p q r).y,(mv p q r).z,mw p q r].foldl eu 0).natAbs=Nat.gcd (Nat.gcd (mv p q r).x.natAbs (mv p q r).y.natAbs) (Nat.gcd (mv p q r).z.natAbs (mw p q r).natAbs):=by
  rw[yc9,<- Mf0];rfl
 unfold mpt;by_cases h0:mw p q r=0
 ·rw[bt (by rw[h0];rfl),if_pos h0]
  rfl
 ·have hz:(mw p q r==0)=false:=by simpa using h0
  rw[bf hz,if_neg h0];have hgp:=bd7 (v:=mv p q r) h0;have hgl:=He1 (v:=mv p q r) h0;have hge:=mf1 _ (by simp) hb (by rw[hf];unfold gc at hgl;unfold Sm at hw;omega)
  have hgv:Ob6 [(mv p q r).x,(mv p q r).y,(mv p q r).z,mw p q r]=gc (mv p q r) (mw p q r):=by
   unfold Ob6;rw[hge,hf];rfl
  have hgg:Ob7 [(mv p q r).x,(mv p q r).y,(mv p q r).z,mw p q r]=true:=by
   unfold Ob7;rw[hge];rfl
  rw[hgv,bt hgg];generalize hG:gc (mv p q r) (mw p q r)=G at *
  have hGW:W (0-G)=-G:=by unfold Sm at hw;rw[ha0 (by omega) (by omega)];omega
  have hGn:(-G==0)=false:=by simp;omega
  have hGp:(G==0)=false:=by simp;omega
  by_cases h1:mw p q r<0
  ·rw[bt (decide_eq_true h1),if_pos h1];simp only[hGW];rw[bf hGn,bf hGn,bf hGn,bf hGn];simp only[Int.tdiv_neg,<- Int.neg_tdiv];have neg:∀{n x:Int},Sm n x->Sm n (-x):=λh=>⟨by have:=h.2;omega,by have:=h.1;omega⟩
   rw[Ha2 ((K3 (neg v1) hgp).mono (by omega)),Ha2 ((K3 (neg v2) hgp).mono (by omega)),Ha2 ((K3 (neg v3) hgp).mono (by omega)),Ha2 ((K3 (neg hw) hgp).mono (by omega))]
   rfl
  ·rw[bf (decide_eq_false h1),if_neg h1,bf hGp,bf hGp,bf hGp,bf hGp];rw[Ha2 ((K3 v1 hgp).mono (by omega)),Ha2 ((K3 v2 hgp).mono (by omega)),Ha2 ((K3 v3 hgp).mono (by omega)),Ha2 ((K3 hw hgp).mono (by omega))]
   rfl
theorem mf3{p q r:Pln}(hp:Bd p)(hq:Bd q)(hr:Bd r):hb9 ⟨p,q,r⟩=mpt p q r:=by unfold hb9;rw[ke8 hp hq hr];rfl
theorem mf4{p q r:Pln}(hp:Bd p)(hq:Bd q)(hr:Bd r):ib0 ⟨p,q,r⟩=true:=by unfold ib0;rw[ke8 hp hq hr];rfl
theorem Qd8{p q r:Pln}(hp:Bd p)(hq:Bd q)(hr:Bd r):ub3 p q r=some (.tup [.agg (tX.row (mpt p q r).1),b (mpt p q r).2],[]):=by
 have hw:=Ge9 hp hq hr;obtain⟨v1,v2,v3⟩:=He0 hp hq hr;have e1:Ca1 p.n (Y3 q.n r.n)=mw p q r:=by
  rw[zc1];unfold Ca1;simp only[tb5,Yb3,Ce4];show W (dot p.n (d9 q.n r.n))=_;rw[show dot p.n (d9 q.n r.n)=mw p q r from rfl,Ha2 (hw.mono (by omega))]
 have e2:rb7 (rb7 (V2 (Y3 q.n r.n) p.b) (V2 (Y3 r.n p.n) q.b)) (V2 (Y3 p.n q.n) r.b)=mv p q r:=by
  rw[zc1,zc1,zc1];unfold rb7 V2;simp only[tb5,Yb3,ce4];show (⟨W (mv p q r).x,W (mv p q r).y,W (mv p q r).z⟩:V3)=_;rw[Ha2 (v1.mono (by omega)),Ha2 (v2.mono (by omega)),Ha2 (v3.mono (by omega))]
 have neg:∀{n x:Int},Sm n x->Sm n (-x):=λh=>⟨by have:=h.2;omega,by have:=h.1;omega⟩
 have e3:V2 (mv p q r) (-1)=⟨-(mv p q r).x,-(mv p q r).y,-(mv p q r).z⟩:=by
  unfold V2
  have:∀x:Int,x*-1=-x:=λx=>by omega
  simp only[this];rw[Ha2 ((neg v1).mono (by omega)),Ha2 ((neg v2).mono (by omega)),Ha2 ((neg v3).mono (by omega))]
 have ab:∀{x:Int},Sm 300000000000000 x->(if W (0-x)>x then W (0-x) else x)=(x.natAbs:Int):=λ{x} h=>by
  have:W (0-x)=-x:=by rw[show 0-x=-x by omega];exact Ha2 ((neg h).mono (by omega))
  rw[this]
  split<;>omega
 unfold ub3;simp only[e1,e2,e3];rw[ab v1,ab v2,ab v3,ab (neg v1),ab (neg v2),ab (neg v3)];simp only[Int.natAbs_neg];unfold mpt;by_cases h0:mw p q r=0
 ·rw[bt (by rw[h0];rfl),if_pos h0]
  rfl
 ·have hz:(mw p q r==0)=false:=by simpa using h0
  rw[bf hz,if_neg h0];have hgp:=bd7 (v:=mv p q r) h0;have hgl:=He1 (v:=mv p q r) h0;have hw0:=hw;unfold Sm at hw0;have q1:((mv p q r).y.natAbs:Int)<=9223372036854775807:=by unfold Sm at v2;omega
  have k1:=bd5 ((mv p q r).x.natAbs:Int) ((mv p q r).y.natAbs:Int) (by omega) (by omega) q1
  have k2:=bd6 ((mv p q r).x.natAbs:Int) ((mv p q r).y.natAbs:Int) (by omega) (by omega) q1
  have c1:Int.gcd ((mv p q r).x.natAbs:Int) ((mv p q r).y.natAbs:Int)=Nat.gcd (mv p q r).x.natAbs (mv p q r).y.natAbs:=by simp[Int.gcd]
  have fin : ∀ w : Int, 0 < w → w.natAbs = (mw p q r).natAbs → V4 ((mv p q r).z.natAbs : Int) w = (Nat.gcd (mv p q r).z.natAbs (mw p q r).natAbs : Nat) ∧ V5 ((mv p q r).z.natAbs : Int) w = true ∧
    V4 (Nat.gcd (mv p q r).x.natAbs (mv p q r).y.natAbs:Nat) (Nat.gcd (mv p q r).z.natAbs (mw p q r).natAbs:Nat)=gc (mv p q r) (mw p q r)/\V5 (Nat.gcd (mv p q r).x.natAbs (mv p q r).y.natAbs:Nat) (Nat.gcd (mv p q r).z.natAbs (mw p q r).natAbs:Nat)=true:=by
   intro w hw1 hw2;have l1:Nat.gcd (mv p q r).z.natAbs (mw p q r).natAbs<=(mw p q r).natAbs:=Qhd _ (by omega)
   refine⟨?_,bd6 _ _ (by omega) (by omega) (by omega),?_,bd6 _ _ (by omega) (by omega) (by omega)⟩
   ·rw[bd5 _ _ (by omega) (by omega) (by omega)]
    have:Int.gcd ((mv p q r).z.natAbs:Int) w=Nat.gcd (mv p q r).z.natAbs (mw p q r).natAbs:=by unfold Int.gcd;rw[hw2];simp
    rw[this]
   ·rw[bd5 _ _ (by omega) (by omega) (by omega)]
    rfl
  by_cases h1:mw p q r<0
  ·rw[bt (decide_eq_true h1),if_pos h1];have hWw:W (0-mw p q r)=-mw p q r:=by rw[ha0 (by omega) (by omega)];omega
   rw[hWw];obtain⟨f1,f2,f3,f4⟩:=fin (-mw p q r) (by omega) (by omega)
   simp only[k1,k2,c1,f1,f2,f3,f4];generalize gc (mv p q r) (mw p q r)=G at *
   have hGp:(G==0)=false:=by simp;omega
   simp only[hGp];rw[Ha2 ((K3 (neg v1) hgp).mono (by omega)),Ha2 ((K3 (neg v2) hgp).mono (by omega)),Ha2 ((K3 (neg v3) hgp).mono (by omega)),Ha2 ((K3 (neg hw) hgp).mono (by omega))]
   rfl
  ·rw[bf (decide_eq_false h1),if_neg h1];obtain⟨f1,f2,f3,f4⟩:=fin (mw p q r) (by omega) rfl
   simp only[k1,k2,c1,f1,f2,f3,f4];generalize gc (mv p q r) (mw p q r)=G at *
   have hGp:(G==0)=false:=by simp;omega
   simp only[hGp];rw[Ha2 ((K3 v1 hgp).mono (by omega)),Ha2 ((K3 v2 hgp).mono (by omega)),Ha2 ((K3 v3 hgp).mono (by omega)),Ha2 ((K3 hw hgp).mono (by omega))]
   rfl
theorem We4{p q r:Pln}(hp:Bd p)(hq:Bd q)(hr:Bd r):ub4 p q r=mpt p q r:=by unfold ub4;rw[Qd8 hp hq hr];rfl
theorem We5{p q r:Pln}(hp:Bd p)(hq:Bd q)(hr:Bd r):ub5 p q r=true:=by unfold ub5;rw[Qd8 hp hq hr];rfl
end Go.Ev.Ce
