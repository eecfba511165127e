/- Own work. -/
import Derived.Test.YtekgjjgbdcgldaaGreatChecked
import Derived.Test.YtekgjjgbdcgldaaGreatEvOCePf
import Derived.KernelRfl
import Derived.Shelf.Spec.SlicesGrow
set_option linter.all false
def Qha:=@Eq.trans
def Qhb:=@Nat.gcd_pos_of_pos_right
def Qhc:=@List.getElem?_eq_some_iff
def Qhd:=@Nat.gcd_le_right
def Qhe:=@List.getElem?_replicate
def Qhf:=@Nat.le_refl
namespace Go.Ev.Ce
open Go Go.Ev Go.Proofs
set_option maxRecDepth 1000000
theorem mx:(Tryz.prog).follows .mixedOrders=true:=Checked.mixed Tryz.checked
abbrev Bdq(n:Nat)(pf:PFn):Prop:=ve4 Tryz.prog n λE=>Pb4 E pf
theorem bdq{f:FuncId}{fn:Func}(hf:(Tryz.prog).funcs[f]?=some fn)(hn:decide (fn.name ≠ "runtime.NumGoroutine")=true:=by kernel_rfl)(hc:Option.isSome (d8 Tryz.prog fn)=true:=by kernel_rfl):Bdq f (got (d8 Tryz.prog fn)):=eg2 mx hf hn (Qd9 hc)
theorem b3:Bdq 3 pf3:=bdq Tryz.func3
theorem b4:Bdq 4 pf4:=bdq Tryz.func4
theorem b5:Bdq 5 pf5:=bdq Tryz.func5
theorem b6:Bdq 6 pf6:=bdq Tryz.func6
theorem b11:Bdq 11 bf3:=bdq Tryz.func11
theorem b16:Bdq 16 eg3:=bdq Tryz.func16
theorem b23:Bdq 23 Vf1:=bdq Tryz.func23
theorem b25:Bdq 25 Vf2:=bdq Tryz.func25
theorem b26:Bdq 26 Vf3:=bdq Tryz.func26
theorem b27:Bdq 27 eg4:=bdq Tryz.func27
theorem b34:Bdq 34 eg5:=bdq Tryz.func34
theorem b37:Bdq 37 eg6:=bdq Tryz.func37
theorem b38:Bdq 38 eg7:=bdq Tryz.func38
theorem b39:Bdq 39 eg8:=bdq Tryz.func39
theorem b40:Bdq 40 Vf4:=bdq Tryz.func40
theorem b42:Bdq 42 eg9:=bdq Tryz.func42
theorem b45:Bdq 45 fg0:=bdq Tryz.func45
theorem b47:Bdq 47 Vf5:=bdq Tryz.func47
theorem b49:Bdq 49 Vf6:=bdq Tryz.func49
theorem b51:Bdq 51 fg1:=bdq Tryz.func51
theorem b52:Bdq 52 fg2:=bdq Tryz.func52
theorem b53:Bdq 53 fg3:=bdq Tryz.func53
theorem b54:Bdq 54 fg4:=bdq Tryz.func54
theorem b55:Bdq 55 fg5:=bdq Tryz.func55
theorem b56:Bdq 56 fg6:=bdq Tryz.func56
theorem b58:Bdq 58 fg7:=bdq Tryz.func58
theorem b59:Bdq 59 Vf7:=bdq Tryz.func59
theorem b63:Bdq 63 fg8:=bdq Tryz.func63
theorem b68:Bdq 68 fg9:=bdq Tryz.func68
theorem b69:Bdq 69 gg0:=bdq Tryz.func69
theorem b70:Bdq 70 gg1:=bdq Tryz.func70
theorem b71:Bdq 71 vf9:=bdq Tryz.func71
theorem b73:Bdq 73 gg2:=bdq Tryz.func73
theorem b78:Bdq 78 bf4:=bdq Tryz.func78
theorem b80:Bdq 80 gg3:=bdq Tryz.func80
theorem b83:Bdq 83 gg4:=bdq Tryz.func83
theorem b84:Bdq 84 gg5:=bdq Tryz.func84
theorem b85:Bdq 85 gg6:=bdq Tryz.func85
theorem b86:Bdq 86 gg7:=bdq Tryz.func86
theorem b88:Bdq 88 gg8:=bdq Tryz.func88
theorem b93:Bdq 93 gg9:=bdq Tryz.func93
theorem b94:Bdq 94 Vf8:=bdq Tryz.func94
theorem b95:Bdq 95 Vf9:=bdq Tryz.func95
theorem b96:Bdq 96 Wf0:=bdq Tryz.func96
theorem b97:Bdq 97 hg3:=bdq Tryz.func97
theorem b98:Bdq 98 hg4:=bdq Tryz.func98
theorem b99:ve4 Tryz.prog 99 λE=>Vb8 E Mf9:=bf2 (h:=h99) mx Tryz.func99 (by kernel_rfl) Tryz.func190 (by kernel_rfl) (Qd9 (by kernel_rfl))
theorem hg5:Bdq 100 Ef8:=bdq Tryz.func100
theorem hg6:Bdq 101 bf5:=bdq Tryz.func101
theorem Zf8:Bdq 103 Wf1:=bdq Tryz.func103
theorem hg7:Bdq 104 Wf2:=bdq Tryz.func104
theorem hg8:Bdq 107 Wf3:=bdq Tryz.func107
theorem hg9:Bdq 108 Wf4:=bdq Tryz.func108
theorem ig0:Bdq 109 Wf5:=bdq Tryz.func109
theorem ig1:Bdq 110 Wf6:=bdq Tryz.func110
theorem ig2:Bdq 111 Wf7:=bdq Tryz.func111
theorem ig3:Bdq 112 Wf8:=bdq Tryz.func112
theorem ig4:Bdq 113 Wf9:=bdq Tryz.func113
theorem ig5:Bdq 115 Xf0:=bdq Tryz.func115
theorem ig6:Bdq 116 Xf1:=bdq Tryz.func116
theorem ig7:Bdq 121 Xf2:=bdq Tryz.func121
theorem ig8:Bdq 122 Xf3:=bdq Tryz.func122
theorem ig9:Bdq 123 bf6:=bdq Tryz.func123
theorem jg0:Bdq 124 Xf4:=bdq Tryz.func124
theorem jg1:Bdq 125 Ef9:=bdq Tryz.func125
theorem jg2:Bdq 126 Ff0:=bdq Tryz.func126
theorem jg3:Bdq 127 Ff1:=bdq Tryz.func127
theorem jg4:Bdq 128 Xf5:=bdq Tryz.func128
theorem jg5:Bdq 135 Xf6:=bdq Tryz.func135
theorem jg6:Bdq 138 Ff2:=bdq Tryz.func138
theorem wf0:Bdq 139 fe7:=bdq Tryz.func139
theorem jg7:Bdq 140 Xf7:=bdq Tryz.func140
theorem jg8:Bdq 141 Xf8:=bdq Tryz.func141
theorem jg9:Bdq 142 Xf9:=bdq Tryz.func142
theorem kg0:Bdq 149 Yf0:=bdq Tryz.func149
theorem Zf9:Bdq 150 Ff3:=bdq Tryz.func150
theorem Nf0:Bdq 151 Yf1:=bdq Tryz.func151
theorem kg1:Bdq 152 Ff4:=bdq Tryz.func152
theorem kg2:Bdq 153 Yf2:=bdq Tryz.func153
theorem ag0:Bdq 154 bf7:=bdq Tryz.func154
theorem kg3:Bdq 155 Ff5:=bdq Tryz.func155
theorem kg4:Bdq 156 Yf3:=bdq Tryz.func156
theorem kg5:Bdq 157 Yf4:=bdq Tryz.func157
theorem kg6:Bdq 158 Yf5:=bdq Tryz.func158
theorem kg7:Bdq 159 Ff6:=bdq Tryz.func159
theorem ag1:Bdq 161 bf8:=bdq Tryz.func161
theorem kg8:Bdq 162 Yf6:=bdq Tryz.func162
theorem kg9:Bdq 163 Ff7:=bdq Tryz.func163
theorem lg0:Bdq 164 Yf7:=bdq Tryz.func164
theorem lg1:Bdq 165 Yf8:=bdq Tryz.func165
theorem lg2:ve4 Tryz.prog 166 λE=>Vb8 E bf9:=bf2 (h:=Vf0) mx Tryz.func166 (by kernel_rfl) Tryz.func193 (by kernel_rfl) (Qd9 (by kernel_rfl))
theorem lg3:ve4 Tryz.prog 167 λE=>Vb8 E Ce8:=bf2 (h:=Uf9) mx Tryz.func167 (by kernel_rfl) Tryz.func221 (by kernel_rfl) (Qd9 (by kernel_rfl))
theorem lg4:Bdq 168 Yf9:=bdq Tryz.func168
theorem lg5:Bdq 169 Zf0:=bdq Tryz.func169
theorem lg6:Bdq 170 Zf1:=bdq Tryz.func170
theorem lg7:Bdq 171 Ff8:=bdq Tryz.func171
theorem lg8:Bdq 172 Zf2:=bdq Tryz.func172
theorem lg9:Bdq 179 Ff9:=bdq Tryz.func179
theorem mg0:Bdq 180 Gf0:=bdq Tryz.func180
theorem mg1:Bdq 181 Ce9:=bdq Tryz.func181
theorem mg2:Bdq 182 Gf1:=bdq Tryz.func182
theorem mg3:Bdq 183 Zf3:=bdq Tryz.func183
theorem mg4:Bdq 184 Zf4:=bdq Tryz.func184
theorem mg5:Bdq 186 cf0:=bdq Tryz.func186
theorem mg6:Bdq 191 Gf2:=bdq Tryz.func191
theorem mg7:Bdq 194 Gf3:=bdq Tryz.func194
theorem mg8:Bdq 195 Zf5:=bdq Tryz.func195
theorem mg9:Bdq 196 Gf4:=bdq Tryz.func196
theorem ng0:Bdq 199 Gf5:=bdq Tryz.func199
theorem ng1:Bdq 207 Gf6:=bdq Tryz.func207
theorem ng2:Bdq 208 Gf7:=bdq Tryz.func208
theorem ng3:Bdq 209 Zf6:=bdq Tryz.func209
theorem ng4:Bdq 210 Gf8:=bdq Tryz.func210
theorem ng5:Bdq 211 Gf9:=bdq Tryz.func211
theorem ng6:Bdq 221 Hf0:=bdq Tryz.func221
theorem ng7:Bdq 222 cf1:=bdq Tryz.func222
theorem ng8:Bdq 228 Zf7:=bdq Tryz.func228
theorem ng9:Bdq 229 Hf1:=bdq Tryz.func229
end Go.Ev.Ce
namespace Go.Ev.L
open Go Go.Ev
noncomputable def jc2:RT->PC->PS2
 |.s a b,.seq x y=>.seq (jc2 a x) (jc2 b y)
 |.c a b,.cond g x y=>.cond g (jc2 a x) (jc2 b y)
 |.b a,.block id x=>.block id (jc2 a x)
 |.i a,.inner f x n c=>.inner f x n (jc2 a c)
 |.u S,_=>.sum S
 |_,c=>.pc c
theorem Rd0{E:Env}{k:Nat}(rt:RT)(c:PC):bb0 (λx=>∀s,fa2 (x.1 s) (S7 E k x.2 s)) (sc3 rt c)->ra6 E k (jc2 rt c) c:=by
 induction rt generalizing c with
 |p=>intro h;cases c<;>exact .pc _
 |s a b iha ihb =>
  intro h;cases c with
  |seq x y=>exact .seq (iha x (bb0.app h).1) (ihb y (bb0.app h).2)
  |_=>exact .pc _
 |c a b iha ihb =>
  intro h;cases c with
  |cond g x y=>exact .cond g (iha x (bb0.app h).1) (ihb y (bb0.app h).2)
  |_=>exact .pc _
 |b a iha =>
  intro h;cases c with
  |block id x=>exact .block id (iha x h)
  |_=>exact .pc _
 |l a iha=>intro h;cases c<;>exact .pc _
 |i a iha =>
  intro h;cases c with
  |inner f x n c=>exact .inner f x n (iha c h)
  |_=>exact .pc _
 |u S =>
  intro h
  have:sc3 (.u S) c=[(S,c)]:=by cases c<;>rfl
  rw[this] at h;cases h with
  |cons h t =>
   have e:jc2 (.u S) c=.sum S:=by cases c<;>rfl
   rw[e];exact .sum h
section
variable{π σ:Type}{E:Env}{k:Nat}{keep:List Nat}{alts:List (Al2 π σ)}{enc:π->σ->St}{step:π->σ->Stp σ}{xs:Xs π σ}{body:PS2}{c:PC}
theorem ic2.belowM(hb:ra6 E k body c)(hN:E.N=rounds+1)(w:ic2 fe6 k keep (Oc5 E k body) alts step xs enc)(s:St):fa2 (Gd7 fe6 k keep alts step xs s) (S7 E k (.loopM keep c) s):=λr hr=>by
 obtain⟨t,h1,h2⟩:=w.go hr;rw[ve3,hN];exact Vb2 hb.le _ _ _ (qc3 h1 h2)
theorem ic2.belowML(hb:ra6 E k body c)(hN:E.N=rounds+1)(w:ic2 hc6 k keep (Oc5 E k body) alts step xs enc)(s:St):fa2 (Gd7 hc6 k keep alts step xs s) (S7 E k (.loop keep c) s):=λr hr=>by
 obtain⟨t,h1,h2⟩:=w.go hr;rw[Gd6,hN];exact Vb2 hb.le _ _ _ (qc3 h1 h2)
end
end Go.Ev.L
namespace Go.Ev.Ab
open Go Go.Ev
@[reducible] def o(d:Nat)(x:PO):PI:=⟨some d,none,[],x⟩
@[reducible] def s(x:PO):PI:=⟨none,none,[],x⟩
@[reducible] def ci(n:Int):Arg:=.c (.v (.int .i64 n))
@[reducible] def cb(b:Bool):Arg:=.c (.v (.bool b))
@[reducible] def vi(n:Int):b7:=.v (.int .i64 n)
@[reducible] def rep{α:Type}(n:Nat)(x:α):List α:=List.replicate n x
@[reducible] def ki(n:Nat):List CK:=List.replicate n (.int .i64)
@[reducible] def mv(d n:Nat):PI:=o d (.mv (.t n))
@[reducible] def mc(d:Nat)(n:Int):PI:=o d (.mv (ci n))
@[reducible] def mb(d:Nat)(x:Bool):PI:=o d (.mv (cb x))
@[reducible] def fd(d k n:Nat):PI:=o d (.fld k (.t n))
@[reducible] def bx(d n:Nat):PI:=o d (.box (.t n))
@[reducible] def lf(d k n:Nat):PI:=o d (.load (ki k) k false (.t n))
@[reducible] def ex(d x k:Nat):PI:=o d (.ext (.t x) k)
@[reducible] def gf(n:Nat)(x:PI):PI:=⟨x.dst,some (n,false),x.hide,x.op⟩
@[reducible] def so(l:List PI)(x:PC):PC:=.seq (.ops l) x
@[reducible] def ts(l:List Nat):List Arg:=l.map .t
@[reducible] def cl(f:Nat)(l:List Nat):PO:=.call f (ts l)
@[reducible] def sT(k a b:Nat):PI:=s (.store k (.t a) (.t b))
@[reducible] def pa(d c x:Nat):PI:=o d (.pick (.t c) (.t x) (cb false))
@[reducible] def po(d c x:Nat):PI:=o d (.pick (.t c) (cb true) (.t x))
@[reducible] def al(d k:Nat)(n:Int):PI:=o d (.alloc (rep k (vi n)))
@[reducible] def ap(d et es n x y:Nat):PI:=o d (.append et es n (.t x) (.t y))
end Go.Ev.Ab
namespace Go.Ev.L
open Go Go.Ev
def Cps{π σ:Type}(u:∀{α:Type},(σ->α)->(Nat->α)->α->π->σ->α):Prop :=
 ∀{α β:Type} (F:α->β) (k:σ->α) (e:Nat->α) (z:α) (p:π) (s:σ),F (u k e z p s)=u (λx=>F (k x)) (λt=>F (e t)) (F z) p s
@[reducible] noncomputable def foL{π σ:Type}(en:π->σ->St)(xs:Xs π σ)(p:π)(s:σ):Stp σ->Option (f8×St):=hc7 (λs'=>some (.normal,en p s')) (λt=>xOf xs p s t 1) none
structure Lo(π σ:Type) where
 E:Env
 k:Nat
 F:PFn
 at':List Nat
 kp:List Nat
 rt:RT
 al:List (Al2 π σ)
 st:π->σ->Stp σ
 xs:Xs π σ
 en:π->σ->St
namespace Lo
variable{π σ:Type}(L:Lo π σ)
noncomputable def lc:PC:=eg0 L.at' L.F.body
noncomputable def ls:St->DT (f8×St):=Gd7 hc6 L.k L.kp L.al L.st L.xs
noncomputable def lsM:St->DT (f8×St):=Gd7 fe6 L.k L.kp L.al L.st L.xs
noncomputable def pr:(St->DT (f8×St))×PC:=(L.ls,.loop L.kp L.lc)
noncomputable def prM:(St->DT (f8×St))×PC:=(L.lsM,.loopM L.kp L.lc)
def Ok:Prop:=∀s,la2 L.k L.F.res (L.pr.1 s) (S7 L.E L.k L.pr.2 s)
def OkE:Prop:=∀s,fa2 (L.pr.1 s) (S7 L.E L.k L.pr.2 s)
def OkM:Prop:=∀s,fa2 (L.prM.1 s) (S7 L.E L.k L.prM.2 s)
def Rd(hd:St->DT St)(bd:St->DT (f8×St))(p:π)(s:σ)(a:St)(b:Stp σ):Prop:=(Vb3 hd bd a).run=foL L.en L.xs p s b
def H0:Prop:=∀p s,L.Rd (hc6 L.k L.kp) (Be3 L.E L.k L.F.res (xd6 L.rt L.lc)) p s (L.en p s) (L.st p s)
def H1:Prop:=∀p s,L.Rd (hc6 L.k L.kp) (Oc5 L.E L.k (jc2 L.rt L.lc)) p s (L.en p s) (L.st p s)
def H2:Prop:=∀p s,L.Rd (fe6 L.k L.kp) (Oc5 L.E L.k (jc2 L.rt L.lc)) p s (L.en p s) (L.st p s)
def HA:Prop:=bb0 (λx=>∀a H,(⟨Le9 x.sh a,Me0 x.bl H⟩:St)=L.en (x.rd a H).1 (x.rd a H).2) L.al
variable{L}
theorem Rd.of {hd : St → DT St} {bd : St → DT (f8 × St)} {p : π} {s : σ} {a : St} (u : ∀ {α : Type}, (σ → α) → (Nat → α) → α → π → σ → α)
  (q:Cps @u) (H:(Vb3 hd bd a).run=u (λx=>foL L.en L.xs p s (.next x)) (λt=>foL L.en L.xs p s (.exit t)) (foL L.en L.xs p s .fail) p s):L.Rd hd bd p s a (u .next .exit .fail p s) :=
 H.trans (q (foL L.en L.xs p s) Stp.next Stp.exit Stp.fail p s).symm
theorem Rd.sel{hd:St->DT St}{bd:St->DT (f8×St)}{p:π}{s:σ}{a1 a0:St}{b1 b0:Stp σ}(c:Bool)(h1:L.Rd hd bd p s a1 b1)(h0:L.Rd hd bd p s a0 b0):L.Rd hd bd p s (sel c a1 a0) (sel c b1 b0):=by
 cases c with
 |true=>exact h1
 |false=>exact h0
theorem ok(l:List ((St->DT (f8×St))×PC))(hs:sc3 L.rt L.lc=l)(hl:bb0 (λx=>∀s,la2 L.k L.F.res (x.1 s) (S7 L.E L.k x.2 s)) l)(hN:L.E.N=rounds+1)(ha:L.HA)(h:L.H0):L.Ok :=
 ic2.belowC (Ce0 _ _ (by rw[hs];exact hl)) hN ⟨ha,h⟩
theorem okE(l:List ((St->DT (f8×St))×PC))(hs:sc3 L.rt L.lc=l)(hl:bb0 (λx=>∀s,fa2 (x.1 s) (S7 L.E L.k x.2 s)) l)(hN:L.E.N=rounds+1)(ha:L.HA)(h:L.H1):L.OkE :=
 ic2.belowML (Rd0 _ _ (by rw[hs];exact hl)) hN ⟨ha,h⟩
theorem okM(l:List ((St->DT (f8×St))×PC))(hs:sc3 L.rt L.lc=l)(hl:bb0 (λx=>∀s,fa2 (x.1 s) (S7 L.E L.k x.2 s)) l)(hN:L.E.N=rounds+1)(ha:L.HA)(h:L.H2):L.OkM :=
 ic2.belowM (Rd0 _ _ (by rw[hs];exact hl)) hN ⟨ha,h⟩
end Lo
theorem ta7 {E : Env} {F : PFn} {args : List b7} {blks : List b8} {o : Option (b7 × List b8)} (rt : RT) (l : List ((St → DT (f8 × St)) × PC)) (hs : sc3 rt F.body = l)
  (hl:bb0 (λx=>∀s,la2 (len blks) F.res (x.1 s) (S7 E (len blks) x.2 s)) l) (h:(Tf8 E F (xd6 rt F.body) args blks).run=o) (r:b7×List b8) (hr:o=some r):(Pb4 E F args blks).run=some r :=
 te6 (Ce0 rt _ (by rw[hs];exact hl)) r (h.trans hr)
theorem cf2 {E : Env} {F : PFn} {args : List b7} {blks : List b8} {o : Option (b7 × List b8)} (rt : RT) (l : List ((St → DT (f8 × St)) × PC)) (hs : sc3 rt F.body = l)
  (hl:bb0 (λx=>∀s,fa2 (x.1 s) (S7 E (len blks) x.2 s)) l) (h:(Ef7 E F (jc2 rt F.body) args blks).run=o) (r:b7×List b8) (hr:o=some r):(Vb8 E F args blks).run=some r :=
 fe5 (Rd0 rt _ (by rw[hs];exact hl)) r (h.trans hr)
theorem v7{A o:Option (b7×List b8)}(h:A=o)(r:b7×List b8)(hr:o=some r):A=some r:=h.trans hr
noncomputable abbrev upq(x:St)(l:List (Nat×b7)):St:=⟨l.foldl (λa q=>a.set q.1 q.2) x.a,x.H⟩
noncomputable abbrev sIq:S2:=.s (.o (.int .i64))
noncomputable abbrev sUq:S2:=.s (.o .unk)
noncomputable abbrev sBq:S2:=.s (.o .bool)
noncomputable abbrev sPq(n:Nat):S2:=.s (.o (.ptr n 0 0 0))
noncomputable abbrev sTq(n:Nat):S2:=.s (.o (.tree n))
noncomputable abbrev sLq{α:Type}(t:Ty α):S2:=.s (.c t.es (nL t))
noncomputable abbrev kLq(n:Nat):List K:=List.replicate n (.o (.int .i64))
noncomputable abbrev aIq(a:List b7)(n:Nat):Int:=toI (slT a n)
noncomputable abbrev aBq(a:List b7)(n:Nat):Bool:=toB (slT a n)
noncomputable abbrev aNq(a:List b7)(n:Nat):Nat:=toN (slT a n)
noncomputable abbrev aGq(a:List b7)(n:Nat):Nat->List b7:=toG (slT a n)
noncomputable abbrev aLq{α:Type}(t:Ty α)(a:List b7)(n:Nat):List α:=rL t (slT a n)
noncomputable abbrev hIq(H:List b8)(m r n:Nat):Int:=toI (slT (rwT (elT H m) r) n)
noncomputable abbrev cIq(a:List b7)(m n:Nat):Int:=toI (slT (cellsOf (slT a m)) n)
noncomputable abbrev hLq{α:Type}(t:Ty α)(H:List b8)(m r n:Nat):List α:=rL t (slT (rwT (elT H m) r) n)
end Go.Ev.L
namespace Go.Ev.Ce
structure V3 where
 x:Int
 y:Int
 z:Int
structure Pln where
 n:V3
 b:Int
structure Pt where
 px:Int
 py:Int
 pz:Int
 pw:Int
def d9(a b:V3):V3:=⟨a.y*b.z-a.z*b.y,a.z*b.x-a.x*b.z,a.x*b.y-a.y*b.x⟩
def dot(a b:V3):Int:=a.x*b.x+a.y*b.y+a.z*b.z
def mw(p q r:Pln):Int:=dot p.n (d9 q.n r.n)
end Go.Ev.Ce
namespace Go.Ev.Ce
open Go Go.Ev Go.Ev.L Go.Proofs
@[reducible] noncomputable def prog:Program:=Tryz.prog
noncomputable def G:Nat->List Value:=λ_=>[]
noncomputable def En(l:List (Nat×Sum)):Env:={ P:=prog,G,fns:=λ_=>none,call:=Lf0 l,own:=λf j=>Bool.and (nb8 f [150,121,154,91,139,144,146,148]) (Nat.beq j 0),N:=18446744073709551616 }
@[reducible] def u:b7:=.v (.tuple #[])
theorem ag2{l:List (Nat×Sum)}(h:i9 prog G l):∀f,g9 (En l).P (En l).G f ((En l).call f):=Be2 h
theorem bd{l:List (Nat×Sum)}{f:FuncId}{R:Env->Sum}(b:ve4 prog f R)(h:i9 prog G l):g9 prog G f (R (En l)):=b rfl (ag2 h)
noncomputable def tV:Ty V3 where
 es:=3
 row x:=[i x.x,i x.y,i x.z]
 rd r:=⟨toI (hdA r),toI (hdA (tlA r)),toI (hdA (tlA (tlA r)))⟩
 ok r:=Ja7 3 r
 cks:=List.replicate 3 (.int .i64)
 d:=⟨0,0,0⟩
 h0 _:=rfl
 h1 _:=rfl
 h2 _:=rfl
 h3 _ h:=.of (jb3 h)
 h4 _:=rfl
 h5 _:=rfl
noncomputable def r1V:R1 V3:=r1A tV 3 λ_ h=>h
noncomputable def tP:Ty Pln where
 es:=4
 row x:=[i x.n.x,i x.n.y,i x.n.z,i x.b]
 rd r:=⟨⟨toI (hdA r),toI (hdA (tlA r)),toI (hdA (tlA (tlA r)))⟩,toI (hdA (tlA (tlA (tlA r))))⟩
 ok r:=Ja7 4 r
 cks:=List.replicate 4 (.int .i64)
 d:=⟨⟨0,0,0⟩,0⟩
 h0 _:=rfl
 h1 _:=rfl
 h2 _:=rfl
 h3 _ h:=.of (jb3 h)
 h4 _:=rfl
 h5 _:=rfl
noncomputable def r1P:R1 Pln:=r1A tP 4 λ_ h=>h
noncomputable def tX:Ty Pt where
 es:=4
 row x:=[i x.px,i x.py,i x.pz,i x.pw]
 rd r:=⟨toI (hdA r),toI (hdA (tlA r)),toI (hdA (tlA (tlA r))),toI (hdA (tlA (tlA (tlA r))))⟩
 ok r:=Ja7 4 r
 cks:=List.replicate 4 (.int .i64)
 d:=⟨0,0,0,0⟩
 h0 _:=rfl
 h1 _:=rfl
 h2 _:=rfl
 h3 _ h:=.of (jb3 h)
 h4 _:=rfl
 h5 _:=rfl
noncomputable def r1X:R1 Pt:=r1A tX 4 λ_ h=>h
structure Tp where
 p:Pln
 q:Pln
 r:Pln
noncomputable def tY:Ty Tp where
 es:=12
 row x:=[i x.p.n.x,i x.p.n.y,i x.p.n.z,i x.p.b,i x.q.n.x,i x.q.n.y,i x.q.n.z,i x.q.b,i x.r.n.x,i x.r.n.y,i x.r.n.z,i x.r.b]
 rd r:=⟨⟨⟨toI (hdA r),toI (hdA (tlA r)),toI (hdA (tlA (tlA r)))⟩,toI (hdA (tlA (tlA (tlA r))))⟩,⟨⟨toI (hdA (tlA (tlA (tlA (tlA r))))),toI (hdA (tlA (tlA (tlA (tlA (tlA r)))))),toI (hdA (tlA (tlA (tlA (tlA (tlA (tlA r)))))))⟩,toI (hdA (tlA (tlA (tlA (tlA (tlA (tlA (tlA r))))))))⟩,⟨⟨toI (hdA (tlA (tlA (tlA (tlA (tlA (tlA (tlA (tlA r))))))))),toI (hdA (tlA (tlA (tlA (tlA (tlA (tlA (tlA (tlA (tlA r)))))))))),toI (hdA (tlA (tlA (tlA (tlA (tlA (tlA (tlA (tlA (tlA (tlA r)))))))))))⟩,toI (hdA (tlA (tlA (tlA (tlA (tlA (tlA (tlA (tlA (tlA (tlA (tlA r))))))))))))⟩⟩
 ok r:=Ja7 12 r
 cks:=List.replicate 12 (.int .i64)
 d:=⟨⟨⟨0,0,0⟩,0⟩,⟨⟨0,0,0⟩,0⟩,⟨⟨0,0,0⟩,0⟩⟩
 h0 _:=rfl
 h1 _:=rfl
 h2 _:=rfl
 h3 _ h:=.of (jb3 h)
 h4 _:=rfl
 h5 _:=rfl
structure Q2 where
 a:V3
 b:V3
set_option maxRecDepth 100000
noncomputable def fe8:List (Nat×Sum):=[]
theorem Rd1:i9 prog G fe8:=trivial
noncomputable def Xa5(x:Pln)(y:Pt):Int:=(W ((W ((W ((W (x.b*y.pw))-(W (x.n.x*y.px))))-(W (x.n.y*y.py))))-(W (x.n.z*y.pz))))
noncomputable def Wb1:Sum:=oa5 (ba6 tP) (ba6 tX) (λx y=>.ret ((one r1I).enc (Xa5 x y),[]))
theorem jc3:g9 prog G 158 Wb1:=Ia3 (bd kg6 Rd1) λx y=>v7 (by kernel_rfl)
noncomputable def ve5:List (Nat×Sum):=[]
theorem fe9:i9 prog G ve5:=trivial
noncomputable def zb0(x:V3)(y:V3):V3:=(⟨W (x.x+y.x),W (x.y+y.y),W (x.z+y.z)⟩:V3)
noncomputable def Hd7:Sum:=oa5 (ba6 tV) (ba6 tV) (λx y=>.ret ((one r1V).enc (zb0 x y),[]))
theorem ve6:g9 prog G 80 Hd7:=Ia3 (bd b80 fe9) λx y=>v7 (by kernel_rfl)
noncomputable def ve7:List (Nat×Sum):=[]
theorem ge0:i9 prog G ve7:=trivial
noncomputable def Ga1(x:V3)(y:V3):Int:=(W ((W ((W (x.x*y.x))+(W (x.y*y.y))))+(W (x.z*y.z))))
noncomputable def rc0:Sum:=oa5 (ba6 tV) (ba6 tV) (λx y=>.ret ((one r1I).enc (Ga1 x y),[]))
theorem yc7:g9 prog G 84 rc0:=Ia3 (bd b84 ge0) λx y=>v7 (by kernel_rfl)
noncomputable def Rd2:List (Nat×Sum):=[]
theorem xd8:i9 prog G Rd2:=trivial
noncomputable def ba1(x:V3)(y:V3):V3:=(⟨W ((W (x.y*y.z))-(W (x.z*y.y))),W ((W (x.z*y.x))-(W (x.x*y.z))),W ((W (x.x*y.y))-(W (x.y*y.x)))⟩:V3)
noncomputable def jc4:Sum:=oa5 (ba6 tV) (ba6 tV) (λx y=>.ret ((one r1V).enc (ba1 x y),[]))
theorem Gc1:g9 prog G 164 jc4:=Ia3 (bd lg0 xd8) λx y=>v7 (by kernel_rfl)
noncomputable def xd9:List (Nat×Sum):=[]
theorem kd9:i9 prog G xd9:=trivial
noncomputable def Y4(x:V3)(y:Int):V3:=(⟨W (x.x*y),W (x.y*y),W (x.z*y)⟩:V3)
noncomputable def Gc2:Sum:=oa5 (ba6 tV) cI (λx y=>.ret ((one r1V).enc (Y4 x y),[]))
theorem yd0:g9 prog G 228 Gc2:=Ia3 (bd ng8 kd9) λx y=>v7 (by kernel_rfl)
noncomputable def uc1:List (Nat×Sum):=[]
theorem ld0:i9 prog G uc1:=trivial
structure Ja8 where
structure ga7 where
 (is0 is1:Int)
noncomputable def bc7(p:Ja8)(s:ga7):St:=⟨i s.is0::i s.is1::ra 10 [],[]⟩
noncomputable def ya8{α:Type}(k:ga7->α)(e:Nat->α)(z:α)(p:Ja8)(s:ga7):α:=(sl (s.is1 != 0) (sl (s.is1==0) z (k ⟨s.is1,Int.tmod s.is0 s.is1⟩)) (e 1))
noncomputable def Da7(p:Ja8)(s:ga7):Stp ga7:=ya8 .next .exit .fail p s
noncomputable def Bb2:Lo Ja8 ga7:=⟨En uc1,0,Hf1,[1,0,4,4],[0,1],.p,[⟨sIq::sIq::ru2 10 [],[],λa H=>(⟨⟩,⟨aIq a 0,aIq a 1⟩)⟩],Da7,[(some 0,λp s=>upq (bc7 p s) [(5,i s.is1),(6,b (s.is1 != 0))])],bc7⟩
theorem Yc4:Bb2.Ok:=Lo.ok [] (by kernel_rfl) .nil rfl (.cons (λa H=>by kernel_rfl) .nil) λp s=>(.of @ya8 (λF _ _ _ _ _=>by unfold ya8;(repeat' apply l6 (f:=F))<;>rfl) (by kernel_rfl))
noncomputable def bb3(x:Int)(y:Int):Option (b7×List b8):=let t1:=(lp (Da7 (⟨⟩:Ja8)) (⟨x,y⟩:ga7));(sl (Nat.beq t1.1 1) (some (i t1.2.is0,[])) none)
noncomputable def Y5(x:Int)(y:Int):Int:=J8 (one r1I) (bb3 x y)
noncomputable def Y6(x:Int)(y:Int):Bool:=okO (one r1I) (bb3 x y)
noncomputable def Gc3:Sum:=oa5 cI cI (λx y=>.guard (Y6 x y) (.ret ((one r1I).enc (Y5 x y),[])))
theorem yd1:g9 prog G 229 Gc3:=hb8 (bd ng9 ld0) (one r1I) (o:=bb3) λx y=>ta7 (.s .p (.s (.b (.u Bb2.ls)) .p)) [Bb2.pr] (by kernel_rfl) (.cons Yc4 .nil) (by kernel_rfl)
noncomputable def ge1:List (Nat×Sum):=[(164,jc4),(84,rc0),(228,Gc2),(80,Hd7),(229,Gc3)]
theorem Rd3:i9 prog G ge1:=⟨Gc1,yc7,yd0,ve6,yd1,trivial⟩
noncomputable def Bb3(x:Pln)(y:Pln)(z:Pln):Option (b7×List b8):=let t1:=(ba1 y.n z.n);let t2:=(Ga1 x.n t1);let t3:=(Y4 t1 x.b);let t4:=(ba1 z.n x.n);let t5:=(Y4 t4 y.b);let t6:=(zb0 t3 t5);let t7:=(ba1 x.n y.n);let t8:=(Y4 t7 z.b);let t9:=(zb0 t6 t8);let t10:=(Y4 t9 (-1));let t11:=(Y5 (if (W (0-t10.x))>t10.x then (W (0-t10.x)) else t10.x) (if (W (0-t10.y))>t10.y then (W (0-t10.y)) else t10.y));let t12:=(Y5 (if (W (0-t10.z))>t10.z then (W (0-t10.z)) else t10.z) (W (0-t2)));let t13:=(Y5 t11 t12);let t14:=(Y5 (if (W (0-t9.x))>t9.x then (W (0-t9.x)) else t9.x) (if (W (0-t9.y))>t9.y then (W (0-t9.y)) else t9.y));let t15:=(Y5 (if (W (0-t9.z))>t9.z then (W (0-t9.z)) else t9.z) t2);let t16:=(Y5 t14 t15);(sl (t2==0) (some (.tup [.agg [i 0,i 0,i 0,i 0],b false],[])) (sl (decide (t2<0)) (sl (Y6 (if (W (0-t10.x))>t10.x then (W (0-t10.x)) else t10.x) (if (W (0-t10.y))>t10.y then (W (0-t10.y)) else t10.y)) (sl (Y6 (if (W (0-t10.z))>t10.z then (W (0-t10.z)) else t10.z) (W (0-t2))) (sl (Y6 t11 t12) (sl (t13==0) none (sl (t13==0) none (sl (t13==0) none (sl (t13==0) none (some (.tup [.agg [i (W (Int.tdiv t10.x t13)),i (W (Int.tdiv t10.y t13)),i (W (Int.tdiv t10.z t13)),i (W (Int.tdiv (W (0-t2)) t13))],b true],[])))))) none) none) none) (sl (Y6 (if (W (0-t9.x))>t9.x then (W (0-t9.x)) else t9.x) (if (W (0-t9.y))>t9.y then (W (0-t9.y)) else t9.y)) (sl (Y6 (if (W (0-t9.z))>t9.z then (W (0-t9.z)) else t9.z) t2) (sl (Y6 t14 t15) (sl (t16==0) none (sl (t16==0) none (sl (t16==0) none (sl (t16==0) none (some (.tup [.agg [i (W (Int.tdiv t9.x t16)),i (W (Int.tdiv t9.y t16)),i (W (Int.tdiv t9.z t16)),i (W (Int.tdiv t2 t16))],b true],[])))))) none) none) none)))
noncomputable def Bb4(x:Pln)(y:Pln)(z:Pln):Pt×Bool:=J8 (two r1X r1B) (Bb3 x y z)
noncomputable def Bb5(x:Pln)(y:Pln)(z:Pln):Bool:=okO (two r1X r1B) (Bb3 x y z)
noncomputable def ld1:Sum:=yc1 (ba6 tP) (ba6 tP) (ba6 tP) (λx y z=>.guard (Bb5 x y z) (.ret ((two r1X r1B).enc (Bb4 x y z),[])))
theorem ge2:g9 prog G 209 ld1:=Le8 (bd ng3 Rd3) (two r1X r1B) (o:=Bb3) λx y z=>v7 (by kernel_rfl)
noncomputable def Hd8:List (Nat×Sum):=[(158,Wb1)]
theorem ve8:i9 prog G Hd8:=⟨jc3,trivial⟩
structure Bb6 where
 c9:List Pln
 (f0 b9 f7 j6:Int)
structure Ca5 where
 is5:Int
noncomputable def Vc0(p:Bb6)(s:Ca5):St:=⟨eL tP p.c9::.unk::.unk::.ptr 0 0 0 0::.unk::i s.is5::ra 13 [],[⟨0,4,[[i p.f0,i p.b9,i p.f7,i p.j6]],true,false,0⟩]⟩
noncomputable def bb4{α:Type}(k:Ca5->α)(e:Nat->α)(z:α)(p:Bb6)(s:Ca5):α:=let t1:=(Xa5 (gL tP p.c9 s.is5.toNat) (⟨p.f0,p.b9,p.f7,p.j6⟩:Pt));(sl (decide (s.is5<(↑(List.length p.c9):Int))) (sl (inB s.is5 (List.length p.c9)) (sl (decide (t1<0)) (e 1) (k ⟨W (s.is5+1)⟩)) z) (e 2))
noncomputable def ob0(p:Bb6)(s:Ca5):Stp Ca5:=bb4 .next .exit .fail p s
noncomputable def yc8:Lo Bb6 Ca5:=⟨En Hd8,0,Gf8,[1,0,1,4,4],[0,3,5],.p,[⟨sLq tP::sUq::sUq::sPq 0::sUq::sIq::ru2 13 [],[⟨0,4,true,some [kLq 4]⟩],λa H=>(⟨aLq tP a 0,hIq H 0 0 0,hIq H 0 0 1,hIq H 0 0 2,hIq H 0 0 3⟩,⟨aIq a 5⟩)⟩],ob0,[(none,λp s=>⟨[b false],[]⟩),(some 0,λp s=>upq (Vc0 p s) [(6,i s.is5),(7,eL tP p.c9),(8,i (↑(List.length p.c9):Int)),(9,b (decide (s.is5<(↑(List.length p.c9):Int))))])],Vc0⟩
theorem ge3:yc8.Ok:=Lo.ok [] (by kernel_rfl) .nil rfl (.cons (λa H=>by kernel_rfl) .nil) λp s=>(.of @bb4 (λF _ _ _ _ _=>by unfold bb4;(repeat' apply l6 (f:=F))<;>rfl) (by kernel_rfl))
noncomputable def jc5(x:List Pln)(y:Pt):Option (b7×List b8):=let t1:=(lp (ob0 (⟨rt tP x,y.px,y.py,y.pz,y.pw⟩:Bb6)) (⟨0⟩:Ca5));(sl ((cnE tP x)&&true) (sl (Nat.beq t1.1 1) (some (b false,[])) (sl (Nat.beq t1.1 2) (some (b true,[])) none)) none)
noncomputable def Qb4(x:List Pln)(y:Pt):Bool:=J8 (one r1B) (jc5 x y)
noncomputable def Qb5(x:List Pln)(y:Pt):Bool:=okO (one r1B) (jc5 x y)
noncomputable def ge4:Sum:=oa5 (O3 tP) (ba6 tX) (λx y=>.guard (Qb5 x y) (.ret ((one r1B).enc (Qb4 x y),[])))
theorem Ne9:g9 prog G 210 ge4:=hb8 (bd ng4 ve8) (one r1B) (o:=jc5) λx y=>ta7 (.s .p (.s (.s .p (.b (.u yc8.ls))) .p)) [yc8.pr] (by kernel_rfl) (.cons ge3 .nil) (by kernel_rfl)
noncomputable def Gc4:List (Nat×Sum):=[]
theorem yd2:i9 prog G Gc4:=trivial
structure Sa4 where
 wa1:List Pt
 (f0 b9 f7 j6:Int)
structure fa5 where
 is5:Int
noncomputable def jc6(p:Sa4)(s:fa5):St:=⟨eL tX p.wa1::.unk::.unk::.ptr 0 0 0 0::.unk::i s.is5::ra 12 [],[⟨0,4,[[i p.f0,i p.b9,i p.f7,i p.j6]],true,false,0⟩]⟩
noncomputable def Da8{α:Type}(k:fa5->α)(e:Nat->α)(z:α)(p:Sa4)(s:fa5):α:=(sl (decide (s.is5<(↑(List.length p.wa1):Int))) (sl (inB s.is5 (List.length p.wa1)) (sl (((gL tX p.wa1 s.is5.toNat).px==p.f0)&&(((gL tX p.wa1 s.is5.toNat).py==p.b9)&&(((gL tX p.wa1 s.is5.toNat).pz==p.f7)&&(((gL tX p.wa1 s.is5.toNat).pw==p.j6)&&true)))) (e 1) (k ⟨W (s.is5+1)⟩)) z) (e 2))
noncomputable def Ja9(p:Sa4)(s:fa5):Stp fa5:=Da8 .next .exit .fail p s
noncomputable def Mb0:Lo Sa4 fa5:=⟨En Gc4,0,Gf9,[1,0,1,4,4],[0,3,5],.p,[⟨sLq tX::sUq::sUq::sPq 0::sUq::sIq::ru2 12 [],[⟨0,4,true,some [kLq 4]⟩],λa H=>(⟨aLq tX a 0,hIq H 0 0 0,hIq H 0 0 1,hIq H 0 0 2,hIq H 0 0 3⟩,⟨aIq a 5⟩)⟩],Ja9,[(none,λp s=>⟨[b true],[]⟩),(some 0,λp s=>upq (jc6 p s) [(6,i s.is5),(7,eL tX p.wa1),(8,i (↑(List.length p.wa1):Int)),(9,b (decide (s.is5<(↑(List.length p.wa1):Int))))])],jc6⟩
theorem ld2:Mb0.Ok:=Lo.ok [] (by kernel_rfl) .nil rfl (.cons (λa H=>by kernel_rfl) .nil) λp s=>(.of @Da8 (λF _ _ _ _ _=>by unfold Da8;(repeat' apply l6 (f:=F))<;>rfl) (by kernel_rfl))
noncomputable def ob1(x:List Pt)(y:Pt):Option (b7×List b8):=let t1:=(lp (Ja9 (⟨rt tX x,y.px,y.py,y.pz,y.pw⟩:Sa4)) (⟨0⟩:fa5));(sl ((cnE tX x)&&true) (sl (Nat.beq t1.1 1) (some (b true,[])) (sl (Nat.beq t1.1 2) (some (b false,[])) none)) none)
noncomputable def Ya8(x:List Pt)(y:Pt):Bool:=J8 (one r1B) (ob1 x y)
noncomputable def Ya9(x:List Pt)(y:Pt):Bool:=okO (one r1B) (ob1 x y)
noncomputable def Vc1:Sum:=oa5 (O3 tX) (ba6 tX) (λx y=>.guard (Ya9 x y) (.ret ((one r1B).enc (Ya8 x y),[])))
theorem Rd4:g9 prog G 211 Vc1:=hb8 (bd ng5 yd2) (one r1B) (o:=ob1) λx y=>ta7 (.s .p (.s (.s .p (.b (.u Mb0.ls))) .p)) [Mb0.pr] (by kernel_rfl) (.cons ld2 .nil) (by kernel_rfl)
noncomputable def bb5:List (Nat×Sum):=[(209,ld1),(210,ge4),(211,Vc1)]
theorem Yc5:i9 prog G bb5:=⟨ge2,Ne9,Rd4,trivial⟩
structure T4 where
 c9:List Pln
 (is4 is5:Int)
structure v8 where
 ph:Nat
 is6:Int
 ns3:Nat
 eh0:List (List b7)
noncomputable def Ib9(p:T4)(s:v8):St:=⟨eL tP p.c9::.unk::.unk::.v (.slice none 0 0)::i p.is4::i p.is5::i s.is6::ra 57 [],[]⟩
noncomputable def Jb0(p:T4)(s:v8):St:=⟨eL tP p.c9::.unk::.unk::.sl 0 0 s.ns3 0::i p.is4::i p.is5::i s.is6::ra 57 [],[⟨136,4,s.eh0,true,false,0⟩]⟩
noncomputable def Oc6(p:T4)(s:v8):St:=(sel (Nat.beq s.ph 1) (Jb0 p s) (Ib9 p s))
noncomputable def Y7{α:Type}(k:v8->α)(e:Nat->α)(z:α)(p:T4)(s:v8):α:=let t1:=(Bb4 (gL tP p.c9 p.is4.toNat) (gL tP p.c9 p.is5.toNat) (gL tP p.c9 s.is6.toNat));let t2:=(Qb4 (rt tP p.c9) t1.1);let t3:=(Ya8 [] t1.1);(sl (decide (s.is6<(↑(List.length p.c9):Int))) (sl (inB p.is4 (List.length p.c9)) (sl (inB p.is5 (List.length p.c9)) (sl (inB s.is6 (List.length p.c9)) (sl (Bb5 (gL tP p.c9 p.is4.toNat) (gL tP p.c9 p.is5.toNat) (gL tP p.c9 s.is6.toNat)) (sl t1.2 (sl (okE tP p.c9) (sl (Qb5 (rt tP p.c9) t1.1) (sl t2 (sl (Ya9 [] t1.1) (sl (!t3) (k ⟨1,W (s.is6+1),1,[[i t1.1.px,i t1.1.py,i t1.1.pz,i t1.1.pw]]⟩) (k ⟨0,W (s.is6+1),0,[]⟩)) z) (k ⟨0,W (s.is6+1),0,[]⟩)) z) z) (k ⟨0,W (s.is6+1),0,[]⟩)) z) z) z) z) (e 1))
noncomputable def Y8{α:Type}(k:v8->α)(e:Nat->α)(z:α)(p:T4)(s:v8):α:=let t1:=(Bb4 (gL tP p.c9 p.is4.toNat) (gL tP p.c9 p.is5.toNat) (gL tP p.c9 s.is6.toNat));let t2:=(Qb4 (rt tP p.c9) t1.1);let t3:=(Ya8 (slR tX s.eh0 0 s.ns3) t1.1);(sl (decide (s.is6<(↑(List.length p.c9):Int))) (sl (inB p.is4 (List.length p.c9)) (sl (inB p.is5 (List.length p.c9)) (sl (inB s.is6 (List.length p.c9)) (sl (Bb5 (gL tP p.c9 p.is4.toNat) (gL tP p.c9 p.is5.toNat) (gL tP p.c9 s.is6.toNat)) (sl t1.2 (sl (okE tP p.c9) (sl (Qb5 (rt tP p.c9) t1.1) (sl t2 (sl (okS tX s.eh0 0 s.ns3) (sl (Ya9 (slR tX s.eh0 0 s.ns3) t1.1) (sl (!t3) (sl (Nat.beq s.ns3 (len s.eh0)&&Nat.ble ((s.ns3+1)*32) room) (k ⟨1,W (s.is6+1),s.ns3+1,app s.eh0 [[i t1.1.px,i t1.1.py,i t1.1.pz,i t1.1.pw]]⟩) z) (k ⟨1,W (s.is6+1),s.ns3,s.eh0⟩)) z) z) (k ⟨1,W (s.is6+1),s.ns3,s.eh0⟩)) z) z) (k ⟨1,W (s.is6+1),s.ns3,s.eh0⟩)) z) z) z) z) (e 2))
noncomputable def V1(p:T4)(s:v8):Stp v8:=(sel (Nat.beq s.ph 1) (Y8 .next .exit .fail p s) (Y7 .next .exit .fail p s))
noncomputable def sb2:Lo T4 v8:=⟨En bb5,0,Ce9,[1,1,0,1,4,4,1,0,4,1,4,4,1,0,4,1,4,4],[0,3,4,5,6],.p,[⟨sLq tP::sUq::sUq::.s (.o .nil)::sIq::sIq::sIq::ru2 57 [],[],λa H=>(⟨aLq tP a 0,aIq a 4,aIq a 5⟩,⟨0,aIq a 6,0,[]⟩)⟩,⟨sLq tP::sUq::sUq::.s (.o (.sl 0 0 (some 0) none))::sIq::sIq::sIq::ru2 57 [],[⟨136,4,true,none⟩],λa H=>(⟨aLq tP a 0,aIq a 4,aIq a 5⟩,⟨1,aIq a 6,slN (slT a 3),elT H 0⟩)⟩],V1,[(some 4,λp s=>upq (Ib9 p s) [(25,i s.is6),(26,eL tP p.c9),(27,i (↑(List.length p.c9):Int)),(28,b (decide (s.is6<(↑(List.length p.c9):Int))))]),(some 4,λp s=>upq (Jb0 p s) [(25,i s.is6),(26,eL tP p.c9),(27,i (↑(List.length p.c9):Int)),(28,b (decide (s.is6<(↑(List.length p.c9):Int))))])],Oc6⟩
theorem Oc7:sb2.Ok:=Lo.ok [] (by kernel_rfl) .nil rfl (.cons (λa H=>by kernel_rfl) (.cons (λa H=>by kernel_rfl) .nil)) λp s=>(.sel (Nat.beq s.ph 1) (.of @Y8 (λF _ _ _ _ _=>by unfold Y8;(repeat' apply l6 (f:=F))<;>rfl) (by kernel_rfl)) (.of @Y7 (λF _ _ _ _ _=>by unfold Y7;(repeat' apply l6 (f:=F))<;>rfl) (by kernel_rfl)))
structure T5 where
 is4:Int
structure y6 where
 ph:Nat
 c9:List Pln
 is5:Int
 ns3:Nat
 eh0:List (List b7)
noncomputable def Jb1(p:T5)(s:y6):St:=⟨eL tP s.c9::.unk::.unk::.v (.slice none 0 0)::i p.is4::i s.is5::ra 58 [],[]⟩
noncomputable def Jb2(p:T5)(s:y6):St:=⟨eL tP s.c9::.unk::.unk::.sl 0 0 s.ns3 0::i p.is4::i s.is5::ra 58 [],[⟨136,4,s.eh0,true,false,0⟩]⟩
noncomputable def Oc8(p:T5)(s:y6):St:=(sel (Nat.beq s.ph 1) (Jb2 p s) (Jb1 p s))
noncomputable def Y9{α:Type}(k:y6->α)(e:Nat->α)(z:α)(p:T5)(s:y6):α:=let t1:=(lp (V1 (⟨rt tP s.c9,p.is4,s.is5⟩:T4)) (⟨0,W (s.is5+1),0,[]⟩:v8));(sl (decide (s.is5<(↑(List.length s.c9):Int))) (sl ((cnE tP s.c9)&&true) (sl (Nat.beq t1.1 1) (k ⟨0,rt tP s.c9,W (s.is5+1),0,[]⟩) (sl (Nat.beq t1.1 2) (k ⟨1,rt tP s.c9,W (s.is5+1),t1.2.ns3,t1.2.eh0⟩) z)) z) (e 1))
noncomputable def Z0{α:Type}(k:y6->α)(e:Nat->α)(z:α)(p:T5)(s:y6):α:=let t1:=(lp (V1 (⟨rt tP s.c9,p.is4,s.is5⟩:T4)) (⟨1,W (s.is5+1),s.ns3,s.eh0⟩:v8));(sl (decide (s.is5<(↑(List.length s.c9):Int))) (sl ((cnE tP s.c9)&&true) (sl (Nat.beq t1.1 1) (k ⟨0,rt tP s.c9,W (s.is5+1),0,[]⟩) (sl (Nat.beq t1.1 2) (k ⟨1,rt tP s.c9,W (s.is5+1),t1.2.ns3,t1.2.eh0⟩) z)) z) (e 2))
noncomputable def P1(p:T5)(s:y6):Stp y6:=(sel (Nat.beq s.ph 1) (Z0 .next .exit .fail p s) (Y9 .next .exit .fail p s))
noncomputable def sb3:Lo T5 y6:=⟨En bb5,0,Ce9,[1,1,0,1,4,4,1,0,4,1,4,4],[0,3,4,5],.s .p (.s (.b (.s .p (.b (.u sb2.ls)))) .p),[⟨sLq tP::sUq::sUq::.s (.o .nil)::sIq::sIq::ru2 58 [],[],λa H=>(⟨aIq a 4⟩,⟨0,aLq tP a 0,aIq a 5,0,[]⟩)⟩,⟨sLq tP::sUq::sUq::.s (.o (.sl 0 0 (some 0) none))::sIq::sIq::ru2 58 [],[⟨136,4,true,none⟩],λa H=>(⟨aIq a 4⟩,⟨1,aLq tP a 0,aIq a 5,slN (slT a 3),elT H 0⟩)⟩],P1,[(some 2,λp s=>upq (Jb1 p s) [(17,i s.is5),(18,eL tP s.c9),(19,i (↑(List.length s.c9):Int)),(20,b (decide (s.is5<(↑(List.length s.c9):Int))))]),(some 2,λp s=>upq (Jb2 p s) [(17,i s.is5),(18,eL tP s.c9),(19,i (↑(List.length s.c9):Int)),(20,b (decide (s.is5<(↑(List.length s.c9):Int))))])],Oc8⟩
theorem Oc9:sb3.Ok:=Lo.ok [sb2.pr] (by kernel_rfl) (.cons Oc7 .nil) rfl (.cons (λa H=>by kernel_rfl) (.cons (λa H=>by kernel_rfl) .nil)) λp s=>(.sel (Nat.beq s.ph 1) (.of @Z0 (λF _ _ _ _ _=>by unfold Z0;(repeat' apply l6 (f:=F))<;>rfl) (by kernel_rfl)) (.of @Y9 (λF _ _ _ _ _=>by unfold Y9;(repeat' apply l6 (f:=F))<;>rfl) (by kernel_rfl)))
structure ba2 where
structure D5 where
 ph:Nat
 c9:List Pln
 is4:Int
 ns3:Nat
 eh0:List (List b7)
noncomputable def Jb3(p:ba2)(s:D5):St:=⟨eL tP s.c9::.unk::.unk::.v (.slice none 0 0)::i s.is4::ra 59 [],[]⟩
noncomputable def Jb4(p:ba2)(s:D5):St:=⟨eL tP s.c9::.unk::.unk::.sl 0 0 s.ns3 0::i s.is4::ra 59 [],[⟨136,4,s.eh0,true,false,0⟩]⟩
noncomputable def Pc0(p:ba2)(s:D5):St:=(sel (Nat.beq s.ph 1) (Jb4 p s) (Jb3 p s))
noncomputable def Z1{α:Type}(k:D5->α)(e:Nat->α)(z:α)(p:ba2)(s:D5):α:=let t1:=(lp (P1 (⟨s.is4⟩:T5)) (⟨0,rt tP s.c9,W (s.is4+1),0,[]⟩:y6));(sl (decide (s.is4<(↑(List.length s.c9):Int))) (sl ((cnE tP s.c9)&&true) (sl (Nat.beq t1.1 1) (k ⟨0,t1.2.c9,W (s.is4+1),0,[]⟩) (sl (Nat.beq t1.1 2) (k ⟨1,t1.2.c9,W (s.is4+1),t1.2.ns3,t1.2.eh0⟩) z)) z) (e 1))
noncomputable def Z2{α:Type}(k:D5->α)(e:Nat->α)(z:α)(p:ba2)(s:D5):α:=let t1:=(lp (P1 (⟨s.is4⟩:T5)) (⟨1,rt tP s.c9,W (s.is4+1),s.ns3,s.eh0⟩:y6));(sl (decide (s.is4<(↑(List.length s.c9):Int))) (sl ((cnE tP s.c9)&&true) (sl (Nat.beq t1.1 1) (k ⟨0,t1.2.c9,W (s.is4+1),0,[]⟩) (sl (Nat.beq t1.1 2) (k ⟨1,t1.2.c9,W (s.is4+1),t1.2.ns3,t1.2.eh0⟩) z)) z) (e 2))
noncomputable def V2(p:ba2)(s:D5):Stp D5:=(sel (Nat.beq s.ph 1) (Z2 .next .exit .fail p s) (Z1 .next .exit .fail p s))
noncomputable def sb4:Lo ba2 D5:=⟨En bb5,0,Ce9,[1,1,0,1,4,4],[0,3,4],.s .p (.s (.b (.s .p (.b (.u sb3.ls)))) .p),[⟨sLq tP::sUq::sUq::.s (.o .nil)::sIq::ru2 59 [],[],λa H=>(⟨⟩,⟨0,aLq tP a 0,aIq a 4,0,[]⟩)⟩,⟨sLq tP::sUq::sUq::.s (.o (.sl 0 0 (some 0) none))::sIq::ru2 59 [],[⟨136,4,true,none⟩],λa H=>(⟨⟩,⟨1,aLq tP a 0,aIq a 4,slN (slT a 3),elT H 0⟩)⟩],V2,[(some 0,λp s=>upq (Jb3 p s) [(9,i s.is4),(10,eL tP s.c9),(11,i (↑(List.length s.c9):Int)),(12,b (decide (s.is4<(↑(List.length s.c9):Int))))]),(some 0,λp s=>upq (Jb4 p s) [(9,i s.is4),(10,eL tP s.c9),(11,i (↑(List.length s.c9):Int)),(12,b (decide (s.is4<(↑(List.length s.c9):Int))))])],Pc0⟩
theorem Pc1:sb4.Ok:=Lo.ok [sb3.pr] (by kernel_rfl) (.cons Oc9 .nil) rfl (.cons (λa H=>by kernel_rfl) (.cons (λa H=>by kernel_rfl) .nil)) λp s=>(.sel (Nat.beq s.ph 1) (.of @Z2 (λF _ _ _ _ _=>by unfold Z2;(repeat' apply l6 (f:=F))<;>rfl) (by kernel_rfl)) (.of @Z1 (λF _ _ _ _ _=>by unfold Z1;(repeat' apply l6 (f:=F))<;>rfl) (by kernel_rfl)))
noncomputable def Sa5(x:List Pln):Option (b7×List b8):=let t1:=(lp (V2 (⟨⟩:ba2)) (⟨0,rt tP x,0,0,[]⟩:D5));(sl ((cnE tP x)&&true) (sl (Nat.beq t1.1 1) (some (.v (.slice none 0 0),[])) (sl (Nat.beq t1.1 2) (some (.sl 0 0 t1.2.ns3 0,[⟨136,4,t1.2.eh0,true,false,0⟩])) none)) none)
noncomputable def Sa6(x:List Pln):List Pt:=J8 (one (r1L tX)) (Sa5 x)
noncomputable def Sa7(x:List Pln):Bool:=okO (one (r1L tX)) (Sa5 x)
noncomputable def Mb1:Sum:=X6 (O3 tP) (λx=>.guard (Sa7 x) (.ret ((one (r1L tX)).enc (Sa6 x),[])))
theorem jc7:g9 prog G 181 Mb1:=Ia9 (bd mg1 Yc5) (one (r1L tX)) (o:=Sa5) λx=>ta7 (.s .p (.s .p (.s (.s .p (.b (.u sb4.ls))) .p))) [sb4.pr] (by kernel_rfl) (.cons Pc1 .nil) (by kernel_rfl)
noncomputable def Jb5:List (Nat×Sum):=[]
theorem yc9:i9 prog G Jb5:=trivial
@[reducible] noncomputable def Oa2:Sum:=Pb4 (En Jb5) Gf2
theorem bb6:g9 prog G 191 Oa2:=bd mg6 yc9
noncomputable def Yc6:List (Nat×Sum):=[]
theorem Pc2:i9 prog G Yc6:=trivial
noncomputable def Ka0(x:Int):Option (b7×List b8):=(sl (decide (x<0)) (some (i (W (0-x)),[])) (some (i x,[])))
noncomputable def ya9(x:Int):Int:=J8 (one r1I) (Ka0 x)
noncomputable def za0(x:Int):Bool:=okO (one r1I) (Ka0 x)
noncomputable def jc8:Sum:=X6 cI (λx=>.guard (za0 x) (.ret ((one r1I).enc (ya9 x),[])))
theorem Yc7:g9 prog G 184 jc8:=Ia9 (bd mg4 Pc2) (one r1I) (o:=Ka0) λx=>v7 (by kernel_rfl)
noncomputable def Vc2:List (Nat×Sum):=[(184,jc8),(191,Oa2)]
theorem Rd5:i9 prog G Vc2:=⟨Yc7,bb6,trivial⟩
structure ta8 where
 (is6 f0 b9 f7 gb7 gb8 gb9:Int)
structure Z3 where
 (is5 is7:Int)
noncomputable def uc2(p:ta8)(s:Z3):St:=⟨.unk::.ptr 0 0 0 0::.ptr 1 0 0 0::.unk::.ptr 2 0 0 0::i s.is5::i p.is6::i s.is7::ra 38 [],[⟨0,3,[[i p.f0,i p.b9,i p.f7]],true,false,0⟩,⟨0,3,[[i 0,i 0,i 0]],true,false,0⟩,⟨0,3,[[i p.gb7,i p.gb8,i p.gb9]],true,false,0⟩]⟩
noncomputable def Ka1{α:Type}(k:Z3->α)(e:Nat->α)(z:α)(p:ta8)(s:Z3):α:=(sl (decide (s.is7>0)) (sl (s.is7==0) z (k ⟨s.is7,Int.tmod s.is5 s.is7⟩)) (e 1))
noncomputable def na9(p:ta8)(s:Z3):Stp Z3:=Ka1 .next .exit .fail p s
noncomputable def Wb2:Lo ta8 Z3:=⟨En Vc2,0,Ff7,[1,1,1,0,1,4,4,1,0,4,1,1,4,4],[1,2,4,5,6,7],.p,[⟨sUq::sPq 0::sPq 1::sUq::sPq 2::sIq::sIq::sIq::ru2 38 [],[⟨0,3,true,some [kLq 3]⟩,⟨0,3,true,some [[.o (.lit .i64 0),.o (.lit .i64 0),.o (.lit .i64 0)]]⟩,⟨0,3,true,some [kLq 3]⟩],λa H=>(⟨aIq a 6,hIq H 0 0 0,hIq H 0 0 1,hIq H 0 0 2,hIq H 2 0 0,hIq H 2 0 1,hIq H 2 0 2⟩,⟨aIq a 5,aIq a 7⟩)⟩],na9,[(some 2,λp s=>upq (uc2 p s) [(23,i s.is7),(24,b (decide (s.is7>0)))])],uc2⟩
theorem yd3:Wb2.Ok:=Lo.ok [] (by kernel_rfl) .nil rfl (.cons (λa H=>by kernel_rfl) .nil) λp s=>(.of @Ka1 (λF _ _ _ _ _=>by unfold Ka1;(repeat' apply l6 (f:=F))<;>rfl) (by kernel_rfl))
noncomputable def Bb7(x:V3):Option (b7×List b8):=let t1:=(ya9 x.x);let t2:=(lp (na9 (⟨0,x.x,x.y,x.z,x.x,x.y,x.z⟩:ta8)) (⟨0,t1⟩:Z3));let t3:=(ya9 x.y);let t4:=(lp (na9 (⟨1,x.x,x.y,x.z,x.x,x.y,x.z⟩:ta8)) (⟨t2.2.is5,t3⟩:Z3));let t5:=(ya9 x.z);let t6:=(lp (na9 (⟨2,x.x,x.y,x.z,x.x,x.y,x.z⟩:ta8)) (⟨t4.2.is5,t5⟩:Z3));(sl (x.x==(-9223372036854775808)) (some (.tup [.agg [i 0,i 0,i 0],i 0],[])) (sl (za0 x.x) (sl (Nat.beq t2.1 1) (sl (x.y==(-9223372036854775808)) (some (.tup [.agg [i 0,i 0,i 0],i 0],[])) (sl (za0 x.y) (sl (Nat.beq t4.1 1) (sl (x.z==(-9223372036854775808)) (some (.tup [.agg [i 0,i 0,i 0],i 0],[])) (sl (za0 x.z) (sl (Nat.beq t6.1 1) (sl (t6.2.is5==0) (some (.tup [.agg [i 0,i 0,i 0],i 0],[])) (sl (t6.2.is5==0) none (sl (t6.2.is5==0) none (sl (t6.2.is5==0) none (some (.tup [.agg [i (W (Int.tdiv x.x t6.2.is5)),i (W (Int.tdiv x.y t6.2.is5)),i (W (Int.tdiv x.z t6.2.is5))],i t6.2.is5],[])))))) none) none)) none) none)) none) none))
noncomputable def Xa6(x:V3):V3×Int:=J8 (two r1V r1I) (Bb7 x)
noncomputable def Bb8(x:V3):Bool:=okO (two r1V r1I) (Bb7 x)
noncomputable def zc0:Sum:=X6 (ba6 tV) (λx=>.guard (Bb8 x) (.ret ((two r1V r1I).enc (Xa6 x),[])))
theorem Vc3:g9 prog G 163 zc0:=Ia9 (bd kg9 Rd5) (two r1V r1I) (o:=Bb7) λx=>ta7 (.s .p (.s .p (.s .p (.s (.s .p (.b (.l (.s .p (.s (.b (.s .p (.s .p (.b (.u Wb2.ls))))) .p))))) .p)))) [Wb2.pr] (by kernel_rfl) (.cons yd3 .nil) (by kernel_rfl)
noncomputable def Rd6:List (Nat×Sum):=[(163,zc0),(191,Oa2)]
theorem yd4:i9 prog G Rd6:=⟨Vc3,bb6,trivial⟩
noncomputable def ob2(x:Pln):Option (b7×List b8):=let t1:=(Xa6 x.n);(sl (decide (x.n.x<(-4608))) (some (b false,[])) (sl (decide (x.n.x>4608)) (some (b false,[])) (sl (decide (x.n.y<(-4608))) (some (b false,[])) (sl (decide (x.n.y>4608)) (some (b false,[])) (sl (decide (x.n.z<(-4608))) (some (b false,[])) (sl (decide (x.n.z>4608)) (some (b false,[])) (sl (Bb8 x.n) (sl (t1.2==1) (sl (decide (x.b>=(-2097152))) (some (b (decide (x.b<=2097152)),[])) (some (b false,[]))) (some (b false,[]))) none)))))))
noncomputable def ob3(x:Pln):Bool:=J8 (one r1B) (ob2 x)
noncomputable def ob4(x:Pln):Bool:=okO (one r1B) (ob2 x)
noncomputable def jc9:Sum:=X6 (ba6 tP) (λx=>.guard (ob4 x) (.ret ((one r1B).enc (ob3 x),[])))
theorem Gc5:g9 prog G 156 jc9:=Ia9 (bd kg4 yd4) (one r1B) (o:=ob2) λx=>v7 (by kernel_rfl)
noncomputable def Gc6:List (Nat×Sum):=[(156,jc9)]
theorem yd5:i9 prog G Gc6:=⟨Gc5,trivial⟩
structure Sa8 where
 c9:List Pln
structure fa6 where
 is3:Int
noncomputable def kc0(p:Sa8)(s:fa6):St:=⟨eL tP p.c9::.unk::.unk::i s.is3::ra 15 [],[]⟩
noncomputable def Da9{α:Type}(k:fa6->α)(e:Nat->α)(z:α)(p:Sa8)(s:fa6):α:=let t1:=(ob3 (gL tP p.c9 s.is3.toNat));(sl (decide (s.is3<(↑(List.length p.c9):Int))) (sl (inB s.is3 (List.length p.c9)) (sl (ob4 (gL tP p.c9 s.is3.toNat)) (sl (!t1) (e 1) (k ⟨W (s.is3+1)⟩)) z) z) (e 2))
noncomputable def Ka2(p:Sa8)(s:fa6):Stp fa6:=Da9 .next .exit .fail p s
noncomputable def Mb2:Lo Sa8 fa6:=⟨En Gc6,0,Ef8,[1,1,0,1,4,4],[0,3],.p,[⟨sLq tP::sUq::sUq::sIq::ru2 15 [],[],λa H=>(⟨aLq tP a 0⟩,⟨aIq a 3⟩)⟩],Ka2,[(none,λp s=>⟨[i 12],[]⟩),(some 0,λp s=>upq (kc0 p s) [(7,i s.is3),(8,eL tP p.c9),(9,i (↑(List.length p.c9):Int)),(10,b (decide (s.is3<(↑(List.length p.c9):Int))))])],kc0⟩
theorem ld3:Mb2.Ok:=Lo.ok [] (by kernel_rfl) .nil rfl (.cons (λa H=>by kernel_rfl) .nil) λp s=>(.of @Da9 (λF _ _ _ _ _=>by unfold Da9;(repeat' apply l6 (f:=F))<;>rfl) (by kernel_rfl))
noncomputable def ob5(x:List Pln):Option (b7×List b8):=let t1:=(lp (Ka2 (⟨rt tP x⟩:Sa8)) (⟨0⟩:fa6));(sl (decide ((↑(List.length x):Int)>48)) (some (i 2,[])) (sl ((cnE tP x)&&true) (sl (Nat.beq t1.1 1) (some (i 12,[])) (sl (Nat.beq t1.1 2) (some (i 0,[])) none)) none))
noncomputable def ob6(x:List Pln):Int:=J8 (one r1I) (ob5 x)
noncomputable def ob7(x:List Pln):Bool:=okO (one r1I) (ob5 x)
noncomputable def kc1:Sum:=X6 (O3 tP) (λx=>.guard (ob7 x) (.ret ((one r1I).enc (ob6 x),[])))
theorem Gc7:g9 prog G 100 kc1:=Ia9 (bd hg5 yd5) (one r1I) (o:=ob5) λx=>ta7 (.s .p (.s .p (.s (.s .p (.b (.u Mb2.ls))) .p))) [Mb2.pr] (by kernel_rfl) (.cons ld3 .nil) (by kernel_rfl)
noncomputable def ve9:List (Nat×Sum):=[]
theorem ge5:i9 prog G ve9:=trivial
noncomputable def rc1(x:V3)(y:V3):Option (b7×List b8):=(some (.sl 0 0 6 0,[⟨73,4,[[i 1,i 0,i 0,i y.x],[i (-1),i 0,i 0,i (W (0-x.x))],[i 0,i 1,i 0,i y.y],[i 0,i (-1),i 0,i (W (0-x.y))],[i 0,i 0,i 1,i y.z],[i 0,i 0,i (-1),i (W (0-x.z))]],true,false,0⟩]))
noncomputable def Qb6(x:V3)(y:V3):List Pln:=J8 (one (r1L tP)) (rc1 x y)
noncomputable def zb1(x:V3)(y:V3):Bool:=okO (one (r1L tP)) (rc1 x y)
noncomputable def Pc3:Sum:=oa5 (ba6 tV) (ba6 tV) (λx y=>.guard (zb1 x y) (.ret ((one (r1L tP)).enc (Qb6 x y),[])))
theorem ld4:g9 prog G 63 Pc3:=hb8 (bd b63 ge5) (one (r1L tP)) (o:=rc1) λx y=>v7 (by kernel_rfl)
noncomputable def we0:List (Nat×Sum):=[(63,Pc3)]
theorem ge6:i9 prog G we0:=⟨ld4,trivial⟩
noncomputable def Qb7(x:List Pln):Option (b7×List b8):=let t1:=(Qb6 (⟨-24,-24,-24⟩:V3) (⟨24,24,24⟩:V3));(sl (Nat.beq (len (p5 (λk=>(tP).row (gL tP x k)) (List.range (List.length x)))) 0) (sl (zb1 (⟨-24,-24,-24⟩:V3) (⟨24,24,24⟩:V3)) (sl (Nat.beq (len (p5 (λk=>(tP).row (gL tP t1 k)) (List.range (List.length t1)))) 0) (some (.sl 0 0 0 0,[⟨73,4,[],true,false,0⟩])) (sl (Nat.beq 0 0&&Nat.ble ((0+(len (p5 (λk=>(tP).row (gL tP t1 k)) (List.range (List.length t1)))))*32) room) (some ((.sl 0 0 (0+(len (p5 (λk=>(tP).row (gL tP t1 k)) (List.range (List.length t1))))) 0),[⟨73,4,(app [] (p5 (λk=>(tP).row (gL tP t1 k)) (List.range (List.length t1)))),true,false,0⟩])) none)) none) (sl (Nat.beq 0 0&&Nat.ble ((0+(len (p5 (λk=>(tP).row (gL tP x k)) (List.range (List.length x)))))*32) room) (sl (zb1 (⟨-24,-24,-24⟩:V3) (⟨24,24,24⟩:V3)) (sl (Nat.beq (len (p5 (λk=>(tP).row (gL tP t1 k)) (List.range (List.length t1)))) 0) (some ((.sl 0 0 (0+(len (p5 (λk=>(tP).row (gL tP x k)) (List.range (List.length x))))) 0),[⟨73,4,(app [] (p5 (λk=>(tP).row (gL tP x k)) (List.range (List.length x)))),true,false,0⟩])) (sl (Nat.beq (0+(len (p5 (λk=>(tP).row (gL tP x k)) (List.range (List.length x))))) (len (app [] (p5 (λk=>(tP).row (gL tP x k)) (List.range (List.length x)))))&&Nat.ble (((0+(len (p5 (λk=>(tP).row (gL tP x k)) (List.range (List.length x)))))+(len (p5 (λk=>(tP).row (gL tP t1 k)) (List.range (List.length t1)))))*32) room) (some ((.sl 0 0 ((0+(len (p5 (λk=>(tP).row (gL tP x k)) (List.range (List.length x)))))+(len (p5 (λk=>(tP).row (gL tP t1 k)) (List.range (List.length t1))))) 0),[⟨73,4,(app (app [] (p5 (λk=>(tP).row (gL tP x k)) (List.range (List.length x)))) (p5 (λk=>(tP).row (gL tP t1 k)) (List.range (List.length t1)))),true,false,0⟩])) none)) none) none))
noncomputable def Qb8(x:List Pln):List Pln:=J8 (one (r1L tP)) (Qb7 x)
noncomputable def Qb9(x:List Pln):Bool:=okO (one (r1L tP)) (Qb7 x)
noncomputable def Pc4:Sum:=X6 (O3 tP) (λx=>.guard (Qb9 x) (.ret ((one (r1L tP)).enc (Qb8 x),[])))
theorem ld5:g9 prog G 124 Pc4:=Ia9 (bd jg0 ge6) (one (r1L tP)) (o:=Qb7) λx=>v7 (by kernel_rfl)
noncomputable def yd6:List (Nat×Sum):=[(100,kc1),(124,Pc4),(181,Mb1)]
theorem ld6:i9 prog G yd6:=⟨Gc7,ld5,jc7,trivial⟩
noncomputable def bb7(x:List Pln):Option (b7×List b8):=let t1:=(ob6 (rt tP x));let t2:=(Qb8 (rt tP x));let t3:=(Sa6 (rt tP t2));(sl (okE tP x) (sl (ob7 (rt tP x)) (sl (t1 != 0) (some (.v (.slice none 0 0),[])) (sl (okE tP x) (sl (Qb9 (rt tP x)) (sl (okE tP t2) (sl (Sa7 (rt tP t2)) (some (eL tX t3,[])) none) none) none) none)) none) none)
noncomputable def vb9(x:List Pln):List Pt:=J8 (one (r1L tX)) (bb7 x)
noncomputable def wb0(x:List Pln):Bool:=okO (one (r1L tX)) (bb7 x)
noncomputable def Gc8:Sum:=X6 (O3 tP) (λx=>.guard (wb0 x) (.ret ((one (r1L tX)).enc (vb9 x),[])))
theorem yd7:g9 prog G 157 Gc8:=Ia9 (bd kg5 ld6) (one (r1L tX)) (o:=bb7) λx=>v7 (by kernel_rfl)
noncomputable def kc2:List (Nat×Sum):=[(181,Mb1),(158,Wb1)]
theorem Rd7:i9 prog G kc2:=⟨jc7,jc3,trivial⟩
structure bb8 where
 c9:List Pln
 U7:List Pt
 is4:Int
structure ta9 where
 bs5:Bool
 is6:Int
noncomputable def uc3(p:bb8)(s:ta9):St:=⟨eL tP p.c9::.unk::.unk::eL tX p.U7::i p.is4::b s.bs5::i s.is6::ra 29 [],[]⟩
noncomputable def Ka3{α:Type}(k:ta9->α)(e:Nat->α)(z:α)(p:bb8)(s:ta9):α:=let t1:=(Xa5 (gL tP p.c9 p.is4.toNat) (gL tX p.U7 s.is6.toNat));(sl (decide (s.is6<(↑(List.length p.U7):Int))) (sl s.bs5 (k ⟨true,W (s.is6+1)⟩) (sl (inB p.is4 (List.length p.c9)) (sl (inB s.is6 (List.length p.U7)) (k ⟨decide (t1>0),W (s.is6+1)⟩) z) z)) (e 1))
noncomputable def Ga2(p:bb8)(s:ta9):Stp ta9:=Ka3 .next .exit .fail p s
noncomputable def Wb3:Lo bb8 ta9:=⟨En kc2,0,bf6,[1,1,0,1,4,4,1,0,4,1,0,1,4,4],[0,3,4,5,6],.p,[⟨sLq tP::sUq::sUq::sLq tX::sIq::sBq::sIq::ru2 29 [],[],λa H=>(⟨aLq tP a 0,aLq tX a 3,aIq a 4⟩,⟨aBq a 5,aIq a 6⟩)⟩],Ga2,[(some 2,λp s=>upq (uc3 p s) [(15,i s.is6),(16,eL tX p.U7),(17,i (↑(List.length p.U7):Int)),(18,b (decide (s.is6<(↑(List.length p.U7):Int))))])],uc3⟩
theorem yd8:Wb3.Ok:=Lo.ok [] (by kernel_rfl) .nil rfl (.cons (λa H=>by kernel_rfl) .nil) λp s=>(.of @Ka3 (λF _ _ _ _ _=>by unfold Ka3;(repeat' apply l6 (f:=F))<;>rfl) (by kernel_rfl))
structure bb9 where
structure la3 where
 c9:List Pln
 U7:List Pt
 is4:Int
noncomputable def uc4(p:bb9)(s:la3):St:=⟨eL tP s.c9::.unk::.unk::eL tX s.U7::i s.is4::ra 31 [],[]⟩
noncomputable def Ka4{α:Type}(k:la3->α)(e:Nat->α)(z:α)(p:bb9)(s:la3):α:=let t1:=(lp (Ga2 (⟨rt tP s.c9,rt tX s.U7,s.is4⟩:bb8)) (⟨false,0⟩:ta9));(sl (decide (s.is4<(↑(List.length s.c9):Int))) (sl ((cnE tP s.c9)&&((cnE tX s.U7)&&true)) (sl (Nat.beq t1.1 1) (sl (!t1.2.bs5) (e 1) (k ⟨rt tP s.c9,rt tX s.U7,W (s.is4+1)⟩)) z) z) (e 2))
noncomputable def Sa9(p:bb9)(s:la3):Stp la3:=Ka4 .next .exit .fail p s
noncomputable def Wb4:Lo bb9 la3:=⟨En kc2,0,bf6,[1,1,0,1,4,4],[0,3,4],.s .p (.s (.b (.s .p (.s (.s .p (.b (.u Wb3.ls))) .p))) .p),[⟨sLq tP::sUq::sUq::sLq tX::sIq::ru2 31 [],[],λa H=>(⟨⟩,⟨aLq tP a 0,aLq tX a 3,aIq a 4⟩)⟩],Sa9,[(none,λp s=>⟨[b false],[]⟩),(some 0,λp s=>upq (uc4 p s) [(9,i s.is4),(10,eL tP s.c9),(11,i (↑(List.length s.c9):Int)),(12,b (decide (s.is4<(↑(List.length s.c9):Int))))])],uc4⟩
theorem yd9:Wb4.Ok:=Lo.ok [Wb3.pr] (by kernel_rfl) (.cons yd8 .nil) rfl (.cons (λa H=>by kernel_rfl) .nil) λp s=>(.of @Ka4 (λF _ _ _ _ _=>by unfold Ka4;(repeat' apply l6 (f:=F))<;>rfl) (by kernel_rfl))
noncomputable def Bb9(x:List Pln):Option (b7×List b8):=let t1:=(Sa6 (rt tP x));let t2:=(lp (Sa9 (⟨⟩:bb9)) (⟨rt tP x,rt tX t1,0⟩:la3));(sl (okE tP x) (sl (Sa7 (rt tP x)) (sl ((cnE tP x)&&((cnE tX t1)&&true)) (sl (Nat.beq t2.1 1) (some (b false,[])) (sl (Nat.beq t2.1 2) (some (b true,[])) none)) none) none) none)
noncomputable def Wb5(x:List Pln):Bool:=J8 (one r1B) (Bb9 x)
noncomputable def Wb6(x:List Pln):Bool:=okO (one r1B) (Bb9 x)
noncomputable def ld7:Sum:=X6 (O3 tP) (λx=>.guard (Wb6 x) (.ret ((one r1B).enc (Wb5 x),[])))
theorem ge7:g9 prog G 123 ld7:=Ia9 (bd ig9 Rd7) (one r1B) (o:=Bb9) λx=>ta7 (.s .p (.s .p (.s (.s .p (.b (.u Wb4.ls))) .p))) [Wb4.pr] (by kernel_rfl) (.cons yd9 .nil) (by kernel_rfl)
noncomputable def ge8:List (Nat×Sum):=[(100,kc1),(124,Pc4),(123,ld7)]
theorem Rd8:i9 prog G ge8:=⟨Gc7,ld5,ge7,trivial⟩
noncomputable def Cb0(x:List Pln):Option (b7×List b8):=let t1:=(ob6 (rt tP x));let t2:=(Qb8 (rt tP x));let t3:=(Wb5 (rt tP t2));(sl (okE tP x) (sl (ob7 (rt tP x)) (sl (t1==0) (sl (okE tP x) (sl (Qb9 (rt tP x)) (sl (okE tP t2) (sl (Wb6 (rt tP t2)) (some (b t3,[])) none) none) none) none) (some (b false,[]))) none) none)
noncomputable def Xa7(x:List Pln):Bool:=J8 (one r1B) (Cb0 x)
noncomputable def Xa8(x:List Pln):Bool:=okO (one r1B) (Cb0 x)
noncomputable def zc1:Sum:=X6 (O3 tP) (λx=>.guard (Xa8 x) (.ret ((one r1B).enc (Xa7 x),[])))
theorem Vc4:g9 prog G 70 zc1:=Ia9 (bd b70 Rd8) (one r1B) (o:=Cb0) λx=>v7 (by kernel_rfl)
noncomputable def we1:List (Nat×Sum):=[]
theorem ge9:i9 prog G we1:=trivial
noncomputable def Rb0(x:Int)(y:Int):Option (b7×List b8):=(sl (decide (y<1)) (some (i 0,[])) (sl (y==0) none (sl (y==0) none (some (i (Int.tmod (W ((Int.tmod x y)+y)) y),[])))))
noncomputable def Rb1(x:Int)(y:Int):Int:=J8 (one r1I) (Rb0 x y)
noncomputable def Rb2(x:Int)(y:Int):Bool:=okO (one r1I) (Rb0 x y)
noncomputable def Pc5:Sum:=oa5 cI cI (λx y=>.guard (Rb2 x y) (.ret ((one r1I).enc (Rb1 x y),[])))
theorem ld8:g9 prog G 27 Pc5:=hb8 (bd b27 ge9) (one r1I) (o:=Rb0) λx y=>v7 (by kernel_rfl)
noncomputable def Rd9:List (Nat×Sum):=[]
theorem zd0:i9 prog G Rd9:=trivial
noncomputable def ua0(x:V3)(y:V3):Int:=(W ((W ((W (x.x*y.x))+(W (x.y*y.y))))+(W (x.z*y.z))))
noncomputable def Jb6:Sum:=oa5 (ba6 tV) (ba6 tV) (λx y=>.ret ((one r1I).enc (ua0 x y),[]))
theorem Wb7:g9 prog G 83 Jb6:=Ia3 (bd b83 zd0) λx y=>v7 (by kernel_rfl)
noncomputable def Sd0:List (Nat×Sum):=[]
theorem zd1:i9 prog G Sd0:=trivial
noncomputable def Ba6(x:V3)(y:V3):V3:=(⟨W (x.x+y.x),W (x.y+y.y),W (x.z+y.z)⟩:V3)
noncomputable def Vc5:Sum:=oa5 (ba6 tV) (ba6 tV) (λx y=>.ret ((one r1V).enc (Ba6 x y),[]))
theorem Sd1:g9 prog G 34 Vc5:=Ia3 (bd b34 zd1) λx y=>v7 (by kernel_rfl)
noncomputable def zd2:List (Nat×Sum):=[]
theorem ld9:i9 prog G zd2:=trivial
noncomputable def ua1(x:V3)(y:Int):V3:=(⟨W (x.x*y),W (x.y*y),W (x.z*y)⟩:V3)
noncomputable def Gc9:Sum:=oa5 (ba6 tV) cI (λx y=>.ret ((one r1V).enc (ua1 x y),[]))
theorem zd3:g9 prog G 116 Gc9:=Ia3 (bd ig6 ld9) λx y=>v7 (by kernel_rfl)
noncomputable def md0:List (Nat×Sum):=[]
theorem Yc8:i9 prog G md0:=trivial
noncomputable def X7(x:V3)(y:V3):V3:=(⟨W ((W (x.y*y.z))-(W (x.z*y.y))),W ((W (x.z*y.x))-(W (x.x*y.z))),W ((W (x.x*y.y))-(W (x.y*y.x)))⟩:V3)
noncomputable def uc5:Sum:=oa5 (ba6 tV) (ba6 tV) (λx y=>.ret ((one r1V).enc (X7 x y),[]))
theorem md1:g9 prog G 142 uc5:=Ia3 (bd jg9 Yc8) λx y=>v7 (by kernel_rfl)
noncomputable def Sd2:List (Nat×Sum):=[(83,Jb6)]
theorem zd4:i9 prog G Sd2:=⟨Wb7,trivial⟩
noncomputable def Ba7(x:Pln)(y:Pt):Int:=let t1:=(ua0 x.n (⟨y.px,y.py,y.pz⟩:V3));(W ((W (x.b*y.pw))-t1))
noncomputable def Jb7:Sum:=oa5 (ba6 tP) (ba6 tX) (λx y=>.ret ((one r1I).enc (Ba7 x y),[]))
theorem Wb8:g9 prog G 153 Jb7:=Ia3 (bd kg2 zd4) λx y=>v7 (by kernel_rfl)
noncomputable def kc3:List (Nat×Sum):=[]
theorem Sd3:i9 prog G kc3:=trivial
structure Oa3 where
 hb5:List Int
 (is7 is8:Int)
structure ua2 where
 (is3 is5:Int)
noncomputable def uc6(p:Oa3)(s:ua2):St:=⟨ra 3 (i s.is3::.unk::i s.is5::eL tI p.hb5::i p.is7::i p.is8::ra 14 []),[]⟩
noncomputable def Ka5{α:Type}(k:ua2->α)(e:Nat->α)(z:α)(p:Oa3)(s:ua2):α:=(sl (s.is5 != 0) (sl (s.is5==0) z (k ⟨s.is5,Int.tmod s.is3 s.is5⟩)) (e 1))
noncomputable def Ta0(p:Oa3)(s:ua2):Stp ua2:=Ka5 .next .exit .fail p s
noncomputable def Wb9:Lo Oa3 ua2:=⟨En kc3,0,cf1,[1,1,0,1,4,4,1,1,0,4,1,4,4],[3,5,6,7,8],.p,[⟨ru2 3 (sIq::sUq::sIq::sLq tI::sIq::sIq::ru2 14 []),[],λa H=>(⟨aLq tI a 6,aIq a 7,aIq a 8⟩,⟨aIq a 3,aIq a 5⟩)⟩],Ta0,[(some 2,λp s=>upq (uc6 p s) [(12,i s.is5),(13,b (s.is5 != 0))])],uc6⟩
theorem zd5:Wb9.Ok:=Lo.ok [] (by kernel_rfl) .nil rfl (.cons (λa H=>by kernel_rfl) .nil) λp s=>(.of @Ka5 (λF _ _ _ _ _=>by unfold Ka5;(repeat' apply l6 (f:=F))<;>rfl) (by kernel_rfl))
structure cb0 where
 is7:Int
structure ua3 where
 is3:Int
 hb5:List Int
 is8:Int
noncomputable def uc7(p:cb0)(s:ua3):St:=⟨ra 3 (i s.is3::.unk::.unk::eL tI s.hb5::i p.is7::i s.is8::ra 14 []),[]⟩
noncomputable def Ka6{α:Type}(k:ua3->α)(e:Nat->α)(z:α)(p:cb0)(s:ua3):α:=let t1:=(lp (Ta0 (⟨rt tI s.hb5,p.is7,s.is8⟩:Oa3)) (⟨s.is3,gL tI s.hb5 s.is8.toNat⟩:ua2));(sl (decide (s.is8<p.is7)) (sl (inB s.is8 (List.length s.hb5)) (sl ((cnE tI s.hb5)&&true) (sl (Nat.beq t1.1 1) (k ⟨t1.2.is3,rt tI s.hb5,W (s.is8+1)⟩) z) z) z) (e 1))
noncomputable def Ga3(p:cb0)(s:ua3):Stp ua3:=Ka6 .next .exit .fail p s
noncomputable def Xb0:Lo cb0 ua3:=⟨En kc3,0,cf1,[1,1,0,1,4,4],[3,6,7,8],.s .p (.s .p (.s (.b (.s .p (.b (.u Wb9.ls)))) .p)),[⟨ru2 3 (sIq::sUq::sUq::sLq tI::sIq::sIq::ru2 14 []),[],λa H=>(⟨aIq a 7⟩,⟨aIq a 3,aLq tI a 6,aIq a 8⟩)⟩],Ga3,[(some 0,λp s=>upq (uc7 p s) [(9,b (decide (s.is8<p.is7)))])],uc7⟩
theorem zd6:Xb0.Ok:=Lo.ok [Wb9.pr] (by kernel_rfl) (.cons zd5 .nil) rfl (.cons (λa H=>by kernel_rfl) .nil) λp s=>(.of @Ka6 (λF _ _ _ _ _=>by unfold Ka6;(repeat' apply l6 (f:=F))<;>rfl) (by kernel_rfl))
noncomputable def Cb1(x:List Int):Option (b7×List b8):=let t1:=(lp (Ga3 (⟨(↑(List.length x):Int)⟩:cb0)) (⟨0,rt tI x,0⟩:ua3));(sl ((cnE tI x)&&true) (sl (Nat.beq t1.1 1) (some ((i (if (W (0-t1.2.is3))>t1.2.is3 then (W (0-t1.2.is3)) else t1.2.is3)),[])) none) none)
noncomputable def Xb1(x:List Int):Int:=J8 (one r1I) (Cb1 x)
noncomputable def Xb2(x:List Int):Bool:=okO (one r1I) (Cb1 x)
noncomputable def md2:Sum:=X6 (O3 tI) (λx=>.guard (Xb2 x) (.ret ((one r1I).enc (Xb1 x),[])))
theorem he0:g9 prog G 222 md2:=Ia9 (bd ng7 Sd3) (one r1I) (o:=Cb1) λx=>ta7 (.s .p (.s .p (.s (.s .p (.b (.u Xb0.ls))) .p))) [Xb0.pr] (by kernel_rfl) (.cons zd6 .nil) (by kernel_rfl)
noncomputable def Sd4:List (Nat×Sum):=[(142,uc5),(83,Jb6),(116,Gc9),(34,Vc5),(222,md2)]
theorem zd7:i9 prog G Sd4:=⟨md1,Wb7,zd3,Sd1,he0,trivial⟩
noncomputable def ob8(x:Tp):Option (b7×List b8):=let t1:=(X7 x.q.n x.r.n);let t3:=(ua1 t1 x.p.b);let t4:=(Ba6 (⟨0,0,0⟩:V3) t3);let t5:=(X7 x.r.n x.p.n);let t7:=(ua1 t5 x.q.b);let t8:=(Ba6 t4 t7);let t9:=(X7 x.p.n x.q.n);let t10:=(ua0 x.r.n t9);let t11:=(ua1 t9 x.r.b);let t12:=(Ba6 t8 t11);let t13:=(Xb1 [t12.x,t12.y,t12.z,t10]);(sl (t10==0) (some (.tup [.agg [i 0,i 0,i 0,i 0],b false],[])) (sl (Xb2 [t12.x,t12.y,t12.z,t10]) (sl (decide (t10<0)) (sl ((W (0-t13))==0) none (sl ((W (0-t13))==0) none (sl ((W (0-t13))==0) none (sl ((W (0-t13))==0) none (some (.tup [.agg [i (W (Int.tdiv t12.x (W (0-t13)))),i (W (Int.tdiv t12.y (W (0-t13)))),i (W (Int.tdiv t12.z (W (0-t13)))),i (W (Int.tdiv t10 (W (0-t13))))],b true],[])))))) (sl (t13==0) none (sl (t13==0) none (sl (t13==0) none (sl (t13==0) none (some (.tup [.agg [i (W (Int.tdiv t12.x t13)),i (W (Int.tdiv t12.y t13)),i (W (Int.tdiv t12.z t13)),i (W (Int.tdiv t10 t13))],b true],[]))))))) none))
noncomputable def ob9(x:Tp):Pt×Bool:=J8 (two r1X r1B) (ob8 x)
noncomputable def pb0(x:Tp):Bool:=okO (two r1X r1B) (ob8 x)
noncomputable def Vc6:Sum:=X6 (ba6 tY) (λx=>.guard (pb0 x) (.ret ((two r1X r1B).enc (ob9 x),[])))
theorem Sd5:g9 prog G 195 Vc6:=Ia9 (bd mg8 zd7) (two r1X r1B) (o:=ob8) λx=>v7 (by kernel_rfl)
structure Va7 where
 (ka8 ka9 la0 Lb1 f0 b9 f7 j6:Int)
noncomputable def Pc6:List (Nat×Sum):=[(153,Jb7)]
theorem Hc0:i9 prog G Pc6:=⟨Wb8,trivial⟩
structure Ea0 where
 bs0:Bool
noncomputable def Ea1{α:Type}(kk:Ea0->α)(x:Va7):α:=let t1:=(Ba7 (⟨(⟨x.ka8,x.ka9,x.la0⟩:V3),x.Lb1⟩:Pln) (⟨x.f0,x.b9,x.f7,x.j6⟩:Pt));(kk ⟨decide (t1<0)⟩)
noncomputable def sb5(x:Va7):Ea0:=Ea1 (λr=>r) x
noncomputable def jb4(x:Va7)(r:Ea0):DT (b7×List b8):=.ret (b r.bs0,[⟨0,4,[[i x.f0,i x.b9,i x.f7,i x.j6]],true,false,0⟩])
theorem Yc9{α β:Type}(F:α->β)(kk:Ea0->α)(x:Va7):F (Ea1 kk x)=Ea1 (λr=>F (kk r)) x:=by unfold Ea1;(repeat' apply l6 (f:=F))<;>rfl
noncomputable def bc8:Sum:=bb1 ⟨[.agg (kLq 4),sPq 0],[⟨0,4,true,some [kLq 4]⟩],λa H=>(⟨cIq a 0 0,cIq a 0 1,cIq a 0 2,cIq a 0 3,hIq H 0 0 0,hIq H 0 0 1,hIq H 0 0 2,hIq H 0 0 3⟩,())⟩ (λx=>jb4 x (sb5 x))
theorem Pc7:g9 prog G 172 bc8:=N9 (enc:=λx=>⟨[.agg [i x.ka8,i x.ka9,i x.la0,i x.Lb1],.ptr 0 0 0 0],[⟨0,4,[[i x.f0,i x.b9,i x.f7,i x.j6]],true,false,0⟩]⟩) (λa H=>by kernel_rfl) (bd lg8 Hc0) λx=>v7 (Qha (b:=Ea1 (λr=>(jb4 x r).run) x) (by kernel_rfl) (Yc9 (λr=>(jb4 x r).run) (λr=>r) x).symm)
structure ba8 where
 c9:List Pln
 (f0 b9 f7 j6:Int)
noncomputable def Ka7:List (Nat×Sum):=[(172,bc8)]
theorem wb1:i9 prog G Ka7:=⟨Pc7,trivial⟩
structure M5 where
 c9:List Pln
 (is7 f0 b9 f7 j6:Int)
structure p7 where
 is8:Int
noncomputable def Ea2(p:M5)(s:p7):St:=⟨eL tP p.c9::.fn 172 [.ptr 0 0 0 0]::ra 5 (i p.is7::i s.is8::ra 10 []),[⟨0,4,[[i p.f0,i p.b9,i p.f7,i p.j6]],true,false,0⟩]⟩
noncomputable def H6{α:Type}(k:p7->α)(e:Nat->α)(z:α)(p:M5)(s:p7):α:=let t1:=(sb5 ⟨(gL tP p.c9 s.is8.toNat).n.x,(gL tP p.c9 s.is8.toNat).n.y,(gL tP p.c9 s.is8.toNat).n.z,(gL tP p.c9 s.is8.toNat).b,p.f0,p.b9,p.f7,p.j6⟩);(sl (decide (s.is8<p.is7)) (sl (inB s.is8 (List.length p.c9)) (sl t1.bs0 (e 1) (k ⟨W (s.is8+1)⟩)) z) (e 2))
noncomputable def J9(p:M5)(s:p7):Stp p7:=H6 .next .exit .fail p s
noncomputable def la4:Lo M5 p7:=⟨En Ka7,1,fe7,[1,0,1,4,4],[0,1,7,8],.p,[⟨sLq tP::.fn 172 [.o (.ptr 0 0 0 0)]::ru2 5 (sIq::sIq::ru2 10 []),[⟨0,4,true,some [kLq 4]⟩],λa H=>(⟨aLq tP a 0,aIq a 7,hIq H 0 0 0,hIq H 0 0 1,hIq H 0 0 2,hIq H 0 0 3⟩,⟨aIq a 8⟩)⟩],J9,[(none,λp s=>⟨[i s.is8],[⟨0,4,[[i p.f0,i p.b9,i p.f7,i p.j6]],true,false,0⟩]⟩),(some 0,λp s=>upq (Ea2 p s) [(9,b (decide (s.is8<p.is7)))])],Ea2⟩
theorem sb6:la4.Ok:=Lo.ok [] (by kernel_rfl) .nil rfl (.cons (λa H=>by kernel_rfl) .nil) λp s=>(.of @H6 (λF _ _ _ _ _=>by unfold H6;(repeat' apply l6 (f:=F))<;>rfl) (by kernel_rfl))
structure ba9 where
 alt:Nat
 is0:Int
noncomputable def I5{α:Type}(kk:ba9->α)(x:ba8):α:=let t1:=(lp (J9 (⟨rt tP x.c9,(↑(List.length x.c9):Int),x.f0,x.b9,x.f7,x.j6⟩:M5)) (⟨0⟩:p7));(sl ((cnE tP x.c9)&&true) (sl (Nat.beq t1.1 1) (kk ⟨1,t1.2.is8⟩) (sl (Nat.beq t1.1 2) (kk ⟨1,-1⟩) (kk ⟨0,0⟩))) (kk ⟨0,0⟩))
noncomputable def ca0(x:ba8):ba9:=I5 (λr=>r) x
noncomputable def oa8(x:ba8)(r:ba9):DT (b7×List b8):=(.ite (Nat.beq r.alt 1) (.ret (i r.is0,[⟨0,4,[[i x.f0,i x.b9,i x.f7,i x.j6]],true,false,0⟩])) .fail)
theorem Gb5{α β:Type}(F:α->β)(kk:ba9->α)(x:ba8):F (I5 kk x)=I5 (λr=>F (kk r)) x:=by unfold I5;(repeat' apply l6 (f:=F))<;>rfl
noncomputable def Pa7:Sum:=bb1 ⟨[sLq tP,.fn 172 [.o (.ptr 0 0 0 0)]],[⟨0,4,true,some [kLq 4]⟩],λa H=>(⟨aLq tP a 0,hIq H 0 0 0,hIq H 0 0 1,hIq H 0 0 2,hIq H 0 0 3⟩,())⟩ (λx=>oa8 x (ca0 x))
theorem Cb2:g9 prog G 139 Pa7:=N9 (enc:=λx=>⟨[eL tP x.c9,.fn 172 [.ptr 0 0 0 0]],[⟨0,4,[[i x.f0,i x.b9,i x.f7,i x.j6]],true,false,0⟩]⟩) (λa H=>by kernel_rfl) (bd wf0 wb1) λx=>ta7 (.s .p (.s (.s .p (.b (.u la4.ls))) .p)) [la4.pr] (by kernel_rfl) (.cons sb6 .nil) (Qha (b:=I5 (λr=>(oa8 x r).run) x) (by kernel_rfl) (Gb5 (λr=>(oa8 x r).run) (λr=>r) x).symm)
structure T6 where
 c9:List Pln
 (f0 b9 f7 j6:Int)
noncomputable def pb1:List (Nat×Sum):=[(139,Pa7)]
theorem jb5:i9 prog G pb1:=⟨Cb2,trivial⟩
structure T7 where
 alt:Nat
 bs0:Bool
noncomputable def D6{α:Type}(kk:T7->α)(x:T6):α:=let t1:=(ca0 ⟨rt tP x.c9,x.f0,x.b9,x.f7,x.j6⟩);(sl ((cnE tP x.c9)&&true) (sl (Nat.beq t1.alt 1) (kk ⟨1,decide (t1.is0>=0)⟩) (kk ⟨0,false⟩)) (kk ⟨0,false⟩))
noncomputable def ja1(x:T6):T7:=D6 (λr=>r) x
noncomputable def ga8(x:T6)(r:T7):DT (b7×List b8):=(.ite (Nat.beq r.alt 1) (.ret (b r.bs0,[⟨0,4,[[i x.f0,i x.b9,i x.f7,i x.j6]],true,false,0⟩])) .fail)
theorem sb7{α β:Type}(F:α->β)(kk:T7->α)(x:T6):F (D6 kk x)=D6 (λr=>F (kk r)) x:=by unfold D6;(repeat' apply l6 (f:=F))<;>rfl
noncomputable def Ea3:Sum:=bb1 ⟨[sLq tP,.fn 172 [.o (.ptr 0 0 0 0)]],[⟨0,4,true,some [kLq 4]⟩],λa H=>(⟨aLq tP a 0,hIq H 0 0 0,hIq H 0 0 1,hIq H 0 0 2,hIq H 0 0 3⟩,())⟩ (λx=>ga8 x (ja1 x))
theorem pb2:g9 prog G 86 Ea3:=N9 (enc:=λx=>⟨[eL tP x.c9,.fn 172 [.ptr 0 0 0 0]],[⟨0,4,[[i x.f0,i x.b9,i x.f7,i x.j6]],true,false,0⟩]⟩) (λa H=>by kernel_rfl) (bd b86 jb5) λx=>v7 (Qha (b:=D6 (λr=>(ga8 x r).run) x) (by kernel_rfl) (sb7 (λr=>(ga8 x r).run) (λr=>r) x).symm)
noncomputable def md3:List (Nat×Sum):=[(86,Ea3)]
theorem Zc0:i9 prog G md3:=⟨pb2,trivial⟩
noncomputable def Ta1(x:List Pln)(y:Pt):Option (b7×List b8):=let t1:=(ja1 ⟨rt tP x,y.px,y.py,y.pz,y.pw⟩);(sl ((cnE tP x)&&true) (sl (Nat.beq t1.alt 1) (some (b (!t1.bs0),[])) none) none)
noncomputable def wa5(x:List Pln)(y:Pt):Bool:=J8 (one r1B) (Ta1 x y)
noncomputable def wa6(x:List Pln)(y:Pt):Bool:=okO (one r1B) (Ta1 x y)
noncomputable def Mb3:Sum:=oa5 (O3 tP) (ba6 tX) (λx y=>.guard (wa6 x y) (.ret ((one r1B).enc (wa5 x y),[])))
theorem kc4:g9 prog G 115 Mb3:=hb8 (bd ig5 Zc0) (one r1B) (o:=Ta1) λx y=>v7 (by kernel_rfl)
noncomputable def Ta2:List (Nat×Sum):=[]
theorem Gb6:i9 prog G Ta2:=trivial
@[reducible] noncomputable def Za0:Sum:=Pb4 (En Ta2) Hf0
theorem Mb4:g9 prog G 221 Za0:=bd ng6 Gb6
noncomputable def cb1:List (Nat×Sum):=[(221,Za0)]
theorem Rb3:i9 prog G cb1:=⟨Mb4,trivial⟩
@[reducible] noncomputable def ib2:Sum:=Pb4 (En cb1) Gf3
theorem Xb3:g9 prog G 194 ib2:=bd mg7 Rb3
noncomputable def la5:List (Nat×Sum):=[(195,Vc6),(115,Mb3),(194,ib2)]
theorem Rb4:i9 prog G la5:=⟨Sd5,kc4,Xb3,trivial⟩
structure k9 where
 is3:Int
 y5:List Pln
 (na7 p4:Int)
 Dd9:Nat
 Tb9:Nat->List b7
 (Tc7 Ia2:Int)
 of5:Nat
 Gb3:Nat->List b7
 ze8:Int
 e7:List Pln
 (X1 X2 X3 da4 gb7 gb8 gb9 ac9:Int)
 Pa5:List Pln
structure l0 where
 ph:Nat
 Ja2:Int
 yb4:Nat
 (eh6 eh7:List (List b7))
noncomputable def Pa8(p:k9)(s:l0):St:=⟨.unk::.ptr 0 0 0 0::.unk::i p.is3::.ptr 1 0 0 0::.unk::.ptr 2 0 0 0::.unk::.unk::eL tP p.y5::i p.na7::i p.p4::ra 7 (.tree 4 p.Dd9 p.Tb9::i p.Tc7::i p.Ia2::ra 9 (.tree 4 p.of5 p.Gb3::i p.ze8::i s.Ja2::ra 13 (i 0::.unk::.ptr 3 0 0 0::.v (.slice none 0 0)::.ptr 4 0 0 0::.ptr 5 0 0 0::ra 31 []))),[⟨0,1,[[eL tP p.e7]],true,false,0⟩,⟨0,4,[[i p.X1,i p.X2,i p.X3,i p.da4]],true,false,0⟩,⟨0,4,[[i p.gb7,i p.gb8,i p.gb9,i p.ac9]],true,false,0⟩,⟨0,1,[[eL tP p.Pa5]],true,false,0⟩,⟨0,0,[[.v (.slice none 0 0)]],true,false,0⟩,⟨0,0,[[.ptr 6 0 0 0]],true,false,0⟩,⟨182,0,[],true,false,0⟩]⟩
noncomputable def Pa9(p:k9)(s:l0):St:=⟨.unk::.ptr 0 0 0 0::.unk::i p.is3::.ptr 1 0 0 0::.unk::.ptr 2 0 0 0::.unk::.unk::eL tP p.y5::i p.na7::i p.p4::ra 7 (.tree 4 p.Dd9 p.Tb9::i p.Tc7::i p.Ia2::ra 9 (.tree 4 p.of5 p.Gb3::i p.ze8::i s.Ja2::ra 13 (i 0::.unk::.ptr 3 0 0 0::.v (.slice none 0 0)::.ptr 4 0 0 0::.ptr 5 0 0 0::ra 31 []))),[⟨0,1,[[eL tP p.e7]],true,false,0⟩,⟨0,4,[[i p.X1,i p.X2,i p.X3,i p.da4]],true,false,0⟩,⟨0,4,[[i p.gb7,i p.gb8,i p.gb9,i p.ac9]],true,false,0⟩,⟨0,1,[[eL tP p.Pa5]],true,false,0⟩,⟨0,0,[[.sl 6 0 s.yb4 0]],true,false,0⟩,⟨0,0,[[.ptr 7 0 0 0]],true,false,0⟩,⟨136,4,s.eh6,true,false,0⟩,⟨182,0,s.eh7,true,false,0⟩]⟩
noncomputable def Mb5(p:k9)(s:l0):St:=(sel (Nat.beq s.ph 1) (Pa9 p s) (Pa8 p s))
noncomputable def C7{α:Type}(k:l0->α)(e:Nat->α)(z:α)(p:k9)(s:l0):α:=let t1:=(ob9 (⟨(⟨(⟨p.X1,p.X2,p.X3⟩:V3),p.da4⟩:Pln),(⟨(⟨p.gb7,p.gb8,p.gb9⟩:V3),p.ac9⟩:Pln),(⟨(⟨toI (hdA (p.Gb3 s.Ja2.toNat)),toI (hdA (tlA (p.Gb3 s.Ja2.toNat))),toI (hdA (tlA (tlA (p.Gb3 s.Ja2.toNat))))⟩:V3),toI (hdA (tlA (tlA (tlA (p.Gb3 s.Ja2.toNat)))))⟩:Pln)⟩:Tp));let t2:=(wa5 (rt tP p.Pa5) t1.1);(sl (decide (s.Ja2<p.ze8)) (sl (inB s.Ja2 p.of5) (sl ((Nat.ble 4 (len (p.Gb3 s.Ja2.toNat)))&&(ka1 [CK.int .i64,CK.int .i64,CK.int .i64,CK.int .i64] (p.Gb3 s.Ja2.toNat))) (sl (pb0 (⟨(⟨(⟨p.X1,p.X2,p.X3⟩:V3),p.da4⟩:Pln),(⟨(⟨p.gb7,p.gb8,p.gb9⟩:V3),p.ac9⟩:Pln),(⟨(⟨toI (hdA (p.Gb3 s.Ja2.toNat)),toI (hdA (tlA (p.Gb3 s.Ja2.toNat))),toI (hdA (tlA (tlA (p.Gb3 s.Ja2.toNat))))⟩:V3),toI (hdA (tlA (tlA (tlA (p.Gb3 s.Ja2.toNat)))))⟩:Pln)⟩:Tp)) (sl t1.2 (sl (!(Cc5 4 [(0,.int .i64),(1,.int .i64),(2,.int .i64),(3,.int .i64)] [i t1.1.px,i t1.1.py,i t1.1.pz,i t1.1.pw] [])) (sl (okE tP p.Pa5) (sl (wa6 (rt tP p.Pa5) t1.1) (sl t2 (k ⟨1,W (s.Ja2+1),1,[[i t1.1.px,i t1.1.py,i t1.1.pz,i t1.1.pw]],Lb4 [(0,.int .i64),(1,.int .i64),(2,.int .i64),(3,.int .i64)] [i t1.1.px,i t1.1.py,i t1.1.pz,i t1.1.pw] [i t1.1.px,i t1.1.py,i t1.1.pz,i t1.1.pw,b true] []⟩) (k ⟨0,W (s.Ja2+1),0,[],[]⟩)) z) z) (k ⟨0,W (s.Ja2+1),0,[],[]⟩)) (k ⟨0,W (s.Ja2+1),0,[],[]⟩)) z) z) z) (e 1))
noncomputable def C8{α:Type}(k:l0->α)(e:Nat->α)(z:α)(p:k9)(s:l0):α:=let t1:=(ob9 (⟨(⟨(⟨p.X1,p.X2,p.X3⟩:V3),p.da4⟩:Pln),(⟨(⟨p.gb7,p.gb8,p.gb9⟩:V3),p.ac9⟩:Pln),(⟨(⟨toI (hdA (p.Gb3 s.Ja2.toNat)),toI (hdA (tlA (p.Gb3 s.Ja2.toNat))),toI (hdA (tlA (tlA (p.Gb3 s.Ja2.toNat))))⟩:V3),toI (hdA (tlA (tlA (tlA (p.Gb3 s.Ja2.toNat)))))⟩:Pln)⟩:Tp));let t2:=(wa5 (rt tP p.Pa5) t1.1);(sl (decide (s.Ja2<p.ze8)) (sl (inB s.Ja2 p.of5) (sl ((Nat.ble 4 (len (p.Gb3 s.Ja2.toNat)))&&(ka1 [CK.int .i64,CK.int .i64,CK.int .i64,CK.int .i64] (p.Gb3 s.Ja2.toNat))) (sl (pb0 (⟨(⟨(⟨p.X1,p.X2,p.X3⟩:V3),p.da4⟩:Pln),(⟨(⟨p.gb7,p.gb8,p.gb9⟩:V3),p.ac9⟩:Pln),(⟨(⟨toI (hdA (p.Gb3 s.Ja2.toNat)),toI (hdA (tlA (p.Gb3 s.Ja2.toNat))),toI (hdA (tlA (tlA (p.Gb3 s.Ja2.toNat))))⟩:V3),toI (hdA (tlA (tlA (tlA (p.Gb3 s.Ja2.toNat)))))⟩:Pln)⟩:Tp)) (sl t1.2 (sl (!(Cc5 4 [(0,.int .i64),(1,.int .i64),(2,.int .i64),(3,.int .i64)] [i t1.1.px,i t1.1.py,i t1.1.pz,i t1.1.pw] s.eh7)) (sl (okE tP p.Pa5) (sl (wa6 (rt tP p.Pa5) t1.1) (sl t2 (sl (Nat.beq s.yb4 (len s.eh6)&&Nat.ble ((s.yb4+1)*32) room) (k ⟨1,W (s.Ja2+1),s.yb4+1,app s.eh6 [[i t1.1.px,i t1.1.py,i t1.1.pz,i t1.1.pw]],Lb4 [(0,.int .i64),(1,.int .i64),(2,.int .i64),(3,.int .i64)] [i t1.1.px,i t1.1.py,i t1.1.pz,i t1.1.pw] [i t1.1.px,i t1.1.py,i t1.1.pz,i t1.1.pw,b true] s.eh7⟩) z) (k ⟨1,W (s.Ja2+1),s.yb4,s.eh6,s.eh7⟩)) z) z) (k ⟨1,W (s.Ja2+1),s.yb4,s.eh6,s.eh7⟩)) (k ⟨1,W (s.Ja2+1),s.yb4,s.eh6,s.eh7⟩)) z) z) z) (e 2))
noncomputable def A3(p:k9)(s:l0):Stp l0:=(sel (Nat.beq s.ph 1) (C8 .next .exit .fail p s) (C7 .next .exit .fail p s))
noncomputable def za1:Lo k9 l0:=⟨En la5,0,Ce8,[1,1,1,0,1,4,4,1,4,4,1,1,0,4,1,1,4,4,1,1,0,4,1,1,4,4],[1,3,4,6,9,10,11,19,20,21,31,32,33,47,49,50,51,52],.p,[⟨sUq::sPq 0::sUq::sIq::sPq 1::sUq::sPq 2::sUq::sUq::sLq tP::sIq::sIq::ru2 7 (sTq 4::sIq::sIq::ru2 9 (sTq 4::sIq::sIq::ru2 13 (.s (.o (.lit .i64 0))::sUq::sPq 3::.s (.o .nil)::sPq 4::sPq 5::ru2 31 []))),[⟨0,1,true,some [[.c 4 (nL tP)]]⟩,⟨0,4,true,some [kLq 4]⟩,⟨0,4,true,some [kLq 4]⟩,⟨0,1,true,some [[.c 4 (nL tP)]]⟩,⟨0,0,true,some [[.o .nil]]⟩,⟨0,0,true,some [[.o (.ptr 6 0 0 0)]]⟩,⟨182,0,true,some []⟩],λa H=>(⟨aIq a 3,aLq tP a 9,aIq a 10,aIq a 11,aNq a 19,aGq a 19,aIq a 20,aIq a 21,aNq a 31,aGq a 31,aIq a 32,hLq tP H 0 0 0,hIq H 1 0 0,hIq H 1 0 1,hIq H 1 0 2,hIq H 1 0 3,hIq H 2 0 0,hIq H 2 0 1,hIq H 2 0 2,hIq H 2 0 3,hLq tP H 3 0 0⟩,⟨0,aIq a 33,0,[],[]⟩)⟩,⟨sUq::sPq 0::sUq::sIq::sPq 1::sUq::sPq 2::sUq::sUq::sLq tP::sIq::sIq::ru2 7 (sTq 4::sIq::sIq::ru2 9 (sTq 4::sIq::sIq::ru2 13 (.s (.o (.lit .i64 0))::sUq::sPq 3::.s (.o .nil)::sPq 4::sPq 5::ru2 31 []))),[⟨0,1,true,some [[.c 4 (nL tP)]]⟩,⟨0,4,true,some [kLq 4]⟩,⟨0,4,true,some [kLq 4]⟩,⟨0,1,true,some [[.c 4 (nL tP)]]⟩,⟨0,0,true,some [[.o (.sl 6 0 (some 0) none)]]⟩,⟨0,0,true,some [[.o (.ptr 7 0 0 0)]]⟩,⟨136,4,true,none⟩,⟨182,0,true,none⟩],λa H=>(⟨aIq a 3,aLq tP a 9,aIq a 10,aIq a 11,aNq a 19,aGq a 19,aIq a 20,aIq a 21,aNq a 31,aGq a 31,aIq a 32,hLq tP H 0 0 0,hIq H 1 0 0,hIq H 1 0 1,hIq H 1 0 2,hIq H 1 0 3,hIq H 2 0 0,hIq H 2 0 1,hIq H 2 0 2,hIq H 2 0 3,hLq tP H 3 0 0⟩,⟨1,aIq a 33,slN (slT (rwT (elT H 4) 0) 0),elT H 6,elT H 7⟩)⟩],A3,[(some 4,λp s=>upq (Pa8 p s) [(34,b (decide (s.Ja2<p.ze8)))]),(some 4,λp s=>upq (Pa9 p s) [(34,b (decide (s.Ja2<p.ze8)))])],Mb5⟩
theorem Mb6:za1.OkM:=Lo.okM [] (by kernel_rfl) .nil rfl (.cons (λa H=>by kernel_rfl) (.cons (λa H=>by kernel_rfl) .nil)) λp s=>(.sel (Nat.beq s.ph 1) (.of @C8 (λF _ _ _ _ _=>by unfold C8;(repeat' apply l6 (f:=F))<;>rfl) (by kernel_rfl)) (.of @C7 (λF _ _ _ _ _=>by unfold C7;(repeat' apply l6 (f:=F))<;>rfl) (by kernel_rfl)))
structure l5 where
 (is3 na7 p4:Int)
 Dd9:Nat
 Tb9:Nat->List b7
 (Tc7 X1 X2 X3 da4:Int)
structure m0 where
 ph:Nat
 y5:List Pln
 Ia2:Int
 (e7 ia9:List Pln)
 bc0:Nat
 (eh5 eh6:List (List b7))
noncomputable def Qa0(p:l5)(s:m0):St:=⟨.unk::.ptr 0 0 0 0::.unk::i p.is3::.ptr 1 0 0 0::ra 4 (eL tP s.y5::i p.na7::i p.p4::ra 7 (.tree 4 p.Dd9 p.Tb9::i p.Tc7::i s.Ia2::ra 25 (i 0::.unk::.ptr 2 0 0 0::.v (.slice none 0 0)::.ptr 3 0 0 0::.ptr 4 0 0 0::ra 31 []))),[⟨0,1,[[eL tP s.e7]],true,false,0⟩,⟨0,4,[[i p.X1,i p.X2,i p.X3,i p.da4]],true,false,0⟩,⟨0,1,[[eL tP s.ia9]],true,false,0⟩,⟨0,0,[[.v (.slice none 0 0)]],true,false,0⟩,⟨0,0,[[.ptr 5 0 0 0]],true,false,0⟩,⟨182,0,[],true,false,0⟩]⟩
noncomputable def Qa1(p:l5)(s:m0):St:=⟨.unk::.ptr 0 0 0 0::.unk::i p.is3::.ptr 1 0 0 0::ra 4 (eL tP s.y5::i p.na7::i p.p4::ra 7 (.tree 4 p.Dd9 p.Tb9::i p.Tc7::i s.Ia2::ra 25 (i 0::.unk::.ptr 2 0 0 0::.v (.slice none 0 0)::.ptr 3 0 0 0::.ptr 4 0 0 0::ra 31 []))),[⟨0,1,[[eL tP s.e7]],true,false,0⟩,⟨0,4,[[i p.X1,i p.X2,i p.X3,i p.da4]],true,false,0⟩,⟨0,1,[[eL tP s.ia9]],true,false,0⟩,⟨0,0,[[.sl 5 0 s.bc0 0]],true,false,0⟩,⟨0,0,[[.ptr 6 0 0 0]],true,false,0⟩,⟨136,4,s.eh5,true,false,0⟩,⟨182,0,s.eh6,true,false,0⟩]⟩
noncomputable def Mb7(p:l5)(s:m0):St:=(sel (Nat.beq s.ph 1) (Qa1 p s) (Qa0 p s))
noncomputable def C9{α:Type}(k:m0->α)(e:Nat->α)(z:α)(p:l5)(s:m0):α:=let t1:=(lp (A3 (⟨p.is3,rt tP s.y5,p.na7,p.p4,p.Dd9,p.Tb9,p.Tc7,s.Ia2,(List.length s.e7)-(W ((W (p.is3+s.Ia2))+2)).toNat,(λk=>(λk=>(tP).row (gL tP s.e7 k)) ((W ((W (p.is3+s.Ia2))+2)).toNat+k)),(↑((List.length s.e7)-(W ((W (p.is3+s.Ia2))+2)).toNat):Int),rt tP s.e7,p.X1,p.X2,p.X3,p.da4,toI (hdA (p.Tb9 s.Ia2.toNat)),toI (hdA (tlA (p.Tb9 s.Ia2.toNat))),toI (hdA (tlA (tlA (p.Tb9 s.Ia2.toNat)))),toI (hdA (tlA (tlA (tlA (p.Tb9 s.Ia2.toNat))))),rt tP s.ia9⟩:k9)) (⟨0,0,0,[],[]⟩:l0));(sl (decide (s.Ia2<p.Tc7)) (sl (inB s.Ia2 p.Dd9) (sl ((Nat.ble 4 (len (p.Tb9 s.Ia2.toNat)))&&(ka1 [CK.int .i64,CK.int .i64,CK.int .i64,CK.int .i64] (p.Tb9 s.Ia2.toNat))) (sl (inB (W ((W (p.is3+s.Ia2))+2)) ((List.length s.e7)+1)) (sl ((cnE tP s.y5)&&((cnE tP s.e7)&&((cnE tP s.ia9)&&true))) (sl (Nat.beq t1.1 1) (k ⟨0,rt tP s.y5,W (s.Ia2+1),rt tP s.e7,rt tP s.ia9,0,[],[]⟩) (sl (Nat.beq t1.1 2) (k ⟨1,rt tP s.y5,W (s.Ia2+1),rt tP s.e7,rt tP s.ia9,t1.2.yb4,t1.2.eh6,t1.2.eh7⟩) z)) z) z) z) z) (e 1))
noncomputable def D0{α:Type}(k:m0->α)(e:Nat->α)(z:α)(p:l5)(s:m0):α:=let t1:=(lp (A3 (⟨p.is3,rt tP s.y5,p.na7,p.p4,p.Dd9,p.Tb9,p.Tc7,s.Ia2,(List.length s.e7)-(W ((W (p.is3+s.Ia2))+2)).toNat,(λk=>(λk=>(tP).row (gL tP s.e7 k)) ((W ((W (p.is3+s.Ia2))+2)).toNat+k)),(↑((List.length s.e7)-(W ((W (p.is3+s.Ia2))+2)).toNat):Int),rt tP s.e7,p.X1,p.X2,p.X3,p.da4,toI (hdA (p.Tb9 s.Ia2.toNat)),toI (hdA (tlA (p.Tb9 s.Ia2.toNat))),toI (hdA (tlA (tlA (p.Tb9 s.Ia2.toNat)))),toI (hdA (tlA (tlA (tlA (p.Tb9 s.Ia2.toNat))))),rt tP s.ia9⟩:k9)) (⟨1,0,s.bc0,s.eh5,s.eh6⟩:l0));(sl (decide (s.Ia2<p.Tc7)) (sl (inB s.Ia2 p.Dd9) (sl ((Nat.ble 4 (len (p.Tb9 s.Ia2.toNat)))&&(ka1 [CK.int .i64,CK.int .i64,CK.int .i64,CK.int .i64] (p.Tb9 s.Ia2.toNat))) (sl (inB (W ((W (p.is3+s.Ia2))+2)) ((List.length s.e7)+1)) (sl ((cnE tP s.y5)&&((cnE tP s.e7)&&((cnE tP s.ia9)&&true))) (sl (Nat.beq t1.1 1) (k ⟨0,rt tP s.y5,W (s.Ia2+1),rt tP s.e7,rt tP s.ia9,0,[],[]⟩) (sl (Nat.beq t1.1 2) (k ⟨1,rt tP s.y5,W (s.Ia2+1),rt tP s.e7,rt tP s.ia9,t1.2.yb4,t1.2.eh6,t1.2.eh7⟩) z)) z) z) z) z) (e 2))
noncomputable def A4(p:l5)(s:m0):Stp m0:=(sel (Nat.beq s.ph 1) (D0 .next .exit .fail p s) (C9 .next .exit .fail p s))
noncomputable def za2:Lo l5 m0:=⟨En la5,0,Ce8,[1,1,1,0,1,4,4,1,4,4,1,1,0,4,1,1,4,4],[1,3,4,9,10,11,19,20,21,47,49,50,51,52],.s .p (.s .p (.s (.b (.s .p (.s .p (.b (.u za1.lsM))))) .p)),[⟨sUq::sPq 0::sUq::sIq::sPq 1::ru2 4 (sLq tP::sIq::sIq::ru2 7 (sTq 4::sIq::sIq::ru2 25 (.s (.o (.lit .i64 0))::sUq::sPq 2::.s (.o .nil)::sPq 3::sPq 4::ru2 31 []))),[⟨0,1,true,some [[.c 4 (nL tP)]]⟩,⟨0,4,true,some [kLq 4]⟩,⟨0,1,true,some [[.c 4 (nL tP)]]⟩,⟨0,0,true,some [[.o .nil]]⟩,⟨0,0,true,some [[.o (.ptr 5 0 0 0)]]⟩,⟨182,0,true,some []⟩],λa H=>(⟨aIq a 3,aIq a 10,aIq a 11,aNq a 19,aGq a 19,aIq a 20,hIq H 1 0 0,hIq H 1 0 1,hIq H 1 0 2,hIq H 1 0 3⟩,⟨0,aLq tP a 9,aIq a 21,hLq tP H 0 0 0,hLq tP H 2 0 0,0,[],[]⟩)⟩,⟨sUq::sPq 0::sUq::sIq::sPq 1::ru2 4 (sLq tP::sIq::sIq::ru2 7 (sTq 4::sIq::sIq::ru2 25 (.s (.o (.lit .i64 0))::sUq::sPq 2::.s (.o .nil)::sPq 3::sPq 4::ru2 31 []))),[⟨0,1,true,some [[.c 4 (nL tP)]]⟩,⟨0,4,true,some [kLq 4]⟩,⟨0,1,true,some [[.c 4 (nL tP)]]⟩,⟨0,0,true,some [[.o (.sl 5 0 (some 0) none)]]⟩,⟨0,0,true,some [[.o (.ptr 6 0 0 0)]]⟩,⟨136,4,true,none⟩,⟨182,0,true,none⟩],λa H=>(⟨aIq a 3,aIq a 10,aIq a 11,aNq a 19,aGq a 19,aIq a 20,hIq H 1 0 0,hIq H 1 0 1,hIq H 1 0 2,hIq H 1 0 3⟩,⟨1,aLq tP a 9,aIq a 21,hLq tP H 0 0 0,hLq tP H 2 0 0,slN (slT (rwT (elT H 3) 0) 0),elT H 5,elT H 6⟩)⟩],A4,[(some 2,λp s=>upq (Qa0 p s) [(22,b (decide (s.Ia2<p.Tc7)))]),(some 2,λp s=>upq (Qa1 p s) [(22,b (decide (s.Ia2<p.Tc7)))])],Mb7⟩
theorem Mb8:za2.OkM:=Lo.okM [za1.prM] (by kernel_rfl) (.cons Mb6 .nil) rfl (.cons (λa H=>by kernel_rfl) (.cons (λa H=>by kernel_rfl) .nil)) λp s=>(.sel (Nat.beq s.ph 1) (.of @D0 (λF _ _ _ _ _=>by unfold D0;(repeat' apply l6 (f:=F))<;>rfl) (by kernel_rfl)) (.of @C9 (λF _ _ _ _ _=>by unfold C9;(repeat' apply l6 (f:=F))<;>rfl) (by kernel_rfl)))
structure s7 where
 na7:Int
structure o3 where
 ph:Nat
 y5:List Pln
 p4:Int
 (e7 ta4:List Pln)
 B7:Nat
 (eh4 eh5:List (List b7))
noncomputable def Qa2(p:s7)(s:o3):St:=⟨.unk::.ptr 0 0 0 0::ra 7 (eL tP s.y5::i p.na7::i s.p4::ra 35 (i 0::.unk::.ptr 1 0 0 0::.v (.slice none 0 0)::.ptr 2 0 0 0::.ptr 3 0 0 0::ra 31 [])),[⟨0,1,[[eL tP s.e7]],true,false,0⟩,⟨0,1,[[eL tP s.ta4]],true,false,0⟩,⟨0,0,[[.v (.slice none 0 0)]],true,false,0⟩,⟨0,0,[[.ptr 4 0 0 0]],true,false,0⟩,⟨182,0,[],true,false,0⟩]⟩
noncomputable def Qa3(p:s7)(s:o3):St:=⟨.unk::.ptr 0 0 0 0::ra 7 (eL tP s.y5::i p.na7::i s.p4::ra 35 (i 0::.unk::.ptr 1 0 0 0::.v (.slice none 0 0)::.ptr 2 0 0 0::.ptr 3 0 0 0::ra 31 [])),[⟨0,1,[[eL tP s.e7]],true,false,0⟩,⟨0,1,[[eL tP s.ta4]],true,false,0⟩,⟨0,0,[[.sl 4 0 s.B7 0]],true,false,0⟩,⟨0,0,[[.ptr 5 0 0 0]],true,false,0⟩,⟨136,4,s.eh4,true,false,0⟩,⟨182,0,s.eh5,true,false,0⟩]⟩
noncomputable def Mb9(p:s7)(s:o3):St:=(sel (Nat.beq s.ph 1) (Qa3 p s) (Qa2 p s))
noncomputable def D1{α:Type}(k:o3->α)(e:Nat->α)(z:α)(p:s7)(s:o3):α:=let t1:=(lp (A4 (⟨s.p4,p.na7,s.p4,(List.length s.e7)-(W (s.p4+1)).toNat,(λk=>(λk=>(tP).row (gL tP s.e7 k)) ((W (s.p4+1)).toNat+k)),(↑((List.length s.e7)-(W (s.p4+1)).toNat):Int),(gL tP s.y5 s.p4.toNat).n.x,(gL tP s.y5 s.p4.toNat).n.y,(gL tP s.y5 s.p4.toNat).n.z,(gL tP s.y5 s.p4.toNat).b⟩:l5)) (⟨0,rt tP s.y5,0,rt tP s.e7,rt tP s.ta4,0,[],[]⟩:m0));(sl (decide (s.p4<p.na7)) (sl (inB s.p4 (List.length s.y5)) (sl (inB (W (s.p4+1)) ((List.length s.e7)+1)) (sl ((cnE tP s.y5)&&((cnE tP s.e7)&&((cnE tP s.ta4)&&true))) (sl (Nat.beq t1.1 1) (k ⟨0,t1.2.y5,W (s.p4+1),t1.2.e7,t1.2.ia9,0,[],[]⟩) (sl (Nat.beq t1.1 2) (k ⟨1,t1.2.y5,W (s.p4+1),t1.2.e7,t1.2.ia9,t1.2.bc0,t1.2.eh5,t1.2.eh6⟩) z)) z) z) z) (e 1))
noncomputable def D2{α:Type}(k:o3->α)(e:Nat->α)(z:α)(p:s7)(s:o3):α:=let t1:=(lp (A4 (⟨s.p4,p.na7,s.p4,(List.length s.e7)-(W (s.p4+1)).toNat,(λk=>(λk=>(tP).row (gL tP s.e7 k)) ((W (s.p4+1)).toNat+k)),(↑((List.length s.e7)-(W (s.p4+1)).toNat):Int),(gL tP s.y5 s.p4.toNat).n.x,(gL tP s.y5 s.p4.toNat).n.y,(gL tP s.y5 s.p4.toNat).n.z,(gL tP s.y5 s.p4.toNat).b⟩:l5)) (⟨1,rt tP s.y5,0,rt tP s.e7,rt tP s.ta4,s.B7,s.eh4,s.eh5⟩:m0));(sl (decide (s.p4<p.na7)) (sl (inB s.p4 (List.length s.y5)) (sl (inB (W (s.p4+1)) ((List.length s.e7)+1)) (sl ((cnE tP s.y5)&&((cnE tP s.e7)&&((cnE tP s.ta4)&&true))) (sl (Nat.beq t1.1 1) (k ⟨0,t1.2.y5,W (s.p4+1),t1.2.e7,t1.2.ia9,0,[],[]⟩) (sl (Nat.beq t1.1 2) (k ⟨1,t1.2.y5,W (s.p4+1),t1.2.e7,t1.2.ia9,t1.2.bc0,t1.2.eh5,t1.2.eh6⟩) z)) z) z) z) (e 2))
noncomputable def A5(p:s7)(s:o3):Stp o3:=(sel (Nat.beq s.ph 1) (D2 .next .exit .fail p s) (D1 .next .exit .fail p s))
noncomputable def za3:Lo s7 o3:=⟨En la5,0,Ce8,[1,1,1,0,1,4,4,1,4,4],[1,9,10,11,47,49,50,51,52],.s .p (.s .p (.s (.b (.s .p (.s .p (.b (.u za2.lsM))))) .p)),[⟨sUq::sPq 0::ru2 7 (sLq tP::sIq::sIq::ru2 35 (.s (.o (.lit .i64 0))::sUq::sPq 1::.s (.o .nil)::sPq 2::sPq 3::ru2 31 [])),[⟨0,1,true,some [[.c 4 (nL tP)]]⟩,⟨0,1,true,some [[.c 4 (nL tP)]]⟩,⟨0,0,true,some [[.o .nil]]⟩,⟨0,0,true,some [[.o (.ptr 4 0 0 0)]]⟩,⟨182,0,true,some []⟩],λa H=>(⟨aIq a 10⟩,⟨0,aLq tP a 9,aIq a 11,hLq tP H 0 0 0,hLq tP H 1 0 0,0,[],[]⟩)⟩,⟨sUq::sPq 0::ru2 7 (sLq tP::sIq::sIq::ru2 35 (.s (.o (.lit .i64 0))::sUq::sPq 1::.s (.o .nil)::sPq 2::sPq 3::ru2 31 [])),[⟨0,1,true,some [[.c 4 (nL tP)]]⟩,⟨0,1,true,some [[.c 4 (nL tP)]]⟩,⟨0,0,true,some [[.o (.sl 4 0 (some 0) none)]]⟩,⟨0,0,true,some [[.o (.ptr 5 0 0 0)]]⟩,⟨136,4,true,none⟩,⟨182,0,true,none⟩],λa H=>(⟨aIq a 10⟩,⟨1,aLq tP a 9,aIq a 11,hLq tP H 0 0 0,hLq tP H 1 0 0,slN (slT (rwT (elT H 2) 0) 0),elT H 4,elT H 5⟩)⟩],A5,[(some 0,λp s=>upq (Qa2 p s) [(12,b (decide (s.p4<p.na7)))]),(some 0,λp s=>upq (Qa3 p s) [(12,b (decide (s.p4<p.na7)))])],Mb9⟩
theorem Nb0:za3.OkM:=Lo.okM [za2.prM] (by kernel_rfl) (.cons Mb8 .nil) rfl (.cons (λa H=>by kernel_rfl) (.cons (λa H=>by kernel_rfl) .nil)) λp s=>(.sel (Nat.beq s.ph 1) (.of @D2 (λF _ _ _ _ _=>by unfold D2;(repeat' apply l6 (f:=F))<;>rfl) (by kernel_rfl)) (.of @D1 (λF _ _ _ _ _=>by unfold D1;(repeat' apply l6 (f:=F))<;>rfl) (by kernel_rfl)))
noncomputable def da6(x:List Pln):Option (b7×List b8):=let t1:=(lp (A5 (⟨(↑(List.length x):Int)⟩:s7)) (⟨0,rt tP x,0,rt tP x,rt tP x,0,[],[]⟩:o3));(sl ((cnE tP x)&&((cnE tP x)&&((cnE tP x)&&true))) (sl (Nat.beq t1.1 1) (some (.v (.slice none 0 0),[])) (sl (Nat.beq t1.1 2) (some (.sl 0 0 t1.2.B7 0,[⟨136,4,t1.2.eh4,true,false,0⟩])) none)) none)
noncomputable def da7(x:List Pln):List Pt:=J8 (one (r1L tX)) (da6 x)
noncomputable def da8(x:List Pln):Bool:=okO (one (r1L tX)) (da6 x)
noncomputable def Ha2:Sum:=X6 (O3 tP) (λx=>.guard (da8 x) (.ret ((one (r1L tX)).enc (da7 x),[])))
theorem cb2:g9 prog G 167 Ha2:=Ia9 (bd lg3 Rb4) (one (r1L tX)) (o:=da6) λx=>cf2 (.s .p (.s .p (.s .p (.s (.s .p (.b (.i (.s .p (.b (.u za3.lsM)))))) .p)))) [za3.prM] (by kernel_rfl) (.cons Nb0 .nil) (by kernel_rfl)
noncomputable def bc9:List (Nat×Sum):=[]
theorem Pc8:i9 prog G bc9:=trivial
structure za4 where
 is0:Int
 Ie1:List Int
 is8:Int
structure P4 where
 is9:Int
noncomputable def Jb8(p:za4)(s:P4):St:=⟨i p.is0::ra 6 (eL tI p.Ie1::i p.is8::i s.is9::ra 13 []),[]⟩
noncomputable def oa9{α:Type}(k:P4->α)(e:Nat->α)(z:α)(p:za4)(s:P4):α:=(sl (decide (s.is9<p.is8)) (sl (inB s.is9 (List.length p.Ie1)) (sl (decide ((gL tI p.Ie1 s.is9.toNat)<(W (0-p.is0)))) (e 1) (sl (decide ((gL tI p.Ie1 s.is9.toNat)>p.is0)) (e 1) (k ⟨W (s.is9+1)⟩))) z) (e 2))
noncomputable def ua4(p:za4)(s:P4):Stp P4:=oa9 .next .exit .fail p s
noncomputable def jb6:Lo za4 P4:=⟨En bc9,0,Ff2,[1,0,1,4,4],[0,7,8,9],.p,[⟨sIq::ru2 6 (sLq tI::sIq::sIq::ru2 13 []),[],λa H=>(⟨aIq a 0,aLq tI a 7,aIq a 8⟩,⟨aIq a 9⟩)⟩],ua4,[(none,λp s=>⟨[b false],[]⟩),(some 0,λp s=>upq (Jb8 p s) [(10,b (decide (s.is9<p.is8)))])],Jb8⟩
theorem Hc1:jb6.Ok:=Lo.ok [] (by kernel_rfl) .nil rfl (.cons (λa H=>by kernel_rfl) .nil) λp s=>(.of @oa9 (λF _ _ _ _ _=>by unfold oa9;(repeat' apply l6 (f:=F))<;>rfl) (by kernel_rfl))
noncomputable def Ka8(x:Int)(y:List Int):Option (b7×List b8):=let t1:=(lp (ua4 (⟨x,rt tI y,(↑(List.length y):Int)⟩:za4)) (⟨0⟩:P4));(sl ((cnE tI y)&&true) (sl (Nat.beq t1.1 1) (some (b false,[])) (sl (Nat.beq t1.1 2) (some (b true,[])) none)) none)
noncomputable def za5(x:Int)(y:List Int):Bool:=J8 (one r1B) (Ka8 x y)
noncomputable def za6(x:Int)(y:List Int):Bool:=okO (one r1B) (Ka8 x y)
noncomputable def Cb3:Sum:=oa5 cI (O3 tI) (λx y=>.guard (za6 x y) (.ret ((one r1B).enc (za5 x y),[])))
theorem cc2:g9 prog G 138 Cb3:=hb8 (bd jg6 Pc8) (one r1B) (o:=Ka8) λx y=>ta7 (.s .p (.s (.s .p (.b (.u jb6.ls))) .p)) [jb6.pr] (by kernel_rfl) (.cons Hc1 .nil) (by kernel_rfl)
noncomputable def Hc2:List (Nat×Sum):=[]
theorem zc2:i9 prog G Hc2:=trivial
noncomputable def Oa4(x:Int):Int:=(if (W (0-x))>x then (W (0-x)) else x)
noncomputable def Rb5:Sum:=X6 cI (λx=>.ret ((one r1I).enc (Oa4 x),[]))
theorem Hc3:g9 prog G 183 Rb5:=Ib6 (bd mg3 zc2) λx=>v7 (by kernel_rfl)
noncomputable def jb7:List (Nat×Sum):=[(183,Rb5)]
theorem Hc4:i9 prog G jb7:=⟨Hc3,trivial⟩
structure ia5 where
 hb5:List Int
 (is7 is8:Int)
structure S1 where
 (is3 is5:Int)
noncomputable def Cb4(p:ia5)(s:S1):St:=⟨ra 3 (i s.is3::.unk::i s.is5::eL tI p.hb5::i p.is7::i p.is8::ra 15 []),[]⟩
noncomputable def ka4{α:Type}(k:S1->α)(e:Nat->α)(z:α)(p:ia5)(s:S1):α:=(sl (decide (s.is5>0)) (sl (s.is5==0) z (k ⟨s.is5,Int.tmod s.is3 s.is5⟩)) (e 1))
noncomputable def ea9(p:ia5)(s:S1):Stp S1:=ka4 .next .exit .fail p s
noncomputable def cb3:Lo ia5 S1:=⟨En jb7,0,cf0,[1,1,0,1,4,4,1,1,0,4,1,1,1,4,4],[3,5,6,7,8],.p,[⟨ru2 3 (sIq::sUq::sIq::sLq tI::sIq::sIq::ru2 15 []),[],λa H=>(⟨aLq tI a 6,aIq a 7,aIq a 8⟩,⟨aIq a 3,aIq a 5⟩)⟩],ea9,[(some 2,λp s=>upq (Cb4 p s) [(16,i s.is5),(17,b (decide (s.is5>0)))])],Cb4⟩
theorem zc3:cb3.Ok:=Lo.ok [] (by kernel_rfl) .nil rfl (.cons (λa H=>by kernel_rfl) .nil) λp s=>(.of @ka4 (λF _ _ _ _ _=>by unfold ka4;(repeat' apply l6 (f:=F))<;>rfl) (by kernel_rfl))
structure ua5 where
 is7:Int
structure M6 where
 is3:Int
 hb5:List Int
 is8:Int
noncomputable def Cb5(p:ua5)(s:M6):St:=⟨ra 3 (i s.is3::.unk::.unk::eL tI s.hb5::i p.is7::i s.is8::ra 15 []),[]⟩
noncomputable def ka5{α:Type}(k:M6->α)(e:Nat->α)(z:α)(p:ua5)(s:M6):α:=let t1:=(Oa4 (gL tI s.hb5 s.is8.toNat));let t2:=(lp (ea9 (⟨rt tI s.hb5,p.is7,s.is8⟩:ia5)) (⟨s.is3,t1⟩:S1));(sl (decide (s.is8<p.is7)) (sl (inB s.is8 (List.length s.hb5)) (sl ((gL tI s.hb5 s.is8.toNat)==(-9223372036854775808)) (e 1) (sl ((cnE tI s.hb5)&&true) (sl (Nat.beq t2.1 1) (k ⟨t2.2.is3,rt tI s.hb5,W (s.is8+1)⟩) z) z)) z) (e 2))
noncomputable def pa0(p:ua5)(s:M6):Stp M6:=ka5 .next .exit .fail p s
noncomputable def cb4:Lo ua5 M6:=⟨En jb7,0,cf0,[1,1,0,1,4,4],[3,6,7,8],.s .p (.s .p (.s (.b (.s .p (.s .p (.s .p (.b (.u cb3.ls)))))) .p)),[⟨ru2 3 (sIq::sUq::sUq::sLq tI::sIq::sIq::ru2 15 []),[],λa H=>(⟨aIq a 7⟩,⟨aIq a 3,aLq tI a 6,aIq a 8⟩)⟩],pa0,[(none,λp s=>⟨[i 0],[]⟩),(some 0,λp s=>upq (Cb5 p s) [(9,b (decide (s.is8<p.is7)))])],Cb5⟩
theorem zc4:cb4.Ok:=Lo.ok [cb3.pr] (by kernel_rfl) (.cons zc3 .nil) rfl (.cons (λa H=>by kernel_rfl) .nil) λp s=>(.of @ka5 (λF _ _ _ _ _=>by unfold ka5;(repeat' apply l6 (f:=F))<;>rfl) (by kernel_rfl))
noncomputable def Ea4(x:List Int):Option (b7×List b8):=let t1:=(lp (pa0 (⟨(↑(List.length x):Int)⟩:ua5)) (⟨0,rt tI x,0⟩:M6));(sl ((cnE tI x)&&true) (sl (Nat.beq t1.1 1) (some (i 0,[])) (sl (Nat.beq t1.1 2) (some (i t1.2.is3,[])) none)) none)
noncomputable def Va8(x:List Int):Int:=J8 (one r1I) (Ea4 x)
noncomputable def Va9(x:List Int):Bool:=okO (one r1I) (Ea4 x)
noncomputable def cc3:Sum:=X6 (O3 tI) (λx=>.guard (Va9 x) (.ret ((one r1I).enc (Va8 x),[])))
theorem Pc9:g9 prog G 186 cc3:=Ia9 (bd mg5 Hc4) (one r1I) (o:=Ea4) λx=>ta7 (.s .p (.s .p (.s (.s .p (.b (.u cb4.ls))) .p))) [cb4.pr] (by kernel_rfl) (.cons zc4 .nil) (by kernel_rfl)
noncomputable def md4:List (Nat×Sum):=[(138,Cb3),(186,cc3)]
theorem Zc1:i9 prog G md4:=⟨cc2,Pc9,trivial⟩
noncomputable def Ta3(x:Pln):Option (b7×List b8):=let t1:=(za5 4608 [x.n.x,x.n.y,x.n.z]);let t2:=(Va8 [x.n.x,x.n.y,x.n.z]);let t3:=(za5 2097152 [x.b]);(sl (za6 4608 [x.n.x,x.n.y,x.n.z]) (sl t1 (sl (Va9 [x.n.x,x.n.y,x.n.z]) (sl (t2==1) (sl (za6 2097152 [x.b]) (some (b t3,[])) none) (some (b false,[]))) none) (some (b false,[]))) none)
noncomputable def Ta4(x:Pln):Bool:=J8 (one r1B) (Ta3 x)
noncomputable def Ta5(x:Pln):Bool:=okO (one r1B) (Ta3 x)
noncomputable def Nb1:Sum:=X6 (ba6 tP) (λx=>.guard (Ta5 x) (.ret ((one r1B).enc (Ta4 x),[])))
theorem kc5:g9 prog G 140 Nb1:=Ia9 (bd jg7 Zc1) (one r1B) (o:=Ta3) λx=>v7 (by kernel_rfl)
noncomputable def Zc2:List (Nat×Sum):=[(140,Nb1)]
theorem Qc0:i9 prog G Zc2:=⟨kc5,trivial⟩
noncomputable def Ka9(x:Pln):Option (b7×List b8):=let t1:=(Ta4 x);(sl (Ta5 x) (some (b (!t1),[])) none)
noncomputable def cb5(x:Pln):Bool:=J8 (one r1B) (Ka9 x)
noncomputable def cb6(x:Pln):Bool:=okO (one r1B) (Ka9 x)
noncomputable def kc6:Sum:=X6 (ba6 tP) (λx=>.guard (cb6 x) (.ret ((one r1B).enc (cb5 x),[])))
theorem Zc3:g9 prog G 149 kc6:=Ia9 (bd kg0 Qc0) (one r1B) (o:=Ka9) λx=>v7 (by kernel_rfl)
structure ca1 where
 c9:List Pln
noncomputable def La0:List (Nat×Sum):=[(149,kc6)]
theorem wb2:i9 prog G La0:=⟨Zc3,trivial⟩
structure M7 where
 c9:List Pln
 is7:Int
structure p8 where
 is8:Int
noncomputable def Ea5(p:M7)(s:p8):St:=⟨eL tP p.c9::.fn 149 []::ra 5 (i p.is7::i s.is8::ra 10 []),[]⟩
noncomputable def H7{α:Type}(k:p8->α)(e:Nat->α)(z:α)(p:M7)(s:p8):α:=let t1:=(cb5 (gL tP p.c9 s.is8.toNat));(sl (decide (s.is8<p.is7)) (sl (inB s.is8 (List.length p.c9)) (sl (cb6 (gL tP p.c9 s.is8.toNat)) (sl t1 (e 1) (k ⟨W (s.is8+1)⟩)) z) z) (e 2))
noncomputable def K0(p:M7)(s:p8):Stp p8:=H7 .next .exit .fail p s
noncomputable def la6:Lo M7 p8:=⟨En La0,0,fe7,[1,0,1,4,4],[0,1,7,8],.p,[⟨sLq tP::.s (.o (.fn 149))::ru2 5 (sIq::sIq::ru2 10 []),[],λa H=>(⟨aLq tP a 0,aIq a 7⟩,⟨aIq a 8⟩)⟩],K0,[(none,λp s=>⟨[i s.is8],[]⟩),(some 0,λp s=>upq (Ea5 p s) [(9,b (decide (s.is8<p.is7)))])],Ea5⟩
theorem sb8:la6.Ok:=Lo.ok [] (by kernel_rfl) .nil rfl (.cons (λa H=>by kernel_rfl) .nil) λp s=>(.of @H7 (λF _ _ _ _ _=>by unfold H7;(repeat' apply l6 (f:=F))<;>rfl) (by kernel_rfl))
structure ca2 where
 alt:Nat
 is0:Int
noncomputable def I6{α:Type}(kk:ca2->α)(x:ca1):α:=let t1:=(lp (K0 (⟨rt tP x.c9,(↑(List.length x.c9):Int)⟩:M7)) (⟨0⟩:p8));(sl ((cnE tP x.c9)&&true) (sl (Nat.beq t1.1 1) (kk ⟨1,t1.2.is8⟩) (sl (Nat.beq t1.1 2) (kk ⟨1,-1⟩) (kk ⟨0,0⟩))) (kk ⟨0,0⟩))
noncomputable def sa1(x:ca1):ca2:=I6 (λr=>r) x
noncomputable def pa1(x:ca1)(r:ca2):DT (b7×List b8):=(.ite (Nat.beq r.alt 1) (.ret (i r.is0,[])) .fail)
theorem Gb7{α β:Type}(F:α->β)(kk:ca2->α)(x:ca1):F (I6 kk x)=I6 (λr=>F (kk r)) x:=by unfold I6;(repeat' apply l6 (f:=F))<;>rfl
noncomputable def Qa4:Sum:=bb1 ⟨[sLq tP,.s (.o (.fn 149))],[],λa H=>(⟨aLq tP a 0⟩,())⟩ (λx=>pa1 x (sa1 x))
theorem Cb6:g9 prog G 139 Qa4:=N9 (enc:=λx=>⟨[eL tP x.c9,.fn 149 []],[]⟩) (λa H=>by kernel_rfl) (bd wf0 wb2) λx=>ta7 (.s .p (.s (.s .p (.b (.u la6.ls))) .p)) [la6.pr] (by kernel_rfl) (.cons sb8 .nil) (Qha (b:=I6 (λr=>(pa1 x r).run) x) (by kernel_rfl) (Gb7 (λr=>(pa1 x r).run) (λr=>r) x).symm)
structure T8 where
 c9:List Pln
noncomputable def pb3:List (Nat×Sum):=[(139,Qa4)]
theorem jb8:i9 prog G pb3:=⟨Cb6,trivial⟩
structure T9 where
 alt:Nat
 bs0:Bool
noncomputable def D7{α:Type}(kk:T9->α)(x:T8):α:=let t1:=(sa1 ⟨rt tP x.c9⟩);(sl ((cnE tP x.c9)&&true) (sl (Nat.beq t1.alt 1) (kk ⟨1,decide (t1.is0>=0)⟩) (kk ⟨0,false⟩)) (kk ⟨0,false⟩))
noncomputable def ja2(x:T8):T9:=D7 (λr=>r) x
noncomputable def ga9(x:T8)(r:T9):DT (b7×List b8):=(.ite (Nat.beq r.alt 1) (.ret (b r.bs0,[])) .fail)
theorem sb9{α β:Type}(F:α->β)(kk:T9->α)(x:T8):F (D7 kk x)=D7 (λr=>F (kk r)) x:=by unfold D7;(repeat' apply l6 (f:=F))<;>rfl
noncomputable def Ea6:Sum:=bb1 ⟨[sLq tP,.s (.o (.fn 149))],[],λa H=>(⟨aLq tP a 0⟩,())⟩ (λx=>ga9 x (ja2 x))
theorem pb4:g9 prog G 86 Ea6:=N9 (enc:=λx=>⟨[eL tP x.c9,.fn 149 []],[]⟩) (λa H=>by kernel_rfl) (bd b86 jb8) λx=>v7 (Qha (b:=D7 (λr=>(ga9 x r).run) x) (by kernel_rfl) (sb9 (λr=>(ga9 x r).run) (λr=>r) x).symm)
noncomputable def zd8:List (Nat×Sum):=[(86,Ea6)]
theorem md5:i9 prog G zd8:=⟨pb4,trivial⟩
noncomputable def cb7(x:List Pln):Option (b7×List b8):=let t1:=(ja2 ⟨rt tP x⟩);(sl (decide ((↑(List.length x):Int)>48)) (some (i 2,[])) (sl ((cnE tP x)&&true) (sl (Nat.beq t1.alt 1) (sl t1.bs0 (some (i 12,[])) (some (i 0,[]))) none) none))
noncomputable def ua6(x:List Pln):Int:=J8 (one r1I) (cb7 x)
noncomputable def Oa5(x:List Pln):Bool:=okO (one r1I) (cb7 x)
noncomputable def wb3:Sum:=X6 (O3 tP) (λx=>.guard (Oa5 x) (.ret ((one r1I).enc (ua6 x),[])))
theorem Nb2:g9 prog G 97 wb3:=Ia9 (bd b97 md5) (one r1I) (o:=cb7) λx=>v7 (by kernel_rfl)
noncomputable def Zc4:List (Nat×Sum):=[(97,wb3)]
theorem Qc1:i9 prog G Zc4:=⟨Nb2,trivial⟩
noncomputable def La1(x:List Pln):Option (b7×List b8):=let t1:=(ua6 (rt tP x));(sl (okE tP x) (sl (Oa5 (rt tP x)) (some (b (t1 != 0),[])) none) none)
noncomputable def cb8(x:List Pln):Bool:=J8 (one r1B) (La1 x)
noncomputable def cb9(x:List Pln):Bool:=okO (one r1B) (La1 x)
noncomputable def kc7:Sum:=X6 (O3 tP) (λx=>.guard (cb9 x) (.ret ((one r1B).enc (cb8 x),[])))
theorem Zc5:g9 prog G 165 kc7:=Ia9 (bd lg1 Qc1) (one r1B) (o:=La1) λx=>v7 (by kernel_rfl)
end Go.Ev.Ce
namespace Go.Proofs
open Go.Shelf
set_option maxRecDepth 100000 in
def Ce.growP_ren:Go.Shelf.Ren:=⟨fun | 4=>193 | n=>n,fun | 22=>24 | 25=>73 | 3=>3 | 4=>4 | 9=>9 | 20=>20 | 0=>0 | n=>n,fun | n=>n⟩
set_option maxRecDepth 100000 in
theorem Ce.growP:Go.Proofs.Lays8.n4 Tryz.prog Ce.growP_ren:={
 mixed:=by kernel_rfl
 f4:=⟨Tryz.f193.name,by decide,Tryz.func193.trans (congrArg some (by kernel_rfl))⟩
 t0:=Tryz.underlying0
 a0:=Tryz.isAgg0
 z0:=Tryz.sizeOf0
 v0:=Tryz.zeroValue0
 t3:=Tryz.underlying3
 a3:=Tryz.isAgg3
 z3:=Tryz.sizeOf3
 v3:=Tryz.zeroValue3
 t4:=Tryz.underlying4
 a4:=Tryz.isAgg4
 z4:=Tryz.sizeOf4
 v4:=Tryz.zeroValue4
 t9:=Tryz.underlying9
 a9:=Tryz.isAgg9
 z9:=Tryz.sizeOf9
 v9:=Tryz.zeroValue9
 t20:=Tryz.underlying20
 a20:=Tryz.isAgg20
 z20:=Tryz.sizeOf20
 v20:=Tryz.zeroValue20
 t22:=Tryz.underlying24
 a22:=Tryz.isAgg24
 z22:=Tryz.sizeOf24
 v22:=Tryz.zeroValue24 }
end Go.Proofs
namespace Go.Ev.Ce
open Go Go.Ev Go.Proofs
noncomputable def Sd6:List b7:=[i 0,i 0,i 0,i 0]
noncomputable def Ra6:Sum:=λargs blks=>match args,blks with
 | [.v (.slice none 0 0), .v (.int .i64 n)], [] => .ite (n == 0) (.ret (.v (.slice none 0 0), []))
   (.guard (Bool.and (decide (0<n)) (Nat.ble (n.toNat*32) room)) (.ret (.sl 0 0 0 0,[⟨73,4,List.replicate n.toNat Sd6,true,false,0⟩])))
 |_,_=>.fail
theorem z73:zeT Tryz.prog 73=some Sd6:=by kernel_rfl
theorem s73:szT Tryz.prog 73=4:=by kernel_rfl
theorem y73:byT Tryz.prog 73=32:=by kernel_rfl
theorem t25:Ce.growP_ren.t 25=73:=by kernel_rfl
theorem f4:Ce.growP_ren.f 4=193:=by kernel_rfl
set_option maxRecDepth 100000 in
theorem kc8:g9 prog G 193 Ra6:=by
 intro args blks r out he W ρ F w args' hH hlen hargs hG;refine⟨⟨_,Tryz.func193,by kernel_rfl,of_decide_eq_true (by kernel_rfl)⟩,?_⟩
 unfold Ra6 at he
 split at he
 case h_2=>cases he
 rename_i n
 match args',hlen with
 |[v0,v1],_ =>
 have e0:=ka2 (hargs 0 _ _ rfl rfl);have e1:=ka2 (hargs 1 _ _ rfl rfl);subst e0 e1
 rcases DT.run_ite_some he with⟨h0,he⟩|⟨h0,he⟩
 ·have h0:n=0:=by simpa using h0
  subst h0;injection he with he;injection he with q1 q2;subst q1 q2
  have:=Any8.slices_Grow_room Ce.growP none 0 0 0 w (Qhf _) (by omega) (by omega) (by omega)
  rw[f4] at this;refine this.mono λe w' ⟨h1,h2⟩=>?_
  subst h1 h2;exact⟨_,rfl,ρ,F,.refl,hH,.ofv _⟩
 ·obtain⟨hg,he⟩:=DT.run_guard_some he;rw[Bool.and_eq_true,decide_eq_true_eq] at hg;obtain⟨hpos,hroom⟩:=hg;have hroom:=Nat.le_of_ble_eq_true hroom;unfold room at hroom;obtain⟨m,rfl⟩:=Int.eq_ofNat_of_zero_le (Int.le_of_lt hpos);have hm:0<m:=by omega
  have he:some (b7.sl 0 0 0 0,[(⟨73,4,List.replicate m Sd6,true,false,0⟩:b8)])=some (r,out):=he;injection he with he;injection he with q1 q2;subst q1 q2
  obtain⟨ti,zv,hi,hzz,hzr,hone⟩:=ib8 (E:=En []) z73;have hi:Tryz.prog.info? 73=some ti:=hi;have hts:ti.size=4:=by have:=s73;simp only[szT,hi] at this;exact this
  have hby:ti.bytes=32:=by have:=y73;simp only[byT,hi] at this;exact this
  have hzs:zv.cells.size=4:=by
   have:=congrArg List.length hzr
   simpa [Sd6] using this.symm
  have hroom':m*32<=140737488355328:=hroom
  have:=Any8.slices_Grow_grow Ce.growP ti zv (by rw[t25];exact hi) hzz (by omega) none 0 0 m [] w (Qhf _) (by omega) (by rw[hby];omega) (by omega) (by simp) (λ_=>rfl) (λa ha=>by cases ha)
  rw[f4,t25] at this;refine this.mono λe w' ⟨h1,h2⟩=>?_
  have hcap:=grownCap_ge w (0+m) 0 73;have hcap2:=grownCap_le_maxLen w (0+m) 0 73 (by unfold maxLen;omega)
  subst h1;generalize grownCap w (0+m) 0 73=G' at *
  have hsz:∀q,(Builtin.zeroCells zv.cells q).size=q*4:=λq=>by simp[Builtin.zeroCells,hzs]
  have hcc:(#[]++Builtin.zeroCells zv.cells (0+m-0)++Builtin.zeroCells zv.cells (G'-(0+m))).size=G'*4:=by
   rw[Array.size_append,Array.size_append,hsz,hsz];simp;omega
  have hobj:w'.heap[w.heap.size]?=some (.cells (#[]++Builtin.zeroCells zv.cells (0+m-0)++Builtin.zeroCells zv.cells (G'-(0+m))) 73 (0,0)):=by
   rw[h2];exact World.alloc_heap_new w.drew _
  have hold:∀k,k<w.heap.size->w'.heap[k]?=w.heap[k]?:=λk hk=>by
   rw[h2];simp only[World.alloc,Array.getElem?_push,World.drew];rw[if_neg (by omega)]
  have hws:w'.heap.size=w.heap.size+1:=by rw[h2];exact Array.size_push ..
  obtain⟨h6,h7⟩:=hH.newAt (w':=w') (by rw[h2];rfl) (by rw[h2];rfl) (by rw[h2];rfl) (by rw[h2];exact Nat.le_succ _) (by omega) hold w.heap.size (Qhf _) 73 4 (List.replicate m Sd6) _ 73 hobj
   (λj r hr=>by rw[Qhe] at hr;split at hr<;>cases hr;rfl) (by rw[List.length_replicate,hcc];omega)
   (λj r c x hr hx=>by
    have hjm:j<m:=by
     have:=(Qhc.1 hr).1
     simpa using this
    rw[Qhe,if_pos hjm] at hr;injection hr with hr;subst hr;have hc4:c<4:=(Qhc.1 hx).1;rw[hzr,List.getElem?_map] at hx;have hcz:c<zv.cells.size:=by omega
    have hq:zv.cells.toList[c]?=some zv.cells[c]:=by simp[hcz]
    rw[hq] at hx;injection hx with hx;subst hx;refine⟨zv.cells[c],?_,.v _ (hone _ (by simp))⟩
    have hlt:j*4+c<m*4:=by omega
    rw[Array.append_assoc,Array.empty_append,Array.getElem?_append_left (by rw[hsz];omega)]
    have hm4:(j*4+c) % 4=c:=by omega
    simp only[Builtin.zeroCells,hzs];rw[Array.getElem?_map,Array.getElem?_range];rw[if_pos (by omega)]
    simp[hm4,hcz])
   (λ_=>rfl)
  refine⟨_,rfl,_,F,h6,h7,.val (.cell ?_)⟩;refine .sl 0 0 0 0 _ _ { et:=73,es:=4,elems:=List.replicate m Sd6,own:=true,dead:=false,g:=0 } rfl rfl (Qhf _) (Nat.zero_le _) rfl hcap2 λ_=>⟨.inr ?_,?_,by simp⟩
  ·simp[ρnew]
  ·simp only[ρnew,List.length_nil,if_true];rw[hcc,Nat.zero_add]
end Go.Ev.Ce
namespace Go.Ev.Ce
open Go Go.Ev Go.Ev.L Go.Proofs
set_option maxRecDepth 100000
noncomputable def Ca6:List (Nat×Sum):=[(193,Ra6)]
theorem Rb6:i9 prog G Ca6:=⟨kc8,trivial⟩
structure V4 where
 (R4 H4:List (List Pln))
 na7:Int
structure s8 where
 (is3 p4:Int)
noncomputable def Ta6(p:V4)(s:s8):St:=⟨eL (tLs tP) p.R4::.unk::.unk::i s.is3::ra 5 (eL (tLs tP) p.H4::i p.na7::i s.p4::ra 24 []),[]⟩
noncomputable def R6{α:Type}(k:s8->α)(e:Nat->α)(z:α)(p:V4)(s:s8):α:=(sl (decide (s.p4<p.na7)) (sl (inB s.p4 (List.length p.H4)) (sl (decide ((W (s.is3+(↑(List.length (gL (tLs tP) p.H4 s.p4.toNat)):Int)))<0)) z (k ⟨W (s.is3+(↑(List.length (gL (tLs tP) p.H4 s.p4.toNat)):Int)),W (s.p4+1)⟩)) z) (e 1))
noncomputable def L6(p:V4)(s:s8):Stp s8:=R6 .next .exit .fail p s
noncomputable def za7:Lo V4 s8:=⟨En Ca6,0,bf9,[1,1,0,1,4,4],[0,3,9,10,11],.p,[⟨.s (.c 1 (nL (tLs tP)))::sUq::sUq::sIq::ru2 5 (.s (.c 1 (nL (tLs tP)))::sIq::sIq::ru2 24 []),[],λa H=>(⟨rL (tLs tP) (slT a 0),rL (tLs tP) (slT a 9),aIq a 10⟩,⟨aIq a 3,aIq a 11⟩)⟩],L6,[(some 0,λp s=>upq (Ta6 p s) [(12,b (decide (s.p4<p.na7)))])],Ta6⟩
theorem Nb3:za7.OkM:=Lo.okM [] (by kernel_rfl) .nil rfl (.cons (λa H=>by kernel_rfl) .nil) λp s=>(.of @R6 (λF _ _ _ _ _=>by unfold R6;(repeat' apply l6 (f:=F))<;>rfl) (by kernel_rfl))
structure w8 where
 Ia8:List (List Pln)
 Ed0:Int
structure n7 where
 ph:Nat
 Sa1:Int
 ns6:Nat
 eh0:List (List b7)
noncomputable def Qa5(p:w8)(s:n7):St:=⟨ra 6 (.v (.slice none 0 0)::ra 18 (eL (tLs tP) p.Ia8::i p.Ed0::i s.Sa1::ra 8 [])),[]⟩
noncomputable def Qa6(p:w8)(s:n7):St:=⟨ra 6 (.sl 0 0 s.ns6 0::ra 18 (eL (tLs tP) p.Ia8::i p.Ed0::i s.Sa1::ra 8 [])),[⟨73,4,s.eh0,true,false,0⟩]⟩
noncomputable def Nb4(p:w8)(s:n7):St:=(sel (Nat.beq s.ph 1) (Qa6 p s) (Qa5 p s))
noncomputable def D3{α:Type}(k:n7->α)(e:Nat->α)(z:α)(p:w8)(s:n7):α:=(sl (decide (s.Sa1<p.Ed0)) (sl (inB s.Sa1 (List.length p.Ia8)) (sl (Nat.beq (len (p5 (λk=>(tP).row (gL tP (gL (tLs tP) p.Ia8 s.Sa1.toNat) k)) (List.range (List.length (gL (tLs tP) p.Ia8 s.Sa1.toNat))))) 0) (k ⟨0,W (s.Sa1+1),0,[]⟩) z) z) (e 1))
noncomputable def D4{α:Type}(k:n7->α)(e:Nat->α)(z:α)(p:w8)(s:n7):α:=(sl (decide (s.Sa1<p.Ed0)) (sl (inB s.Sa1 (List.length p.Ia8)) (sl (Nat.ble (s.ns6+(len (p5 (λk=>(tP).row (gL tP (gL (tLs tP) p.Ia8 s.Sa1.toNat) k)) (List.range (List.length (gL (tLs tP) p.Ia8 s.Sa1.toNat)))))) (len s.eh0)) (k ⟨1,W (s.Sa1+1),(s.ns6+(len (p5 (λk=>(tP).row (gL tP (gL (tLs tP) p.Ia8 s.Sa1.toNat) k)) (List.range (List.length (gL (tLs tP) p.Ia8 s.Sa1.toNat)))))),(app (N8 s.eh0 s.ns6) (app (p5 (λk=>(tP).row (gL tP (gL (tLs tP) p.Ia8 s.Sa1.toNat) k)) (List.range (List.length (gL (tLs tP) p.Ia8 s.Sa1.toNat)))) (j7 s.eh0 (s.ns6+(len (p5 (λk=>(tP).row (gL tP (gL (tLs tP) p.Ia8 s.Sa1.toNat) k)) (List.range (List.length (gL (tLs tP) p.Ia8 s.Sa1.toNat)))))))))⟩) z) z) (e 2))
noncomputable def E7(p:w8)(s:n7):Stp n7:=(sel (Nat.beq s.ph 1) (D4 .next .exit .fail p s) (D3 .next .exit .fail p s))
noncomputable def za8:Lo w8 n7:=⟨En Ca6,0,bf9,[1,1,1,1,0,1,4,4],[6,25,26,27],.p,[⟨ru2 6 (.s (.o .nil)::ru2 18 (.s (.c 1 (nL (tLs tP)))::sIq::sIq::ru2 8 [])),[],λa H=>(⟨rL (tLs tP) (slT a 25),aIq a 26⟩,⟨0,aIq a 27,0,[]⟩)⟩,⟨ru2 6 (.s (.o (.sl 0 0 (some 0) none))::ru2 18 (.s (.c 1 (nL (tLs tP)))::sIq::sIq::ru2 8 [])),[⟨73,4,true,none⟩],λa H=>(⟨rL (tLs tP) (slT a 25),aIq a 26⟩,⟨1,aIq a 27,slN (slT a 6),elT H 0⟩)⟩],E7,[(some 2,λp s=>upq (Qa5 p s) [(28,b (decide (s.Sa1<p.Ed0)))]),(some 2,λp s=>upq (Qa6 p s) [(28,b (decide (s.Sa1<p.Ed0)))])],Nb4⟩
theorem Nb5:za8.OkM:=Lo.okM [] (by kernel_rfl) .nil rfl (.cons (λa H=>by kernel_rfl) (.cons (λa H=>by kernel_rfl) .nil)) λp s=>(.sel (Nat.beq s.ph 1) (.of @D4 (λF _ _ _ _ _=>by unfold D4;(repeat' apply l6 (f:=F))<;>rfl) (by kernel_rfl)) (.of @D3 (λF _ _ _ _ _=>by unfold D3;(repeat' apply l6 (f:=F))<;>rfl) (by kernel_rfl)))
structure ra7 where
 (alt ns0:Nat)
 eh0:List (List b7)
noncomputable def M3{α:Type}(kk:ra7->α)(x:List (List Pln)):α:=let t1:=(lp (L6 (⟨rt (tLs tP) x,rt (tLs tP) x,(↑(List.length x):Int)⟩:V4)) (⟨0,0⟩:s8));let t2:=(lp (E7 (⟨rt (tLs tP) (rt (tLs tP) x),(↑(List.length (rt (tLs tP) x)):Int)⟩:w8)) (⟨0,0,0,[]⟩:n7));let t3:=(lp (E7 (⟨rt (tLs tP) (rt (tLs tP) x),(↑(List.length (rt (tLs tP) x)):Int)⟩:w8)) (⟨1,0,0,List.replicate t1.2.is3.toNat Sd6⟩:n7));(sl ((cnE (tLs tP) x)&&((cnE (tLs tP) x)&&true)) (sl (Nat.beq t1.1 1) (sl (t1.2.is3==0) (sl ((cnE (tLs tP) (rt (tLs tP) x))&&true) (sl (Nat.beq t2.1 1) (kk ⟨1,0,[]⟩) (sl (Nat.beq t2.1 2) (kk ⟨2,t2.2.ns6,t2.2.eh0⟩) (kk ⟨0,0,[]⟩))) (kk ⟨0,0,[]⟩)) (sl (Bool.and (decide (0<t1.2.is3)) (Nat.ble (t1.2.is3.toNat*32) room)) (sl ((cnE (tLs tP) (rt (tLs tP) x))&&true) (sl (Nat.beq t3.1 1) (kk ⟨1,0,[]⟩) (sl (Nat.beq t3.1 2) (kk ⟨2,t3.2.ns6,t3.2.eh0⟩) (kk ⟨0,0,[]⟩))) (kk ⟨0,0,[]⟩)) (kk ⟨0,0,[]⟩))) (kk ⟨0,0,[]⟩)) (kk ⟨0,0,[]⟩))
noncomputable def u7(x:List (List Pln)):ra7:=M3 (λr=>r) x
noncomputable def Ca7(r:ra7):DT (b7×List b8):=(.ite (Nat.beq r.alt 1) (.ret (.v (.slice none 0 0),[])) (.ite (Nat.beq r.alt 2) (.ret (.sl 0 0 r.ns0 0,[⟨73,4,r.eh0,true,false,0⟩])) .fail))
theorem ec0{α β:Type}(F:α->β)(kk:ra7->α)(x:List (List Pln)):F (M3 kk x)=M3 (λr=>F (kk r)) x:=by unfold M3;(repeat' apply l6 (f:=F))<;>rfl
noncomputable def Ha3:Sum:=X6 (O3 (tLs tP)) (λx=>Ca7 (u7 x))
theorem db0:g9 prog G 166 Ha3:=Ib6 (bd lg2 Rb6) λx=>cf2 (.s .p (.s .p (.s (.s .p (.b (.u za7.lsM))) (.s .p (.s (.s .p (.b (.u za8.lsM))) .p))))) [za7.prM,za8.prM] (by kernel_rfl) (.cons Nb3 (.cons Nb5 .nil)) (Qha (b:=M3 (λr=>(Ca7 r).run) x) (by kernel_rfl) (ec0 (λr=>(Ca7 r).run) (λr=>r) x).symm)
noncomputable def we2:List (Nat×Sum):=[(166,Ha3)]
theorem he3:i9 prog G we2:=⟨db0,trivial⟩
noncomputable def Rb7(x:List (List Pln)):Option (b7×List b8):=let t1:=(u7 (rt (tLs tP) x));(sl (okE (tLs tP) x) (sl (Nat.beq t1.alt 1) (some (.sl 0 0 6 0,[⟨73,4,[[i 1,i 0,i 0,i 24],[i (-1),i 0,i 0,i 24],[i 0,i 1,i 0,i 24],[i 0,i (-1),i 0,i 24],[i 0,i 0,i 1,i 24],[i 0,i 0,i (-1),i 24]],true,false,0⟩])) (sl (Nat.beq t1.alt 2) (sl (Nat.beq t1.ns0 (len t1.eh0)&&Nat.ble ((t1.ns0+1)*32) room) (sl (Nat.beq (t1.ns0+1) (len (app t1.eh0 [[i 1,i 0,i 0,i 24]]))&&Nat.ble (((t1.ns0+1)+1)*32) room) (sl (Nat.beq ((t1.ns0+1)+1) (len (app (app t1.eh0 [[i 1,i 0,i 0,i 24]]) [[i (-1),i 0,i 0,i 24]]))&&Nat.ble ((((t1.ns0+1)+1)+1)*32) room) (sl (Nat.beq (((t1.ns0+1)+1)+1) (len (app (app (app t1.eh0 [[i 1,i 0,i 0,i 24]]) [[i (-1),i 0,i 0,i 24]]) [[i 0,i 1,i 0,i 24]]))&&Nat.ble (((((t1.ns0+1)+1)+1)+1)*32) room) (sl (Nat.beq ((((t1.ns0+1)+1)+1)+1) (len (app (app (app (app t1.eh0 [[i 1,i 0,i 0,i 24]]) [[i (-1),i 0,i 0,i 24]]) [[i 0,i 1,i 0,i 24]]) [[i 0,i (-1),i 0,i 24]]))&&Nat.ble ((((((t1.ns0+1)+1)+1)+1)+1)*32) room) (sl (Nat.beq (((((t1.ns0+1)+1)+1)+1)+1) (len (app (app (app (app (app t1.eh0 [[i 1,i 0,i 0,i 24]]) [[i (-1),i 0,i 0,i 24]]) [[i 0,i 1,i 0,i 24]]) [[i 0,i (-1),i 0,i 24]]) [[i 0,i 0,i 1,i 24]]))&&Nat.ble (((((((t1.ns0+1)+1)+1)+1)+1)+1)*32) room) (some (.sl 0 0 ((((((t1.ns0+1)+1)+1)+1)+1)+1) 0,[⟨73,4,app (app (app (app (app (app t1.eh0 [[i 1,i 0,i 0,i 24]]) [[i (-1),i 0,i 0,i 24]]) [[i 0,i 1,i 0,i 24]]) [[i 0,i (-1),i 0,i 24]]) [[i 0,i 0,i 1,i 24]]) [[i 0,i 0,i (-1),i 24]],true,false,0⟩])) none) none) none) none) none) none) none)) none)
noncomputable def jb9(x:List (List Pln)):List Pln:=J8 (one (r1L tP)) (Rb7 x)
noncomputable def kb0(x:List (List Pln)):Bool:=okO (one (r1L tP)) (Rb7 x)
noncomputable def rc2:Sum:=X6 (O3 (tLs tP)) (λx=>.guard (kb0 x) (.ret ((one (r1L tP)).enc (jb9 x),[])))
theorem zc5:g9 prog G 110 rc2:=Ia9 (bd ig1 he3) (one (r1L tP)) (o:=Rb7) λx=>v7 (by kernel_rfl)
structure ca3 where
 R4:List (List Pln)
noncomputable def La2:List (Nat×Sum):=[(165,kc7)]
theorem wb4:i9 prog G La2:=⟨Zc5,trivial⟩
structure M8 where
 R4:List (List Pln)
 is7:Int
structure p9 where
 is8:Int
noncomputable def Ea7(p:M8)(s:p9):St:=⟨eL (tLs tP) p.R4::.fn 165 []::ra 5 (i p.is7::i s.is8::ra 10 []),[]⟩
noncomputable def H8{α:Type}(k:p9->α)(e:Nat->α)(z:α)(p:M8)(s:p9):α:=let t1:=(cb8 (rt tP (gL (tLs tP) p.R4 s.is8.toNat)));(sl (decide (s.is8<p.is7)) (sl (inB s.is8 (List.length p.R4)) (sl (okE tP (gL (tLs tP) p.R4 s.is8.toNat)) (sl (cb9 (rt tP (gL (tLs tP) p.R4 s.is8.toNat))) (sl t1 (e 1) (k ⟨W (s.is8+1)⟩)) z) z) z) (e 2))
noncomputable def K1(p:M8)(s:p9):Stp p9:=H8 .next .exit .fail p s
noncomputable def la7:Lo M8 p9:=⟨En La2,0,bf8,[1,0,1,4,4],[0,1,7,8],.p,[⟨.s (.c 1 (nL (tLs tP)))::.s (.o (.fn 165))::ru2 5 (sIq::sIq::ru2 10 []),[],λa H=>(⟨rL (tLs tP) (slT a 0),aIq a 7⟩,⟨aIq a 8⟩)⟩],K1,[(none,λp s=>⟨[i s.is8],[]⟩),(some 0,λp s=>upq (Ea7 p s) [(9,b (decide (s.is8<p.is7)))])],Ea7⟩
theorem tb0:la7.Ok:=Lo.ok [] (by kernel_rfl) .nil rfl (.cons (λa H=>by kernel_rfl) .nil) λp s=>(.of @H8 (λF _ _ _ _ _=>by unfold H8;(repeat' apply l6 (f:=F))<;>rfl) (by kernel_rfl))
structure ca4 where
 alt:Nat
 is0:Int
noncomputable def I7{α:Type}(kk:ca4->α)(x:ca3):α:=let t1:=(lp (K1 (⟨rt (tLs tP) x.R4,(↑(List.length x.R4):Int)⟩:M8)) (⟨0⟩:p9));(sl ((cnE (tLs tP) x.R4)&&true) (sl (Nat.beq t1.1 1) (kk ⟨1,t1.2.is8⟩) (sl (Nat.beq t1.1 2) (kk ⟨1,-1⟩) (kk ⟨0,0⟩))) (kk ⟨0,0⟩))
noncomputable def sa2(x:ca3):ca4:=I7 (λr=>r) x
noncomputable def pa2(x:ca3)(r:ca4):DT (b7×List b8):=(.ite (Nat.beq r.alt 1) (.ret (i r.is0,[])) .fail)
theorem Gb8{α β:Type}(F:α->β)(kk:ca4->α)(x:ca3):F (I7 kk x)=I7 (λr=>F (kk r)) x:=by unfold I7;(repeat' apply l6 (f:=F))<;>rfl
noncomputable def Qa7:Sum:=bb1 ⟨[.s (.c 1 (nL (tLs tP))),.s (.o (.fn 165))],[],λa H=>(⟨rL (tLs tP) (slT a 0)⟩,())⟩ (λx=>pa2 x (sa2 x))
theorem Cb7:g9 prog G 161 Qa7:=N9 (enc:=λx=>⟨[eL (tLs tP) x.R4,.fn 165 []],[]⟩) (λa H=>by kernel_rfl) (bd ag1 wb4) λx=>ta7 (.s .p (.s (.s .p (.b (.u la7.ls))) .p)) [la7.pr] (by kernel_rfl) (.cons tb0 .nil) (Qha (b:=I7 (λr=>(pa2 x r).run) x) (by kernel_rfl) (Gb8 (λr=>(pa2 x r).run) (λr=>r) x).symm)
structure U0 where
 R4:List (List Pln)
noncomputable def pb5:List (Nat×Sum):=[(161,Qa7)]
theorem kb1:i9 prog G pb5:=⟨Cb7,trivial⟩
structure U1 where
 alt:Nat
 bs0:Bool
noncomputable def D8{α:Type}(kk:U1->α)(x:U0):α:=let t1:=(sa2 ⟨rt (tLs tP) x.R4⟩);(sl ((cnE (tLs tP) x.R4)&&true) (sl (Nat.beq t1.alt 1) (kk ⟨1,decide (t1.is0>=0)⟩) (kk ⟨0,false⟩)) (kk ⟨0,false⟩))
noncomputable def ja3(x:U0):U1:=D8 (λr=>r) x
noncomputable def ha0(x:U0)(r:U1):DT (b7×List b8):=(.ite (Nat.beq r.alt 1) (.ret (b r.bs0,[])) .fail)
theorem tb1{α β:Type}(F:α->β)(kk:U1->α)(x:U0):F (D8 kk x)=D8 (λr=>F (kk r)) x:=by unfold D8;(repeat' apply l6 (f:=F))<;>rfl
noncomputable def Ea8:Sum:=bb1 ⟨[.s (.c 1 (nL (tLs tP))),.s (.o (.fn 165))],[],λa H=>(⟨rL (tLs tP) (slT a 0)⟩,())⟩ (λx=>ha0 x (ja3 x))
theorem pb6:g9 prog G 103 Ea8:=N9 (enc:=λx=>⟨[eL (tLs tP) x.R4,.fn 165 []],[]⟩) (λa H=>by kernel_rfl) (bd Zf8 kb1) λx=>v7 (Qha (b:=D8 (λr=>(ha0 x r).run) x) (by kernel_rfl) (tb1 (λr=>(ha0 x r).run) (λr=>r) x).symm)
noncomputable def zd9:List (Nat×Sum):=[(103,Ea8)]
theorem md6:i9 prog G zd9:=⟨pb6,trivial⟩
noncomputable def db1(x:List (List Pln)):Option (b7×List b8):=let t1:=(ja3 ⟨rt (tLs tP) x⟩);(sl ((cnE (tLs tP) x)&&true) (sl (Nat.beq t1.alt 1) (some (b (!t1.bs0),[])) none) none)
noncomputable def ua7(x:List (List Pln)):Bool:=J8 (one r1B) (db1 x)
noncomputable def ua8(x:List (List Pln)):Bool:=okO (one r1B) (db1 x)
noncomputable def db2:Sum:=X6 (O3 (tLs tP)) (λx=>.guard (ua8 x) (.ret ((one r1B).enc (ua7 x),[])))
theorem mb5:g9 prog G 109 db2:=Ia9 (bd ig0 md6) (one r1B) (o:=db1) λx=>v7 (by kernel_rfl)
structure la8 where
 (ka8 ka9 la0 Lb1 f0 b9 f7 j6:Int)
noncomputable def Rb8:List (Nat×Sum):=[(153,Jb7)]
theorem Nb6:i9 prog G Rb8:=⟨Wb8,trivial⟩
structure Z4 where
 bs0:Bool
noncomputable def Z5{α:Type}(kk:Z4->α)(x:la8):α:=let t1:=(Ba7 (⟨(⟨x.f0,x.b9,x.f7⟩:V3),x.j6⟩:Pln) (⟨x.ka8,x.ka9,x.la0,x.Lb1⟩:Pt));(kk ⟨decide (t1>0)⟩)
noncomputable def Ca8(x:la8):Z4:=Z5 (λr=>r) x
noncomputable def za9(x:la8)(r:Z4):DT (b7×List b8):=.ret (b r.bs0,[⟨0,4,[[i x.f0,i x.b9,i x.f7,i x.j6]],true,false,0⟩])
theorem Xb4{α β:Type}(F:α->β)(kk:Z4->α)(x:la8):F (Z5 kk x)=Z5 (λr=>F (kk r)) x:=by unfold Z5;(repeat' apply l6 (f:=F))<;>rfl
noncomputable def db3:Sum:=bb1 ⟨[.agg (kLq 4),sPq 0],[⟨0,4,true,some [kLq 4]⟩],λa H=>(⟨cIq a 0 0,cIq a 0 1,cIq a 0 2,cIq a 0 3,hIq H 0 0 0,hIq H 0 0 1,hIq H 0 0 2,hIq H 0 0 3⟩,())⟩ (λx=>za9 x (Ca8 x))
theorem Rb9:g9 prog G 170 db3:=N9 (enc:=λx=>⟨[.agg [i x.ka8,i x.ka9,i x.la0,i x.Lb1],.ptr 0 0 0 0],[⟨0,4,[[i x.f0,i x.b9,i x.f7,i x.j6]],true,false,0⟩]⟩) (λa H=>by kernel_rfl) (bd lg6 Nb6) λx=>v7 (Qha (b:=Z5 (λr=>(za9 x r).run) x) (by kernel_rfl) (Xb4 (λr=>(za9 x r).run) (λr=>r) x).symm)
structure fa7 where
 wa1:List Pt
 (f0 b9 f7 j6:Int)
noncomputable def Qa8:List (Nat×Sum):=[(170,db3)]
theorem Cb8:i9 prog G Qa8:=⟨Rb9,trivial⟩
structure O4 where
 wa1:List Pt
 (is7 f0 b9 f7 j6:Int)
structure r5 where
 is8:Int
noncomputable def Ia5(p:O4)(s:r5):St:=⟨eL tX p.wa1::.fn 170 [.ptr 0 0 0 0]::ra 5 (i p.is7::i s.is8::ra 10 []),[⟨0,4,[[i p.f0,i p.b9,i p.f7,i p.j6]],true,false,0⟩]⟩
noncomputable def K2{α:Type}(k:r5->α)(e:Nat->α)(z:α)(p:O4)(s:r5):α:=let t1:=(Ca8 ⟨(gL tX p.wa1 s.is8.toNat).px,(gL tX p.wa1 s.is8.toNat).py,(gL tX p.wa1 s.is8.toNat).pz,(gL tX p.wa1 s.is8.toNat).pw,p.f0,p.b9,p.f7,p.j6⟩);(sl (decide (s.is8<p.is7)) (sl (inB s.is8 (List.length p.wa1)) (sl t1.bs0 (e 1) (k ⟨W (s.is8+1)⟩)) z) (e 2))
noncomputable def M9(p:O4)(s:r5):Stp r5:=K2 .next .exit .fail p s
noncomputable def pa3:Lo O4 r5:=⟨En Qa8,1,Ff8,[1,0,1,4,4],[0,1,7,8],.p,[⟨sLq tX::.fn 170 [.o (.ptr 0 0 0 0)]::ru2 5 (sIq::sIq::ru2 10 []),[⟨0,4,true,some [kLq 4]⟩],λa H=>(⟨aLq tX a 0,aIq a 7,hIq H 0 0 0,hIq H 0 0 1,hIq H 0 0 2,hIq H 0 0 3⟩,⟨aIq a 8⟩)⟩],M9,[(none,λp s=>⟨[i s.is8],[⟨0,4,[[i p.f0,i p.b9,i p.f7,i p.j6]],true,false,0⟩]⟩),(some 0,λp s=>upq (Ia5 p s) [(9,b (decide (s.is8<p.is7)))])],Ia5⟩
theorem wb5:pa3.Ok:=Lo.ok [] (by kernel_rfl) .nil rfl (.cons (λa H=>by kernel_rfl) .nil) λp s=>(.of @K2 (λF _ _ _ _ _=>by unfold K2;(repeat' apply l6 (f:=F))<;>rfl) (by kernel_rfl))
structure fa8 where
 alt:Nat
 is0:Int
noncomputable def L7{α:Type}(kk:fa8->α)(x:fa7):α:=let t1:=(lp (M9 (⟨rt tX x.wa1,(↑(List.length x.wa1):Int),x.f0,x.b9,x.f7,x.j6⟩:O4)) (⟨0⟩:r5));(sl ((cnE tX x.wa1)&&true) (sl (Nat.beq t1.1 1) (kk ⟨1,t1.2.is8⟩) (sl (Nat.beq t1.1 2) (kk ⟨1,-1⟩) (kk ⟨0,0⟩))) (kk ⟨0,0⟩))
noncomputable def wa7(x:fa7):fa8:=L7 (λr=>r) x
noncomputable def sa3(x:fa7)(r:fa8):DT (b7×List b8):=(.ite (Nat.beq r.alt 1) (.ret (i r.is0,[⟨0,4,[[i x.f0,i x.b9,i x.f7,i x.j6]],true,false,0⟩])) .fail)
theorem Nb7{α β:Type}(F:α->β)(kk:fa8->α)(x:fa7):F (L7 kk x)=L7 (λr=>F (kk r)) x:=by unfold L7;(repeat' apply l6 (f:=F))<;>rfl
noncomputable def Ta7:Sum:=bb1 ⟨[sLq tX,.fn 170 [.o (.ptr 0 0 0 0)]],[⟨0,4,true,some [kLq 4]⟩],λa H=>(⟨aLq tX a 0,hIq H 0 0 0,hIq H 0 0 1,hIq H 0 0 2,hIq H 0 0 3⟩,())⟩ (λx=>sa3 x (wa7 x))
theorem Gb9:g9 prog G 171 Ta7:=N9 (enc:=λx=>⟨[eL tX x.wa1,.fn 170 [.ptr 0 0 0 0]],[⟨0,4,[[i x.f0,i x.b9,i x.f7,i x.j6]],true,false,0⟩]⟩) (λa H=>by kernel_rfl) (bd lg7 Cb8) λx=>ta7 (.s .p (.s (.s .p (.b (.u pa3.ls))) .p)) [pa3.pr] (by kernel_rfl) (.cons wb5 .nil) (Qha (b:=L7 (λr=>(sa3 x r).run) x) (by kernel_rfl) (Nb7 (λr=>(sa3 x r).run) (λr=>r) x).symm)
structure W9 where
 wa1:List Pt
 (f0 b9 f7 j6:Int)
noncomputable def tb2:List (Nat×Sum):=[(171,Ta7)]
theorem pb7:i9 prog G tb2:=⟨Gb9,trivial⟩
structure X0 where
 alt:Nat
 bs0:Bool
noncomputable def F4{α:Type}(kk:X0->α)(x:W9):α:=let t1:=(wa7 ⟨rt tX x.wa1,x.f0,x.b9,x.f7,x.j6⟩);(sl ((cnE tX x.wa1)&&true) (sl (Nat.beq t1.alt 1) (kk ⟨1,decide (t1.is0>=0)⟩) (kk ⟨0,false⟩)) (kk ⟨0,false⟩))
noncomputable def la9(x:W9):X0:=F4 (λr=>r) x
noncomputable def ja4(x:W9)(r:X0):DT (b7×List b8):=(.ite (Nat.beq r.alt 1) (.ret (b r.bs0,[⟨0,4,[[i x.f0,i x.b9,i x.f7,i x.j6]],true,false,0⟩])) .fail)
theorem wb6{α β:Type}(F:α->β)(kk:X0->α)(x:W9):F (F4 kk x)=F4 (λr=>F (kk r)) x:=by unfold F4;(repeat' apply l6 (f:=F))<;>rfl
noncomputable def Ia6:Sum:=bb1 ⟨[sLq tX,.fn 170 [.o (.ptr 0 0 0 0)]],[⟨0,4,true,some [kLq 4]⟩],λa H=>(⟨aLq tX a 0,hIq H 0 0 0,hIq H 0 0 1,hIq H 0 0 2,hIq H 0 0 3⟩,())⟩ (λx=>ja4 x (la9 x))
theorem tb3:g9 prog G 112 Ia6:=N9 (enc:=λx=>⟨[eL tX x.wa1,.fn 170 [.ptr 0 0 0 0]],[⟨0,4,[[i x.f0,i x.b9,i x.f7,i x.j6]],true,false,0⟩]⟩) (λa H=>by kernel_rfl) (bd ig3 pb7) λx=>v7 (Qha (b:=F4 (λr=>(ja4 x r).run) x) (by kernel_rfl) (wb6 (λr=>(ja4 x r).run) (λr=>r) x).symm)
structure ua9 where
 (ka8 ka9 la0 Lb1:Int)
 i6:List Pt
noncomputable def ec1:List (Nat×Sum):=[(112,Ia6)]
theorem Xb5:i9 prog G ec1:=⟨tb3,trivial⟩
structure ha3 where
 alt:Nat
 bs0:Bool
noncomputable def V5{α:Type}(kk:ha3->α)(x:ua9):α:=let t1:=(la9 ⟨rt tX x.i6,x.ka8,x.ka9,x.la0,x.Lb1⟩);(sl ((cnE tX x.i6)&&true) (sl (Nat.beq t1.alt 1) (kk ⟨1,!t1.bs0⟩) (kk ⟨0,false⟩)) (kk ⟨0,false⟩))
noncomputable def va0(x:ua9):ha3:=V5 (λr=>r) x
noncomputable def Ha4(x:ua9)(r:ha3):DT (b7×List b8):=(.ite (Nat.beq r.alt 1) (.ret (b r.bs0,[⟨0,1,[[eL tX x.i6]],true,false,0⟩])) .fail)
theorem kc9{α β:Type}(F:α->β)(kk:ha3->α)(x:ua9):F (V5 kk x)=V5 (λr=>F (kk r)) x:=by unfold V5;(repeat' apply l6 (f:=F))<;>rfl
noncomputable def pb8:Sum:=bb1 ⟨[.agg (kLq 4),sPq 0],[⟨0,1,true,some [[.c 4 (nL tX)]]⟩],λa H=>(⟨cIq a 0 0,cIq a 0 1,cIq a 0 2,cIq a 0 3,hLq tX H 0 0 0⟩,())⟩ (λx=>Ha4 x (va0 x))
theorem ec2:g9 prog G 169 pb8:=N9 (enc:=λx=>⟨[.agg [i x.ka8,i x.ka9,i x.la0,i x.Lb1],.ptr 0 0 0 0],[⟨0,1,[[eL tX x.i6]],true,false,0⟩]⟩) (λa H=>by kernel_rfl) (bd lg5 Xb5) λx=>v7 (Qha (b:=V5 (λr=>(Ha4 x r).run) x) (by kernel_rfl) (kc9 (λr=>(Ha4 x r).run) (λr=>r) x).symm)
structure ca5 where
 c9:List Pln
 i6:List Pt
noncomputable def La3:List (Nat×Sum):=[(169,pb8)]
theorem wb7:i9 prog G La3:=⟨ec2,trivial⟩
structure N0 where
 c9:List Pln
 is7:Int
structure q7 where
 is8:Int
 i6:List Pt
noncomputable def Ea9(p:N0)(s:q7):St:=⟨eL tP p.c9::.fn 169 [.ptr 0 0 0 0]::ra 5 (i p.is7::i s.is8::ra 10 []),[⟨0,1,[[eL tX s.i6]],true,false,0⟩]⟩
noncomputable def H9{α:Type}(k:q7->α)(e:Nat->α)(z:α)(p:N0)(s:q7):α:=let t1:=(va0 ⟨(gL tP p.c9 s.is8.toNat).n.x,(gL tP p.c9 s.is8.toNat).n.y,(gL tP p.c9 s.is8.toNat).n.z,(gL tP p.c9 s.is8.toNat).b,rt tX s.i6⟩);(sl (decide (s.is8<p.is7)) (sl (inB s.is8 (List.length p.c9)) (sl ((cnE tX s.i6)&&true) (sl (Nat.beq t1.alt 1) (sl t1.bs0 (e 1) (k ⟨W (s.is8+1),rt tX s.i6⟩)) z) z) z) (e 2))
noncomputable def K3(p:N0)(s:q7):Stp q7:=H9 .next .exit .fail p s
noncomputable def ma0:Lo N0 q7:=⟨En La3,1,Gf4,[1,0,1,4,4],[0,1,7,8],.p,[⟨sLq tP::.fn 169 [.o (.ptr 0 0 0 0)]::ru2 5 (sIq::sIq::ru2 10 []),[⟨0,1,true,some [[.c 4 (nL tX)]]⟩],λa H=>(⟨aLq tP a 0,aIq a 7⟩,⟨aIq a 8,hLq tX H 0 0 0⟩)⟩],K3,[(none,λp s=>⟨[i s.is8],[⟨0,1,[[eL tX (rt tX s.i6)]],true,false,0⟩]⟩),(some 0,λp s=>upq (Ea9 p s) [(9,b (decide (s.is8<p.is7)))])],Ea9⟩
theorem tb4:ma0.Ok:=Lo.ok [] (by kernel_rfl) .nil rfl (.cons (λa H=>by kernel_rfl) .nil) λp s=>(.of @H9 (λF _ _ _ _ _=>by unfold H9;(repeat' apply l6 (f:=F))<;>rfl) (by kernel_rfl))
structure ca6 where
 alt:Nat
 is0:Int
 i6:List Pt
noncomputable def I8{α:Type}(kk:ca6->α)(x:ca5):α:=let t1:=(lp (K3 (⟨rt tP x.c9,(↑(List.length x.c9):Int)⟩:N0)) (⟨0,rt tX x.i6⟩:q7));(sl ((cnE tP x.c9)&&((cnE tX x.i6)&&true)) (sl (Nat.beq t1.1 1) (kk ⟨1,t1.2.is8,rt tX t1.2.i6⟩) (sl (Nat.beq t1.1 2) (kk ⟨1,-1,t1.2.i6⟩) (kk ⟨0,0,[]⟩))) (kk ⟨0,0,[]⟩))
noncomputable def sa4(x:ca5):ca6:=I8 (λr=>r) x
noncomputable def pa4(x:ca5)(r:ca6):DT (b7×List b8):=(.ite (Nat.beq r.alt 1) (.ret (i r.is0,[⟨0,1,[[eL tX r.i6]],true,false,0⟩])) .fail)
theorem Hb0{α β:Type}(F:α->β)(kk:ca6->α)(x:ca5):F (I8 kk x)=I8 (λr=>F (kk r)) x:=by unfold I8;(repeat' apply l6 (f:=F))<;>rfl
noncomputable def Qa9:Sum:=bb1 ⟨[sLq tP,.fn 169 [.o (.ptr 0 0 0 0)]],[⟨0,1,true,some [[.c 4 (nL tX)]]⟩],λa H=>(⟨aLq tP a 0,hLq tX H 0 0 0⟩,())⟩ (λx=>pa4 x (sa4 x))
theorem Cb9:g9 prog G 196 Qa9:=N9 (enc:=λx=>⟨[eL tP x.c9,.fn 169 [.ptr 0 0 0 0]],[⟨0,1,[[eL tX x.i6]],true,false,0⟩]⟩) (λa H=>by kernel_rfl) (bd mg9 wb7) λx=>ta7 (.s .p (.s (.s .p (.b (.u ma0.ls))) .p)) [ma0.pr] (by kernel_rfl) (.cons tb4 .nil) (Qha (b:=I8 (λr=>(pa4 x r).run) x) (by kernel_rfl) (Hb0 (λr=>(pa4 x r).run) (λr=>r) x).symm)
structure U2 where
 c9:List Pln
 i6:List Pt
noncomputable def pb9:List (Nat×Sum):=[(196,Qa9)]
theorem kb2:i9 prog G pb9:=⟨Cb9,trivial⟩
structure U3 where
 alt:Nat
 bs0:Bool
 i6:List Pt
noncomputable def D9{α:Type}(kk:U3->α)(x:U2):α:=let t1:=(sa4 ⟨rt tP x.c9,rt tX x.i6⟩);(sl ((cnE tP x.c9)&&((cnE tX x.i6)&&true)) (sl (Nat.beq t1.alt 1) (kk ⟨1,decide (t1.is0>=0),t1.i6⟩) (kk ⟨0,false,[]⟩)) (kk ⟨0,false,[]⟩))
noncomputable def ja5(x:U2):U3:=D9 (λr=>r) x
noncomputable def ha4(x:U2)(r:U3):DT (b7×List b8):=(.ite (Nat.beq r.alt 1) (.ret (b r.bs0,[⟨0,1,[[eL tX r.i6]],true,false,0⟩])) .fail)
theorem tb5{α β:Type}(F:α->β)(kk:U3->α)(x:U2):F (D9 kk x)=D9 (λr=>F (kk r)) x:=by unfold D9;(repeat' apply l6 (f:=F))<;>rfl
noncomputable def Fa0:Sum:=bb1 ⟨[sLq tP,.fn 169 [.o (.ptr 0 0 0 0)]],[⟨0,1,true,some [[.c 4 (nL tX)]]⟩],λa H=>(⟨aLq tP a 0,hLq tX H 0 0 0⟩,())⟩ (λx=>ha4 x (ja5 x))
theorem qb0:g9 prog G 168 Fa0:=N9 (enc:=λx=>⟨[eL tP x.c9,.fn 169 [.ptr 0 0 0 0]],[⟨0,1,[[eL tX x.i6]],true,false,0⟩]⟩) (λa H=>by kernel_rfl) (bd lg4 kb2) λx=>v7 (Qha (b:=D9 (λr=>(ha4 x r).run) x) (by kernel_rfl) (tb5 (λr=>(ha4 x r).run) (λr=>r) x).symm)
noncomputable def sc4:List (Nat×Sum):=[(167,Ha2),(168,Fa0)]
theorem lc0:i9 prog G sc4:=⟨cb2,qb0,trivial⟩
noncomputable def pa5(x:List Pln):Option (b7×List b8):=let t1:=(da7 (rt tP x));let t2:=(ja5 ⟨rt tP x,rt tX t1⟩);(sl (okE tP x) (sl (da8 (rt tP x)) (sl ((cnE tP x)&&((cnE tX t1)&&true)) (sl (Nat.beq t2.alt 1) (some (b (!t2.bs0),[])) none) none) none) none)
noncomputable def pa6(x:List Pln):Bool:=J8 (one r1B) (pa5 x)
noncomputable def pa7(x:List Pln):Bool:=okO (one r1B) (pa5 x)
noncomputable def Xa9:Sum:=X6 (O3 tP) (λx=>.guard (pa7 x) (.ret ((one r1B).enc (pa6 x),[])))
theorem vb0:g9 prog G 111 Xa9:=Ia9 (bd ig2 lc0) (one r1B) (o:=pa5) λx=>v7 (by kernel_rfl)
noncomputable def md7:List (Nat×Sum):=[(109,db2),(110,rc2),(167,Ha2)]
theorem Zc6:i9 prog G md7:=⟨mb5,zc5,cb2,trivial⟩
noncomputable def Ta8(x:List Pln):Option (b7×List b8):=let t1:=(ua7 [rt tP x]);let t2:=(jb9 [rt tP x]);let t3:=(da7 (rt tP t2));(sl ((okE tP x)&&true) (sl (ua8 [rt tP x]) (sl (!t1) (some (.v (.slice none 0 0),[])) (sl ((okE tP x)&&true) (sl (kb0 [rt tP x]) (sl (okE tP t2) (sl (da8 (rt tP t2)) (some (eL tX t3,[])) none) none) none) none)) none) none)
noncomputable def Ga4(x:List Pln):List Pt:=J8 (one (r1L tX)) (Ta8 x)
noncomputable def Ga5(x:List Pln):Bool:=okO (one (r1L tX)) (Ta8 x)
noncomputable def mb6:Sum:=X6 (O3 tP) (λx=>.guard (Ga5 x) (.ret ((one (r1L tX)).enc (Ga4 x),[])))
theorem Db0:g9 prog G 113 mb6:=Ia9 (bd ig4 Zc6) (one (r1L tX)) (o:=Ta8) λx=>v7 (by kernel_rfl)
noncomputable def Sd7:List (Nat×Sum):=[(109,db2),(110,rc2),(111,Xa9)]
theorem Ad0:i9 prog G Sd7:=⟨mb5,zc5,vb0,trivial⟩
noncomputable def qb1(x:List Pln):Option (b7×List b8):=let t1:=(ua7 [rt tP x]);let t2:=(jb9 [rt tP x]);let t3:=(pa6 (rt tP t2));(sl ((okE tP x)&&true) (sl (ua8 [rt tP x]) (sl t1 (sl ((okE tP x)&&true) (sl (kb0 [rt tP x]) (sl (okE tP t2) (sl (pa7 (rt tP t2)) (some (b t3,[])) none) none) none) none) (some (b false,[]))) none) none)
noncomputable def Ba8(x:List Pln):Bool:=J8 (one r1B) (qb1 x)
noncomputable def Ba9(x:List Pln):Bool:=okO (one r1B) (qb1 x)
noncomputable def Za1:Sum:=X6 (O3 tP) (λx=>.guard (Ba9 x) (.ret ((one r1B).enc (Ba8 x),[])))
theorem db4:g9 prog G 55 Za1:=Ia9 (bd b55 Ad0) (one r1B) (o:=qb1) λx=>v7 (by kernel_rfl)
structure cf3 where
 pg1:List Pt
 xa9:Int
structure cf4 where
 (Tc7 gb7 gb8 gb9 dg4 dg5 dg6:Int)
theorem Oe0(P:Oa3)(g n:Int)(hn:n.natAbs<=9223372036854775808):lp (Ta0 P) ⟨g,n⟩=(1,⟨eu g n,0⟩) :=
 Ce2 (mk:=λg n=>(⟨g,n⟩:ua2)) (λg n h=>by simp[Ta0,Ka5,Ab6,h]) (λg=>by simp[Ta0,Ka5,Ab6]) g n hn
theorem Oe1(l:List Int)(hl:l.length<=1000000000)(hb:∀x∈l,x.natAbs<=9223372036854775808):lp (Ga3 ⟨(l.length:Int)⟩) ⟨0,l,0⟩=(1,⟨l.foldl eu 0,l,l.length⟩):=by
 have := Fc2 (step := Ga3 ⟨(l.length : Int)⟩) (mk := fun j a => (⟨a, l, (j : Int)⟩ : ua3)) (f := eu) (fin := 1) tI l (fun _ _ => True) hl (fun j a hj _ => ⟨by
   simp only[Ga3,Ka6,Int.toNat_natCast,g8,i7,Oe0 _ _ _ (hb _ (ya6 tI hj)),n8 hj (by omega)]
   rw[bt (ic3 hj),bt (e8 hj)]
   rfl,trivial⟩) (λa _=>by simp[Ga3,Ka6,Ab6]) 0 (Nat.zero_le _) 0 trivial
 simpa using this.1
theorem Hc5:∀(l:List Int) (g:Int),(l.foldl eu g).natAbs=l.foldl (λa x=>Nat.gcd a x.natAbs) g.natAbs
 |[],_=>rfl
 |x::l,g=>by rw[List.foldl_cons,Hc5 l,List.foldl_cons,Ye1];rfl
theorem Nf1(l:List Int)(hl:l.length<=1000000000)(hb:∀x∈l,x.natAbs<=9223372036854775807)(h0:(l.foldl eu 0).natAbs<=9223372036854775807):Cb1 l=some (i ((l.foldl eu 0).natAbs:Int),[]):=by
 unfold Cb1;simp only[g8,i7,Oe1 l hl (λx hx=>Nat.le_succ_of_le (hb x hx))]
 generalize l.foldl eu 0=e at *
 have:W (0-e)=-e:=by rw[ka3 (by omega) (by omega)];omega
 rw[this];show some (i (if -e>e then -e else e),[])=_
 congr 3
 split<;>omega
theorem Hd9(x y:Int)(hx:0<=x)(hy:0<=y)(hb:y<=9223372036854775807):bb3 x y=some (i (Int.gcd x y:Int),[]):=by
 unfold bb3
 have:=Ce2 (step:=Da7 ⟨⟩) (mk:=λg n=>(⟨g,n⟩:ga7)) (λg n h=>by simp[Da7,ya8,Ab6,h]) (λg=>by simp[Da7,ya8,Ab6]) x y (by omega)
 simp only[this,Ye2 hx hy];rfl
theorem md8(x y:Int)(hx:0<=x)(hy:0<=y)(hb:y<=9223372036854775807):Y5 x y=(Int.gcd x y:Int):=by unfold Y5;rw[Hd9 x y hx hy hb];rfl
theorem md9(x y:Int)(hx:0<=x)(hy:0<=y)(hb:y<=9223372036854775807):Y6 x y=true:=by unfold Y6;rw[Hd9 x y hx hy hb];rfl
noncomputable def rm(p:Pln)(x:Pt):Int:=W (p.b*x.pw-(p.n.x*x.px+p.n.y*x.py+p.n.z*x.pz))
theorem Sd8(p:Pln)(x:Pt):Ba7 p x=rm p x:=by
 unfold Ba7 ua0 rm;simp only[sb1,Vb4,jd8,Qd4]
theorem dd9(p:Pln)(x:Pt):Xa5 p x=rm p x:=by
 unfold Xa5 rm;simp only[sb1,Vb4,jd8,Qd4];congr 1;omega
structure Bd(p:Pln):Prop where
 x1:-4608<=p.n.x
 x2:p.n.x<=4608
 y1:-4608<=p.n.y
 y2:p.n.y<=4608
 z1:-4608<=p.n.z
 z2:p.n.z<=4608
 b1:-2097152<=p.b
 b2:p.b<=2097152
def mv(p q r:Pln):V3 :=
 ⟨(d9 q.n r.n).x*p.b+(d9 r.n p.n).x*q.b+(d9 p.n q.n).x*r.b,
  (d9 q.n r.n).y*p.b+(d9 r.n p.n).y*q.b+(d9 p.n q.n).y*r.b,
  (d9 q.n r.n).z*p.b+(d9 r.n p.n).z*q.b+(d9 p.n q.n).z*r.b⟩
def gc(v:V3)(w:Int):Int:=(Nat.gcd (Nat.gcd v.x.natAbs v.y.natAbs) (Nat.gcd v.z.natAbs w.natAbs):Nat)
def mpt(p q r:Pln):Pt×Bool :=
 if mw p q r=0 then (⟨0,0,0,0⟩,false)
 else if mw p q r<0 then (⟨Int.tdiv (-(mv p q r).x) (gc (mv p q r) (mw p q r)),Int.tdiv (-(mv p q r).y) (gc (mv p q r) (mw p q r)),Int.tdiv (-(mv p q r).z) (gc (mv p q r) (mw p q r)),Int.tdiv (-(mw p q r)) (gc (mv p q r) (mw p q r))⟩,true)
 else (⟨Int.tdiv (mv p q r).x (gc (mv p q r) (mw p q r)),Int.tdiv (mv p q r).y (gc (mv p q r) (mw p q r)),Int.tdiv (mv p q r).z (gc (mv p q r) (mw p q r)),Int.tdiv (mw p q r) (gc (mv p q r) (mw p q r))⟩,true)
def Sm(n:Int)(x:Int):Prop:=-n<=x/\x<=n
theorem Hc6{a b:V3}(ha:Sm 4608 a.x/\Sm 4608 a.y/\Sm 4608 a.z)(hb:Sm 4608 b.x/\Sm 4608 b.y/\Sm 4608 b.z):Sm 42467328 (d9 a b).x/\Sm 42467328 (d9 a b).y/\Sm 42467328 (d9 a b).z:=by
 obtain⟨⟨a1,a2⟩,⟨a3,a4⟩,a5,a6⟩:=ha;obtain⟨⟨b1,b2⟩,⟨b3,b4⟩,b5,b6⟩:=hb;have h1:=mb a3 a4 b5 b6;have h2:=mb a5 a6 b3 b4;have h3:=mb a5 a6 b1 b2;have h4:=mb a1 a2 b5 b6;have h5:=mb a1 a2 b3 b4;have h6:=mb a3 a4 b1 b2;unfold Sm d9
 simp only
 omega
theorem Bd.n{p:Pln}(h:Bd p):Sm 4608 p.n.x/\Sm 4608 p.n.y/\Sm 4608 p.n.z:=⟨⟨h.x1,h.x2⟩,⟨h.y1,h.y2⟩,h.z1,h.z2⟩
theorem cf5{p q r:Pln}(hp:Bd p)(hq:Bd q)(hr:Bd r):Sm 600000000000 (mw p q r):=by
 obtain⟨⟨c1,c2⟩,⟨c3,c4⟩,c5,c6⟩:=Hc6 hq.n hr.n;have h1:=mb hp.x1 hp.x2 c1 c2;have h2:=mb hp.y1 hp.y2 c3 c4;have h3:=mb hp.z1 hp.z2 c5 c6;unfold Sm mw dot;omega
theorem cf6{p q r:Pln}(hp:Bd p)(hq:Bd q)(hr:Bd r):Sm 300000000000000 (mv p q r).x/\Sm 300000000000000 (mv p q r).y/\Sm 300000000000000 (mv p q r).z:=by
 obtain⟨⟨c1,c2⟩,⟨c3,c4⟩,c5,c6⟩:=Hc6 hq.n hr.n;obtain⟨⟨d1,d2⟩,⟨d3,d4⟩,d5,d6⟩:=Hc6 hr.n hp.n;obtain⟨⟨e1,e2⟩,⟨e3,e4⟩,e5,e6⟩:=Hc6 hp.n hq.n;have a1:=mb c1 c2 hp.b1 hp.b2;have a2:=mb c3 c4 hp.b1 hp.b2;have a3:=mb c5 c6 hp.b1 hp.b2;have b1:=mb d1 d2 hq.b1 hq.b2;have b2:=mb d3 d4 hq.b1 hq.b2;have b3:=mb d5 d6 hq.b1 hq.b2;have f1:=mb e1 e2 hr.b1 hr.b2;have f2:=mb e3 e4 hr.b1 hr.b2;have f3:=mb e5 e6 hr.b1 hr.b2;unfold Sm mv
 simp only
 omega
theorem ed0(a b:V3):X7 a b=⟨W (d9 a b).x,W (d9 a b).y,W (d9 a b).z⟩:=by
 unfold X7 d9;simp only[jd8,Qd4]
theorem Hc7(a b:V3):ba1 a b=⟨W (d9 a b).x,W (d9 a b).y,W (d9 a b).z⟩:=by
 unfold ba1 d9;simp only[jd8,Qd4]
theorem Nf2(p q r:Pln):dot r.n (d9 p.n q.n)=mw p q r:=by unfold mw dot d9;grind
theorem og0(a b c d:Nat):[a,b,c,d].foldl Nat.gcd 0=Nat.gcd (Nat.gcd a b) (Nat.gcd c d):=by
 simp only[List.foldl_cons,List.foldl_nil,Nat.gcd_zero_left];rw[Nat.gcd_assoc]
theorem nd0{v:V3}{w:Int}(h:w≠0):0<gc v w:=by
 unfold gc
 have:0<Nat.gcd v.z.natAbs w.natAbs:=Qhb _ (by omega)
 have:=Qhb (Nat.gcd v.x.natAbs v.y.natAbs) this
 omega
theorem cf7{v:V3}{w:Int}(h:w≠0):gc v w<=w.natAbs:=by
 unfold gc;have h1:Nat.gcd v.z.natAbs w.natAbs<=w.natAbs:=Qhd _ (by omega)
 have h2:0<Nat.gcd v.z.natAbs w.natAbs:=Qhb _ (by omega)
 have h3:=Qhd (m:=Nat.gcd v.x.natAbs v.y.natAbs) (n:=Nat.gcd v.z.natAbs w.natAbs) h2;omega
theorem Ja0{x:Int}(h:Sm 1000000000000000000 x):W x=x:=ka3 (by have:=h.1;omega) (by have:=h.2;omega)
theorem Sm.mono{n m x:Int}(h:Sm n x)(hn:n<=m):Sm m x:=⟨by have:=h.1;omega,by have:=h.2;omega⟩
theorem L3{n x g:Int}(h:Sm n x)(hg:0<g):Sm n (Int.tdiv x g):=by
 have h1:(Int.tdiv x g).natAbs<=x.natAbs:=by rw[Int.natAbs_tdiv];exact Nat.div_le_self _ _
 have:=h.1;have:=h.2
 constructor<;>omega
theorem we3{p q r:Pln}(hp:Bd p)(hq:Bd q)(hr:Bd r)(h:(mpt p q r).2=true):0<(mpt p q r).1.pw/\Sm 300000000000000 (mpt p q r).1.px/\Sm 300000000000000 (mpt p q r).1.py/\Sm 300000000000000 (mpt p q r).1.pz/\(mpt p q r).1.pw<=600000000000:=by
 have hw:=cf5 hp hq hr;obtain⟨v1,v2,v3⟩:=cf6 hp hq hr;have neg:∀{n x:Int},Sm n x->Sm n (-x):=λh=>⟨by have:=h.2;omega,by have:=h.1;omega⟩
 have pos:∀{x:Int},0<x->x.natAbs=(mw p q r).natAbs->0<Int.tdiv x (gc (mv p q r) (mw p q r)):=λ{x} hx he=>by
  have h0:mw p q r≠0:=by omega
  have h1:=nd0 (v:=mv p q r) h0;have h2:=cf7 (v:=mv p q r) h0;rw[Int.tdiv_eq_ediv_of_nonneg (by omega)]
  exact Int.ediv_pos_of_pos_of_dvd hx (by omega) (by
   rw[<- Int.dvd_natAbs,he];exact Int.natCast_dvd_natCast.2 (Nat.dvd_trans (Nat.gcd_dvd_right _ _) (Nat.gcd_dvd_right _ _)))
 unfold mpt at h ⊢;by_cases h0:mw p q r=0
 ·rw[if_pos h0] at h;cases h
 ·rw[if_neg h0];have hg:=nd0 (v:=mv p q r) h0;by_cases h1:mw p q r<0
  ·rw[if_pos h1];exact⟨pos (by omega) (by omega),L3 (neg v1) hg,L3 (neg v2) hg,L3 (neg v3) hg,(L3 (neg hw) hg).2⟩
  ·rw[if_neg h1];exact⟨pos (by omega) rfl,L3 v1 hg,L3 v2 hg,L3 v3 hg,(L3 hw hg).2⟩
theorem De0{p q r:Pln}(hp:Bd p)(hq:Bd q)(hr:Bd r):ob8 ⟨p,q,r⟩=some (.tup [.agg (tX.row (mpt p q r).1),b (mpt p q r).2],[]):=by
 have hw:=cf5 hp hq hr;obtain⟨v1,v2,v3⟩:=cf6 hp hq hr;have e1:ua0 r.n (X7 p.n q.n)=mw p q r:=by
  rw[ed0];unfold ua0;simp only[sb1,Vb4,Xe9];show W (dot r.n (d9 p.n q.n))=_;rw[Nf2,Ja0 (hw.mono (by omega))]
 have e2:Ba6 (Ba6 (Ba6 ⟨0,0,0⟩ (ua1 (X7 q.n r.n) p.b)) (ua1 (X7 r.n p.n) q.b)) (ua1 (X7 p.n q.n) r.b)=mv p q r:=by
  rw[ed0,ed0,ed0];unfold Ba6 ua1;simp only[sb1,Vb4,ue2,Int.zero_add];show (⟨W (mv p q r).x,W (mv p q r).y,W (mv p q r).z⟩:V3)=_;rw[Ja0 (v1.mono (by omega)),Ja0 (v2.mono (by omega)),Ja0 (v3.mono (by omega))]
 unfold ob8;simp only[e1,e2];have hb:∀x∈[(mv p q r).x,(mv p q r).y,(mv p q r).z,mw p q r],x.natAbs<=9223372036854775807:=by
  intro x hx;simp only[List.mem_cons,List.not_mem_nil,or_false] at hx;unfold Sm at *
  rcases hx with rfl|rfl|rfl|rfl<;>omega
 have hf:([(mv p q r).x,(mv p q r).y,(mv p q r).z,mw p q r].foldl eu 0).natAbs=Nat.gcd (Nat.gcd (mv p q r).x.natAbs (mv p q r).y.natAbs) (Nat.gcd (mv p q r).z.natAbs (mw p q r).natAbs):=by
  rw[Hc5,<- og0];rfl
 unfold mpt;by_cases h0:mw p q r=0
 ·rw[bt (by rw[h0];rfl),if_pos h0]
  rfl
 ·have hz:(mw p q r==0)=false:=by simpa using h0
  rw[bf hz,if_neg h0];have hgp:=nd0 (v:=mv p q r) h0;have hgl:=cf7 (v:=mv p q r) h0;have hge:=Nf1 _ (by simp) hb (by rw[hf];unfold gc at hgl;unfold Sm at hw;omega)
  have hgv:Xb1 [(mv p q r).x,(mv p q r).y,(mv p q r).z,mw p q r]=gc (mv p q r) (mw p q r):=by
   unfold Xb1;rw[hge,hf];rfl
  have hgg:Xb2 [(mv p q r).x,(mv p q r).y,(mv p q r).z,mw p q r]=true:=by
   unfold Xb2;rw[hge];rfl
  rw[hgv,bt hgg];generalize hG:gc (mv p q r) (mw p q r)=G at *
  have hGW:W (0-G)=-G:=by unfold Sm at hw;rw[ka3 (by omega) (by omega)];omega
  have hGn:(-G==0)=false:=by simp;omega
  have hGp:(G==0)=false:=by simp;omega
  by_cases h1:mw p q r<0
  ·rw[bt (decide_eq_true h1),if_pos h1];simp only[hGW];rw[bf hGn,bf hGn,bf hGn,bf hGn];simp only[Int.tdiv_neg,<- Int.neg_tdiv];have neg:∀{n x:Int},Sm n x->Sm n (-x):=λh=>⟨by have:=h.2;omega,by have:=h.1;omega⟩
   rw[Ja0 ((L3 (neg v1) hgp).mono (by omega)),Ja0 ((L3 (neg v2) hgp).mono (by omega)),Ja0 ((L3 (neg v3) hgp).mono (by omega)),Ja0 ((L3 (neg hw) hgp).mono (by omega))]
   rfl
  ·rw[bf (decide_eq_false h1),if_neg h1,bf hGp,bf hGp,bf hGp,bf hGp];rw[Ja0 ((L3 v1 hgp).mono (by omega)),Ja0 ((L3 v2 hgp).mono (by omega)),Ja0 ((L3 v3 hgp).mono (by omega)),Ja0 ((L3 hw hgp).mono (by omega))]
   rfl
theorem Nf3{p q r:Pln}(hp:Bd p)(hq:Bd q)(hr:Bd r):ob9 ⟨p,q,r⟩=mpt p q r:=by unfold ob9;rw[De0 hp hq hr];rfl
theorem Nf4{p q r:Pln}(hp:Bd p)(hq:Bd q)(hr:Bd r):pb0 ⟨p,q,r⟩=true:=by unfold pb0;rw[De0 hp hq hr];rfl
theorem he4{p q r:Pln}(hp:Bd p)(hq:Bd q)(hr:Bd r):Bb3 p q r=some (.tup [.agg (tX.row (mpt p q r).1),b (mpt p q r).2],[]):=by
 have hw:=cf5 hp hq hr;obtain⟨v1,v2,v3⟩:=cf6 hp hq hr;have e1:Ga1 p.n (ba1 q.n r.n)=mw p q r:=by
  rw[Hc7];unfold Ga1;simp only[sb1,Vb4,Xe9];show W (dot p.n (d9 q.n r.n))=_;rw[show dot p.n (d9 q.n r.n)=mw p q r from rfl,Ja0 (hw.mono (by omega))]
 have e2:zb0 (zb0 (Y4 (ba1 q.n r.n) p.b) (Y4 (ba1 r.n p.n) q.b)) (Y4 (ba1 p.n q.n) r.b)=mv p q r:=by
  rw[Hc7,Hc7,Hc7];unfold zb0 Y4;simp only[sb1,Vb4,ue2];show (⟨W (mv p q r).x,W (mv p q r).y,W (mv p q r).z⟩:V3)=_;rw[Ja0 (v1.mono (by omega)),Ja0 (v2.mono (by omega)),Ja0 (v3.mono (by omega))]
 have neg:∀{n x:Int},Sm n x->Sm n (-x):=λh=>⟨by have:=h.2;omega,by have:=h.1;omega⟩
 have e3:Y4 (mv p q r) (-1)=⟨-(mv p q r).x,-(mv p q r).y,-(mv p q r).z⟩:=by
  unfold Y4
  have:∀x:Int,x*-1=-x:=λx=>by omega
  simp only[this];rw[Ja0 ((neg v1).mono (by omega)),Ja0 ((neg v2).mono (by omega)),Ja0 ((neg v3).mono (by omega))]
 have ab:∀{x:Int},Sm 300000000000000 x->(if W (0-x)>x then W (0-x) else x)=(x.natAbs:Int):=λ{x} h=>by
  have:W (0-x)=-x:=by rw[show 0-x=-x by omega];exact Ja0 ((neg h).mono (by omega))
  rw[this]
  split<;>omega
 unfold Bb3;simp only[e1,e2,e3];rw[ab v1,ab v2,ab v3,ab (neg v1),ab (neg v2),ab (neg v3)];simp only[Int.natAbs_neg];unfold mpt;by_cases h0:mw p q r=0
 ·rw[bt (by rw[h0];rfl),if_pos h0]
  rfl
 ·have hz:(mw p q r==0)=false:=by simpa using h0
  rw[bf hz,if_neg h0];have hgp:=nd0 (v:=mv p q r) h0;have hgl:=cf7 (v:=mv p q r) h0;have hw0:=hw;unfold Sm at hw0;have q1:((mv p q r).y.natAbs:Int)<=9223372036854775807:=by unfold Sm at v2;omega
  have k1:=md8 ((mv p q r).x.natAbs:Int) ((mv p q r).y.natAbs:Int) (by omega) (by omega) q1
  have k2:=md9 ((mv p q r).x.natAbs:Int) ((mv p q r).y.natAbs:Int) (by omega) (by omega) q1
  have c1:Int.gcd ((mv p q r).x.natAbs:Int) ((mv p q r).y.natAbs:Int)=Nat.gcd (mv p q r).x.natAbs (mv p q r).y.natAbs:=by simp[Int.gcd]
  have fin : ∀ w : Int, 0 < w → w.natAbs = (mw p q r).natAbs → Y5 ((mv p q r).z.natAbs : Int) w = (Nat.gcd (mv p q r).z.natAbs (mw p q r).natAbs : Nat) ∧ Y6 ((mv p q r).z.natAbs : Int) w = true ∧
    Y5 (Nat.gcd (mv p q r).x.natAbs (mv p q r).y.natAbs:Nat) (Nat.gcd (mv p q r).z.natAbs (mw p q r).natAbs:Nat)=gc (mv p q r) (mw p q r)/\Y6 (Nat.gcd (mv p q r).x.natAbs (mv p q r).y.natAbs:Nat) (Nat.gcd (mv p q r).z.natAbs (mw p q r).natAbs:Nat)=true:=by
   intro w hw1 hw2;have l1:Nat.gcd (mv p q r).z.natAbs (mw p q r).natAbs<=(mw p q r).natAbs:=Qhd _ (by omega)
   refine⟨?_,md9 _ _ (by omega) (by omega) (by omega),?_,md9 _ _ (by omega) (by omega) (by omega)⟩
   ·rw[md8 _ _ (by omega) (by omega) (by omega)]
    have:Int.gcd ((mv p q r).z.natAbs:Int) w=Nat.gcd (mv p q r).z.natAbs (mw p q r).natAbs:=by unfold Int.gcd;rw[hw2];simp
    rw[this]
   ·rw[md8 _ _ (by omega) (by omega) (by omega)]
    rfl
  by_cases h1:mw p q r<0
  ·rw[bt (decide_eq_true h1),if_pos h1];have hWw:W (0-mw p q r)=-mw p q r:=by rw[ka3 (by omega) (by omega)];omega
   rw[hWw];obtain⟨f1,f2,f3,f4⟩:=fin (-mw p q r) (by omega) (by omega)
   simp only[k1,k2,c1,f1,f2,f3,f4];generalize gc (mv p q r) (mw p q r)=G at *
   have hGp:(G==0)=false:=by simp;omega
   simp only[hGp];rw[Ja0 ((L3 (neg v1) hgp).mono (by omega)),Ja0 ((L3 (neg v2) hgp).mono (by omega)),Ja0 ((L3 (neg v3) hgp).mono (by omega)),Ja0 ((L3 (neg hw) hgp).mono (by omega))]
   rfl
  ·rw[bf (decide_eq_false h1),if_neg h1];obtain⟨f1,f2,f3,f4⟩:=fin (mw p q r) (by omega) rfl
   simp only[k1,k2,c1,f1,f2,f3,f4];generalize gc (mv p q r) (mw p q r)=G at *
   have hGp:(G==0)=false:=by simp;omega
   simp only[hGp];rw[Ja0 ((L3 v1 hgp).mono (by omega)),Ja0 ((L3 v2 hgp).mono (by omega)),Ja0 ((L3 v3 hgp).mono (by omega)),Ja0 ((L3 hw hgp).mono (by omega))]
   rfl
theorem wf1{p q r:Pln}(hp:Bd p)(hq:Bd q)(hr:Bd r):Bb4 p q r=mpt p q r:=by unfold Bb4;rw[he4 hp hq hr];rfl
theorem wf2{p q r:Pln}(hp:Bd p)(hq:Bd q)(hr:Bd r):Bb5 p q r=true:=by unfold Bb5;rw[he4 hp hq hr];rfl
end Go.Ev.Ce
