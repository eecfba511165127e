/- Own work. -/
import Derived.Test.YtekgjjgbdcgldaaGreatChecked
import Derived.Test.YtekgjjgbdcgldaaGreatEvOCePf
import Derived.KernelRfl
import Derived.Shelf.Spec.SlicesGrow
set_option linter.all false
def Qha:=@Eq.trans
def Qhb:=@Nat.gcd_pos_of_pos_right
def Qhc:=@List.getElem?_eq_some_iff
def Qhd:=@Nat.gcd_le_right
def Qhe:=@List.getElem?_replicate
def Qhf:=@Nat.le_refl
namespace Go.Ev.Ce
open Go Go.Ev Go.Proofs
set_option maxRecDepth 1000000
theorem mx:(Tryz.prog).follows .mixedOrders=true:=Checked.mixed Tryz.checked
abbrev Bdq(n:Nat)(pf:PFn):Prop:=je9 Tryz.prog n λE=>Lb5 E pf
theorem bdq{f:FuncId}{fn:Func}(hf:(Tryz.prog).funcs[f]?=some fn)(hn:decide (fn.name ≠ "runtime.NumGoroutine")=true:=by kernel_rfl)(hc:Option.isSome (d9 Tryz.prog fn)=true:=by kernel_rfl):Bdq f (got (d9 Tryz.prog fn)):=Kf9 mx hf hn (Hd2 hc)
theorem b3:Bdq 3 pf3:=bdq Tryz.func3
theorem b4:Bdq 4 pf4:=bdq Tryz.func4
theorem b5:Bdq 5 pf5:=bdq Tryz.func5
theorem b6:Bdq 6 pf6:=bdq Tryz.func6
theorem b9:Bdq 9 pf9:=bdq Tryz.func9
theorem b11:Bdq 11 Lf0:=bdq Tryz.func11
theorem b12:Bdq 12 Lf1:=bdq Tryz.func12
theorem b16:Bdq 16 Lf2:=bdq Tryz.func16
theorem b21:Bdq 21 Lf3:=bdq Tryz.func21
theorem b22:Bdq 22 Lf4:=bdq Tryz.func22
theorem b23:Bdq 23 Cf2:=bdq Tryz.func23
theorem b25:Bdq 25 Cf3:=bdq Tryz.func25
theorem b27:Bdq 27 Lf5:=bdq Tryz.func27
theorem b34:Bdq 34 Lf6:=bdq Tryz.func34
theorem b37:Bdq 37 Lf7:=bdq Tryz.func37
theorem b38:Bdq 38 Lf8:=bdq Tryz.func38
theorem b39:Bdq 39 Lf9:=bdq Tryz.func39
theorem b40:Bdq 40 Cf4:=bdq Tryz.func40
theorem b42:Bdq 42 Mf0:=bdq Tryz.func42
theorem b45:Bdq 45 Mf1:=bdq Tryz.func45
theorem b47:Bdq 47 Cf5:=bdq Tryz.func47
theorem b49:Bdq 49 Cf6:=bdq Tryz.func49
theorem b51:Bdq 51 Mf2:=bdq Tryz.func51
theorem b52:Bdq 52 Mf3:=bdq Tryz.func52
theorem b53:Bdq 53 Mf4:=bdq Tryz.func53
theorem b54:Bdq 54 Mf5:=bdq Tryz.func54
theorem b55:Bdq 55 Mf6:=bdq Tryz.func55
theorem b56:Bdq 56 Mf7:=bdq Tryz.func56
theorem b63:Bdq 63 Mf8:=bdq Tryz.func63
theorem b68:Bdq 68 Mf9:=bdq Tryz.func68
theorem b69:Bdq 69 Nf0:=bdq Tryz.func69
theorem b70:Bdq 70 Nf1:=bdq Tryz.func70
theorem b71:Bdq 71 cf5:=bdq Tryz.func71
theorem b73:Bdq 73 Nf2:=bdq Tryz.func73
theorem b78:Bdq 78 Me6:=bdq Tryz.func78
theorem b80:Bdq 80 Nf3:=bdq Tryz.func80
theorem b83:Bdq 83 Nf4:=bdq Tryz.func83
theorem b84:Bdq 84 Nf5:=bdq Tryz.func84
theorem b86:Bdq 86 Nf6:=bdq Tryz.func86
theorem b93:Bdq 93 Nf7:=bdq Tryz.func93
theorem b94:Bdq 94 Cf7:=bdq Tryz.func94
theorem b95:Bdq 95 Cf8:=bdq Tryz.func95
theorem b96:Bdq 96 Cf9:=bdq Tryz.func96
theorem b97:Bdq 97 Nf8:=bdq Tryz.func97
theorem b98:Bdq 98 Nf9:=bdq Tryz.func98
theorem b99:je9 Tryz.prog 99 λE=>Rb9 E uf0:=Me5 (h:=h99) mx Tryz.func99 (by kernel_rfl) Tryz.func190 (by kernel_rfl) (Hd2 (by kernel_rfl))
theorem Of0:Bdq 100 lf8:=bdq Tryz.func100
theorem Of1:Bdq 101 Me7:=bdq Tryz.func101
theorem Gf7:Bdq 103 Df0:=bdq Tryz.func103
theorem Of2:Bdq 104 Df1:=bdq Tryz.func104
theorem Of3:Bdq 107 Df2:=bdq Tryz.func107
theorem Of4:Bdq 108 Df3:=bdq Tryz.func108
theorem Of5:Bdq 109 Df4:=bdq Tryz.func109
theorem Of6:Bdq 110 Df5:=bdq Tryz.func110
theorem Of7:Bdq 111 Df6:=bdq Tryz.func111
theorem Of8:Bdq 112 Df7:=bdq Tryz.func112
theorem Of9:Bdq 113 Df8:=bdq Tryz.func113
theorem Pf0:Bdq 115 Df9:=bdq Tryz.func115
theorem Pf1:Bdq 116 Ef0:=bdq Tryz.func116
theorem Pf2:Bdq 121 Ef1:=bdq Tryz.func121
theorem Pf3:Bdq 122 Ef2:=bdq Tryz.func122
theorem Pf4:Bdq 123 Me8:=bdq Tryz.func123
theorem Pf5:Bdq 124 Ef3:=bdq Tryz.func124
theorem Pf6:Bdq 125 lf9:=bdq Tryz.func125
theorem Pf7:Bdq 126 mf0:=bdq Tryz.func126
theorem Pf8:Bdq 127 mf1:=bdq Tryz.func127
theorem Pf9:Bdq 128 Ef4:=bdq Tryz.func128
theorem Qf0:Bdq 135 Ef5:=bdq Tryz.func135
theorem Qf1:Bdq 138 mf2:=bdq Tryz.func138
theorem cf6:Bdq 139 Vd1:=bdq Tryz.func139
theorem Qf2:Bdq 140 Ef6:=bdq Tryz.func140
theorem Qf3:Bdq 141 Ef7:=bdq Tryz.func141
theorem Qf4:Bdq 142 Ef8:=bdq Tryz.func142
theorem Qf5:Bdq 149 Ef9:=bdq Tryz.func149
theorem Gf8:Bdq 150 mf3:=bdq Tryz.func150
theorem uf1:Bdq 151 Ff0:=bdq Tryz.func151
theorem Qf6:Bdq 152 mf4:=bdq Tryz.func152
theorem Qf7:Bdq 153 Ff1:=bdq Tryz.func153
theorem Gf9:Bdq 154 Me9:=bdq Tryz.func154
theorem Qf8:Bdq 155 mf5:=bdq Tryz.func155
theorem Qf9:Bdq 156 Ff2:=bdq Tryz.func156
theorem Rf0:Bdq 157 Ff3:=bdq Tryz.func157
theorem Rf1:Bdq 158 Ff4:=bdq Tryz.func158
theorem Rf2:Bdq 159 mf6:=bdq Tryz.func159
theorem Hf0:Bdq 161 Ne0:=bdq Tryz.func161
theorem Rf3:Bdq 162 Ff5:=bdq Tryz.func162
theorem Rf4:Bdq 163 mf7:=bdq Tryz.func163
theorem Rf5:Bdq 164 Ff6:=bdq Tryz.func164
theorem Rf6:Bdq 165 Ff7:=bdq Tryz.func165
theorem Rf7:je9 Tryz.prog 166 λE=>Rb9 E Ne1:=Me5 (h:=Cf1) mx Tryz.func166 (by kernel_rfl) Tryz.func193 (by kernel_rfl) (Hd2 (by kernel_rfl))
theorem Rf8:je9 Tryz.prog 167 λE=>Rb9 E qe7:=Me5 (h:=Cf0) mx Tryz.func167 (by kernel_rfl) Tryz.func221 (by kernel_rfl) (Hd2 (by kernel_rfl))
theorem Rf9:Bdq 168 Ff8:=bdq Tryz.func168
theorem Sf0:Bdq 169 Ff9:=bdq Tryz.func169
theorem Sf1:Bdq 170 Gf0:=bdq Tryz.func170
theorem Sf2:Bdq 171 mf8:=bdq Tryz.func171
theorem Sf3:Bdq 172 Gf1:=bdq Tryz.func172
theorem Sf4:Bdq 179 mf9:=bdq Tryz.func179
theorem Sf5:Bdq 180 nf3:=bdq Tryz.func180
theorem Sf6:Bdq 181 qe8:=bdq Tryz.func181
theorem Sf7:Bdq 182 nf4:=bdq Tryz.func182
theorem Sf8:Bdq 183 Gf2:=bdq Tryz.func183
theorem Sf9:Bdq 184 Gf3:=bdq Tryz.func184
theorem Tf0:Bdq 186 Ne2:=bdq Tryz.func186
theorem Tf1:Bdq 191 nf5:=bdq Tryz.func191
theorem Tf2:Bdq 194 nf6:=bdq Tryz.func194
theorem Tf3:Bdq 195 Gf4:=bdq Tryz.func195
theorem Tf4:Bdq 196 nf7:=bdq Tryz.func196
theorem Tf5:Bdq 199 nf8:=bdq Tryz.func199
theorem Tf6:Bdq 207 nf9:=bdq Tryz.func207
theorem Tf7:Bdq 208 of0:=bdq Tryz.func208
theorem Tf8:Bdq 209 Gf5:=bdq Tryz.func209
theorem Tf9:Bdq 210 of1:=bdq Tryz.func210
theorem Uf0:Bdq 211 of2:=bdq Tryz.func211
theorem Uf1:Bdq 221 of3:=bdq Tryz.func221
theorem Uf2:Bdq 222 Ne3:=bdq Tryz.func222
theorem Uf3:Bdq 228 Gf6:=bdq Tryz.func228
theorem Uf4:Bdq 229 of4:=bdq Tryz.func229
end Go.Ev.Ce
namespace Go.Ev.L
open Go Go.Ev
noncomputable def ec2:RT->PC->PS2
 |.s a b,.seq x y=>.seq (ec2 a x) (ec2 b y)
 |.c a b,.cond g x y=>.cond g (ec2 a x) (ec2 b y)
 |.b a,.block id x=>.block id (ec2 a x)
 |.i a,.inner f x n c=>.inner f x n (ec2 a c)
 |.u S,_=>.sum S
 |_,c=>.pc c
theorem Hd3{E:Env}{k:Nat}(rt:RT)(c:PC):Ya4 (λx=>∀s,ea4 (x.1 s) (S7 E k x.2 s)) (nc5 rt c)->pa9 E k (ec2 rt c) c:=by
 induction rt generalizing c with
 |p=>intro h;cases c<;>exact .pc _
 |s a b iha ihb =>
  intro h;cases c with
  |seq x y=>exact .seq (iha x (Ya4.app h).1) (ihb y (Ya4.app h).2)
  |_=>exact .pc _
 |c a b iha ihb =>
  intro h;cases c with
  |cond g x y=>exact .cond g (iha x (Ya4.app h).1) (ihb y (Ya4.app h).2)
  |_=>exact .pc _
 |b a iha =>
  intro h;cases c with
  |block id x=>exact .block id (iha x h)
  |_=>exact .pc _
 |l a iha=>intro h;cases c<;>exact .pc _
 |i a iha =>
  intro h;cases c with
  |inner f x n c=>exact .inner f x n (iha c h)
  |_=>exact .pc _
 |u S =>
  intro h
  have:nc5 (.u S) c=[(S,c)]:=by cases c<;>rfl
  rw[this] at h;cases h with
  |cons h t =>
   have e:ec2 (.u S) c=.sum S:=by cases c<;>rfl
   rw[e];exact .sum h
section
variable{π σ:Type}{E:Env}{k:Nat}{keep:List Nat}{alts:List (Al2 π σ)}{enc:π->σ->St}{step:π->σ->Stp σ}{xs:Xs π σ}{body:PS2}{c:PC}
theorem dc1.belowM(hb:pa9 E k body c)(hN:E.N=rounds+1)(w:dc1 Vd0 k keep (Jc4 E k body) alts step xs enc)(s:St):ea4 (yd2 Vd0 k keep alts step xs s) (S7 E k (.loopM keep c) s):=λr hr=>by
 obtain⟨t,h1,h2⟩:=w.go hr;rw[je8,hN];exact Rb2 hb.le _ _ _ (lc3 h1 h2)
theorem dc1.belowML(hb:pa9 E k body c)(hN:E.N=rounds+1)(w:dc1 cc6 k keep (Jc4 E k body) alts step xs enc)(s:St):ea4 (yd2 cc6 k keep alts step xs s) (S7 E k (.loop keep c) s):=λr hr=>by
 obtain⟨t,h1,h2⟩:=w.go hr;rw[yd1,hN];exact Rb2 hb.le _ _ _ (lc3 h1 h2)
end
end Go.Ev.L
namespace Go.Ev.Ab
open Go Go.Ev
@[reducible] def o(d:Nat)(x:PO):PI:=⟨some d,none,[],x⟩
@[reducible] def s(x:PO):PI:=⟨none,none,[],x⟩
@[reducible] def ci(n:Int):Arg:=.c (.v (.int .i64 n))
@[reducible] def cb(b:Bool):Arg:=.c (.v (.bool b))
@[reducible] def vi(n:Int):b7:=.v (.int .i64 n)
@[reducible] def rep{α:Type}(n:Nat)(x:α):List α:=List.replicate n x
@[reducible] def ki(n:Nat):List CK:=List.replicate n (.int .i64)
@[reducible] def mv(d n:Nat):PI:=o d (.mv (.t n))
@[reducible] def mc(d:Nat)(n:Int):PI:=o d (.mv (ci n))
@[reducible] def mb(d:Nat)(x:Bool):PI:=o d (.mv (cb x))
@[reducible] def fd(d k n:Nat):PI:=o d (.fld k (.t n))
@[reducible] def bx(d n:Nat):PI:=o d (.box (.t n))
@[reducible] def lf(d k n:Nat):PI:=o d (.load (ki k) k false (.t n))
@[reducible] def ex(d x k:Nat):PI:=o d (.ext (.t x) k)
@[reducible] def gf(n:Nat)(x:PI):PI:=⟨x.dst,some (n,false),x.hide,x.op⟩
@[reducible] def so(l:List PI)(x:PC):PC:=.seq (.ops l) x
@[reducible] def ts(l:List Nat):List Arg:=l.map .t
@[reducible] def cl(f:Nat)(l:List Nat):PO:=.call f (ts l)
@[reducible] def sT(k a b:Nat):PI:=s (.store k (.t a) (.t b))
@[reducible] def pa(d c x:Nat):PI:=o d (.pick (.t c) (.t x) (cb false))
@[reducible] def po(d c x:Nat):PI:=o d (.pick (.t c) (cb true) (.t x))
@[reducible] def al(d k:Nat)(n:Int):PI:=o d (.alloc (rep k (vi n)))
@[reducible] def ap(d et es n x y:Nat):PI:=o d (.append et es n (.t x) (.t y))
end Go.Ev.Ab
namespace Go.Ev.L
open Go Go.Ev
def Cps{π σ:Type}(u:∀{α:Type},(σ->α)->(Nat->α)->α->π->σ->α):Prop :=
 ∀{α β:Type} (F:α->β) (k:σ->α) (e:Nat->α) (z:α) (p:π) (s:σ),F (u k e z p s)=u (λx=>F (k x)) (λt=>F (e t)) (F z) p s
@[reducible] noncomputable def foL{π σ:Type}(en:π->σ->St)(xs:Xs π σ)(p:π)(s:σ):Stp σ->Option (f8×St):=cc7 (λs'=>some (.normal,en p s')) (λt=>xOf xs p s t 1) none
structure Lo(π σ:Type) where
 E:Env
 k:Nat
 F:PFn
 at':List Nat
 kp:List Nat
 rt:RT
 al:List (Al2 π σ)
 st:π->σ->Stp σ
 xs:Xs π σ
 en:π->σ->St
namespace Lo
variable{π σ:Type}(L:Lo π σ)
noncomputable def lc:PC:=Kf7 L.at' L.F.body
noncomputable def ls:St->DT (f8×St):=yd2 cc6 L.k L.kp L.al L.st L.xs
noncomputable def lsM:St->DT (f8×St):=yd2 Vd0 L.k L.kp L.al L.st L.xs
noncomputable def pr:(St->DT (f8×St))×PC:=(L.ls,.loop L.kp L.lc)
noncomputable def prM:(St->DT (f8×St))×PC:=(L.lsM,.loopM L.kp L.lc)
def Ok:Prop:=∀s,ka1 L.k L.F.res (L.pr.1 s) (S7 L.E L.k L.pr.2 s)
def OkE:Prop:=∀s,ea4 (L.pr.1 s) (S7 L.E L.k L.pr.2 s)
def OkM:Prop:=∀s,ea4 (L.prM.1 s) (S7 L.E L.k L.prM.2 s)
def Rd(hd:St->DT St)(bd:St->DT (f8×St))(p:π)(s:σ)(a:St)(b:Stp σ):Prop:=(Rb3 hd bd a).run=foL L.en L.xs p s b
def H0:Prop:=∀p s,L.Rd (cc6 L.k L.kp) (pe2 L.E L.k L.F.res (pd5 L.rt L.lc)) p s (L.en p s) (L.st p s)
def H1:Prop:=∀p s,L.Rd (cc6 L.k L.kp) (Jc4 L.E L.k (ec2 L.rt L.lc)) p s (L.en p s) (L.st p s)
def H2:Prop:=∀p s,L.Rd (Vd0 L.k L.kp) (Jc4 L.E L.k (ec2 L.rt L.lc)) p s (L.en p s) (L.st p s)
def HA:Prop:=Ya4 (λx=>∀a H,(⟨ze3 x.sh a,ze4 x.bl H⟩:St)=L.en (x.rd a H).1 (x.rd a H).2) L.al
variable{L}
theorem Rd.of {hd : St → DT St} {bd : St → DT (f8 × St)} {p : π} {s : σ} {a : St} (u : ∀ {α : Type}, (σ → α) → (Nat → α) → α → π → σ → α)
  (q:Cps @u) (H:(Rb3 hd bd a).run=u (λx=>foL L.en L.xs p s (.next x)) (λt=>foL L.en L.xs p s (.exit t)) (foL L.en L.xs p s .fail) p s):L.Rd hd bd p s a (u .next .exit .fail p s) :=
 H.trans (q (foL L.en L.xs p s) Stp.next Stp.exit Stp.fail p s).symm
theorem Rd.sel{hd:St->DT St}{bd:St->DT (f8×St)}{p:π}{s:σ}{a1 a0:St}{b1 b0:Stp σ}(c:Bool)(h1:L.Rd hd bd p s a1 b1)(h0:L.Rd hd bd p s a0 b0):L.Rd hd bd p s (sel c a1 a0) (sel c b1 b0):=by
 cases c with
 |true=>exact h1
 |false=>exact h0
theorem ok(l:List ((St->DT (f8×St))×PC))(hs:nc5 L.rt L.lc=l)(hl:Ya4 (λx=>∀s,ka1 L.k L.F.res (x.1 s) (S7 L.E L.k x.2 s)) l)(hN:L.E.N=rounds+1)(ha:L.HA)(h:L.H0):L.Ok :=
 dc1.belowC (pe9 _ _ (by rw[hs];exact hl)) hN ⟨ha,h⟩
theorem okE(l:List ((St->DT (f8×St))×PC))(hs:nc5 L.rt L.lc=l)(hl:Ya4 (λx=>∀s,ea4 (x.1 s) (S7 L.E L.k x.2 s)) l)(hN:L.E.N=rounds+1)(ha:L.HA)(h:L.H1):L.OkE :=
 dc1.belowML (Hd3 _ _ (by rw[hs];exact hl)) hN ⟨ha,h⟩
theorem okM(l:List ((St->DT (f8×St))×PC))(hs:nc5 L.rt L.lc=l)(hl:Ya4 (λx=>∀s,ea4 (x.1 s) (S7 L.E L.k x.2 s)) l)(hN:L.E.N=rounds+1)(ha:L.HA)(h:L.H2):L.OkM :=
 dc1.belowM (Hd3 _ _ (by rw[hs];exact hl)) hN ⟨ha,h⟩
end Lo
theorem va6 {E : Env} {F : PFn} {args : List b7} {blks : List b8} {o : Option (b7 × List b8)} (rt : RT) (l : List ((St → DT (f8 × St)) × PC)) (hs : nc5 rt F.body = l)
  (hl:Ya4 (λx=>∀s,ka1 (len blks) F.res (x.1 s) (S7 E (len blks) x.2 s)) l) (h:(Af9 E F (pd5 rt F.body) args blks).run=o) (r:b7×List b8) (hr:o=some r):(Lb5 E F args blks).run=some r :=
 ie1 (pe9 rt _ (by rw[hs];exact hl)) r (h.trans hr)
theorem Ne4 {E : Env} {F : PFn} {args : List b7} {blks : List b8} {o : Option (b7 × List b8)} (rt : RT) (l : List ((St → DT (f8 × St)) × PC)) (hs : nc5 rt F.body = l)
  (hl:Ya4 (λx=>∀s,ea4 (x.1 s) (S7 E (len blks) x.2 s)) l) (h:(lf7 E F (ec2 rt F.body) args blks).run=o) (r:b7×List b8) (hr:o=some r):(Rb9 E F args blks).run=some r :=
 Ud9 (Hd3 rt _ (by rw[hs];exact hl)) r (h.trans hr)
theorem y8{A o:Option (b7×List b8)}(h:A=o)(r:b7×List b8)(hr:o=some r):A=some r:=h.trans hr
noncomputable abbrev upq(x:St)(l:List (Nat×b7)):St:=⟨l.foldl (λa q=>a.set q.1 q.2) x.a,x.H⟩
noncomputable abbrev sIq:S2:=.s (.o (.int .i64))
noncomputable abbrev sUq:S2:=.s (.o .unk)
noncomputable abbrev sBq:S2:=.s (.o .bool)
noncomputable abbrev sPq(n:Nat):S2:=.s (.o (.ptr n 0 0 0))
noncomputable abbrev sTq(n:Nat):S2:=.s (.o (.tree n))
noncomputable abbrev sLq{α:Type}(t:Ty α):S2:=.s (.c t.es (nL t))
noncomputable abbrev kLq(n:Nat):List K:=List.replicate n (.o (.int .i64))
noncomputable abbrev aIq(a:List b7)(n:Nat):Int:=toI (slT a n)
noncomputable abbrev aBq(a:List b7)(n:Nat):Bool:=toB (slT a n)
noncomputable abbrev aNq(a:List b7)(n:Nat):Nat:=toN (slT a n)
noncomputable abbrev aGq(a:List b7)(n:Nat):Nat->List b7:=toG (slT a n)
noncomputable abbrev aLq{α:Type}(t:Ty α)(a:List b7)(n:Nat):List α:=rL t (slT a n)
noncomputable abbrev hIq(H:List b8)(m r n:Nat):Int:=toI (slT (rwT (elT H m) r) n)
noncomputable abbrev cIq(a:List b7)(m n:Nat):Int:=toI (slT (cellsOf (slT a m)) n)
noncomputable abbrev hLq{α:Type}(t:Ty α)(H:List b8)(m r n:Nat):List α:=rL t (slT (rwT (elT H m) r) n)
end Go.Ev.L
namespace Go.Ev.Ce
structure V3 where
 x:Int
 y:Int
 z:Int
structure Pln where
 n:V3
 b:Int
structure Pt where
 px:Int
 py:Int
 pz:Int
 pw:Int
def f0(a b:V3):V3:=⟨a.y*b.z-a.z*b.y,a.z*b.x-a.x*b.z,a.x*b.y-a.y*b.x⟩
def dot(a b:V3):Int:=a.x*b.x+a.y*b.y+a.z*b.z
def mw(p q r:Pln):Int:=dot p.n (f0 q.n r.n)
end Go.Ev.Ce
namespace Go.Ev.Ce
open Go Go.Ev Go.Ev.L Go.Proofs
@[reducible] noncomputable def prog:Program:=Tryz.prog
noncomputable def G:Nat->List Value:=λ_=>[]
noncomputable def En(l:List (Nat×Sum)):Env:={ P:=prog,G,fns:=λ_=>none,call:=sf1 l,own:=λf j=>Bool.and (kb8 f [150,121,154,91,139,144,146,148]) (Nat.beq j 0),N:=18446744073709551616 }
@[reducible] def u:b7:=.v (.tuple #[])
theorem Hf1{l:List (Nat×Sum)}(h:i9 prog G l):∀f,i5 (En l).P (En l).G f ((En l).call f):=pe1 h
theorem bd{l:List (Nat×Sum)}{f:FuncId}{R:Env->Sum}(b:je9 prog f R)(h:i9 prog G l):i5 prog G f (R (En l)):=b rfl (Hf1 h)
noncomputable def tV:Ty V3 where
 es:=3
 row x:=[i x.x,i x.y,i x.z]
 rd r:=⟨toI (hdA r),toI (hdA (tlA r)),toI (hdA (tlA (tlA r)))⟩
 ok r:=Ha4 3 r
 cks:=List.replicate 3 (.int .i64)
 d:=⟨0,0,0⟩
 h0 _:=rfl
 h1 _:=rfl
 h2 _:=rfl
 h3 _ h:=.of (fb5 h)
 h4 _:=rfl
 h5 _:=rfl
noncomputable def r1V:R1 V3:=r1A tV 3 λ_ h=>h
noncomputable def tP:Ty Pln where
 es:=4
 row x:=[i x.n.x,i x.n.y,i x.n.z,i x.b]
 rd r:=⟨⟨toI (hdA r),toI (hdA (tlA r)),toI (hdA (tlA (tlA r)))⟩,toI (hdA (tlA (tlA (tlA r))))⟩
 ok r:=Ha4 4 r
 cks:=List.replicate 4 (.int .i64)
 d:=⟨⟨0,0,0⟩,0⟩
 h0 _:=rfl
 h1 _:=rfl
 h2 _:=rfl
 h3 _ h:=.of (fb5 h)
 h4 _:=rfl
 h5 _:=rfl
noncomputable def r1P:R1 Pln:=r1A tP 4 λ_ h=>h
noncomputable def tX:Ty Pt where
 es:=4
 row x:=[i x.px,i x.py,i x.pz,i x.pw]
 rd r:=⟨toI (hdA r),toI (hdA (tlA r)),toI (hdA (tlA (tlA r))),toI (hdA (tlA (tlA (tlA r))))⟩
 ok r:=Ha4 4 r
 cks:=List.replicate 4 (.int .i64)
 d:=⟨0,0,0,0⟩
 h0 _:=rfl
 h1 _:=rfl
 h2 _:=rfl
 h3 _ h:=.of (fb5 h)
 h4 _:=rfl
 h5 _:=rfl
noncomputable def r1X:R1 Pt:=r1A tX 4 λ_ h=>h
structure Tp where
 p:Pln
 q:Pln
 r:Pln
noncomputable def tY:Ty Tp where
 es:=12
 row x:=[i x.p.n.x,i x.p.n.y,i x.p.n.z,i x.p.b,i x.q.n.x,i x.q.n.y,i x.q.n.z,i x.q.b,i x.r.n.x,i x.r.n.y,i x.r.n.z,i x.r.b]
 rd r:=⟨⟨⟨toI (hdA r),toI (hdA (tlA r)),toI (hdA (tlA (tlA r)))⟩,toI (hdA (tlA (tlA (tlA r))))⟩,⟨⟨toI (hdA (tlA (tlA (tlA (tlA r))))),toI (hdA (tlA (tlA (tlA (tlA (tlA r)))))),toI (hdA (tlA (tlA (tlA (tlA (tlA (tlA r)))))))⟩,toI (hdA (tlA (tlA (tlA (tlA (tlA (tlA (tlA r))))))))⟩,⟨⟨toI (hdA (tlA (tlA (tlA (tlA (tlA (tlA (tlA (tlA r))))))))),toI (hdA (tlA (tlA (tlA (tlA (tlA (tlA (tlA (tlA (tlA r)))))))))),toI (hdA (tlA (tlA (tlA (tlA (tlA (tlA (tlA (tlA (tlA (tlA r)))))))))))⟩,toI (hdA (tlA (tlA (tlA (tlA (tlA (tlA (tlA (tlA (tlA (tlA (tlA r))))))))))))⟩⟩
 ok r:=Ha4 12 r
 cks:=List.replicate 12 (.int .i64)
 d:=⟨⟨⟨0,0,0⟩,0⟩,⟨⟨0,0,0⟩,0⟩,⟨⟨0,0,0⟩,0⟩⟩
 h0 _:=rfl
 h1 _:=rfl
 h2 _:=rfl
 h3 _ h:=.of (fb5 h)
 h4 _:=rfl
 h5 _:=rfl
structure Q2 where
 a:V3
 b:V3
set_option maxRecDepth 100000
noncomputable def Vd2:List (Nat×Sum):=[]
theorem Hd4:i9 prog G Vd2:=trivial
noncomputable def Ua9(x:Pln)(y:Pt):Int:=(W ((W ((W ((W (x.b*y.pw))-(W (x.n.x*y.px))))-(W (x.n.y*y.py))))-(W (x.n.z*y.pz))))
noncomputable def Sb2:Sum:=ra8 (ha7 tP) (ha7 tX) (λx y=>.ret ((one r1I).enc (Ua9 x y),[]))
theorem ec3:i5 prog G 158 Sb2:=Ga2 (bd Rf1 Hd4) λx y=>y8 (by kernel_rfl)
noncomputable def ke0:List (Nat×Sum):=[]
theorem Vd3:i9 prog G ke0:=trivial
noncomputable def vb9(x:V3)(y:V3):V3:=(⟨W (x.x+y.x),W (x.y+y.y),W (x.z+y.z)⟩:V3)
noncomputable def zd2:Sum:=ra8 (ha7 tV) (ha7 tV) (λx y=>.ret ((one r1V).enc (vb9 x y),[]))
theorem ke1:i5 prog G 80 zd2:=Ga2 (bd b80 Vd3) λx y=>y8 (by kernel_rfl)
noncomputable def ke2:List (Nat×Sum):=[]
theorem Vd4:i9 prog G ke2:=trivial
noncomputable def Da9(x:V3)(y:V3):Int:=(W ((W ((W (x.x*y.x))+(W (x.y*y.y))))+(W (x.z*y.z))))
noncomputable def mc0:Sum:=ra8 (ha7 tV) (ha7 tV) (λx y=>.ret ((one r1I).enc (Da9 x y),[]))
theorem uc0:i5 prog G 84 mc0:=Ga2 (bd b84 Vd4) λx y=>y8 (by kernel_rfl)
noncomputable def Hd5:List (Nat×Sum):=[]
theorem pd7:i9 prog G Hd5:=trivial
noncomputable def aa5(x:V3)(y:V3):V3:=(⟨W ((W (x.y*y.z))-(W (x.z*y.y))),W ((W (x.z*y.x))-(W (x.x*y.z))),W ((W (x.x*y.y))-(W (x.y*y.x)))⟩:V3)
noncomputable def ec4:Sum:=ra8 (ha7 tV) (ha7 tV) (λx y=>.ret ((one r1V).enc (aa5 x y),[]))
theorem Bc5:i5 prog G 164 ec4:=Ga2 (bd Rf5 pd7) λx y=>y8 (by kernel_rfl)
noncomputable def pd8:List (Nat×Sum):=[]
theorem ed2:i9 prog G pd8:=trivial
noncomputable def X8(x:V3)(y:Int):V3:=(⟨W (x.x*y),W (x.y*y),W (x.z*y)⟩:V3)
noncomputable def Bc6:Sum:=ra8 (ha7 tV) cI (λx y=>.ret ((one r1V).enc (X8 x y),[]))
theorem pd9:i5 prog G 228 Bc6:=Ga2 (bd Uf3 ed2) λx y=>y8 (by kernel_rfl)
noncomputable def pc4:List (Nat×Sum):=[]
theorem ed3:i9 prog G pc4:=trivial
structure Ha6 where
structure ga0 where
 (is0 is1:Int)
noncomputable def Wb6(p:Ha6)(s:ga0):St:=⟨i s.is0::i s.is1::ra 10 [],[]⟩
noncomputable def wa3{α:Type}(k:ga0->α)(e:Nat->α)(z:α)(p:Ha6)(s:ga0):α:=(sl (s.is1 != 0) (sl (s.is1==0) z (k ⟨s.is1,Int.tmod s.is0 s.is1⟩)) (e 1))
noncomputable def Ba1(p:Ha6)(s:ga0):Stp ga0:=wa3 .next .exit .fail p s
noncomputable def yb4:Lo Ha6 ga0:=⟨En pc4,0,of4,[1,0,4,4],[0,1],.p,[⟨sIq::sIq::ru2 10 [],[],λa H=>(⟨⟩,⟨aIq a 0,aIq a 1⟩)⟩],Ba1,[(some 0,λp s=>upq (Wb6 p s) [(5,i s.is1),(6,b (s.is1 != 0))])],Wb6⟩
theorem Tc4:yb4.Ok:=Lo.ok [] (by kernel_rfl) .nil rfl (.cons (λa H=>by kernel_rfl) .nil) λp s=>(.of @wa3 (λF _ _ _ _ _=>by unfold wa3;(repeat' apply m0 (f:=F))<;>rfl) (by kernel_rfl))
noncomputable def Ya6(x:Int)(y:Int):Option (b7×List b8):=let t1:=(lp (Ba1 (⟨⟩:Ha6)) (⟨x,y⟩:ga0));(sl (Nat.beq t1.1 1) (some (i t1.2.is0,[])) none)
noncomputable def X9(x:Int)(y:Int):Int:=O3 (one r1I) (Ya6 x y)
noncomputable def Y0(x:Int)(y:Int):Bool:=okO (one r1I) (Ya6 x y)
noncomputable def Bc7:Sum:=ra8 cI cI (λx y=>.guard (Y0 x y) (.ret ((one r1I).enc (X9 x y),[])))
theorem qd0:i5 prog G 229 Bc7:=sb9 (bd Uf4 ed3) (one r1I) (o:=Ya6) λx y=>va6 (.s .p (.s (.b (.u yb4.ls)) .p)) [yb4.pr] (by kernel_rfl) (.cons Tc4 .nil) (by kernel_rfl)
noncomputable def Vd5:List (Nat×Sum):=[(164,ec4),(84,mc0),(228,Bc6),(80,zd2),(229,Bc7)]
theorem Hd6:i9 prog G Vd5:=⟨Bc5,uc0,pd9,ke1,qd0,trivial⟩
noncomputable def yb5(x:Pln)(y:Pln)(z:Pln):Option (b7×List b8):=let t1:=(aa5 y.n z.n);let t2:=(Da9 x.n t1);let t3:=(X8 t1 x.b);let t4:=(aa5 z.n x.n);let t5:=(X8 t4 y.b);let t6:=(vb9 t3 t5);let t7:=(aa5 x.n y.n);let t8:=(X8 t7 z.b);let t9:=(vb9 t6 t8);let t10:=(X8 t9 (-1));let t11:=(X9 (if (W (0-t10.x))>t10.x then (W (0-t10.x)) else t10.x) (if (W (0-t10.y))>t10.y then (W (0-t10.y)) else t10.y));let t12:=(X9 (if (W (0-t10.z))>t10.z then (W (0-t10.z)) else t10.z) (W (0-t2)));let t13:=(X9 t11 t12);let t14:=(X9 (if (W (0-t9.x))>t9.x then (W (0-t9.x)) else t9.x) (if (W (0-t9.y))>t9.y then (W (0-t9.y)) else t9.y));let t15:=(X9 (if (W (0-t9.z))>t9.z then (W (0-t9.z)) else t9.z) t2);let t16:=(X9 t14 t15);(sl (t2==0) (some (.tup [.agg [i 0,i 0,i 0,i 0],b false],[])) (sl (decide (t2<0)) (sl (Y0 (if (W (0-t10.x))>t10.x then (W (0-t10.x)) else t10.x) (if (W (0-t10.y))>t10.y then (W (0-t10.y)) else t10.y)) (sl (Y0 (if (W (0-t10.z))>t10.z then (W (0-t10.z)) else t10.z) (W (0-t2))) (sl (Y0 t11 t12) (sl (t13==0) none (sl (t13==0) none (sl (t13==0) none (sl (t13==0) none (some (.tup [.agg [i (W (Int.tdiv t10.x t13)),i (W (Int.tdiv t10.y t13)),i (W (Int.tdiv t10.z t13)),i (W (Int.tdiv (W (0-t2)) t13))],b true],[])))))) none) none) none) (sl (Y0 (if (W (0-t9.x))>t9.x then (W (0-t9.x)) else t9.x) (if (W (0-t9.y))>t9.y then (W (0-t9.y)) else t9.y)) (sl (Y0 (if (W (0-t9.z))>t9.z then (W (0-t9.z)) else t9.z) t2) (sl (Y0 t14 t15) (sl (t16==0) none (sl (t16==0) none (sl (t16==0) none (sl (t16==0) none (some (.tup [.agg [i (W (Int.tdiv t9.x t16)),i (W (Int.tdiv t9.y t16)),i (W (Int.tdiv t9.z t16)),i (W (Int.tdiv t2 t16))],b true],[])))))) none) none) none)))
noncomputable def yb6(x:Pln)(y:Pln)(z:Pln):Pt×Bool:=O3 (two r1X r1B) (yb5 x y z)
noncomputable def yb7(x:Pln)(y:Pln)(z:Pln):Bool:=okO (two r1X r1B) (yb5 x y z)
noncomputable def ed4:Sum:=Tc3 (ha7 tP) (ha7 tP) (ha7 tP) (λx y z=>.guard (yb7 x y z) (.ret ((two r1X r1B).enc (yb6 x y z),[])))
theorem Vd6:i5 prog G 209 ed4:=Ie7 (bd Tf8 Hd6) (two r1X r1B) (o:=yb5) λx y z=>y8 (by kernel_rfl)
noncomputable def zd3:List (Nat×Sum):=[(158,Sb2)]
theorem ke3:i9 prog G zd3:=⟨ec3,trivial⟩
structure yb8 where
 d7:List Pln
 (j9 d8 k8 k9:Int)
structure za6 where
 is5:Int
noncomputable def Pc8(p:yb8)(s:za6):St:=⟨eL tP p.d7::.unk::.unk::.ptr 0 0 0 0::.unk::i s.is5::ra 13 [],[⟨0,4,[[i p.j9,i p.d8,i p.k8,i p.k9]],true,false,0⟩]⟩
noncomputable def Ya7{α:Type}(k:za6->α)(e:Nat->α)(z:α)(p:yb8)(s:za6):α:=let t1:=(Ua9 (gL tP p.d7 s.is5.toNat) (⟨p.j9,p.d8,p.k8,p.k9⟩:Pt));(sl (decide (s.is5<(↑(List.length p.d7):Int))) (sl (inB s.is5 (List.length p.d7)) (sl (decide (t1<0)) (e 1) (k ⟨W (s.is5+1)⟩)) z) (e 2))
noncomputable def lb0(p:yb8)(s:za6):Stp za6:=Ya7 .next .exit .fail p s
noncomputable def uc1:Lo yb8 za6:=⟨En zd3,0,of1,[1,0,1,4,4],[0,3,5],.p,[⟨sLq tP::sUq::sUq::sPq 0::sUq::sIq::ru2 13 [],[⟨0,4,true,some [kLq 4]⟩],λa H=>(⟨aLq tP a 0,hIq H 0 0 0,hIq H 0 0 1,hIq H 0 0 2,hIq H 0 0 3⟩,⟨aIq a 5⟩)⟩],lb0,[(none,λp s=>⟨[b false],[]⟩),(some 0,λp s=>upq (Pc8 p s) [(6,i s.is5),(7,eL tP p.d7),(8,i (↑(List.length p.d7):Int)),(9,b (decide (s.is5<(↑(List.length p.d7):Int))))])],Pc8⟩
theorem Vd7:uc1.Ok:=Lo.ok [] (by kernel_rfl) .nil rfl (.cons (λa H=>by kernel_rfl) .nil) λp s=>(.of @Ya7 (λF _ _ _ _ _=>by unfold Ya7;(repeat' apply m0 (f:=F))<;>rfl) (by kernel_rfl))
noncomputable def ec5(x:List Pln)(y:Pt):Option (b7×List b8):=let t1:=(lp (lb0 (⟨rt tP x,y.px,y.py,y.pz,y.pw⟩:yb8)) (⟨0⟩:za6));(sl ((cnE tP x)&&true) (sl (Nat.beq t1.1 1) (some (b false,[])) (sl (Nat.beq t1.1 2) (some (b true,[])) none)) none)
noncomputable def Mb4(x:List Pln)(y:Pt):Bool:=O3 (one r1B) (ec5 x y)
noncomputable def Mb5(x:List Pln)(y:Pt):Bool:=okO (one r1B) (ec5 x y)
noncomputable def Vd8:Sum:=ra8 (P8 tP) (ha7 tX) (λx y=>.guard (Mb5 x y) (.ret ((one r1B).enc (Mb4 x y),[])))
theorem Be3:i5 prog G 210 Vd8:=sb9 (bd Tf9 ke3) (one r1B) (o:=ec5) λx y=>va6 (.s .p (.s (.s .p (.b (.u uc1.ls))) .p)) [uc1.pr] (by kernel_rfl) (.cons Vd7 .nil) (by kernel_rfl)
noncomputable def Bc8:List (Nat×Sum):=[]
theorem qd1:i9 prog G Bc8:=trivial
structure Qa2 where
 ta9:List Pt
 (j9 d8 k8 k9:Int)
structure ea7 where
 is5:Int
noncomputable def ec6(p:Qa2)(s:ea7):St:=⟨eL tX p.ta9::.unk::.unk::.ptr 0 0 0 0::.unk::i s.is5::ra 12 [],[⟨0,4,[[i p.j9,i p.d8,i p.k8,i p.k9]],true,false,0⟩]⟩
noncomputable def Ba2{α:Type}(k:ea7->α)(e:Nat->α)(z:α)(p:Qa2)(s:ea7):α:=(sl (decide (s.is5<(↑(List.length p.ta9):Int))) (sl (inB s.is5 (List.length p.ta9)) (sl (((gL tX p.ta9 s.is5.toNat).px==p.j9)&&(((gL tX p.ta9 s.is5.toNat).py==p.d8)&&(((gL tX p.ta9 s.is5.toNat).pz==p.k8)&&(((gL tX p.ta9 s.is5.toNat).pw==p.k9)&&true)))) (e 1) (k ⟨W (s.is5+1)⟩)) z) (e 2))
noncomputable def Ha7(p:Qa2)(s:ea7):Stp ea7:=Ba2 .next .exit .fail p s
noncomputable def Ib2:Lo Qa2 ea7:=⟨En Bc8,0,of2,[1,0,1,4,4],[0,3,5],.p,[⟨sLq tX::sUq::sUq::sPq 0::sUq::sIq::ru2 12 [],[⟨0,4,true,some [kLq 4]⟩],λa H=>(⟨aLq tX a 0,hIq H 0 0 0,hIq H 0 0 1,hIq H 0 0 2,hIq H 0 0 3⟩,⟨aIq a 5⟩)⟩],Ha7,[(none,λp s=>⟨[b true],[]⟩),(some 0,λp s=>upq (ec6 p s) [(6,i s.is5),(7,eL tX p.ta9),(8,i (↑(List.length p.ta9):Int)),(9,b (decide (s.is5<(↑(List.length p.ta9):Int))))])],ec6⟩
theorem ed5:Ib2.Ok:=Lo.ok [] (by kernel_rfl) .nil rfl (.cons (λa H=>by kernel_rfl) .nil) λp s=>(.of @Ba2 (λF _ _ _ _ _=>by unfold Ba2;(repeat' apply m0 (f:=F))<;>rfl) (by kernel_rfl))
noncomputable def lb1(x:List Pt)(y:Pt):Option (b7×List b8):=let t1:=(lp (Ha7 (⟨rt tX x,y.px,y.py,y.pz,y.pw⟩:Qa2)) (⟨0⟩:ea7));(sl ((cnE tX x)&&true) (sl (Nat.beq t1.1 1) (some (b true,[])) (sl (Nat.beq t1.1 2) (some (b false,[])) none)) none)
noncomputable def Wa1(x:List Pt)(y:Pt):Bool:=O3 (one r1B) (lb1 x y)
noncomputable def Wa2(x:List Pt)(y:Pt):Bool:=okO (one r1B) (lb1 x y)
noncomputable def Pc9:Sum:=ra8 (P8 tX) (ha7 tX) (λx y=>.guard (Wa2 x y) (.ret ((one r1B).enc (Wa1 x y),[])))
theorem Hd7:i5 prog G 211 Pc9:=sb9 (bd Uf0 qd1) (one r1B) (o:=lb1) λx y=>va6 (.s .p (.s (.s .p (.b (.u Ib2.ls))) .p)) [Ib2.pr] (by kernel_rfl) (.cons ed5 .nil) (by kernel_rfl)
noncomputable def Ya8:List (Nat×Sum):=[(209,ed4),(210,Vd8),(211,Pc9)]
theorem Tc5:i9 prog G Ya8:=⟨Vd6,Be3,Hd7,trivial⟩
structure T8 where
 d7:List Pln
 (is4 is5:Int)
structure y5 where
 ph:Nat
 is6:Int
 ns3:Nat
 eh0:List (List b7)
noncomputable def Fb5(p:T8)(s:y5):St:=⟨eL tP p.d7::.unk::.unk::.v (.slice none 0 0)::i p.is4::i p.is5::i s.is6::ra 57 [],[]⟩
noncomputable def Fb6(p:T8)(s:y5):St:=⟨eL tP p.d7::.unk::.unk::.sl 0 0 s.ns3 0::i p.is4::i p.is5::i s.is6::ra 57 [],[⟨136,4,s.eh0,true,false,0⟩]⟩
noncomputable def Jc5(p:T8)(s:y5):St:=(sel (Nat.beq s.ph 1) (Fb6 p s) (Fb5 p s))
noncomputable def Y1{α:Type}(k:y5->α)(e:Nat->α)(z:α)(p:T8)(s:y5):α:=let t1:=(yb6 (gL tP p.d7 p.is4.toNat) (gL tP p.d7 p.is5.toNat) (gL tP p.d7 s.is6.toNat));let t2:=(Mb4 (rt tP p.d7) t1.1);let t3:=(Wa1 [] t1.1);(sl (decide (s.is6<(↑(List.length p.d7):Int))) (sl (inB p.is4 (List.length p.d7)) (sl (inB p.is5 (List.length p.d7)) (sl (inB s.is6 (List.length p.d7)) (sl (yb7 (gL tP p.d7 p.is4.toNat) (gL tP p.d7 p.is5.toNat) (gL tP p.d7 s.is6.toNat)) (sl t1.2 (sl (okE tP p.d7) (sl (Mb5 (rt tP p.d7) t1.1) (sl t2 (sl (Wa2 [] t1.1) (sl (!t3) (k ⟨1,W (s.is6+1),1,[[i t1.1.px,i t1.1.py,i t1.1.pz,i t1.1.pw]]⟩) (k ⟨0,W (s.is6+1),0,[]⟩)) z) (k ⟨0,W (s.is6+1),0,[]⟩)) z) z) (k ⟨0,W (s.is6+1),0,[]⟩)) z) z) z) z) (e 1))
noncomputable def Y2{α:Type}(k:y5->α)(e:Nat->α)(z:α)(p:T8)(s:y5):α:=let t1:=(yb6 (gL tP p.d7 p.is4.toNat) (gL tP p.d7 p.is5.toNat) (gL tP p.d7 s.is6.toNat));let t2:=(Mb4 (rt tP p.d7) t1.1);let t3:=(Wa1 (slR tX s.eh0 0 s.ns3) t1.1);(sl (decide (s.is6<(↑(List.length p.d7):Int))) (sl (inB p.is4 (List.length p.d7)) (sl (inB p.is5 (List.length p.d7)) (sl (inB s.is6 (List.length p.d7)) (sl (yb7 (gL tP p.d7 p.is4.toNat) (gL tP p.d7 p.is5.toNat) (gL tP p.d7 s.is6.toNat)) (sl t1.2 (sl (okE tP p.d7) (sl (Mb5 (rt tP p.d7) t1.1) (sl t2 (sl (okS tX s.eh0 0 s.ns3) (sl (Wa2 (slR tX s.eh0 0 s.ns3) t1.1) (sl (!t3) (sl (Nat.beq s.ns3 (len s.eh0)&&Nat.ble ((s.ns3+1)*32) room) (k ⟨1,W (s.is6+1),s.ns3+1,app s.eh0 [[i t1.1.px,i t1.1.py,i t1.1.pz,i t1.1.pw]]⟩) z) (k ⟨1,W (s.is6+1),s.ns3,s.eh0⟩)) z) z) (k ⟨1,W (s.is6+1),s.ns3,s.eh0⟩)) z) z) (k ⟨1,W (s.is6+1),s.ns3,s.eh0⟩)) z) z) z) z) (e 2))
noncomputable def V5(p:T8)(s:y5):Stp y5:=(sel (Nat.beq s.ph 1) (Y2 .next .exit .fail p s) (Y1 .next .exit .fail p s))
noncomputable def pb1:Lo T8 y5:=⟨En Ya8,0,qe8,[1,1,0,1,4,4,1,0,4,1,4,4,1,0,4,1,4,4],[0,3,4,5,6],.p,[⟨sLq tP::sUq::sUq::.s (.o .nil)::sIq::sIq::sIq::ru2 57 [],[],λa H=>(⟨aLq tP a 0,aIq a 4,aIq a 5⟩,⟨0,aIq a 6,0,[]⟩)⟩,⟨sLq tP::sUq::sUq::.s (.o (.sl 0 0 (some 0) none))::sIq::sIq::sIq::ru2 57 [],[⟨136,4,true,none⟩],λa H=>(⟨aLq tP a 0,aIq a 4,aIq a 5⟩,⟨1,aIq a 6,slN (slT a 3),elT H 0⟩)⟩],V5,[(some 4,λp s=>upq (Fb5 p s) [(25,i s.is6),(26,eL tP p.d7),(27,i (↑(List.length p.d7):Int)),(28,b (decide (s.is6<(↑(List.length p.d7):Int))))]),(some 4,λp s=>upq (Fb6 p s) [(25,i s.is6),(26,eL tP p.d7),(27,i (↑(List.length p.d7):Int)),(28,b (decide (s.is6<(↑(List.length p.d7):Int))))])],Jc5⟩
theorem Jc6:pb1.Ok:=Lo.ok [] (by kernel_rfl) .nil rfl (.cons (λa H=>by kernel_rfl) (.cons (λa H=>by kernel_rfl) .nil)) λp s=>(.sel (Nat.beq s.ph 1) (.of @Y2 (λF _ _ _ _ _=>by unfold Y2;(repeat' apply m0 (f:=F))<;>rfl) (by kernel_rfl)) (.of @Y1 (λF _ _ _ _ _=>by unfold Y1;(repeat' apply m0 (f:=F))<;>rfl) (by kernel_rfl)))
structure T9 where
 is4:Int
structure A3 where
 ph:Nat
 d7:List Pln
 is5:Int
 ns3:Nat
 eh0:List (List b7)
noncomputable def Fb7(p:T9)(s:A3):St:=⟨eL tP s.d7::.unk::.unk::.v (.slice none 0 0)::i p.is4::i s.is5::ra 58 [],[]⟩
noncomputable def Fb8(p:T9)(s:A3):St:=⟨eL tP s.d7::.unk::.unk::.sl 0 0 s.ns3 0::i p.is4::i s.is5::ra 58 [],[⟨136,4,s.eh0,true,false,0⟩]⟩
noncomputable def Jc7(p:T9)(s:A3):St:=(sel (Nat.beq s.ph 1) (Fb8 p s) (Fb7 p s))
noncomputable def Y3{α:Type}(k:A3->α)(e:Nat->α)(z:α)(p:T9)(s:A3):α:=let t1:=(lp (V5 (⟨rt tP s.d7,p.is4,s.is5⟩:T8)) (⟨0,W (s.is5+1),0,[]⟩:y5));(sl (decide (s.is5<(↑(List.length s.d7):Int))) (sl ((cnE tP s.d7)&&true) (sl (Nat.beq t1.1 1) (k ⟨0,rt tP s.d7,W (s.is5+1),0,[]⟩) (sl (Nat.beq t1.1 2) (k ⟨1,rt tP s.d7,W (s.is5+1),t1.2.ns3,t1.2.eh0⟩) z)) z) (e 1))
noncomputable def Y4{α:Type}(k:A3->α)(e:Nat->α)(z:α)(p:T9)(s:A3):α:=let t1:=(lp (V5 (⟨rt tP s.d7,p.is4,s.is5⟩:T8)) (⟨1,W (s.is5+1),s.ns3,s.eh0⟩:y5));(sl (decide (s.is5<(↑(List.length s.d7):Int))) (sl ((cnE tP s.d7)&&true) (sl (Nat.beq t1.1 1) (k ⟨0,rt tP s.d7,W (s.is5+1),0,[]⟩) (sl (Nat.beq t1.1 2) (k ⟨1,rt tP s.d7,W (s.is5+1),t1.2.ns3,t1.2.eh0⟩) z)) z) (e 2))
noncomputable def P9(p:T9)(s:A3):Stp A3:=(sel (Nat.beq s.ph 1) (Y4 .next .exit .fail p s) (Y3 .next .exit .fail p s))
noncomputable def pb2:Lo T9 A3:=⟨En Ya8,0,qe8,[1,1,0,1,4,4,1,0,4,1,4,4],[0,3,4,5],.s .p (.s (.b (.s .p (.b (.u pb1.ls)))) .p),[⟨sLq tP::sUq::sUq::.s (.o .nil)::sIq::sIq::ru2 58 [],[],λa H=>(⟨aIq a 4⟩,⟨0,aLq tP a 0,aIq a 5,0,[]⟩)⟩,⟨sLq tP::sUq::sUq::.s (.o (.sl 0 0 (some 0) none))::sIq::sIq::ru2 58 [],[⟨136,4,true,none⟩],λa H=>(⟨aIq a 4⟩,⟨1,aLq tP a 0,aIq a 5,slN (slT a 3),elT H 0⟩)⟩],P9,[(some 2,λp s=>upq (Fb7 p s) [(17,i s.is5),(18,eL tP s.d7),(19,i (↑(List.length s.d7):Int)),(20,b (decide (s.is5<(↑(List.length s.d7):Int))))]),(some 2,λp s=>upq (Fb8 p s) [(17,i s.is5),(18,eL tP s.d7),(19,i (↑(List.length s.d7):Int)),(20,b (decide (s.is5<(↑(List.length s.d7):Int))))])],Jc7⟩
theorem Jc8:pb2.Ok:=Lo.ok [pb1.pr] (by kernel_rfl) (.cons Jc6 .nil) rfl (.cons (λa H=>by kernel_rfl) (.cons (λa H=>by kernel_rfl) .nil)) λp s=>(.sel (Nat.beq s.ph 1) (.of @Y4 (λF _ _ _ _ _=>by unfold Y4;(repeat' apply m0 (f:=F))<;>rfl) (by kernel_rfl)) (.of @Y3 (λF _ _ _ _ _=>by unfold Y3;(repeat' apply m0 (f:=F))<;>rfl) (by kernel_rfl)))
structure aa6 where
structure E0 where
 ph:Nat
 d7:List Pln
 is4:Int
 ns3:Nat
 eh0:List (List b7)
noncomputable def Fb9(p:aa6)(s:E0):St:=⟨eL tP s.d7::.unk::.unk::.v (.slice none 0 0)::i s.is4::ra 59 [],[]⟩
noncomputable def Gb0(p:aa6)(s:E0):St:=⟨eL tP s.d7::.unk::.unk::.sl 0 0 s.ns3 0::i s.is4::ra 59 [],[⟨136,4,s.eh0,true,false,0⟩]⟩
noncomputable def Jc9(p:aa6)(s:E0):St:=(sel (Nat.beq s.ph 1) (Gb0 p s) (Fb9 p s))
noncomputable def Y5{α:Type}(k:E0->α)(e:Nat->α)(z:α)(p:aa6)(s:E0):α:=let t1:=(lp (P9 (⟨s.is4⟩:T9)) (⟨0,rt tP s.d7,W (s.is4+1),0,[]⟩:A3));(sl (decide (s.is4<(↑(List.length s.d7):Int))) (sl ((cnE tP s.d7)&&true) (sl (Nat.beq t1.1 1) (k ⟨0,t1.2.d7,W (s.is4+1),0,[]⟩) (sl (Nat.beq t1.1 2) (k ⟨1,t1.2.d7,W (s.is4+1),t1.2.ns3,t1.2.eh0⟩) z)) z) (e 1))
noncomputable def Y6{α:Type}(k:E0->α)(e:Nat->α)(z:α)(p:aa6)(s:E0):α:=let t1:=(lp (P9 (⟨s.is4⟩:T9)) (⟨1,rt tP s.d7,W (s.is4+1),s.ns3,s.eh0⟩:A3));(sl (decide (s.is4<(↑(List.length s.d7):Int))) (sl ((cnE tP s.d7)&&true) (sl (Nat.beq t1.1 1) (k ⟨0,t1.2.d7,W (s.is4+1),0,[]⟩) (sl (Nat.beq t1.1 2) (k ⟨1,t1.2.d7,W (s.is4+1),t1.2.ns3,t1.2.eh0⟩) z)) z) (e 2))
noncomputable def V6(p:aa6)(s:E0):Stp E0:=(sel (Nat.beq s.ph 1) (Y6 .next .exit .fail p s) (Y5 .next .exit .fail p s))
noncomputable def pb3:Lo aa6 E0:=⟨En Ya8,0,qe8,[1,1,0,1,4,4],[0,3,4],.s .p (.s (.b (.s .p (.b (.u pb2.ls)))) .p),[⟨sLq tP::sUq::sUq::.s (.o .nil)::sIq::ru2 59 [],[],λa H=>(⟨⟩,⟨0,aLq tP a 0,aIq a 4,0,[]⟩)⟩,⟨sLq tP::sUq::sUq::.s (.o (.sl 0 0 (some 0) none))::sIq::ru2 59 [],[⟨136,4,true,none⟩],λa H=>(⟨⟩,⟨1,aLq tP a 0,aIq a 4,slN (slT a 3),elT H 0⟩)⟩],V6,[(some 0,λp s=>upq (Fb9 p s) [(9,i s.is4),(10,eL tP s.d7),(11,i (↑(List.length s.d7):Int)),(12,b (decide (s.is4<(↑(List.length s.d7):Int))))]),(some 0,λp s=>upq (Gb0 p s) [(9,i s.is4),(10,eL tP s.d7),(11,i (↑(List.length s.d7):Int)),(12,b (decide (s.is4<(↑(List.length s.d7):Int))))])],Jc9⟩
theorem Kc0:pb3.Ok:=Lo.ok [pb2.pr] (by kernel_rfl) (.cons Jc8 .nil) rfl (.cons (λa H=>by kernel_rfl) (.cons (λa H=>by kernel_rfl) .nil)) λp s=>(.sel (Nat.beq s.ph 1) (.of @Y6 (λF _ _ _ _ _=>by unfold Y6;(repeat' apply m0 (f:=F))<;>rfl) (by kernel_rfl)) (.of @Y5 (λF _ _ _ _ _=>by unfold Y5;(repeat' apply m0 (f:=F))<;>rfl) (by kernel_rfl)))
noncomputable def Qa3(x:List Pln):Option (b7×List b8):=let t1:=(lp (V6 (⟨⟩:aa6)) (⟨0,rt tP x,0,0,[]⟩:E0));(sl ((cnE tP x)&&true) (sl (Nat.beq t1.1 1) (some (.v (.slice none 0 0),[])) (sl (Nat.beq t1.1 2) (some (.sl 0 0 t1.2.ns3 0,[⟨136,4,t1.2.eh0,true,false,0⟩])) none)) none)
noncomputable def Qa4(x:List Pln):List Pt:=O3 (one (r1L tX)) (Qa3 x)
noncomputable def Qa5(x:List Pln):Bool:=okO (one (r1L tX)) (Qa3 x)
noncomputable def Ib3:Sum:=X7 (P8 tP) (λx=>.guard (Qa5 x) (.ret ((one (r1L tX)).enc (Qa4 x),[])))
theorem ec7:i5 prog G 181 Ib3:=Ha5 (bd Sf6 Tc5) (one (r1L tX)) (o:=Qa3) λx=>va6 (.s .p (.s .p (.s (.s .p (.b (.u pb3.ls))) .p))) [pb3.pr] (by kernel_rfl) (.cons Kc0 .nil) (by kernel_rfl)
noncomputable def Gb1:List (Nat×Sum):=[]
theorem uc2:i9 prog G Gb1:=trivial
@[reducible] noncomputable def La9:Sum:=Lb5 (En Gb1) nf5
theorem Ya9:i5 prog G 191 La9:=bd Tf1 uc2
noncomputable def Tc6:List (Nat×Sum):=[]
theorem Kc1:i9 prog G Tc6:=trivial
noncomputable def Ha8(x:Int):Option (b7×List b8):=(sl (decide (x<0)) (some (i (W (0-x)),[])) (some (i x,[])))
noncomputable def wa4(x:Int):Int:=O3 (one r1I) (Ha8 x)
noncomputable def wa5(x:Int):Bool:=okO (one r1I) (Ha8 x)
noncomputable def ec8:Sum:=X7 cI (λx=>.guard (wa5 x) (.ret ((one r1I).enc (wa4 x),[])))
theorem Tc7:i5 prog G 184 ec8:=Ha5 (bd Sf9 Kc1) (one r1I) (o:=Ha8) λx=>y8 (by kernel_rfl)
noncomputable def Qc0:List (Nat×Sum):=[(184,ec8),(191,La9)]
theorem Hd8:i9 prog G Qc0:=⟨Tc7,Ya9,trivial⟩
structure sa0 where
 (is6 j9 d8 k8 kb4 kb5 kb6:Int)
structure Y7 where
 (is5 is7:Int)
noncomputable def pc5(p:sa0)(s:Y7):St:=⟨.unk::.ptr 0 0 0 0::.ptr 1 0 0 0::.unk::.ptr 2 0 0 0::i s.is5::i p.is6::i s.is7::ra 38 [],[⟨0,3,[[i p.j9,i p.d8,i p.k8]],true,false,0⟩,⟨0,3,[[i 0,i 0,i 0]],true,false,0⟩,⟨0,3,[[i p.kb4,i p.kb5,i p.kb6]],true,false,0⟩]⟩
noncomputable def Ha9{α:Type}(k:Y7->α)(e:Nat->α)(z:α)(p:sa0)(s:Y7):α:=(sl (decide (s.is7>0)) (sl (s.is7==0) z (k ⟨s.is7,Int.tmod s.is5 s.is7⟩)) (e 1))
noncomputable def ma7(p:sa0)(s:Y7):Stp Y7:=Ha9 .next .exit .fail p s
noncomputable def Sb3:Lo sa0 Y7:=⟨En Qc0,0,mf7,[1,1,1,0,1,4,4,1,0,4,1,1,4,4],[1,2,4,5,6,7],.p,[⟨sUq::sPq 0::sPq 1::sUq::sPq 2::sIq::sIq::sIq::ru2 38 [],[⟨0,3,true,some [kLq 3]⟩,⟨0,3,true,some [[.o (.lit .i64 0),.o (.lit .i64 0),.o (.lit .i64 0)]]⟩,⟨0,3,true,some [kLq 3]⟩],λa H=>(⟨aIq a 6,hIq H 0 0 0,hIq H 0 0 1,hIq H 0 0 2,hIq H 2 0 0,hIq H 2 0 1,hIq H 2 0 2⟩,⟨aIq a 5,aIq a 7⟩)⟩],ma7,[(some 2,λp s=>upq (pc5 p s) [(23,i s.is7),(24,b (decide (s.is7>0)))])],pc5⟩
theorem qd2:Sb3.Ok:=Lo.ok [] (by kernel_rfl) .nil rfl (.cons (λa H=>by kernel_rfl) .nil) λp s=>(.of @Ha9 (λF _ _ _ _ _=>by unfold Ha9;(repeat' apply m0 (f:=F))<;>rfl) (by kernel_rfl))
noncomputable def yb9(x:V3):Option (b7×List b8):=let t1:=(wa4 x.x);let t2:=(lp (ma7 (⟨0,x.x,x.y,x.z,x.x,x.y,x.z⟩:sa0)) (⟨0,t1⟩:Y7));let t3:=(wa4 x.y);let t4:=(lp (ma7 (⟨1,x.x,x.y,x.z,x.x,x.y,x.z⟩:sa0)) (⟨t2.2.is5,t3⟩:Y7));let t5:=(wa4 x.z);let t6:=(lp (ma7 (⟨2,x.x,x.y,x.z,x.x,x.y,x.z⟩:sa0)) (⟨t4.2.is5,t5⟩:Y7));(sl (x.x==(-9223372036854775808)) (some (.tup [.agg [i 0,i 0,i 0],i 0],[])) (sl (wa5 x.x) (sl (Nat.beq t2.1 1) (sl (x.y==(-9223372036854775808)) (some (.tup [.agg [i 0,i 0,i 0],i 0],[])) (sl (wa5 x.y) (sl (Nat.beq t4.1 1) (sl (x.z==(-9223372036854775808)) (some (.tup [.agg [i 0,i 0,i 0],i 0],[])) (sl (wa5 x.z) (sl (Nat.beq t6.1 1) (sl (t6.2.is5==0) (some (.tup [.agg [i 0,i 0,i 0],i 0],[])) (sl (t6.2.is5==0) none (sl (t6.2.is5==0) none (sl (t6.2.is5==0) none (some (.tup [.agg [i (W (Int.tdiv x.x t6.2.is5)),i (W (Int.tdiv x.y t6.2.is5)),i (W (Int.tdiv x.z t6.2.is5))],i t6.2.is5],[])))))) none) none)) none) none)) none) none))
noncomputable def Va0(x:V3):V3×Int:=O3 (two r1V r1I) (yb9 x)
noncomputable def zb0(x:V3):Bool:=okO (two r1V r1I) (yb9 x)
noncomputable def uc3:Sum:=X7 (ha7 tV) (λx=>.guard (zb0 x) (.ret ((two r1V r1I).enc (Va0 x),[])))
theorem Qc1:i5 prog G 163 uc3:=Ha5 (bd Rf4 Hd8) (two r1V r1I) (o:=yb9) λx=>va6 (.s .p (.s .p (.s .p (.s (.s .p (.b (.l (.s .p (.s (.b (.s .p (.s .p (.b (.u Sb3.ls))))) .p))))) .p)))) [Sb3.pr] (by kernel_rfl) (.cons qd2 .nil) (by kernel_rfl)
noncomputable def Hd9:List (Nat×Sum):=[(163,uc3),(191,La9)]
theorem qd3:i9 prog G Hd9:=⟨Qc1,Ya9,trivial⟩
noncomputable def lb2(x:Pln):Option (b7×List b8):=let t1:=(Va0 x.n);(sl (decide (x.n.x<(-4608))) (some (b false,[])) (sl (decide (x.n.x>4608)) (some (b false,[])) (sl (decide (x.n.y<(-4608))) (some (b false,[])) (sl (decide (x.n.y>4608)) (some (b false,[])) (sl (decide (x.n.z<(-4608))) (some (b false,[])) (sl (decide (x.n.z>4608)) (some (b false,[])) (sl (zb0 x.n) (sl (t1.2==1) (sl (decide (x.b>=(-2097152))) (some (b (decide (x.b<=2097152)),[])) (some (b false,[]))) (some (b false,[]))) none)))))))
noncomputable def lb3(x:Pln):Bool:=O3 (one r1B) (lb2 x)
noncomputable def lb4(x:Pln):Bool:=okO (one r1B) (lb2 x)
noncomputable def ec9:Sum:=X7 (ha7 tP) (λx=>.guard (lb4 x) (.ret ((one r1B).enc (lb3 x),[])))
theorem Bc9:i5 prog G 156 ec9:=Ha5 (bd Qf9 qd3) (one r1B) (o:=lb2) λx=>y8 (by kernel_rfl)
noncomputable def Cc0:List (Nat×Sum):=[(156,ec9)]
theorem qd4:i9 prog G Cc0:=⟨Bc9,trivial⟩
structure Qa6 where
 d7:List Pln
structure ea8 where
 is3:Int
noncomputable def fc0(p:Qa6)(s:ea8):St:=⟨eL tP p.d7::.unk::.unk::i s.is3::ra 15 [],[]⟩
noncomputable def Ba3{α:Type}(k:ea8->α)(e:Nat->α)(z:α)(p:Qa6)(s:ea8):α:=let t1:=(lb3 (gL tP p.d7 s.is3.toNat));(sl (decide (s.is3<(↑(List.length p.d7):Int))) (sl (inB s.is3 (List.length p.d7)) (sl (lb4 (gL tP p.d7 s.is3.toNat)) (sl (!t1) (e 1) (k ⟨W (s.is3+1)⟩)) z) z) (e 2))
noncomputable def Ia0(p:Qa6)(s:ea8):Stp ea8:=Ba3 .next .exit .fail p s
noncomputable def Ib4:Lo Qa6 ea8:=⟨En Cc0,0,lf8,[1,1,0,1,4,4],[0,3],.p,[⟨sLq tP::sUq::sUq::sIq::ru2 15 [],[],λa H=>(⟨aLq tP a 0⟩,⟨aIq a 3⟩)⟩],Ia0,[(none,λp s=>⟨[i 12],[]⟩),(some 0,λp s=>upq (fc0 p s) [(7,i s.is3),(8,eL tP p.d7),(9,i (↑(List.length p.d7):Int)),(10,b (decide (s.is3<(↑(List.length p.d7):Int))))])],fc0⟩
theorem ed6:Ib4.Ok:=Lo.ok [] (by kernel_rfl) .nil rfl (.cons (λa H=>by kernel_rfl) .nil) λp s=>(.of @Ba3 (λF _ _ _ _ _=>by unfold Ba3;(repeat' apply m0 (f:=F))<;>rfl) (by kernel_rfl))
noncomputable def lb5(x:List Pln):Option (b7×List b8):=let t1:=(lp (Ia0 (⟨rt tP x⟩:Qa6)) (⟨0⟩:ea8));(sl (decide ((↑(List.length x):Int)>48)) (some (i 2,[])) (sl ((cnE tP x)&&true) (sl (Nat.beq t1.1 1) (some (i 12,[])) (sl (Nat.beq t1.1 2) (some (i 0,[])) none)) none))
noncomputable def lb6(x:List Pln):Int:=O3 (one r1I) (lb5 x)
noncomputable def lb7(x:List Pln):Bool:=okO (one r1I) (lb5 x)
noncomputable def fc1:Sum:=X7 (P8 tP) (λx=>.guard (lb7 x) (.ret ((one r1I).enc (lb6 x),[])))
theorem Cc1:i5 prog G 100 fc1:=Ha5 (bd Of0 qd4) (one r1I) (o:=lb5) λx=>va6 (.s .p (.s .p (.s (.s .p (.b (.u Ib4.ls))) .p))) [Ib4.pr] (by kernel_rfl) (.cons ed6 .nil) (by kernel_rfl)
noncomputable def ke4:List (Nat×Sum):=[]
theorem Vd9:i9 prog G ke4:=trivial
noncomputable def mc1(x:V3)(y:V3):Option (b7×List b8):=(some (.sl 0 0 6 0,[⟨73,4,[[i 1,i 0,i 0,i y.x],[i (-1),i 0,i 0,i (W (0-x.x))],[i 0,i 1,i 0,i y.y],[i 0,i (-1),i 0,i (W (0-x.y))],[i 0,i 0,i 1,i y.z],[i 0,i 0,i (-1),i (W (0-x.z))]],true,false,0⟩]))
noncomputable def Mb6(x:V3)(y:V3):List Pln:=O3 (one (r1L tP)) (mc1 x y)
noncomputable def Mb7(x:V3)(y:V3):Bool:=okO (one (r1L tP)) (mc1 x y)
noncomputable def Kc2:Sum:=ra8 (ha7 tV) (ha7 tV) (λx y=>.guard (Mb7 x y) (.ret ((one (r1L tP)).enc (Mb6 x y),[])))
theorem ed7:i5 prog G 63 Kc2:=sb9 (bd b63 Vd9) (one (r1L tP)) (o:=mc1) λx y=>y8 (by kernel_rfl)
noncomputable def ke5:List (Nat×Sum):=[(63,Kc2)]
theorem Wd0:i9 prog G ke5:=⟨ed7,trivial⟩
noncomputable def Mb8(x:List Pln):Option (b7×List b8):=let t1:=(Mb6 (⟨-24,-24,-24⟩:V3) (⟨24,24,24⟩:V3));(sl (Nat.beq 0 0&&Nat.ble ((0+(len (p5 (λk=>(tP).row (gL tP x k)) (List.range (List.length x)))))*32) room) (sl (Mb7 (⟨-24,-24,-24⟩:V3) (⟨24,24,24⟩:V3)) (sl (Nat.beq (0+(len (p5 (λk=>(tP).row (gL tP x k)) (List.range (List.length x))))) (len (app [] (p5 (λk=>(tP).row (gL tP x k)) (List.range (List.length x)))))&&Nat.ble (((0+(len (p5 (λk=>(tP).row (gL tP x k)) (List.range (List.length x)))))+(len (p5 (λk=>(tP).row (gL tP t1 k)) (List.range (List.length t1)))))*32) room) (some ((.sl 0 0 ((0+(len (p5 (λk=>(tP).row (gL tP x k)) (List.range (List.length x)))))+(len (p5 (λk=>(tP).row (gL tP t1 k)) (List.range (List.length t1))))) 0),[⟨73,4,(app (app [] (p5 (λk=>(tP).row (gL tP x k)) (List.range (List.length x)))) (p5 (λk=>(tP).row (gL tP t1 k)) (List.range (List.length t1)))),true,false,0⟩])) none) none) none)
noncomputable def Mb9(x:List Pln):List Pln:=O3 (one (r1L tP)) (Mb8 x)
noncomputable def Nb0(x:List Pln):Bool:=okO (one (r1L tP)) (Mb8 x)
noncomputable def Kc3:Sum:=X7 (P8 tP) (λx=>.guard (Nb0 x) (.ret ((one (r1L tP)).enc (Mb9 x),[])))
theorem ed8:i5 prog G 124 Kc3:=Ha5 (bd Pf5 Wd0) (one (r1L tP)) (o:=Mb8) λx=>y8 (by kernel_rfl)
noncomputable def qd5:List (Nat×Sum):=[(100,fc1),(124,Kc3),(181,Ib3)]
theorem ed9:i9 prog G qd5:=⟨Cc1,ed8,ec7,trivial⟩
noncomputable def Za0(x:List Pln):Option (b7×List b8):=let t1:=(lb6 (rt tP x));let t2:=(Mb9 (rt tP x));let t3:=(Qa4 (rt tP t2));(sl (okE tP x) (sl (lb7 (rt tP x)) (sl (t1 != 0) (some (.v (.slice none 0 0),[])) (sl (okE tP x) (sl (Nb0 (rt tP x)) (sl (okE tP t2) (sl (Qa5 (rt tP t2)) (some (eL tX t3,[])) none) none) none) none)) none) none)
noncomputable def tb0(x:List Pln):List Pt:=O3 (one (r1L tX)) (Za0 x)
noncomputable def tb1(x:List Pln):Bool:=okO (one (r1L tX)) (Za0 x)
noncomputable def Cc2:Sum:=X7 (P8 tP) (λx=>.guard (tb1 x) (.ret ((one (r1L tX)).enc (tb0 x),[])))
theorem qd6:i5 prog G 157 Cc2:=Ha5 (bd Rf0 ed9) (one (r1L tX)) (o:=Za0) λx=>y8 (by kernel_rfl)
noncomputable def fc2:List (Nat×Sum):=[(181,Ib3),(158,Sb2)]
theorem Id0:i9 prog G fc2:=⟨ec7,ec3,trivial⟩
structure Za1 where
 d7:List Pln
 V1:List Pt
 is4:Int
structure sa1 where
 bs5:Bool
 is6:Int
noncomputable def pc6(p:Za1)(s:sa1):St:=⟨eL tP p.d7::.unk::.unk::eL tX p.V1::i p.is4::b s.bs5::i s.is6::ra 29 [],[]⟩
noncomputable def Ia1{α:Type}(k:sa1->α)(e:Nat->α)(z:α)(p:Za1)(s:sa1):α:=let t1:=(Ua9 (gL tP p.d7 p.is4.toNat) (gL tX p.V1 s.is6.toNat));(sl (decide (s.is6<(↑(List.length p.V1):Int))) (sl s.bs5 (k ⟨true,W (s.is6+1)⟩) (sl (inB p.is4 (List.length p.d7)) (sl (inB s.is6 (List.length p.V1)) (k ⟨decide (t1>0),W (s.is6+1)⟩) z) z)) (e 1))
noncomputable def Ea0(p:Za1)(s:sa1):Stp sa1:=Ia1 .next .exit .fail p s
noncomputable def Sb4:Lo Za1 sa1:=⟨En fc2,0,Me8,[1,1,0,1,4,4,1,0,4,1,0,1,4,4],[0,3,4,5,6],.p,[⟨sLq tP::sUq::sUq::sLq tX::sIq::sBq::sIq::ru2 29 [],[],λa H=>(⟨aLq tP a 0,aLq tX a 3,aIq a 4⟩,⟨aBq a 5,aIq a 6⟩)⟩],Ea0,[(some 2,λp s=>upq (pc6 p s) [(15,i s.is6),(16,eL tX p.V1),(17,i (↑(List.length p.V1):Int)),(18,b (decide (s.is6<(↑(List.length p.V1):Int))))])],pc6⟩
theorem qd7:Sb4.Ok:=Lo.ok [] (by kernel_rfl) .nil rfl (.cons (λa H=>by kernel_rfl) .nil) λp s=>(.of @Ia1 (λF _ _ _ _ _=>by unfold Ia1;(repeat' apply m0 (f:=F))<;>rfl) (by kernel_rfl))
structure Za2 where
structure ka2 where
 d7:List Pln
 V1:List Pt
 is4:Int
noncomputable def pc7(p:Za2)(s:ka2):St:=⟨eL tP s.d7::.unk::.unk::eL tX s.V1::i s.is4::ra 31 [],[]⟩
noncomputable def Ia2{α:Type}(k:ka2->α)(e:Nat->α)(z:α)(p:Za2)(s:ka2):α:=let t1:=(lp (Ea0 (⟨rt tP s.d7,rt tX s.V1,s.is4⟩:Za1)) (⟨false,0⟩:sa1));(sl (decide (s.is4<(↑(List.length s.d7):Int))) (sl ((cnE tP s.d7)&&((cnE tX s.V1)&&true)) (sl (Nat.beq t1.1 1) (sl (!t1.2.bs5) (e 1) (k ⟨rt tP s.d7,rt tX s.V1,W (s.is4+1)⟩)) z) z) (e 2))
noncomputable def Qa7(p:Za2)(s:ka2):Stp ka2:=Ia2 .next .exit .fail p s
noncomputable def Sb5:Lo Za2 ka2:=⟨En fc2,0,Me8,[1,1,0,1,4,4],[0,3,4],.s .p (.s (.b (.s .p (.s (.s .p (.b (.u Sb4.ls))) .p))) .p),[⟨sLq tP::sUq::sUq::sLq tX::sIq::ru2 31 [],[],λa H=>(⟨⟩,⟨aLq tP a 0,aLq tX a 3,aIq a 4⟩)⟩],Qa7,[(none,λp s=>⟨[b false],[]⟩),(some 0,λp s=>upq (pc7 p s) [(9,i s.is4),(10,eL tP s.d7),(11,i (↑(List.length s.d7):Int)),(12,b (decide (s.is4<(↑(List.length s.d7):Int))))])],pc7⟩
theorem qd8:Sb5.Ok:=Lo.ok [Sb4.pr] (by kernel_rfl) (.cons qd7 .nil) rfl (.cons (λa H=>by kernel_rfl) .nil) λp s=>(.of @Ia2 (λF _ _ _ _ _=>by unfold Ia2;(repeat' apply m0 (f:=F))<;>rfl) (by kernel_rfl))
noncomputable def zb1(x:List Pln):Option (b7×List b8):=let t1:=(Qa4 (rt tP x));let t2:=(lp (Qa7 (⟨⟩:Za2)) (⟨rt tP x,rt tX t1,0⟩:ka2));(sl (okE tP x) (sl (Qa5 (rt tP x)) (sl ((cnE tP x)&&((cnE tX t1)&&true)) (sl (Nat.beq t2.1 1) (some (b false,[])) (sl (Nat.beq t2.1 2) (some (b true,[])) none)) none) none) none)
noncomputable def Sb6(x:List Pln):Bool:=O3 (one r1B) (zb1 x)
noncomputable def Sb7(x:List Pln):Bool:=okO (one r1B) (zb1 x)
noncomputable def fd0:Sum:=X7 (P8 tP) (λx=>.guard (Sb7 x) (.ret ((one r1B).enc (Sb6 x),[])))
theorem Wd1:i5 prog G 123 fd0:=Ha5 (bd Pf4 Id0) (one r1B) (o:=zb1) λx=>va6 (.s .p (.s .p (.s (.s .p (.b (.u Sb5.ls))) .p))) [Sb5.pr] (by kernel_rfl) (.cons qd8 .nil) (by kernel_rfl)
noncomputable def Wd2:List (Nat×Sum):=[(100,fc1),(124,Kc3),(123,fd0)]
theorem Id1:i9 prog G Wd2:=⟨Cc1,ed8,Wd1,trivial⟩
noncomputable def zb2(x:List Pln):Option (b7×List b8):=let t1:=(lb6 (rt tP x));let t2:=(Mb9 (rt tP x));let t3:=(Sb6 (rt tP t2));(sl (okE tP x) (sl (lb7 (rt tP x)) (sl (t1==0) (sl (okE tP x) (sl (Nb0 (rt tP x)) (sl (okE tP t2) (sl (Sb7 (rt tP t2)) (some (b t3,[])) none) none) none) none) (some (b false,[]))) none) none)
noncomputable def fb7(x:List Pln):Bool:=O3 (one r1B) (zb2 x)
noncomputable def fb8(x:List Pln):Bool:=okO (one r1B) (zb2 x)
noncomputable def uc4:Sum:=X7 (P8 tP) (λx=>.guard (fb8 x) (.ret ((one r1B).enc (fb7 x),[])))
theorem Qc2:i5 prog G 70 uc4:=Ha5 (bd b70 Id1) (one r1B) (o:=zb2) λx=>y8 (by kernel_rfl)
noncomputable def ke6:List (Nat×Sum):=[]
theorem Wd3:i9 prog G ke6:=trivial
noncomputable def Nb1(x:Int)(y:Int):Option (b7×List b8):=(sl (decide (y<1)) (some (i 0,[])) (sl (y==0) none (sl (y==0) none (some (i (Int.tmod (W ((Int.tmod x y)+y)) y),[])))))
noncomputable def Nb2(x:Int)(y:Int):Int:=O3 (one r1I) (Nb1 x y)
noncomputable def Nb3(x:Int)(y:Int):Bool:=okO (one r1I) (Nb1 x y)
noncomputable def Kc4:Sum:=ra8 cI cI (λx y=>.guard (Nb3 x y) (.ret ((one r1I).enc (Nb2 x y),[])))
theorem fd1:i5 prog G 27 Kc4:=sb9 (bd b27 Wd3) (one r1I) (o:=Nb1) λx y=>y8 (by kernel_rfl)
noncomputable def Id2:List (Nat×Sum):=[]
theorem qd9:i9 prog G Id2:=trivial
noncomputable def Wa3(x:V3)(y:V3):Int:=(W ((W ((W (x.x*y.x))+(W (x.y*y.y))))+(W (x.z*y.z))))
noncomputable def fc3:Sum:=ra8 (ha7 tV) (ha7 tV) (λx y=>.ret ((one r1I).enc (Wa3 x y),[]))
theorem Cc3:i5 prog G 83 fc3:=Ga2 (bd b83 qd9) λx y=>y8 (by kernel_rfl)
noncomputable def Id3:List (Nat×Sum):=[]
theorem rd0:i9 prog G Id3:=trivial
noncomputable def ya7(x:V3)(y:V3):V3:=(⟨W (x.x+y.x),W (x.y+y.y),W (x.z+y.z)⟩:V3)
noncomputable def Qc3:Sum:=ra8 (ha7 tV) (ha7 tV) (λx y=>.ret ((one r1V).enc (ya7 x y),[]))
theorem Id4:i5 prog G 34 Qc3:=Ga2 (bd b34 rd0) λx y=>y8 (by kernel_rfl)
noncomputable def rd1:List (Nat×Sum):=[]
theorem fd2:i9 prog G rd1:=trivial
noncomputable def sa2(x:V3)(y:Int):V3:=(⟨W (x.x*y),W (x.y*y),W (x.z*y)⟩:V3)
noncomputable def Cc4:Sum:=ra8 (ha7 tV) cI (λx y=>.ret ((one r1V).enc (sa2 x y),[]))
theorem rd2:i5 prog G 116 Cc4:=Ga2 (bd Pf1 fd2) λx y=>y8 (by kernel_rfl)
noncomputable def fd3:List (Nat×Sum):=[]
theorem Tc8:i9 prog G fd3:=trivial
noncomputable def X2(x:V3)(y:V3):V3:=(⟨W ((W (x.y*y.z))-(W (x.z*y.y))),W ((W (x.z*y.x))-(W (x.x*y.z))),W ((W (x.x*y.y))-(W (x.y*y.x)))⟩:V3)
noncomputable def pc8:Sum:=ra8 (ha7 tV) (ha7 tV) (λx y=>.ret ((one r1V).enc (X2 x y),[]))
theorem fd4:i5 prog G 142 pc8:=Ga2 (bd Qf4 Tc8) λx y=>y8 (by kernel_rfl)
noncomputable def Id5:List (Nat×Sum):=[(83,fc3)]
theorem rd3:i9 prog G Id5:=⟨Cc3,trivial⟩
noncomputable def ya8(x:Pln)(y:Pt):Int:=let t1:=(Wa3 x.n (⟨y.px,y.py,y.pz⟩:V3));(W ((W (x.b*y.pw))-t1))
noncomputable def Gb2:Sum:=ra8 (ha7 tP) (ha7 tX) (λx y=>.ret ((one r1I).enc (ya8 x y),[]))
theorem Sb8:i5 prog G 153 Gb2:=Ga2 (bd Qf7 rd3) λx y=>y8 (by kernel_rfl)
noncomputable def fc4:List (Nat×Sum):=[]
theorem Id6:i9 prog G fc4:=trivial
structure Ma0 where
 eb7:List Int
 (is7 is8:Int)
structure sa3 where
 (is3 is5:Int)
noncomputable def pc9(p:Ma0)(s:sa3):St:=⟨ra 3 (i s.is3::.unk::i s.is5::eL tI p.eb7::i p.is7::i p.is8::ra 14 []),[]⟩
noncomputable def Ia3{α:Type}(k:sa3->α)(e:Nat->α)(z:α)(p:Ma0)(s:sa3):α:=(sl (s.is5 != 0) (sl (s.is5==0) z (k ⟨s.is5,Int.tmod s.is3 s.is5⟩)) (e 1))
noncomputable def Qa8(p:Ma0)(s:sa3):Stp sa3:=Ia3 .next .exit .fail p s
noncomputable def Sb9:Lo Ma0 sa3:=⟨En fc4,0,Ne3,[1,1,0,1,4,4,1,1,0,4,1,4,4],[3,5,6,7,8],.p,[⟨ru2 3 (sIq::sUq::sIq::sLq tI::sIq::sIq::ru2 14 []),[],λa H=>(⟨aLq tI a 6,aIq a 7,aIq a 8⟩,⟨aIq a 3,aIq a 5⟩)⟩],Qa8,[(some 2,λp s=>upq (pc9 p s) [(12,i s.is5),(13,b (s.is5 != 0))])],pc9⟩
theorem rd4:Sb9.Ok:=Lo.ok [] (by kernel_rfl) .nil rfl (.cons (λa H=>by kernel_rfl) .nil) λp s=>(.of @Ia3 (λF _ _ _ _ _=>by unfold Ia3;(repeat' apply m0 (f:=F))<;>rfl) (by kernel_rfl))
structure Za3 where
 is7:Int
structure sa4 where
 is3:Int
 eb7:List Int
 is8:Int
noncomputable def qc0(p:Za3)(s:sa4):St:=⟨ra 3 (i s.is3::.unk::.unk::eL tI s.eb7::i p.is7::i s.is8::ra 14 []),[]⟩
noncomputable def Ia4{α:Type}(k:sa4->α)(e:Nat->α)(z:α)(p:Za3)(s:sa4):α:=let t1:=(lp (Qa8 (⟨rt tI s.eb7,p.is7,s.is8⟩:Ma0)) (⟨s.is3,gL tI s.eb7 s.is8.toNat⟩:sa3));(sl (decide (s.is8<p.is7)) (sl (inB s.is8 (List.length s.eb7)) (sl ((cnE tI s.eb7)&&true) (sl (Nat.beq t1.1 1) (k ⟨t1.2.is3,rt tI s.eb7,W (s.is8+1)⟩) z) z) z) (e 1))
noncomputable def Ea1(p:Za3)(s:sa4):Stp sa4:=Ia4 .next .exit .fail p s
noncomputable def Tb0:Lo Za3 sa4:=⟨En fc4,0,Ne3,[1,1,0,1,4,4],[3,6,7,8],.s .p (.s .p (.s (.b (.s .p (.b (.u Sb9.ls)))) .p)),[⟨ru2 3 (sIq::sUq::sUq::sLq tI::sIq::sIq::ru2 14 []),[],λa H=>(⟨aIq a 7⟩,⟨aIq a 3,aLq tI a 6,aIq a 8⟩)⟩],Ea1,[(some 0,λp s=>upq (qc0 p s) [(9,b (decide (s.is8<p.is7)))])],qc0⟩
theorem rd5:Tb0.Ok:=Lo.ok [Sb9.pr] (by kernel_rfl) (.cons rd4 .nil) rfl (.cons (λa H=>by kernel_rfl) .nil) λp s=>(.of @Ia4 (λF _ _ _ _ _=>by unfold Ia4;(repeat' apply m0 (f:=F))<;>rfl) (by kernel_rfl))
noncomputable def zb3(x:List Int):Option (b7×List b8):=let t1:=(lp (Ea1 (⟨(↑(List.length x):Int)⟩:Za3)) (⟨0,rt tI x,0⟩:sa4));(sl ((cnE tI x)&&true) (sl (Nat.beq t1.1 1) (some ((i (if (W (0-t1.2.is3))>t1.2.is3 then (W (0-t1.2.is3)) else t1.2.is3)),[])) none) none)
noncomputable def Tb1(x:List Int):Int:=O3 (one r1I) (zb3 x)
noncomputable def Tb2(x:List Int):Bool:=okO (one r1I) (zb3 x)
noncomputable def fd5:Sum:=X7 (P8 tI) (λx=>.guard (Tb2 x) (.ret ((one r1I).enc (Tb1 x),[])))
theorem Wd4:i5 prog G 222 fd5:=Ha5 (bd Uf2 Id6) (one r1I) (o:=zb3) λx=>va6 (.s .p (.s .p (.s (.s .p (.b (.u Tb0.ls))) .p))) [Tb0.pr] (by kernel_rfl) (.cons rd5 .nil) (by kernel_rfl)
noncomputable def Id7:List (Nat×Sum):=[(142,pc8),(83,fc3),(116,Cc4),(34,Qc3),(222,fd5)]
theorem rd6:i9 prog G Id7:=⟨fd4,Cc3,rd2,Id4,Wd4,trivial⟩
noncomputable def lb8(x:Tp):Option (b7×List b8):=let t1:=(X2 x.q.n x.r.n);let t3:=(sa2 t1 x.p.b);let t4:=(ya7 (⟨0,0,0⟩:V3) t3);let t5:=(X2 x.r.n x.p.n);let t7:=(sa2 t5 x.q.b);let t8:=(ya7 t4 t7);let t9:=(X2 x.p.n x.q.n);let t10:=(Wa3 x.r.n t9);let t11:=(sa2 t9 x.r.b);let t12:=(ya7 t8 t11);let t13:=(Tb1 [t12.x,t12.y,t12.z,t10]);(sl (t10==0) (some (.tup [.agg [i 0,i 0,i 0,i 0],b false],[])) (sl (Tb2 [t12.x,t12.y,t12.z,t10]) (sl (decide (t10<0)) (sl ((W (0-t13))==0) none (sl ((W (0-t13))==0) none (sl ((W (0-t13))==0) none (sl ((W (0-t13))==0) none (some (.tup [.agg [i (W (Int.tdiv t12.x (W (0-t13)))),i (W (Int.tdiv t12.y (W (0-t13)))),i (W (Int.tdiv t12.z (W (0-t13)))),i (W (Int.tdiv t10 (W (0-t13))))],b true],[])))))) (sl (t13==0) none (sl (t13==0) none (sl (t13==0) none (sl (t13==0) none (some (.tup [.agg [i (W (Int.tdiv t12.x t13)),i (W (Int.tdiv t12.y t13)),i (W (Int.tdiv t12.z t13)),i (W (Int.tdiv t10 t13))],b true],[]))))))) none))
noncomputable def lb9(x:Tp):Pt×Bool:=O3 (two r1X r1B) (lb8 x)
noncomputable def mb0(x:Tp):Bool:=okO (two r1X r1B) (lb8 x)
noncomputable def Qc4:Sum:=X7 (ha7 tY) (λx=>.guard (mb0 x) (.ret ((two r1X r1B).enc (lb9 x),[])))
theorem Id8:i5 prog G 195 Qc4:=Ha5 (bd Tf3 rd6) (two r1X r1B) (o:=lb8) λx=>y8 (by kernel_rfl)
structure Ta2 where
 (Da5 Da6 Da7 Yb4 j9 d8 k8 k9:Int)
noncomputable def Kc5:List (Nat×Sum):=[(153,Gb2)]
theorem Cc5:i9 prog G Kc5:=⟨Sb8,trivial⟩
structure Ba4 where
 bs0:Bool
noncomputable def Ba5{α:Type}(kk:Ba4->α)(x:Ta2):α:=let t1:=(ya8 (⟨(⟨x.Da5,x.Da6,x.Da7⟩:V3),x.Yb4⟩:Pln) (⟨x.j9,x.d8,x.k8,x.k9⟩:Pt));(kk ⟨decide (t1<0)⟩)
noncomputable def pb4(x:Ta2):Ba4:=Ba5 (λr=>r) x
noncomputable def fb9(x:Ta2)(r:Ba4):DT (b7×List b8):=.ret (b r.bs0,[⟨0,4,[[i x.j9,i x.d8,i x.k8,i x.k9]],true,false,0⟩])
theorem Tc9{α β:Type}(F:α->β)(kk:Ba4->α)(x:Ta2):F (Ba5 kk x)=Ba5 (λr=>F (kk r)) x:=by unfold Ba5;(repeat' apply m0 (f:=F))<;>rfl
noncomputable def Wb7:Sum:=Ya5 ⟨[.agg (kLq 4),sPq 0],[⟨0,4,true,some [kLq 4]⟩],λa H=>(⟨cIq a 0 0,cIq a 0 1,cIq a 0 2,cIq a 0 3,hIq H 0 0 0,hIq H 0 0 1,hIq H 0 0 2,hIq H 0 0 3⟩,())⟩ (λx=>fb9 x (pb4 x))
theorem Kc6:i5 prog G 172 Wb7:=O5 (enc:=λx=>⟨[.agg [i x.Da5,i x.Da6,i x.Da7,i x.Yb4],.ptr 0 0 0 0],[⟨0,4,[[i x.j9,i x.d8,i x.k8,i x.k9]],true,false,0⟩]⟩) (λa H=>by kernel_rfl) (bd Sf3 Cc5) λx=>y8 (Qha (b:=Ba5 (λr=>(fb9 x r).run) x) (by kernel_rfl) (Tc9 (λr=>(fb9 x r).run) (λr=>r) x).symm)
structure ba2 where
 d7:List Pln
 (j9 d8 k8 k9:Int)
noncomputable def Ia5:List (Nat×Sum):=[(172,Wb7)]
theorem tb2:i9 prog G Ia5:=⟨Kc6,trivial⟩
structure N0 where
 d7:List Pln
 (is7 j9 d8 k8 k9:Int)
structure q7 where
 is8:Int
noncomputable def Ba6(p:N0)(s:q7):St:=⟨eL tP p.d7::.fn 172 [.ptr 0 0 0 0]::ra 5 (i p.is7::i s.is8::ra 10 []),[⟨0,4,[[i p.j9,i p.d8,i p.k8,i p.k9]],true,false,0⟩]⟩
noncomputable def H7{α:Type}(k:q7->α)(e:Nat->α)(z:α)(p:N0)(s:q7):α:=let t1:=(pb4 ⟨(gL tP p.d7 s.is8.toNat).n.x,(gL tP p.d7 s.is8.toNat).n.y,(gL tP p.d7 s.is8.toNat).n.z,(gL tP p.d7 s.is8.toNat).b,p.j9,p.d8,p.k8,p.k9⟩);(sl (decide (s.is8<p.is7)) (sl (inB s.is8 (List.length p.d7)) (sl t1.bs0 (e 1) (k ⟨W (s.is8+1)⟩)) z) (e 2))
noncomputable def K2(p:N0)(s:q7):Stp q7:=H7 .next .exit .fail p s
noncomputable def ka3:Lo N0 q7:=⟨En Ia5,1,Vd1,[1,0,1,4,4],[0,1,7,8],.p,[⟨sLq tP::.fn 172 [.o (.ptr 0 0 0 0)]::ru2 5 (sIq::sIq::ru2 10 []),[⟨0,4,true,some [kLq 4]⟩],λa H=>(⟨aLq tP a 0,aIq a 7,hIq H 0 0 0,hIq H 0 0 1,hIq H 0 0 2,hIq H 0 0 3⟩,⟨aIq a 8⟩)⟩],K2,[(none,λp s=>⟨[i s.is8],[⟨0,4,[[i p.j9,i p.d8,i p.k8,i p.k9]],true,false,0⟩]⟩),(some 0,λp s=>upq (Ba6 p s) [(9,b (decide (s.is8<p.is7)))])],Ba6⟩
theorem pb5:ka3.Ok:=Lo.ok [] (by kernel_rfl) .nil rfl (.cons (λa H=>by kernel_rfl) .nil) λp s=>(.of @H7 (λF _ _ _ _ _=>by unfold H7;(repeat' apply m0 (f:=F))<;>rfl) (by kernel_rfl))
structure ba3 where
 alt:Nat
 is0:Int
noncomputable def I8{α:Type}(kk:ba3->α)(x:ba2):α:=let t1:=(lp (K2 (⟨rt tP x.d7,(↑(List.length x.d7):Int),x.j9,x.d8,x.k8,x.k9⟩:N0)) (⟨0⟩:q7));(sl ((cnE tP x.d7)&&true) (sl (Nat.beq t1.1 1) (kk ⟨1,t1.2.is8⟩) (sl (Nat.beq t1.1 2) (kk ⟨1,-1⟩) (kk ⟨0,0⟩))) (kk ⟨0,0⟩))
noncomputable def ba4(x:ba2):ba3:=I8 (λr=>r) x
noncomputable def na3(x:ba2)(r:ba3):DT (b7×List b8):=(.ite (Nat.beq r.alt 1) (.ret (i r.is0,[⟨0,4,[[i x.j9,i x.d8,i x.k8,i x.k9]],true,false,0⟩])) .fail)
theorem Db1{α β:Type}(F:α->β)(kk:ba3->α)(x:ba2):F (I8 kk x)=I8 (λr=>F (kk r)) x:=by unfold I8;(repeat' apply m0 (f:=F))<;>rfl
noncomputable def Na4:Sum:=Ya5 ⟨[sLq tP,.fn 172 [.o (.ptr 0 0 0 0)]],[⟨0,4,true,some [kLq 4]⟩],λa H=>(⟨aLq tP a 0,hIq H 0 0 0,hIq H 0 0 1,hIq H 0 0 2,hIq H 0 0 3⟩,())⟩ (λx=>na3 x (ba4 x))
theorem zb4:i5 prog G 139 Na4:=O5 (enc:=λx=>⟨[eL tP x.d7,.fn 172 [.ptr 0 0 0 0]],[⟨0,4,[[i x.j9,i x.d8,i x.k8,i x.k9]],true,false,0⟩]⟩) (λa H=>by kernel_rfl) (bd cf6 tb2) λx=>va6 (.s .p (.s (.s .p (.b (.u ka3.ls))) .p)) [ka3.pr] (by kernel_rfl) (.cons pb5 .nil) (Qha (b:=I8 (λr=>(na3 x r).run) x) (by kernel_rfl) (Db1 (λr=>(na3 x r).run) (λr=>r) x).symm)
structure U0 where
 d7:List Pln
 (j9 d8 k8 k9:Int)
noncomputable def mb1:List (Nat×Sum):=[(139,Na4)]
theorem gb0:i9 prog G mb1:=⟨zb4,trivial⟩
structure U1 where
 alt:Nat
 bs0:Bool
noncomputable def E1{α:Type}(kk:U1->α)(x:U0):α:=let t1:=(ba4 ⟨rt tP x.d7,x.j9,x.d8,x.k8,x.k9⟩);(sl ((cnE tP x.d7)&&true) (sl (Nat.beq t1.alt 1) (kk ⟨1,decide (t1.is0>=0)⟩) (kk ⟨0,false⟩)) (kk ⟨0,false⟩))
noncomputable def ia5(x:U0):U1:=E1 (λr=>r) x
noncomputable def ga1(x:U0)(r:U1):DT (b7×List b8):=(.ite (Nat.beq r.alt 1) (.ret (b r.bs0,[⟨0,4,[[i x.j9,i x.d8,i x.k8,i x.k9]],true,false,0⟩])) .fail)
theorem pb6{α β:Type}(F:α->β)(kk:U1->α)(x:U0):F (E1 kk x)=E1 (λr=>F (kk r)) x:=by unfold E1;(repeat' apply m0 (f:=F))<;>rfl
noncomputable def Ba7:Sum:=Ya5 ⟨[sLq tP,.fn 172 [.o (.ptr 0 0 0 0)]],[⟨0,4,true,some [kLq 4]⟩],λa H=>(⟨aLq tP a 0,hIq H 0 0 0,hIq H 0 0 1,hIq H 0 0 2,hIq H 0 0 3⟩,())⟩ (λx=>ga1 x (ia5 x))
theorem mb2:i5 prog G 86 Ba7:=O5 (enc:=λx=>⟨[eL tP x.d7,.fn 172 [.ptr 0 0 0 0]],[⟨0,4,[[i x.j9,i x.d8,i x.k8,i x.k9]],true,false,0⟩]⟩) (λa H=>by kernel_rfl) (bd b86 gb0) λx=>y8 (Qha (b:=E1 (λr=>(ga1 x r).run) x) (by kernel_rfl) (pb6 (λr=>(ga1 x r).run) (λr=>r) x).symm)
noncomputable def fd6:List (Nat×Sum):=[(86,Ba7)]
theorem Uc0:i9 prog G fd6:=⟨mb2,trivial⟩
noncomputable def Qa9(x:List Pln)(y:Pt):Option (b7×List b8):=let t1:=(ia5 ⟨rt tP x,y.px,y.py,y.pz,y.pw⟩);(sl ((cnE tP x)&&true) (sl (Nat.beq t1.alt 1) (some (b (!t1.bs0),[])) none) none)
noncomputable def Ea2(x:List Pln)(y:Pt):Bool:=O3 (one r1B) (Qa9 x y)
noncomputable def Ea3(x:List Pln)(y:Pt):Bool:=okO (one r1B) (Qa9 x y)
noncomputable def qc1:Sum:=ra8 (P8 tP) (ha7 tX) (λx y=>.guard (Ea3 x y) (.ret ((one r1B).enc (Ea2 x y),[])))
theorem fd7:i5 prog G 115 qc1:=sb9 (bd Pf0 Uc0) (one r1B) (o:=Qa9) λx y=>y8 (by kernel_rfl)
noncomputable def Ra0:List (Nat×Sum):=[]
theorem Db2:i9 prog G Ra0:=trivial
@[reducible] noncomputable def Wa4:Sum:=Lb5 (En Ra0) of3
theorem Ib5:i5 prog G 221 Wa4:=bd Uf1 Db2
noncomputable def Za4:List (Nat×Sum):=[(221,Wa4)]
theorem Nb4:i9 prog G Za4:=⟨Ib5,trivial⟩
@[reducible] noncomputable def eb3:Sum:=Lb5 (En Za4) nf6
theorem Tb3:i5 prog G 194 eb3:=bd Tf2 Nb4
noncomputable def ka4:List (Nat×Sum):=[(195,Qc4),(115,qc1),(194,eb3)]
theorem Nb5:i9 prog G ka4:=⟨Id8,fd7,Tb3,trivial⟩
structure l6 where
 is3:Int
 A2:List Pln
 (ua0 p8:Int)
 vd5:Nat
 Qb0:Nat->List b7
 (Oc5 Ga1:Int)
 Xe3:Nat
 Cb8:Nat->List b7
 Qb1:Int
 g7:List Pln
 (ca8 ca9 da0 da1 kb4 kb5 kb6 Wb0:Int)
 Na2:List Pln
structure l7 where
 ph:Nat
 Ga9:Int
 vb3:Nat
 (eh6 eh7:List (List b7))
noncomputable def Na5(p:l6)(s:l7):St:=⟨.unk::.ptr 0 0 0 0::.unk::i p.is3::.ptr 1 0 0 0::.unk::.ptr 2 0 0 0::.unk::.unk::eL tP p.A2::i p.ua0::i p.p8::ra 7 (.tree 4 p.vd5 p.Qb0::i p.Oc5::i p.Ga1::ra 9 (.tree 4 p.Xe3 p.Cb8::i p.Qb1::i s.Ga9::ra 13 (i 0::.unk::.ptr 3 0 0 0::.v (.slice none 0 0)::.ptr 4 0 0 0::.ptr 5 0 0 0::ra 31 []))),[⟨0,1,[[eL tP p.g7]],true,false,0⟩,⟨0,4,[[i p.ca8,i p.ca9,i p.da0,i p.da1]],true,false,0⟩,⟨0,4,[[i p.kb4,i p.kb5,i p.kb6,i p.Wb0]],true,false,0⟩,⟨0,1,[[eL tP p.Na2]],true,false,0⟩,⟨0,0,[[.v (.slice none 0 0)]],true,false,0⟩,⟨0,0,[[.ptr 6 0 0 0]],true,false,0⟩,⟨182,0,[],true,false,0⟩]⟩
noncomputable def Na6(p:l6)(s:l7):St:=⟨.unk::.ptr 0 0 0 0::.unk::i p.is3::.ptr 1 0 0 0::.unk::.ptr 2 0 0 0::.unk::.unk::eL tP p.A2::i p.ua0::i p.p8::ra 7 (.tree 4 p.vd5 p.Qb0::i p.Oc5::i p.Ga1::ra 9 (.tree 4 p.Xe3 p.Cb8::i p.Qb1::i s.Ga9::ra 13 (i 0::.unk::.ptr 3 0 0 0::.v (.slice none 0 0)::.ptr 4 0 0 0::.ptr 5 0 0 0::ra 31 []))),[⟨0,1,[[eL tP p.g7]],true,false,0⟩,⟨0,4,[[i p.ca8,i p.ca9,i p.da0,i p.da1]],true,false,0⟩,⟨0,4,[[i p.kb4,i p.kb5,i p.kb6,i p.Wb0]],true,false,0⟩,⟨0,1,[[eL tP p.Na2]],true,false,0⟩,⟨0,0,[[.sl 6 0 s.vb3 0]],true,false,0⟩,⟨0,0,[[.ptr 7 0 0 0]],true,false,0⟩,⟨136,4,s.eh6,true,false,0⟩,⟨182,0,s.eh7,true,false,0⟩]⟩
noncomputable def Ib6(p:l6)(s:l7):St:=(sel (Nat.beq s.ph 1) (Na6 p s) (Na5 p s))
noncomputable def D2{α:Type}(k:l7->α)(e:Nat->α)(z:α)(p:l6)(s:l7):α:=let t1:=(lb9 (⟨(⟨(⟨p.ca8,p.ca9,p.da0⟩:V3),p.da1⟩:Pln),(⟨(⟨p.kb4,p.kb5,p.kb6⟩:V3),p.Wb0⟩:Pln),(⟨(⟨toI (hdA (p.Cb8 s.Ga9.toNat)),toI (hdA (tlA (p.Cb8 s.Ga9.toNat))),toI (hdA (tlA (tlA (p.Cb8 s.Ga9.toNat))))⟩:V3),toI (hdA (tlA (tlA (tlA (p.Cb8 s.Ga9.toNat)))))⟩:Pln)⟩:Tp));let t2:=(Ea2 (rt tP p.Na2) t1.1);(sl (decide (s.Ga9<p.Qb1)) (sl (inB s.Ga9 p.Xe3) (sl ((Nat.ble 4 (len (p.Cb8 s.Ga9.toNat)))&&(qa3 [CK.int .i64,CK.int .i64,CK.int .i64,CK.int .i64] (p.Cb8 s.Ga9.toNat))) (sl (mb0 (⟨(⟨(⟨p.ca8,p.ca9,p.da0⟩:V3),p.da1⟩:Pln),(⟨(⟨p.kb4,p.kb5,p.kb6⟩:V3),p.Wb0⟩:Pln),(⟨(⟨toI (hdA (p.Cb8 s.Ga9.toNat)),toI (hdA (tlA (p.Cb8 s.Ga9.toNat))),toI (hdA (tlA (tlA (p.Cb8 s.Ga9.toNat))))⟩:V3),toI (hdA (tlA (tlA (tlA (p.Cb8 s.Ga9.toNat)))))⟩:Pln)⟩:Tp)) (sl t1.2 (sl (!(xc9 4 [(0,.int .i64),(1,.int .i64),(2,.int .i64),(3,.int .i64)] [i t1.1.px,i t1.1.py,i t1.1.pz,i t1.1.pw] [])) (sl (okE tP p.Na2) (sl (Ea3 (rt tP p.Na2) t1.1) (sl t2 (k ⟨1,W (s.Ga9+1),1,[[i t1.1.px,i t1.1.py,i t1.1.pz,i t1.1.pw]],Hb5 [(0,.int .i64),(1,.int .i64),(2,.int .i64),(3,.int .i64)] [i t1.1.px,i t1.1.py,i t1.1.pz,i t1.1.pw] [i t1.1.px,i t1.1.py,i t1.1.pz,i t1.1.pw,b true] []⟩) (k ⟨0,W (s.Ga9+1),0,[],[]⟩)) z) z) (k ⟨0,W (s.Ga9+1),0,[],[]⟩)) (k ⟨0,W (s.Ga9+1),0,[],[]⟩)) z) z) z) (e 1))
noncomputable def D3{α:Type}(k:l7->α)(e:Nat->α)(z:α)(p:l6)(s:l7):α:=let t1:=(lb9 (⟨(⟨(⟨p.ca8,p.ca9,p.da0⟩:V3),p.da1⟩:Pln),(⟨(⟨p.kb4,p.kb5,p.kb6⟩:V3),p.Wb0⟩:Pln),(⟨(⟨toI (hdA (p.Cb8 s.Ga9.toNat)),toI (hdA (tlA (p.Cb8 s.Ga9.toNat))),toI (hdA (tlA (tlA (p.Cb8 s.Ga9.toNat))))⟩:V3),toI (hdA (tlA (tlA (tlA (p.Cb8 s.Ga9.toNat)))))⟩:Pln)⟩:Tp));let t2:=(Ea2 (rt tP p.Na2) t1.1);(sl (decide (s.Ga9<p.Qb1)) (sl (inB s.Ga9 p.Xe3) (sl ((Nat.ble 4 (len (p.Cb8 s.Ga9.toNat)))&&(qa3 [CK.int .i64,CK.int .i64,CK.int .i64,CK.int .i64] (p.Cb8 s.Ga9.toNat))) (sl (mb0 (⟨(⟨(⟨p.ca8,p.ca9,p.da0⟩:V3),p.da1⟩:Pln),(⟨(⟨p.kb4,p.kb5,p.kb6⟩:V3),p.Wb0⟩:Pln),(⟨(⟨toI (hdA (p.Cb8 s.Ga9.toNat)),toI (hdA (tlA (p.Cb8 s.Ga9.toNat))),toI (hdA (tlA (tlA (p.Cb8 s.Ga9.toNat))))⟩:V3),toI (hdA (tlA (tlA (tlA (p.Cb8 s.Ga9.toNat)))))⟩:Pln)⟩:Tp)) (sl t1.2 (sl (!(xc9 4 [(0,.int .i64),(1,.int .i64),(2,.int .i64),(3,.int .i64)] [i t1.1.px,i t1.1.py,i t1.1.pz,i t1.1.pw] s.eh7)) (sl (okE tP p.Na2) (sl (Ea3 (rt tP p.Na2) t1.1) (sl t2 (sl (Nat.beq s.vb3 (len s.eh6)&&Nat.ble ((s.vb3+1)*32) room) (k ⟨1,W (s.Ga9+1),s.vb3+1,app s.eh6 [[i t1.1.px,i t1.1.py,i t1.1.pz,i t1.1.pw]],Hb5 [(0,.int .i64),(1,.int .i64),(2,.int .i64),(3,.int .i64)] [i t1.1.px,i t1.1.py,i t1.1.pz,i t1.1.pw] [i t1.1.px,i t1.1.py,i t1.1.pz,i t1.1.pw,b true] s.eh7⟩) z) (k ⟨1,W (s.Ga9+1),s.vb3,s.eh6,s.eh7⟩)) z) z) (k ⟨1,W (s.Ga9+1),s.vb3,s.eh6,s.eh7⟩)) (k ⟨1,W (s.Ga9+1),s.vb3,s.eh6,s.eh7⟩)) z) z) z) (e 2))
noncomputable def B0(p:l6)(s:l7):Stp l7:=(sel (Nat.beq s.ph 1) (D3 .next .exit .fail p s) (D2 .next .exit .fail p s))
noncomputable def wa6:Lo l6 l7:=⟨En ka4,0,qe7,[1,1,1,0,1,4,4,1,4,4,1,1,0,4,1,1,4,4,1,1,0,4,1,1,4,4],[1,3,4,6,9,10,11,19,20,21,31,32,33,47,49,50,51,52],.p,[⟨sUq::sPq 0::sUq::sIq::sPq 1::sUq::sPq 2::sUq::sUq::sLq tP::sIq::sIq::ru2 7 (sTq 4::sIq::sIq::ru2 9 (sTq 4::sIq::sIq::ru2 13 (.s (.o (.lit .i64 0))::sUq::sPq 3::.s (.o .nil)::sPq 4::sPq 5::ru2 31 []))),[⟨0,1,true,some [[.c 4 (nL tP)]]⟩,⟨0,4,true,some [kLq 4]⟩,⟨0,4,true,some [kLq 4]⟩,⟨0,1,true,some [[.c 4 (nL tP)]]⟩,⟨0,0,true,some [[.o .nil]]⟩,⟨0,0,true,some [[.o (.ptr 6 0 0 0)]]⟩,⟨182,0,true,some []⟩],λa H=>(⟨aIq a 3,aLq tP a 9,aIq a 10,aIq a 11,aNq a 19,aGq a 19,aIq a 20,aIq a 21,aNq a 31,aGq a 31,aIq a 32,hLq tP H 0 0 0,hIq H 1 0 0,hIq H 1 0 1,hIq H 1 0 2,hIq H 1 0 3,hIq H 2 0 0,hIq H 2 0 1,hIq H 2 0 2,hIq H 2 0 3,hLq tP H 3 0 0⟩,⟨0,aIq a 33,0,[],[]⟩)⟩,⟨sUq::sPq 0::sUq::sIq::sPq 1::sUq::sPq 2::sUq::sUq::sLq tP::sIq::sIq::ru2 7 (sTq 4::sIq::sIq::ru2 9 (sTq 4::sIq::sIq::ru2 13 (.s (.o (.lit .i64 0))::sUq::sPq 3::.s (.o .nil)::sPq 4::sPq 5::ru2 31 []))),[⟨0,1,true,some [[.c 4 (nL tP)]]⟩,⟨0,4,true,some [kLq 4]⟩,⟨0,4,true,some [kLq 4]⟩,⟨0,1,true,some [[.c 4 (nL tP)]]⟩,⟨0,0,true,some [[.o (.sl 6 0 (some 0) none)]]⟩,⟨0,0,true,some [[.o (.ptr 7 0 0 0)]]⟩,⟨136,4,true,none⟩,⟨182,0,true,none⟩],λa H=>(⟨aIq a 3,aLq tP a 9,aIq a 10,aIq a 11,aNq a 19,aGq a 19,aIq a 20,aIq a 21,aNq a 31,aGq a 31,aIq a 32,hLq tP H 0 0 0,hIq H 1 0 0,hIq H 1 0 1,hIq H 1 0 2,hIq H 1 0 3,hIq H 2 0 0,hIq H 2 0 1,hIq H 2 0 2,hIq H 2 0 3,hLq tP H 3 0 0⟩,⟨1,aIq a 33,slN (slT (rwT (elT H 4) 0) 0),elT H 6,elT H 7⟩)⟩],B0,[(some 4,λp s=>upq (Na5 p s) [(34,b (decide (s.Ga9<p.Qb1)))]),(some 4,λp s=>upq (Na6 p s) [(34,b (decide (s.Ga9<p.Qb1)))])],Ib6⟩
theorem Ib7:wa6.OkM:=Lo.okM [] (by kernel_rfl) .nil rfl (.cons (λa H=>by kernel_rfl) (.cons (λa H=>by kernel_rfl) .nil)) λp s=>(.sel (Nat.beq s.ph 1) (.of @D3 (λF _ _ _ _ _=>by unfold D3;(repeat' apply m0 (f:=F))<;>rfl) (by kernel_rfl)) (.of @D2 (λF _ _ _ _ _=>by unfold D2;(repeat' apply m0 (f:=F))<;>rfl) (by kernel_rfl)))
structure l8 where
 (is3 ua0 p8:Int)
 vd5:Nat
 Qb0:Nat->List b7
 (Oc5 ca8 ca9 da0 da1:Int)
structure m8 where
 ph:Nat
 A2:List Pln
 Ga1:Int
 (g7 ia2:List Pln)
 Zc2:Nat
 (eh5 eh6:List (List b7))
noncomputable def Na7(p:l8)(s:m8):St:=⟨.unk::.ptr 0 0 0 0::.unk::i p.is3::.ptr 1 0 0 0::ra 4 (eL tP s.A2::i p.ua0::i p.p8::ra 7 (.tree 4 p.vd5 p.Qb0::i p.Oc5::i s.Ga1::ra 25 (i 0::.unk::.ptr 2 0 0 0::.v (.slice none 0 0)::.ptr 3 0 0 0::.ptr 4 0 0 0::ra 31 []))),[⟨0,1,[[eL tP s.g7]],true,false,0⟩,⟨0,4,[[i p.ca8,i p.ca9,i p.da0,i p.da1]],true,false,0⟩,⟨0,1,[[eL tP s.ia2]],true,false,0⟩,⟨0,0,[[.v (.slice none 0 0)]],true,false,0⟩,⟨0,0,[[.ptr 5 0 0 0]],true,false,0⟩,⟨182,0,[],true,false,0⟩]⟩
noncomputable def Na8(p:l8)(s:m8):St:=⟨.unk::.ptr 0 0 0 0::.unk::i p.is3::.ptr 1 0 0 0::ra 4 (eL tP s.A2::i p.ua0::i p.p8::ra 7 (.tree 4 p.vd5 p.Qb0::i p.Oc5::i s.Ga1::ra 25 (i 0::.unk::.ptr 2 0 0 0::.v (.slice none 0 0)::.ptr 3 0 0 0::.ptr 4 0 0 0::ra 31 []))),[⟨0,1,[[eL tP s.g7]],true,false,0⟩,⟨0,4,[[i p.ca8,i p.ca9,i p.da0,i p.da1]],true,false,0⟩,⟨0,1,[[eL tP s.ia2]],true,false,0⟩,⟨0,0,[[.sl 5 0 s.Zc2 0]],true,false,0⟩,⟨0,0,[[.ptr 6 0 0 0]],true,false,0⟩,⟨136,4,s.eh5,true,false,0⟩,⟨182,0,s.eh6,true,false,0⟩]⟩
noncomputable def Ib8(p:l8)(s:m8):St:=(sel (Nat.beq s.ph 1) (Na8 p s) (Na7 p s))
noncomputable def D4{α:Type}(k:m8->α)(e:Nat->α)(z:α)(p:l8)(s:m8):α:=let t1:=(lp (B0 (⟨p.is3,rt tP s.A2,p.ua0,p.p8,p.vd5,p.Qb0,p.Oc5,s.Ga1,(List.length s.g7)-(W ((W (p.is3+s.Ga1))+2)).toNat,(λk=>(λk=>(tP).row (gL tP s.g7 k)) ((W ((W (p.is3+s.Ga1))+2)).toNat+k)),(↑((List.length s.g7)-(W ((W (p.is3+s.Ga1))+2)).toNat):Int),rt tP s.g7,p.ca8,p.ca9,p.da0,p.da1,toI (hdA (p.Qb0 s.Ga1.toNat)),toI (hdA (tlA (p.Qb0 s.Ga1.toNat))),toI (hdA (tlA (tlA (p.Qb0 s.Ga1.toNat)))),toI (hdA (tlA (tlA (tlA (p.Qb0 s.Ga1.toNat))))),rt tP s.ia2⟩:l6)) (⟨0,0,0,[],[]⟩:l7));(sl (decide (s.Ga1<p.Oc5)) (sl (inB s.Ga1 p.vd5) (sl ((Nat.ble 4 (len (p.Qb0 s.Ga1.toNat)))&&(qa3 [CK.int .i64,CK.int .i64,CK.int .i64,CK.int .i64] (p.Qb0 s.Ga1.toNat))) (sl (inB (W ((W (p.is3+s.Ga1))+2)) ((List.length s.g7)+1)) (sl ((cnE tP s.A2)&&((cnE tP s.g7)&&((cnE tP s.ia2)&&true))) (sl (Nat.beq t1.1 1) (k ⟨0,rt tP s.A2,W (s.Ga1+1),rt tP s.g7,rt tP s.ia2,0,[],[]⟩) (sl (Nat.beq t1.1 2) (k ⟨1,rt tP s.A2,W (s.Ga1+1),rt tP s.g7,rt tP s.ia2,t1.2.vb3,t1.2.eh6,t1.2.eh7⟩) z)) z) z) z) z) (e 1))
noncomputable def D5{α:Type}(k:m8->α)(e:Nat->α)(z:α)(p:l8)(s:m8):α:=let t1:=(lp (B0 (⟨p.is3,rt tP s.A2,p.ua0,p.p8,p.vd5,p.Qb0,p.Oc5,s.Ga1,(List.length s.g7)-(W ((W (p.is3+s.Ga1))+2)).toNat,(λk=>(λk=>(tP).row (gL tP s.g7 k)) ((W ((W (p.is3+s.Ga1))+2)).toNat+k)),(↑((List.length s.g7)-(W ((W (p.is3+s.Ga1))+2)).toNat):Int),rt tP s.g7,p.ca8,p.ca9,p.da0,p.da1,toI (hdA (p.Qb0 s.Ga1.toNat)),toI (hdA (tlA (p.Qb0 s.Ga1.toNat))),toI (hdA (tlA (tlA (p.Qb0 s.Ga1.toNat)))),toI (hdA (tlA (tlA (tlA (p.Qb0 s.Ga1.toNat))))),rt tP s.ia2⟩:l6)) (⟨1,0,s.Zc2,s.eh5,s.eh6⟩:l7));(sl (decide (s.Ga1<p.Oc5)) (sl (inB s.Ga1 p.vd5) (sl ((Nat.ble 4 (len (p.Qb0 s.Ga1.toNat)))&&(qa3 [CK.int .i64,CK.int .i64,CK.int .i64,CK.int .i64] (p.Qb0 s.Ga1.toNat))) (sl (inB (W ((W (p.is3+s.Ga1))+2)) ((List.length s.g7)+1)) (sl ((cnE tP s.A2)&&((cnE tP s.g7)&&((cnE tP s.ia2)&&true))) (sl (Nat.beq t1.1 1) (k ⟨0,rt tP s.A2,W (s.Ga1+1),rt tP s.g7,rt tP s.ia2,0,[],[]⟩) (sl (Nat.beq t1.1 2) (k ⟨1,rt tP s.A2,W (s.Ga1+1),rt tP s.g7,rt tP s.ia2,t1.2.vb3,t1.2.eh6,t1.2.eh7⟩) z)) z) z) z) z) (e 2))
noncomputable def B1(p:l8)(s:m8):Stp m8:=(sel (Nat.beq s.ph 1) (D5 .next .exit .fail p s) (D4 .next .exit .fail p s))
noncomputable def wa7:Lo l8 m8:=⟨En ka4,0,qe7,[1,1,1,0,1,4,4,1,4,4,1,1,0,4,1,1,4,4],[1,3,4,9,10,11,19,20,21,47,49,50,51,52],.s .p (.s .p (.s (.b (.s .p (.s .p (.b (.u wa6.lsM))))) .p)),[⟨sUq::sPq 0::sUq::sIq::sPq 1::ru2 4 (sLq tP::sIq::sIq::ru2 7 (sTq 4::sIq::sIq::ru2 25 (.s (.o (.lit .i64 0))::sUq::sPq 2::.s (.o .nil)::sPq 3::sPq 4::ru2 31 []))),[⟨0,1,true,some [[.c 4 (nL tP)]]⟩,⟨0,4,true,some [kLq 4]⟩,⟨0,1,true,some [[.c 4 (nL tP)]]⟩,⟨0,0,true,some [[.o .nil]]⟩,⟨0,0,true,some [[.o (.ptr 5 0 0 0)]]⟩,⟨182,0,true,some []⟩],λa H=>(⟨aIq a 3,aIq a 10,aIq a 11,aNq a 19,aGq a 19,aIq a 20,hIq H 1 0 0,hIq H 1 0 1,hIq H 1 0 2,hIq H 1 0 3⟩,⟨0,aLq tP a 9,aIq a 21,hLq tP H 0 0 0,hLq tP H 2 0 0,0,[],[]⟩)⟩,⟨sUq::sPq 0::sUq::sIq::sPq 1::ru2 4 (sLq tP::sIq::sIq::ru2 7 (sTq 4::sIq::sIq::ru2 25 (.s (.o (.lit .i64 0))::sUq::sPq 2::.s (.o .nil)::sPq 3::sPq 4::ru2 31 []))),[⟨0,1,true,some [[.c 4 (nL tP)]]⟩,⟨0,4,true,some [kLq 4]⟩,⟨0,1,true,some [[.c 4 (nL tP)]]⟩,⟨0,0,true,some [[.o (.sl 5 0 (some 0) none)]]⟩,⟨0,0,true,some [[.o (.ptr 6 0 0 0)]]⟩,⟨136,4,true,none⟩,⟨182,0,true,none⟩],λa H=>(⟨aIq a 3,aIq a 10,aIq a 11,aNq a 19,aGq a 19,aIq a 20,hIq H 1 0 0,hIq H 1 0 1,hIq H 1 0 2,hIq H 1 0 3⟩,⟨1,aLq tP a 9,aIq a 21,hLq tP H 0 0 0,hLq tP H 2 0 0,slN (slT (rwT (elT H 3) 0) 0),elT H 5,elT H 6⟩)⟩],B1,[(some 2,λp s=>upq (Na7 p s) [(22,b (decide (s.Ga1<p.Oc5)))]),(some 2,λp s=>upq (Na8 p s) [(22,b (decide (s.Ga1<p.Oc5)))])],Ib8⟩
theorem Ib9:wa7.OkM:=Lo.okM [wa6.prM] (by kernel_rfl) (.cons Ib7 .nil) rfl (.cons (λa H=>by kernel_rfl) (.cons (λa H=>by kernel_rfl) .nil)) λp s=>(.sel (Nat.beq s.ph 1) (.of @D5 (λF _ _ _ _ _=>by unfold D5;(repeat' apply m0 (f:=F))<;>rfl) (by kernel_rfl)) (.of @D4 (λF _ _ _ _ _=>by unfold D4;(repeat' apply m0 (f:=F))<;>rfl) (by kernel_rfl)))
structure v7 where
 ua0:Int
structure o4 where
 ph:Nat
 A2:List Pln
 p8:Int
 (g7 wb4:List Pln)
 C4:Nat
 (eh4 eh5:List (List b7))
noncomputable def Na9(p:v7)(s:o4):St:=⟨.unk::.ptr 0 0 0 0::ra 7 (eL tP s.A2::i p.ua0::i s.p8::ra 35 (i 0::.unk::.ptr 1 0 0 0::.v (.slice none 0 0)::.ptr 2 0 0 0::.ptr 3 0 0 0::ra 31 [])),[⟨0,1,[[eL tP s.g7]],true,false,0⟩,⟨0,1,[[eL tP s.wb4]],true,false,0⟩,⟨0,0,[[.v (.slice none 0 0)]],true,false,0⟩,⟨0,0,[[.ptr 4 0 0 0]],true,false,0⟩,⟨182,0,[],true,false,0⟩]⟩
noncomputable def Oa0(p:v7)(s:o4):St:=⟨.unk::.ptr 0 0 0 0::ra 7 (eL tP s.A2::i p.ua0::i s.p8::ra 35 (i 0::.unk::.ptr 1 0 0 0::.v (.slice none 0 0)::.ptr 2 0 0 0::.ptr 3 0 0 0::ra 31 [])),[⟨0,1,[[eL tP s.g7]],true,false,0⟩,⟨0,1,[[eL tP s.wb4]],true,false,0⟩,⟨0,0,[[.sl 4 0 s.C4 0]],true,false,0⟩,⟨0,0,[[.ptr 5 0 0 0]],true,false,0⟩,⟨136,4,s.eh4,true,false,0⟩,⟨182,0,s.eh5,true,false,0⟩]⟩
noncomputable def Jb0(p:v7)(s:o4):St:=(sel (Nat.beq s.ph 1) (Oa0 p s) (Na9 p s))
noncomputable def D6{α:Type}(k:o4->α)(e:Nat->α)(z:α)(p:v7)(s:o4):α:=let t1:=(lp (B1 (⟨s.p8,p.ua0,s.p8,(List.length s.g7)-(W (s.p8+1)).toNat,(λk=>(λk=>(tP).row (gL tP s.g7 k)) ((W (s.p8+1)).toNat+k)),(↑((List.length s.g7)-(W (s.p8+1)).toNat):Int),(gL tP s.A2 s.p8.toNat).n.x,(gL tP s.A2 s.p8.toNat).n.y,(gL tP s.A2 s.p8.toNat).n.z,(gL tP s.A2 s.p8.toNat).b⟩:l8)) (⟨0,rt tP s.A2,0,rt tP s.g7,rt tP s.wb4,0,[],[]⟩:m8));(sl (decide (s.p8<p.ua0)) (sl (inB s.p8 (List.length s.A2)) (sl (inB (W (s.p8+1)) ((List.length s.g7)+1)) (sl ((cnE tP s.A2)&&((cnE tP s.g7)&&((cnE tP s.wb4)&&true))) (sl (Nat.beq t1.1 1) (k ⟨0,t1.2.A2,W (s.p8+1),t1.2.g7,t1.2.ia2,0,[],[]⟩) (sl (Nat.beq t1.1 2) (k ⟨1,t1.2.A2,W (s.p8+1),t1.2.g7,t1.2.ia2,t1.2.Zc2,t1.2.eh5,t1.2.eh6⟩) z)) z) z) z) (e 1))
noncomputable def D7{α:Type}(k:o4->α)(e:Nat->α)(z:α)(p:v7)(s:o4):α:=let t1:=(lp (B1 (⟨s.p8,p.ua0,s.p8,(List.length s.g7)-(W (s.p8+1)).toNat,(λk=>(λk=>(tP).row (gL tP s.g7 k)) ((W (s.p8+1)).toNat+k)),(↑((List.length s.g7)-(W (s.p8+1)).toNat):Int),(gL tP s.A2 s.p8.toNat).n.x,(gL tP s.A2 s.p8.toNat).n.y,(gL tP s.A2 s.p8.toNat).n.z,(gL tP s.A2 s.p8.toNat).b⟩:l8)) (⟨1,rt tP s.A2,0,rt tP s.g7,rt tP s.wb4,s.C4,s.eh4,s.eh5⟩:m8));(sl (decide (s.p8<p.ua0)) (sl (inB s.p8 (List.length s.A2)) (sl (inB (W (s.p8+1)) ((List.length s.g7)+1)) (sl ((cnE tP s.A2)&&((cnE tP s.g7)&&((cnE tP s.wb4)&&true))) (sl (Nat.beq t1.1 1) (k ⟨0,t1.2.A2,W (s.p8+1),t1.2.g7,t1.2.ia2,0,[],[]⟩) (sl (Nat.beq t1.1 2) (k ⟨1,t1.2.A2,W (s.p8+1),t1.2.g7,t1.2.ia2,t1.2.Zc2,t1.2.eh5,t1.2.eh6⟩) z)) z) z) z) (e 2))
noncomputable def B4(p:v7)(s:o4):Stp o4:=(sel (Nat.beq s.ph 1) (D7 .next .exit .fail p s) (D6 .next .exit .fail p s))
noncomputable def wa8:Lo v7 o4:=⟨En ka4,0,qe7,[1,1,1,0,1,4,4,1,4,4],[1,9,10,11,47,49,50,51,52],.s .p (.s .p (.s (.b (.s .p (.s .p (.b (.u wa7.lsM))))) .p)),[⟨sUq::sPq 0::ru2 7 (sLq tP::sIq::sIq::ru2 35 (.s (.o (.lit .i64 0))::sUq::sPq 1::.s (.o .nil)::sPq 2::sPq 3::ru2 31 [])),[⟨0,1,true,some [[.c 4 (nL tP)]]⟩,⟨0,1,true,some [[.c 4 (nL tP)]]⟩,⟨0,0,true,some [[.o .nil]]⟩,⟨0,0,true,some [[.o (.ptr 4 0 0 0)]]⟩,⟨182,0,true,some []⟩],λa H=>(⟨aIq a 10⟩,⟨0,aLq tP a 9,aIq a 11,hLq tP H 0 0 0,hLq tP H 1 0 0,0,[],[]⟩)⟩,⟨sUq::sPq 0::ru2 7 (sLq tP::sIq::sIq::ru2 35 (.s (.o (.lit .i64 0))::sUq::sPq 1::.s (.o .nil)::sPq 2::sPq 3::ru2 31 [])),[⟨0,1,true,some [[.c 4 (nL tP)]]⟩,⟨0,1,true,some [[.c 4 (nL tP)]]⟩,⟨0,0,true,some [[.o (.sl 4 0 (some 0) none)]]⟩,⟨0,0,true,some [[.o (.ptr 5 0 0 0)]]⟩,⟨136,4,true,none⟩,⟨182,0,true,none⟩],λa H=>(⟨aIq a 10⟩,⟨1,aLq tP a 9,aIq a 11,hLq tP H 0 0 0,hLq tP H 1 0 0,slN (slT (rwT (elT H 2) 0) 0),elT H 4,elT H 5⟩)⟩],B4,[(some 0,λp s=>upq (Na9 p s) [(12,b (decide (s.p8<p.ua0)))]),(some 0,λp s=>upq (Oa0 p s) [(12,b (decide (s.p8<p.ua0)))])],Jb0⟩
theorem Jb1:wa8.OkM:=Lo.okM [wa7.prM] (by kernel_rfl) (.cons Ib9 .nil) rfl (.cons (λa H=>by kernel_rfl) (.cons (λa H=>by kernel_rfl) .nil)) λp s=>(.sel (Nat.beq s.ph 1) (.of @D7 (λF _ _ _ _ _=>by unfold D7;(repeat' apply m0 (f:=F))<;>rfl) (by kernel_rfl)) (.of @D6 (λF _ _ _ _ _=>by unfold D6;(repeat' apply m0 (f:=F))<;>rfl) (by kernel_rfl)))
noncomputable def da2(x:List Pln):Option (b7×List b8):=let t1:=(lp (B4 (⟨(↑(List.length x):Int)⟩:v7)) (⟨0,rt tP x,0,rt tP x,rt tP x,0,[],[]⟩:o4));(sl ((cnE tP x)&&((cnE tP x)&&((cnE tP x)&&true))) (sl (Nat.beq t1.1 1) (some (.v (.slice none 0 0),[])) (sl (Nat.beq t1.1 2) (some (.sl 0 0 t1.2.C4 0,[⟨136,4,t1.2.eh4,true,false,0⟩])) none)) none)
noncomputable def da3(x:List Pln):List Pt:=O3 (one (r1L tX)) (da2 x)
noncomputable def da4(x:List Pln):Bool:=okO (one (r1L tX)) (da2 x)
noncomputable def Fa5:Sum:=X7 (P8 tP) (λx=>.guard (da4 x) (.ret ((one (r1L tX)).enc (da3 x),[])))
theorem Za5:i5 prog G 167 Fa5:=Ha5 (bd Rf8 Nb5) (one (r1L tX)) (o:=da2) λx=>Ne4 (.s .p (.s .p (.s .p (.s (.s .p (.b (.i (.s .p (.b (.u wa8.lsM)))))) .p)))) [wa8.prM] (by kernel_rfl) (.cons Jb1 .nil) (by kernel_rfl)
noncomputable def Wb8:List (Nat×Sum):=[]
theorem Kc7:i9 prog G Wb8:=trivial
structure wa9 where
 is0:Int
 ve5:List Int
 is8:Int
structure Q0 where
 is9:Int
noncomputable def Gb3(p:wa9)(s:Q0):St:=⟨i p.is0::ra 6 (eL tI p.ve5::i p.is8::i s.is9::ra 13 []),[]⟩
noncomputable def na4{α:Type}(k:Q0->α)(e:Nat->α)(z:α)(p:wa9)(s:Q0):α:=(sl (decide (s.is9<p.is8)) (sl (inB s.is9 (List.length p.ve5)) (sl (decide ((gL tI p.ve5 s.is9.toNat)<(W (0-p.is0)))) (e 1) (sl (decide ((gL tI p.ve5 s.is9.toNat)>p.is0)) (e 1) (k ⟨W (s.is9+1)⟩))) z) (e 2))
noncomputable def sa5(p:wa9)(s:Q0):Stp Q0:=na4 .next .exit .fail p s
noncomputable def gb1:Lo wa9 Q0:=⟨En Wb8,0,mf2,[1,0,1,4,4],[0,7,8,9],.p,[⟨sIq::ru2 6 (sLq tI::sIq::sIq::ru2 13 []),[],λa H=>(⟨aIq a 0,aLq tI a 7,aIq a 8⟩,⟨aIq a 9⟩)⟩],sa5,[(none,λp s=>⟨[b false],[]⟩),(some 0,λp s=>upq (Gb3 p s) [(10,b (decide (s.is9<p.is8)))])],Gb3⟩
theorem Cc6:gb1.Ok:=Lo.ok [] (by kernel_rfl) .nil rfl (.cons (λa H=>by kernel_rfl) .nil) λp s=>(.of @na4 (λF _ _ _ _ _=>by unfold na4;(repeat' apply m0 (f:=F))<;>rfl) (by kernel_rfl))
noncomputable def Ia6(x:Int)(y:List Int):Option (b7×List b8):=let t1:=(lp (sa5 (⟨x,rt tI y,(↑(List.length y):Int)⟩:wa9)) (⟨0⟩:Q0));(sl ((cnE tI y)&&true) (sl (Nat.beq t1.1 1) (some (b false,[])) (sl (Nat.beq t1.1 2) (some (b true,[])) none)) none)
noncomputable def Ia7(x:Int)(y:List Int):Bool:=O3 (one r1B) (Ia6 x y)
noncomputable def Ia8(x:Int)(y:List Int):Bool:=okO (one r1B) (Ia6 x y)
noncomputable def fc5:Sum:=ra8 cI (P8 tI) (λx y=>.guard (Ia8 x y) (.ret ((one r1B).enc (Ia7 x y),[])))
theorem Uc1:i5 prog G 138 fc5:=sb9 (bd Qf1 Kc7) (one r1B) (o:=Ia6) λx y=>va6 (.s .p (.s (.s .p (.b (.u gb1.ls))) .p)) [gb1.pr] (by kernel_rfl) (.cons Cc6 .nil) (by kernel_rfl)
noncomputable def Cc7:List (Nat×Sum):=[]
theorem uc5:i9 prog G Cc7:=trivial
noncomputable def Ma1(x:Int):Int:=(if (W (0-x))>x then (W (0-x)) else x)
noncomputable def Nb6:Sum:=X7 cI (λx=>.ret ((one r1I).enc (Ma1 x),[]))
theorem Cc8:i5 prog G 183 Nb6:=Fb2 (bd Sf8 uc5) λx=>y8 (by kernel_rfl)
noncomputable def gb2:List (Nat×Sum):=[(183,Nb6)]
theorem Cc9:i9 prog G gb2:=⟨Cc8,trivial⟩
structure ha8 where
 eb7:List Int
 (is7 is8:Int)
structure S3 where
 (is3 is5:Int)
noncomputable def zb5(p:ha8)(s:S3):St:=⟨ra 3 (i s.is3::.unk::i s.is5::eL tI p.eb7::i p.is7::i p.is8::ra 15 []),[]⟩
noncomputable def ja6{α:Type}(k:S3->α)(e:Nat->α)(z:α)(p:ha8)(s:S3):α:=(sl (decide (s.is5>0)) (sl (s.is5==0) z (k ⟨s.is5,Int.tmod s.is3 s.is5⟩)) (e 1))
noncomputable def ea0(p:ha8)(s:S3):Stp S3:=ja6 .next .exit .fail p s
noncomputable def Za6:Lo ha8 S3:=⟨En gb2,0,Ne2,[1,1,0,1,4,4,1,1,0,4,1,1,1,4,4],[3,5,6,7,8],.p,[⟨ru2 3 (sIq::sUq::sIq::sLq tI::sIq::sIq::ru2 15 []),[],λa H=>(⟨aLq tI a 6,aIq a 7,aIq a 8⟩,⟨aIq a 3,aIq a 5⟩)⟩],ea0,[(some 2,λp s=>upq (zb5 p s) [(16,i s.is5),(17,b (decide (s.is5>0)))])],zb5⟩
theorem uc6:Za6.Ok:=Lo.ok [] (by kernel_rfl) .nil rfl (.cons (λa H=>by kernel_rfl) .nil) λp s=>(.of @ja6 (λF _ _ _ _ _=>by unfold ja6;(repeat' apply m0 (f:=F))<;>rfl) (by kernel_rfl))
structure sa6 where
 is7:Int
structure N1 where
 is3:Int
 eb7:List Int
 is8:Int
noncomputable def zb6(p:sa6)(s:N1):St:=⟨ra 3 (i s.is3::.unk::.unk::eL tI s.eb7::i p.is7::i s.is8::ra 15 []),[]⟩
noncomputable def ja7{α:Type}(k:N1->α)(e:Nat->α)(z:α)(p:sa6)(s:N1):α:=let t1:=(Ma1 (gL tI s.eb7 s.is8.toNat));let t2:=(lp (ea0 (⟨rt tI s.eb7,p.is7,s.is8⟩:ha8)) (⟨s.is3,t1⟩:S3));(sl (decide (s.is8<p.is7)) (sl (inB s.is8 (List.length s.eb7)) (sl ((gL tI s.eb7 s.is8.toNat)==(-9223372036854775808)) (e 1) (sl ((cnE tI s.eb7)&&true) (sl (Nat.beq t2.1 1) (k ⟨t2.2.is3,rt tI s.eb7,W (s.is8+1)⟩) z) z)) z) (e 2))
noncomputable def na5(p:sa6)(s:N1):Stp N1:=ja7 .next .exit .fail p s
noncomputable def Za7:Lo sa6 N1:=⟨En gb2,0,Ne2,[1,1,0,1,4,4],[3,6,7,8],.s .p (.s .p (.s (.b (.s .p (.s .p (.s .p (.b (.u Za6.ls)))))) .p)),[⟨ru2 3 (sIq::sUq::sUq::sLq tI::sIq::sIq::ru2 15 []),[],λa H=>(⟨aIq a 7⟩,⟨aIq a 3,aLq tI a 6,aIq a 8⟩)⟩],na5,[(none,λp s=>⟨[i 0],[]⟩),(some 0,λp s=>upq (zb6 p s) [(9,b (decide (s.is8<p.is7)))])],zb6⟩
theorem uc7:Za7.Ok:=Lo.ok [Za6.pr] (by kernel_rfl) (.cons uc6 .nil) rfl (.cons (λa H=>by kernel_rfl) .nil) λp s=>(.of @ja7 (λF _ _ _ _ _=>by unfold ja7;(repeat' apply m0 (f:=F))<;>rfl) (by kernel_rfl))
noncomputable def Ba8(x:List Int):Option (b7×List b8):=let t1:=(lp (na5 (⟨(↑(List.length x):Int)⟩:sa6)) (⟨0,rt tI x,0⟩:N1));(sl ((cnE tI x)&&true) (sl (Nat.beq t1.1 1) (some (i 0,[])) (sl (Nat.beq t1.1 2) (some (i t1.2.is3,[])) none)) none)
noncomputable def Ta3(x:List Int):Int:=O3 (one r1I) (Ba8 x)
noncomputable def Ta4(x:List Int):Bool:=okO (one r1I) (Ba8 x)
noncomputable def Wb9:Sum:=X7 (P8 tI) (λx=>.guard (Ta4 x) (.ret ((one r1I).enc (Ta3 x),[])))
theorem Kc8:i5 prog G 186 Wb9:=Ha5 (bd Tf0 Cc9) (one r1I) (o:=Ba8) λx=>va6 (.s .p (.s .p (.s (.s .p (.b (.u Za7.ls))) .p))) [Za7.pr] (by kernel_rfl) (.cons uc7 .nil) (by kernel_rfl)
noncomputable def fd8:List (Nat×Sum):=[(138,fc5),(186,Wb9)]
theorem Uc2:i9 prog G fd8:=⟨Uc1,Kc8,trivial⟩
noncomputable def Ra1(x:Pln):Option (b7×List b8):=let t1:=(Ia7 4608 [x.n.x,x.n.y,x.n.z]);let t2:=(Ta3 [x.n.x,x.n.y,x.n.z]);let t3:=(Ia7 2097152 [x.b]);(sl (Ia8 4608 [x.n.x,x.n.y,x.n.z]) (sl t1 (sl (Ta4 [x.n.x,x.n.y,x.n.z]) (sl (t2==1) (sl (Ia8 2097152 [x.b]) (some (b t3,[])) none) (some (b false,[]))) none) (some (b false,[]))) none)
noncomputable def jb2(x:Pln):Bool:=O3 (one r1B) (Ra1 x)
noncomputable def jb3(x:Pln):Bool:=okO (one r1B) (Ra1 x)
noncomputable def qc2:Sum:=X7 (ha7 tP) (λx=>.guard (jb3 x) (.ret ((one r1B).enc (jb2 x),[])))
theorem fd9:i5 prog G 140 qc2:=Ha5 (bd Qf2 Uc2) (one r1B) (o:=Ra1) λx=>y8 (by kernel_rfl)
noncomputable def Uc3:List (Nat×Sum):=[(140,qc2)]
theorem Kc9:i9 prog G Uc3:=⟨fd9,trivial⟩
noncomputable def Ia9(x:Pln):Option (b7×List b8):=let t1:=(jb2 x);(sl (jb3 x) (some (b (!t1),[])) none)
noncomputable def Za8(x:Pln):Bool:=O3 (one r1B) (Ia9 x)
noncomputable def Za9(x:Pln):Bool:=okO (one r1B) (Ia9 x)
noncomputable def fc6:Sum:=X7 (ha7 tP) (λx=>.guard (Za9 x) (.ret ((one r1B).enc (Za8 x),[])))
theorem Uc4:i5 prog G 149 fc6:=Ha5 (bd Qf5 Kc9) (one r1B) (o:=Ia9) λx=>y8 (by kernel_rfl)
structure ba5 where
 d7:List Pln
noncomputable def Ja0:List (Nat×Sum):=[(149,fc6)]
theorem tb3:i9 prog G Ja0:=⟨Uc4,trivial⟩
structure N2 where
 d7:List Pln
 is7:Int
structure q8 where
 is8:Int
noncomputable def Ba9(p:N2)(s:q8):St:=⟨eL tP p.d7::.fn 149 []::ra 5 (i p.is7::i s.is8::ra 10 []),[]⟩
noncomputable def H8{α:Type}(k:q8->α)(e:Nat->α)(z:α)(p:N2)(s:q8):α:=let t1:=(Za8 (gL tP p.d7 s.is8.toNat));(sl (decide (s.is8<p.is7)) (sl (inB s.is8 (List.length p.d7)) (sl (Za9 (gL tP p.d7 s.is8.toNat)) (sl t1 (e 1) (k ⟨W (s.is8+1)⟩)) z) z) (e 2))
noncomputable def K3(p:N2)(s:q8):Stp q8:=H8 .next .exit .fail p s
noncomputable def ka5:Lo N2 q8:=⟨En Ja0,0,Vd1,[1,0,1,4,4],[0,1,7,8],.p,[⟨sLq tP::.s (.o (.fn 149))::ru2 5 (sIq::sIq::ru2 10 []),[],λa H=>(⟨aLq tP a 0,aIq a 7⟩,⟨aIq a 8⟩)⟩],K3,[(none,λp s=>⟨[i s.is8],[]⟩),(some 0,λp s=>upq (Ba9 p s) [(9,b (decide (s.is8<p.is7)))])],Ba9⟩
theorem pb7:ka5.Ok:=Lo.ok [] (by kernel_rfl) .nil rfl (.cons (λa H=>by kernel_rfl) .nil) λp s=>(.of @H8 (λF _ _ _ _ _=>by unfold H8;(repeat' apply m0 (f:=F))<;>rfl) (by kernel_rfl))
structure ba6 where
 alt:Nat
 is0:Int
noncomputable def I9{α:Type}(kk:ba6->α)(x:ba5):α:=let t1:=(lp (K3 (⟨rt tP x.d7,(↑(List.length x.d7):Int)⟩:N2)) (⟨0⟩:q8));(sl ((cnE tP x.d7)&&true) (sl (Nat.beq t1.1 1) (kk ⟨1,t1.2.is8⟩) (sl (Nat.beq t1.1 2) (kk ⟨1,-1⟩) (kk ⟨0,0⟩))) (kk ⟨0,0⟩))
noncomputable def qa5(x:ba5):ba6:=I9 (λr=>r) x
noncomputable def na6(x:ba5)(r:ba6):DT (b7×List b8):=(.ite (Nat.beq r.alt 1) (.ret (i r.is0,[])) .fail)
theorem Db3{α β:Type}(F:α->β)(kk:ba6->α)(x:ba5):F (I9 kk x)=I9 (λr=>F (kk r)) x:=by unfold I9;(repeat' apply m0 (f:=F))<;>rfl
noncomputable def Oa1:Sum:=Ya5 ⟨[sLq tP,.s (.o (.fn 149))],[],λa H=>(⟨aLq tP a 0⟩,())⟩ (λx=>na6 x (qa5 x))
theorem zb7:i5 prog G 139 Oa1:=O5 (enc:=λx=>⟨[eL tP x.d7,.fn 149 []],[]⟩) (λa H=>by kernel_rfl) (bd cf6 tb3) λx=>va6 (.s .p (.s (.s .p (.b (.u ka5.ls))) .p)) [ka5.pr] (by kernel_rfl) (.cons pb7 .nil) (Qha (b:=I9 (λr=>(na6 x r).run) x) (by kernel_rfl) (Db3 (λr=>(na6 x r).run) (λr=>r) x).symm)
structure U2 where
 d7:List Pln
noncomputable def mb3:List (Nat×Sum):=[(139,Oa1)]
theorem gb3:i9 prog G mb3:=⟨zb7,trivial⟩
structure U3 where
 alt:Nat
 bs0:Bool
noncomputable def E2{α:Type}(kk:U3->α)(x:U2):α:=let t1:=(qa5 ⟨rt tP x.d7⟩);(sl ((cnE tP x.d7)&&true) (sl (Nat.beq t1.alt 1) (kk ⟨1,decide (t1.is0>=0)⟩) (kk ⟨0,false⟩)) (kk ⟨0,false⟩))
noncomputable def ia6(x:U2):U3:=E2 (λr=>r) x
noncomputable def ga2(x:U2)(r:U3):DT (b7×List b8):=(.ite (Nat.beq r.alt 1) (.ret (b r.bs0,[])) .fail)
theorem pb8{α β:Type}(F:α->β)(kk:U3->α)(x:U2):F (E2 kk x)=E2 (λr=>F (kk r)) x:=by unfold E2;(repeat' apply m0 (f:=F))<;>rfl
noncomputable def Ca0:Sum:=Ya5 ⟨[sLq tP,.s (.o (.fn 149))],[],λa H=>(⟨aLq tP a 0⟩,())⟩ (λx=>ga2 x (ia6 x))
theorem mb4:i5 prog G 86 Ca0:=O5 (enc:=λx=>⟨[eL tP x.d7,.fn 149 []],[]⟩) (λa H=>by kernel_rfl) (bd b86 gb3) λx=>y8 (Qha (b:=E2 (λr=>(ga2 x r).run) x) (by kernel_rfl) (pb8 (λr=>(ga2 x r).run) (λr=>r) x).symm)
noncomputable def rd7:List (Nat×Sum):=[(86,Ca0)]
theorem gd0:i9 prog G rd7:=⟨mb4,trivial⟩
noncomputable def ab0(x:List Pln):Option (b7×List b8):=let t1:=(ia6 ⟨rt tP x⟩);(sl (decide ((↑(List.length x):Int)>48)) (some (i 2,[])) (sl ((cnE tP x)&&true) (sl (Nat.beq t1.alt 1) (sl t1.bs0 (some (i 12,[])) (some (i 0,[]))) none) none))
noncomputable def sa7(x:List Pln):Int:=O3 (one r1I) (ab0 x)
noncomputable def Ma2(x:List Pln):Bool:=okO (one r1I) (ab0 x)
noncomputable def tb4:Sum:=X7 (P8 tP) (λx=>.guard (Ma2 x) (.ret ((one r1I).enc (sa7 x),[])))
theorem Jb2:i5 prog G 97 tb4:=Ha5 (bd b97 gd0) (one r1I) (o:=ab0) λx=>y8 (by kernel_rfl)
noncomputable def Uc5:List (Nat×Sum):=[(97,tb4)]
theorem Lc0:i9 prog G Uc5:=⟨Jb2,trivial⟩
noncomputable def Ja1(x:List Pln):Option (b7×List b8):=let t1:=(sa7 (rt tP x));(sl (okE tP x) (sl (Ma2 (rt tP x)) (some (b (t1 != 0),[])) none) none)
noncomputable def ab1(x:List Pln):Bool:=O3 (one r1B) (Ja1 x)
noncomputable def ab2(x:List Pln):Bool:=okO (one r1B) (Ja1 x)
noncomputable def fc7:Sum:=X7 (P8 tP) (λx=>.guard (ab2 x) (.ret ((one r1B).enc (ab1 x),[])))
theorem Uc6:i5 prog G 165 fc7:=Ha5 (bd Rf6 Lc0) (one r1B) (o:=Ja1) λx=>y8 (by kernel_rfl)
end Go.Ev.Ce
namespace Go.Proofs
open Go.Shelf
set_option maxRecDepth 100000 in
def Ce.growP_ren:Go.Shelf.Ren:=⟨fun | 4=>193 | n=>n,fun | 22=>24 | 25=>73 | 3=>3 | 4=>4 | 9=>9 | 20=>20 | 0=>0 | n=>n,fun | n=>n⟩
set_option maxRecDepth 100000 in
theorem Ce.growP:Go.Proofs.Lays8.n4 Tryz.prog Ce.growP_ren:={
 mixed:=by kernel_rfl
 f4:=⟨Tryz.f193.name,by decide,Tryz.func193.trans (congrArg some (by kernel_rfl))⟩
 t0:=Tryz.underlying0
 a0:=Tryz.isAgg0
 z0:=Tryz.sizeOf0
 v0:=Tryz.zeroValue0
 t3:=Tryz.underlying3
 a3:=Tryz.isAgg3
 z3:=Tryz.sizeOf3
 v3:=Tryz.zeroValue3
 t4:=Tryz.underlying4
 a4:=Tryz.isAgg4
 z4:=Tryz.sizeOf4
 v4:=Tryz.zeroValue4
 t9:=Tryz.underlying9
 a9:=Tryz.isAgg9
 z9:=Tryz.sizeOf9
 v9:=Tryz.zeroValue9
 t20:=Tryz.underlying20
 a20:=Tryz.isAgg20
 z20:=Tryz.sizeOf20
 v20:=Tryz.zeroValue20
 t22:=Tryz.underlying24
 a22:=Tryz.isAgg24
 z22:=Tryz.sizeOf24
 v22:=Tryz.zeroValue24 }
end Go.Proofs
namespace Go.Ev.Ce
open Go Go.Ev Go.Proofs
noncomputable def Id9:List b7:=[i 0,i 0,i 0,i 0]
noncomputable def Pa3:Sum:=λargs blks=>match args,blks with
 | [.v (.slice none 0 0), .v (.int .i64 n)], [] => .ite (n == 0) (.ret (.v (.slice none 0 0), []))
   (.guard (Bool.and (decide (0<n)) (Nat.ble (n.toNat*32) room)) (.ret (.sl 0 0 0 0,[⟨73,4,List.replicate n.toNat Id9,true,false,0⟩])))
 |_,_=>.fail
theorem z73:zeT Tryz.prog 73=some Id9:=by kernel_rfl
theorem s73:szT Tryz.prog 73=4:=by kernel_rfl
theorem y73:byT Tryz.prog 73=32:=by kernel_rfl
theorem t25:Ce.growP_ren.t 25=73:=by kernel_rfl
theorem f4:Ce.growP_ren.f 4=193:=by kernel_rfl
set_option maxRecDepth 100000 in
theorem fc8:i5 prog G 193 Pa3:=by
 intro args blks r out he W ρ F w args' hH hlen hargs hG;refine⟨⟨_,Tryz.func193,by kernel_rfl,of_decide_eq_true (by kernel_rfl)⟩,?_⟩
 unfold Pa3 at he
 split at he
 case h_2=>cases he
 rename_i n
 match args',hlen with
 |[v0,v1],_ =>
 have e0:=ja5 (hargs 0 _ _ rfl rfl);have e1:=ja5 (hargs 1 _ _ rfl rfl);subst e0 e1
 rcases DT.run_ite_some he with⟨h0,he⟩|⟨h0,he⟩
 ·have h0:n=0:=by simpa using h0
  subst h0;injection he with he;injection he with q1 q2;subst q1 q2
  have:=Any8.slices_Grow_room Ce.growP none 0 0 0 w (Qhf _) (by omega) (by omega) (by omega)
  rw[f4] at this;refine this.mono λe w' ⟨h1,h2⟩=>?_
  subst h1 h2;exact⟨_,rfl,ρ,F,.refl,hH,.ofv _⟩
 ·obtain⟨hg,he⟩:=DT.run_guard_some he;rw[Bool.and_eq_true,decide_eq_true_eq] at hg;obtain⟨hpos,hroom⟩:=hg;have hroom:=Nat.le_of_ble_eq_true hroom;unfold room at hroom;obtain⟨m,rfl⟩:=Int.eq_ofNat_of_zero_le (Int.le_of_lt hpos);have hm:0<m:=by omega
  have he:some (b7.sl 0 0 0 0,[(⟨73,4,List.replicate m Id9,true,false,0⟩:b8)])=some (r,out):=he;injection he with he;injection he with q1 q2;subst q1 q2
  obtain⟨ti,zv,hi,hzz,hzr,hone⟩:=fb1 (E:=En []) z73;have hi:Tryz.prog.info? 73=some ti:=hi;have hts:ti.size=4:=by have:=s73;simp only[szT,hi] at this;exact this
  have hby:ti.bytes=32:=by have:=y73;simp only[byT,hi] at this;exact this
  have hzs:zv.cells.size=4:=by
   have:=congrArg List.length hzr
   simpa [Id9] using this.symm
  have hroom':m*32<=140737488355328:=hroom
  have:=Any8.slices_Grow_grow Ce.growP ti zv (by rw[t25];exact hi) hzz (by omega) none 0 0 m [] w (Qhf _) (by omega) (by rw[hby];omega) (by omega) (by simp) (λ_=>rfl) (λa ha=>by cases ha)
  rw[f4,t25] at this;refine this.mono λe w' ⟨h1,h2⟩=>?_
  have hcap:=grownCap_ge w (0+m) 0 73;have hcap2:=grownCap_le_maxLen w (0+m) 0 73 (by unfold maxLen;omega)
  subst h1;generalize grownCap w (0+m) 0 73=G' at *
  have hsz:∀q,(Builtin.zeroCells zv.cells q).size=q*4:=λq=>by simp[Builtin.zeroCells,hzs]
  have hcc:(#[]++Builtin.zeroCells zv.cells (0+m-0)++Builtin.zeroCells zv.cells (G'-(0+m))).size=G'*4:=by
   rw[Array.size_append,Array.size_append,hsz,hsz];simp;omega
  have hobj:w'.heap[w.heap.size]?=some (.cells (#[]++Builtin.zeroCells zv.cells (0+m-0)++Builtin.zeroCells zv.cells (G'-(0+m))) 73 (0,0)):=by
   rw[h2];exact World.alloc_heap_new w.drew _
  have hold:∀k,k<w.heap.size->w'.heap[k]?=w.heap[k]?:=λk hk=>by
   rw[h2];simp only[World.alloc,Array.getElem?_push,World.drew];rw[if_neg (by omega)]
  have hws:w'.heap.size=w.heap.size+1:=by rw[h2];exact Array.size_push ..
  obtain⟨h6,h7⟩:=hH.newAt (w':=w') (by rw[h2];rfl) (by rw[h2];rfl) (by rw[h2];rfl) (by rw[h2];exact Nat.le_succ _) (by omega) hold w.heap.size (Qhf _) 73 4 (List.replicate m Id9) _ 73 hobj
   (λj r hr=>by rw[Qhe] at hr;split at hr<;>cases hr;rfl) (by rw[List.length_replicate,hcc];omega)
   (λj r c x hr hx=>by
    have hjm:j<m:=by
     have:=(Qhc.1 hr).1
     simpa using this
    rw[Qhe,if_pos hjm] at hr;injection hr with hr;subst hr;have hc4:c<4:=(Qhc.1 hx).1;rw[hzr,List.getElem?_map] at hx;have hcz:c<zv.cells.size:=by omega
    have hq:zv.cells.toList[c]?=some zv.cells[c]:=by simp[hcz]
    rw[hq] at hx;injection hx with hx;subst hx;refine⟨zv.cells[c],?_,.v _ (hone _ (by simp))⟩
    have hlt:j*4+c<m*4:=by omega
    rw[Array.append_assoc,Array.empty_append,Array.getElem?_append_left (by rw[hsz];omega)]
    have hm4:(j*4+c) % 4=c:=by omega
    simp only[Builtin.zeroCells,hzs];rw[Array.getElem?_map,Array.getElem?_range];rw[if_pos (by omega)]
    simp[hm4,hcz])
   (λ_=>rfl)
  refine⟨_,rfl,_,F,h6,h7,.val (.cell ?_)⟩;refine .sl 0 0 0 0 _ _ { et:=73,es:=4,elems:=List.replicate m Id9,own:=true,dead:=false,g:=0 } rfl rfl (Qhf _) (Nat.zero_le _) rfl hcap2 λ_=>⟨.inr ?_,?_,by simp⟩
  ·simp[ρnew]
  ·simp only[ρnew,List.length_nil,if_true];rw[hcc,Nat.zero_add]
end Go.Ev.Ce
namespace Go.Ev.Ce
open Go Go.Ev Go.Ev.L Go.Proofs
set_option maxRecDepth 100000
noncomputable def za7:List (Nat×Sum):=[(193,Pa3)]
theorem Nb7:i9 prog G za7:=⟨fc8,trivial⟩
structure V7 where
 (X1 Cb9:List (List Pln))
 ua0:Int
structure v8 where
 (is3 p8:Int)
noncomputable def Ra2(p:V7)(s:v8):St:=⟨eL (tLs tP) p.X1::.unk::.unk::i s.is3::ra 5 (eL (tLs tP) p.Cb9::i p.ua0::i s.p8::ra 24 []),[]⟩
noncomputable def R7{α:Type}(k:v8->α)(e:Nat->α)(z:α)(p:V7)(s:v8):α:=(sl (decide (s.p8<p.ua0)) (sl (inB s.p8 (List.length p.Cb9)) (sl (decide ((W (s.is3+(↑(List.length (gL (tLs tP) p.Cb9 s.p8.toNat)):Int)))<0)) z (k ⟨W (s.is3+(↑(List.length (gL (tLs tP) p.Cb9 s.p8.toNat)):Int)),W (s.p8+1)⟩)) z) (e 1))
noncomputable def L9(p:V7)(s:v8):Stp v8:=R7 .next .exit .fail p s
noncomputable def xa0:Lo V7 v8:=⟨En za7,0,Ne1,[1,1,0,1,4,4],[0,3,9,10,11],.p,[⟨.s (.c 1 (nL (tLs tP)))::sUq::sUq::sIq::ru2 5 (.s (.c 1 (nL (tLs tP)))::sIq::sIq::ru2 24 []),[],λa H=>(⟨rL (tLs tP) (slT a 0),rL (tLs tP) (slT a 9),aIq a 10⟩,⟨aIq a 3,aIq a 11⟩)⟩],L9,[(some 0,λp s=>upq (Ra2 p s) [(12,b (decide (s.p8<p.ua0)))])],Ra2⟩
theorem Jb3:xa0.OkM:=Lo.okM [] (by kernel_rfl) .nil rfl (.cons (λa H=>by kernel_rfl) .nil) λp s=>(.of @R7 (λF _ _ _ _ _=>by unfold R7;(repeat' apply m0 (f:=F))<;>rfl) (by kernel_rfl))
structure A0 where
 Ga7:List (List Pln)
 vd6:Int
structure n9 where
 ph:Nat
 Pa9:Int
 ns6:Nat
 eh0:List (List b7)
noncomputable def Oa2(p:A0)(s:n9):St:=⟨ra 6 (.v (.slice none 0 0)::ra 18 (eL (tLs tP) p.Ga7::i p.vd6::i s.Pa9::ra 8 [])),[]⟩
noncomputable def Oa3(p:A0)(s:n9):St:=⟨ra 6 (.sl 0 0 s.ns6 0::ra 18 (eL (tLs tP) p.Ga7::i p.vd6::i s.Pa9::ra 8 [])),[⟨73,4,s.eh0,true,false,0⟩]⟩
noncomputable def Jb4(p:A0)(s:n9):St:=(sel (Nat.beq s.ph 1) (Oa3 p s) (Oa2 p s))
noncomputable def D8{α:Type}(k:n9->α)(e:Nat->α)(z:α)(p:A0)(s:n9):α:=(sl (decide (s.Pa9<p.vd6)) (sl (inB s.Pa9 (List.length p.Ga7)) (sl (Nat.beq (len (p5 (λk=>(tP).row (gL tP (gL (tLs tP) p.Ga7 s.Pa9.toNat) k)) (List.range (List.length (gL (tLs tP) p.Ga7 s.Pa9.toNat))))) 0) (k ⟨0,W (s.Pa9+1),0,[]⟩) z) z) (e 1))
noncomputable def D9{α:Type}(k:n9->α)(e:Nat->α)(z:α)(p:A0)(s:n9):α:=(sl (decide (s.Pa9<p.vd6)) (sl (inB s.Pa9 (List.length p.Ga7)) (sl (Nat.ble (s.ns6+(len (p5 (λk=>(tP).row (gL tP (gL (tLs tP) p.Ga7 s.Pa9.toNat) k)) (List.range (List.length (gL (tLs tP) p.Ga7 s.Pa9.toNat)))))) (len s.eh0)) (k ⟨1,W (s.Pa9+1),(s.ns6+(len (p5 (λk=>(tP).row (gL tP (gL (tLs tP) p.Ga7 s.Pa9.toNat) k)) (List.range (List.length (gL (tLs tP) p.Ga7 s.Pa9.toNat)))))),(app (K1 s.eh0 s.ns6) (app (p5 (λk=>(tP).row (gL tP (gL (tLs tP) p.Ga7 s.Pa9.toNat) k)) (List.range (List.length (gL (tLs tP) p.Ga7 s.Pa9.toNat)))) (l0 s.eh0 (s.ns6+(len (p5 (λk=>(tP).row (gL tP (gL (tLs tP) p.Ga7 s.Pa9.toNat) k)) (List.range (List.length (gL (tLs tP) p.Ga7 s.Pa9.toNat)))))))))⟩) z) z) (e 2))
noncomputable def F6(p:A0)(s:n9):Stp n9:=(sel (Nat.beq s.ph 1) (D9 .next .exit .fail p s) (D8 .next .exit .fail p s))
noncomputable def xa1:Lo A0 n9:=⟨En za7,0,Ne1,[1,1,1,1,0,1,4,4],[6,25,26,27],.p,[⟨ru2 6 (.s (.o .nil)::ru2 18 (.s (.c 1 (nL (tLs tP)))::sIq::sIq::ru2 8 [])),[],λa H=>(⟨rL (tLs tP) (slT a 25),aIq a 26⟩,⟨0,aIq a 27,0,[]⟩)⟩,⟨ru2 6 (.s (.o (.sl 0 0 (some 0) none))::ru2 18 (.s (.c 1 (nL (tLs tP)))::sIq::sIq::ru2 8 [])),[⟨73,4,true,none⟩],λa H=>(⟨rL (tLs tP) (slT a 25),aIq a 26⟩,⟨1,aIq a 27,slN (slT a 6),elT H 0⟩)⟩],F6,[(some 2,λp s=>upq (Oa2 p s) [(28,b (decide (s.Pa9<p.vd6)))]),(some 2,λp s=>upq (Oa3 p s) [(28,b (decide (s.Pa9<p.vd6)))])],Jb4⟩
theorem Jb5:xa1.OkM:=Lo.okM [] (by kernel_rfl) .nil rfl (.cons (λa H=>by kernel_rfl) (.cons (λa H=>by kernel_rfl) .nil)) λp s=>(.sel (Nat.beq s.ph 1) (.of @D9 (λF _ _ _ _ _=>by unfold D9;(repeat' apply m0 (f:=F))<;>rfl) (by kernel_rfl)) (.of @D8 (λF _ _ _ _ _=>by unfold D8;(repeat' apply m0 (f:=F))<;>rfl) (by kernel_rfl)))
structure qa0 where
 (alt ns0:Nat)
 eh0:List (List b7)
noncomputable def M6{α:Type}(kk:qa0->α)(x:List (List Pln)):α:=let t1:=(lp (L9 (⟨rt (tLs tP) x,rt (tLs tP) x,(↑(List.length x):Int)⟩:V7)) (⟨0,0⟩:v8));let t2:=(lp (F6 (⟨rt (tLs tP) (rt (tLs tP) x),(↑(List.length (rt (tLs tP) x)):Int)⟩:A0)) (⟨0,0,0,[]⟩:n9));let t3:=(lp (F6 (⟨rt (tLs tP) (rt (tLs tP) x),(↑(List.length (rt (tLs tP) x)):Int)⟩:A0)) (⟨1,0,0,List.replicate t1.2.is3.toNat Id9⟩:n9));(sl ((cnE (tLs tP) x)&&((cnE (tLs tP) x)&&true)) (sl (Nat.beq t1.1 1) (sl (t1.2.is3==0) (sl ((cnE (tLs tP) (rt (tLs tP) x))&&true) (sl (Nat.beq t2.1 1) (kk ⟨1,0,[]⟩) (sl (Nat.beq t2.1 2) (kk ⟨2,t2.2.ns6,t2.2.eh0⟩) (kk ⟨0,0,[]⟩))) (kk ⟨0,0,[]⟩)) (sl (Bool.and (decide (0<t1.2.is3)) (Nat.ble (t1.2.is3.toNat*32) room)) (sl ((cnE (tLs tP) (rt (tLs tP) x))&&true) (sl (Nat.beq t3.1 1) (kk ⟨1,0,[]⟩) (sl (Nat.beq t3.1 2) (kk ⟨2,t3.2.ns6,t3.2.eh0⟩) (kk ⟨0,0,[]⟩))) (kk ⟨0,0,[]⟩)) (kk ⟨0,0,[]⟩))) (kk ⟨0,0,[]⟩)) (kk ⟨0,0,[]⟩))
noncomputable def w7(x:List (List Pln)):qa0:=M6 (λr=>r) x
noncomputable def za8(r:qa0):DT (b7×List b8):=(.ite (Nat.beq r.alt 1) (.ret (.v (.slice none 0 0),[])) (.ite (Nat.beq r.alt 2) (.ret (.sl 0 0 r.ns0 0,[⟨73,4,r.eh0,true,false,0⟩])) .fail))
theorem Yb6{α β:Type}(F:α->β)(kk:qa0->α)(x:List (List Pln)):F (M6 kk x)=M6 (λr=>F (kk r)) x:=by unfold M6;(repeat' apply m0 (f:=F))<;>rfl
noncomputable def Fa6:Sum:=X7 (P8 (tLs tP)) (λx=>za8 (w7 x))
theorem ab3:i5 prog G 166 Fa6:=Fb2 (bd Rf7 Nb7) λx=>Ne4 (.s .p (.s .p (.s (.s .p (.b (.u xa0.lsM))) (.s .p (.s (.s .p (.b (.u xa1.lsM))) .p))))) [xa0.prM,xa1.prM] (by kernel_rfl) (.cons Jb3 (.cons Jb5 .nil)) (Qha (b:=M6 (λr=>(za8 r).run) x) (by kernel_rfl) (Yb6 (λr=>(za8 r).run) (λr=>r) x).symm)
noncomputable def ke7:List (Nat×Sum):=[(166,Fa6)]
theorem Wd5:i9 prog G ke7:=⟨ab3,trivial⟩
noncomputable def Nb8(x:List (List Pln)):Option (b7×List b8):=let t1:=(w7 (rt (tLs tP) x));(sl (okE (tLs tP) x) (sl (Nat.beq t1.alt 1) (some (.sl 0 0 6 0,[⟨73,4,[[i 1,i 0,i 0,i 24],[i (-1),i 0,i 0,i 24],[i 0,i 1,i 0,i 24],[i 0,i (-1),i 0,i 24],[i 0,i 0,i 1,i 24],[i 0,i 0,i (-1),i 24]],true,false,0⟩])) (sl (Nat.beq t1.alt 2) (sl (Nat.beq t1.ns0 (len t1.eh0)&&Nat.ble ((t1.ns0+1)*32) room) (sl (Nat.beq (t1.ns0+1) (len (app t1.eh0 [[i 1,i 0,i 0,i 24]]))&&Nat.ble (((t1.ns0+1)+1)*32) room) (sl (Nat.beq ((t1.ns0+1)+1) (len (app (app t1.eh0 [[i 1,i 0,i 0,i 24]]) [[i (-1),i 0,i 0,i 24]]))&&Nat.ble ((((t1.ns0+1)+1)+1)*32) room) (sl (Nat.beq (((t1.ns0+1)+1)+1) (len (app (app (app t1.eh0 [[i 1,i 0,i 0,i 24]]) [[i (-1),i 0,i 0,i 24]]) [[i 0,i 1,i 0,i 24]]))&&Nat.ble (((((t1.ns0+1)+1)+1)+1)*32) room) (sl (Nat.beq ((((t1.ns0+1)+1)+1)+1) (len (app (app (app (app t1.eh0 [[i 1,i 0,i 0,i 24]]) [[i (-1),i 0,i 0,i 24]]) [[i 0,i 1,i 0,i 24]]) [[i 0,i (-1),i 0,i 24]]))&&Nat.ble ((((((t1.ns0+1)+1)+1)+1)+1)*32) room) (sl (Nat.beq (((((t1.ns0+1)+1)+1)+1)+1) (len (app (app (app (app (app t1.eh0 [[i 1,i 0,i 0,i 24]]) [[i (-1),i 0,i 0,i 24]]) [[i 0,i 1,i 0,i 24]]) [[i 0,i (-1),i 0,i 24]]) [[i 0,i 0,i 1,i 24]]))&&Nat.ble (((((((t1.ns0+1)+1)+1)+1)+1)+1)*32) room) (some (.sl 0 0 ((((((t1.ns0+1)+1)+1)+1)+1)+1) 0,[⟨73,4,app (app (app (app (app (app t1.eh0 [[i 1,i 0,i 0,i 24]]) [[i (-1),i 0,i 0,i 24]]) [[i 0,i 1,i 0,i 24]]) [[i 0,i (-1),i 0,i 24]]) [[i 0,i 0,i 1,i 24]]) [[i 0,i 0,i (-1),i 24]],true,false,0⟩])) none) none) none) none) none) none) none)) none)
noncomputable def gb4(x:List (List Pln)):List Pln:=O3 (one (r1L tP)) (Nb8 x)
noncomputable def gb5(x:List (List Pln)):Bool:=okO (one (r1L tP)) (Nb8 x)
noncomputable def mc2:Sum:=X7 (P8 (tLs tP)) (λx=>.guard (gb5 x) (.ret ((one (r1L tP)).enc (gb4 x),[])))
theorem uc8:i5 prog G 110 mc2:=Ha5 (bd Of6 Wd5) (one (r1L tP)) (o:=Nb8) λx=>y8 (by kernel_rfl)
structure ba7 where
 X1:List (List Pln)
noncomputable def Ja2:List (Nat×Sum):=[(165,fc7)]
theorem tb5:i9 prog G Ja2:=⟨Uc6,trivial⟩
structure N4 where
 X1:List (List Pln)
 is7:Int
structure q9 where
 is8:Int
noncomputable def Ca1(p:N4)(s:q9):St:=⟨eL (tLs tP) p.X1::.fn 165 []::ra 5 (i p.is7::i s.is8::ra 10 []),[]⟩
noncomputable def H9{α:Type}(k:q9->α)(e:Nat->α)(z:α)(p:N4)(s:q9):α:=let t1:=(ab1 (rt tP (gL (tLs tP) p.X1 s.is8.toNat)));(sl (decide (s.is8<p.is7)) (sl (inB s.is8 (List.length p.X1)) (sl (okE tP (gL (tLs tP) p.X1 s.is8.toNat)) (sl (ab2 (rt tP (gL (tLs tP) p.X1 s.is8.toNat))) (sl t1 (e 1) (k ⟨W (s.is8+1)⟩)) z) z) z) (e 2))
noncomputable def K4(p:N4)(s:q9):Stp q9:=H9 .next .exit .fail p s
noncomputable def ka6:Lo N4 q9:=⟨En Ja2,0,Ne0,[1,0,1,4,4],[0,1,7,8],.p,[⟨.s (.c 1 (nL (tLs tP)))::.s (.o (.fn 165))::ru2 5 (sIq::sIq::ru2 10 []),[],λa H=>(⟨rL (tLs tP) (slT a 0),aIq a 7⟩,⟨aIq a 8⟩)⟩],K4,[(none,λp s=>⟨[i s.is8],[]⟩),(some 0,λp s=>upq (Ca1 p s) [(9,b (decide (s.is8<p.is7)))])],Ca1⟩
theorem pb9:ka6.Ok:=Lo.ok [] (by kernel_rfl) .nil rfl (.cons (λa H=>by kernel_rfl) .nil) λp s=>(.of @H9 (λF _ _ _ _ _=>by unfold H9;(repeat' apply m0 (f:=F))<;>rfl) (by kernel_rfl))
structure ba8 where
 alt:Nat
 is0:Int
noncomputable def J0{α:Type}(kk:ba8->α)(x:ba7):α:=let t1:=(lp (K4 (⟨rt (tLs tP) x.X1,(↑(List.length x.X1):Int)⟩:N4)) (⟨0⟩:q9));(sl ((cnE (tLs tP) x.X1)&&true) (sl (Nat.beq t1.1 1) (kk ⟨1,t1.2.is8⟩) (sl (Nat.beq t1.1 2) (kk ⟨1,-1⟩) (kk ⟨0,0⟩))) (kk ⟨0,0⟩))
noncomputable def qa6(x:ba7):ba8:=J0 (λr=>r) x
noncomputable def na7(x:ba7)(r:ba8):DT (b7×List b8):=(.ite (Nat.beq r.alt 1) (.ret (i r.is0,[])) .fail)
theorem Db4{α β:Type}(F:α->β)(kk:ba8->α)(x:ba7):F (J0 kk x)=J0 (λr=>F (kk r)) x:=by unfold J0;(repeat' apply m0 (f:=F))<;>rfl
noncomputable def Oa4:Sum:=Ya5 ⟨[.s (.c 1 (nL (tLs tP))),.s (.o (.fn 165))],[],λa H=>(⟨rL (tLs tP) (slT a 0)⟩,())⟩ (λx=>na7 x (qa6 x))
theorem zb8:i5 prog G 161 Oa4:=O5 (enc:=λx=>⟨[eL (tLs tP) x.X1,.fn 165 []],[]⟩) (λa H=>by kernel_rfl) (bd Hf0 tb5) λx=>va6 (.s .p (.s (.s .p (.b (.u ka6.ls))) .p)) [ka6.pr] (by kernel_rfl) (.cons pb9 .nil) (Qha (b:=J0 (λr=>(na7 x r).run) x) (by kernel_rfl) (Db4 (λr=>(na7 x r).run) (λr=>r) x).symm)
structure U4 where
 X1:List (List Pln)
noncomputable def mb5:List (Nat×Sum):=[(161,Oa4)]
theorem gb6:i9 prog G mb5:=⟨zb8,trivial⟩
structure U5 where
 alt:Nat
 bs0:Bool
noncomputable def E3{α:Type}(kk:U5->α)(x:U4):α:=let t1:=(qa6 ⟨rt (tLs tP) x.X1⟩);(sl ((cnE (tLs tP) x.X1)&&true) (sl (Nat.beq t1.alt 1) (kk ⟨1,decide (t1.is0>=0)⟩) (kk ⟨0,false⟩)) (kk ⟨0,false⟩))
noncomputable def ia7(x:U4):U5:=E3 (λr=>r) x
noncomputable def ga3(x:U4)(r:U5):DT (b7×List b8):=(.ite (Nat.beq r.alt 1) (.ret (b r.bs0,[])) .fail)
theorem qb0{α β:Type}(F:α->β)(kk:U5->α)(x:U4):F (E3 kk x)=E3 (λr=>F (kk r)) x:=by unfold E3;(repeat' apply m0 (f:=F))<;>rfl
noncomputable def Ca2:Sum:=Ya5 ⟨[.s (.c 1 (nL (tLs tP))),.s (.o (.fn 165))],[],λa H=>(⟨rL (tLs tP) (slT a 0)⟩,())⟩ (λx=>ga3 x (ia7 x))
theorem mb6:i5 prog G 103 Ca2:=O5 (enc:=λx=>⟨[eL (tLs tP) x.X1,.fn 165 []],[]⟩) (λa H=>by kernel_rfl) (bd Gf7 gb6) λx=>y8 (Qha (b:=E3 (λr=>(ga3 x r).run) x) (by kernel_rfl) (qb0 (λr=>(ga3 x r).run) (λr=>r) x).symm)
noncomputable def rd8:List (Nat×Sum):=[(103,Ca2)]
theorem gd1:i9 prog G rd8:=⟨mb6,trivial⟩
noncomputable def ab4(x:List (List Pln)):Option (b7×List b8):=let t1:=(ia7 ⟨rt (tLs tP) x⟩);(sl ((cnE (tLs tP) x)&&true) (sl (Nat.beq t1.alt 1) (some (b (!t1.bs0),[])) none) none)
noncomputable def za9(x:List (List Pln)):Bool:=O3 (one r1B) (ab4 x)
noncomputable def Aa0(x:List (List Pln)):Bool:=okO (one r1B) (ab4 x)
noncomputable def tb6:Sum:=X7 (P8 (tLs tP)) (λx=>.guard (Aa0 x) (.ret ((one r1B).enc (za9 x),[])))
theorem Jb6:i5 prog G 109 tb6:=Ha5 (bd Of5 gd1) (one r1B) (o:=ab4) λx=>y8 (by kernel_rfl)
structure ka7 where
 (Da5 Da6 Da7 Yb4 j9 d8 k8 k9:Int)
noncomputable def Nb9:List (Nat×Sum):=[(153,Gb2)]
theorem Jb7:i9 prog G Nb9:=⟨Sb8,trivial⟩
structure Y8 where
 bs0:Bool
noncomputable def Y9{α:Type}(kk:Y8->α)(x:ka7):α:=let t1:=(ya8 (⟨(⟨x.j9,x.d8,x.k8⟩:V3),x.k9⟩:Pln) (⟨x.Da5,x.Da6,x.Da7,x.Yb4⟩:Pt));(kk ⟨decide (t1>0)⟩)
noncomputable def Aa1(x:ka7):Y8:=Y9 (λr=>r) x
noncomputable def xa2(x:ka7)(r:Y8):DT (b7×List b8):=.ret (b r.bs0,[⟨0,4,[[i x.j9,i x.d8,i x.k8,i x.k9]],true,false,0⟩])
theorem Tb4{α β:Type}(F:α->β)(kk:Y8->α)(x:ka7):F (Y9 kk x)=Y9 (λr=>F (kk r)) x:=by unfold Y9;(repeat' apply m0 (f:=F))<;>rfl
noncomputable def ab5:Sum:=Ya5 ⟨[.agg (kLq 4),sPq 0],[⟨0,4,true,some [kLq 4]⟩],λa H=>(⟨cIq a 0 0,cIq a 0 1,cIq a 0 2,cIq a 0 3,hIq H 0 0 0,hIq H 0 0 1,hIq H 0 0 2,hIq H 0 0 3⟩,())⟩ (λx=>xa2 x (Aa1 x))
theorem Ob0:i5 prog G 170 ab5:=O5 (enc:=λx=>⟨[.agg [i x.Da5,i x.Da6,i x.Da7,i x.Yb4],.ptr 0 0 0 0],[⟨0,4,[[i x.j9,i x.d8,i x.k8,i x.k9]],true,false,0⟩]⟩) (λa H=>by kernel_rfl) (bd Sf1 Jb7) λx=>y8 (Qha (b:=Y9 (λr=>(xa2 x r).run) x) (by kernel_rfl) (Tb4 (λr=>(xa2 x r).run) (λr=>r) x).symm)
structure ea9 where
 ta9:List Pt
 (j9 d8 k8 k9:Int)
noncomputable def Oa5:List (Nat×Sum):=[(170,ab5)]
theorem zb9:i9 prog G Oa5:=⟨Ob0,trivial⟩
structure O7 where
 ta9:List Pt
 (is7 j9 d8 k8 k9:Int)
structure s6 where
 is8:Int
noncomputable def Ga4(p:O7)(s:s6):St:=⟨eL tX p.ta9::.fn 170 [.ptr 0 0 0 0]::ra 5 (i p.is7::i s.is8::ra 10 []),[⟨0,4,[[i p.j9,i p.d8,i p.k8,i p.k9]],true,false,0⟩]⟩
noncomputable def K5{α:Type}(k:s6->α)(e:Nat->α)(z:α)(p:O7)(s:s6):α:=let t1:=(Aa1 ⟨(gL tX p.ta9 s.is8.toNat).px,(gL tX p.ta9 s.is8.toNat).py,(gL tX p.ta9 s.is8.toNat).pz,(gL tX p.ta9 s.is8.toNat).pw,p.j9,p.d8,p.k8,p.k9⟩);(sl (decide (s.is8<p.is7)) (sl (inB s.is8 (List.length p.ta9)) (sl t1.bs0 (e 1) (k ⟨W (s.is8+1)⟩)) z) (e 2))
noncomputable def N5(p:O7)(s:s6):Stp s6:=K5 .next .exit .fail p s
noncomputable def na8:Lo O7 s6:=⟨En Oa5,1,mf8,[1,0,1,4,4],[0,1,7,8],.p,[⟨sLq tX::.fn 170 [.o (.ptr 0 0 0 0)]::ru2 5 (sIq::sIq::ru2 10 []),[⟨0,4,true,some [kLq 4]⟩],λa H=>(⟨aLq tX a 0,aIq a 7,hIq H 0 0 0,hIq H 0 0 1,hIq H 0 0 2,hIq H 0 0 3⟩,⟨aIq a 8⟩)⟩],N5,[(none,λp s=>⟨[i s.is8],[⟨0,4,[[i p.j9,i p.d8,i p.k8,i p.k9]],true,false,0⟩]⟩),(some 0,λp s=>upq (Ga4 p s) [(9,b (decide (s.is8<p.is7)))])],Ga4⟩
theorem tb7:na8.Ok:=Lo.ok [] (by kernel_rfl) .nil rfl (.cons (λa H=>by kernel_rfl) .nil) λp s=>(.of @K5 (λF _ _ _ _ _=>by unfold K5;(repeat' apply m0 (f:=F))<;>rfl) (by kernel_rfl))
structure fa0 where
 alt:Nat
 is0:Int
noncomputable def M1{α:Type}(kk:fa0->α)(x:ea9):α:=let t1:=(lp (N5 (⟨rt tX x.ta9,(↑(List.length x.ta9):Int),x.j9,x.d8,x.k8,x.k9⟩:O7)) (⟨0⟩:s6));(sl ((cnE tX x.ta9)&&true) (sl (Nat.beq t1.1 1) (kk ⟨1,t1.2.is8⟩) (sl (Nat.beq t1.1 2) (kk ⟨1,-1⟩) (kk ⟨0,0⟩))) (kk ⟨0,0⟩))
noncomputable def ua3(x:ea9):fa0:=M1 (λr=>r) x
noncomputable def qa7(x:ea9)(r:fa0):DT (b7×List b8):=(.ite (Nat.beq r.alt 1) (.ret (i r.is0,[⟨0,4,[[i x.j9,i x.d8,i x.k8,i x.k9]],true,false,0⟩])) .fail)
theorem Jb8{α β:Type}(F:α->β)(kk:fa0->α)(x:ea9):F (M1 kk x)=M1 (λr=>F (kk r)) x:=by unfold M1;(repeat' apply m0 (f:=F))<;>rfl
noncomputable def Ra3:Sum:=Ya5 ⟨[sLq tX,.fn 170 [.o (.ptr 0 0 0 0)]],[⟨0,4,true,some [kLq 4]⟩],λa H=>(⟨aLq tX a 0,hIq H 0 0 0,hIq H 0 0 1,hIq H 0 0 2,hIq H 0 0 3⟩,())⟩ (λx=>qa7 x (ua3 x))
theorem Db5:i5 prog G 171 Ra3:=O5 (enc:=λx=>⟨[eL tX x.ta9,.fn 170 [.ptr 0 0 0 0]],[⟨0,4,[[i x.j9,i x.d8,i x.k8,i x.k9]],true,false,0⟩]⟩) (λa H=>by kernel_rfl) (bd Sf2 zb9) λx=>va6 (.s .p (.s (.s .p (.b (.u na8.ls))) .p)) [na8.pr] (by kernel_rfl) (.cons tb7 .nil) (Qha (b:=M1 (λr=>(qa7 x r).run) x) (by kernel_rfl) (Jb8 (λr=>(qa7 x r).run) (λr=>r) x).symm)
structure W7 where
 ta9:List Pt
 (j9 d8 k8 k9:Int)
noncomputable def qb1:List (Nat×Sum):=[(171,Ra3)]
theorem mb7:i9 prog G qb1:=⟨Db5,trivial⟩
structure W8 where
 alt:Nat
 bs0:Bool
noncomputable def F9{α:Type}(kk:W8->α)(x:W7):α:=let t1:=(ua3 ⟨rt tX x.ta9,x.j9,x.d8,x.k8,x.k9⟩);(sl ((cnE tX x.ta9)&&true) (sl (Nat.beq t1.alt 1) (kk ⟨1,decide (t1.is0>=0)⟩) (kk ⟨0,false⟩)) (kk ⟨0,false⟩))
noncomputable def ka8(x:W7):W8:=F9 (λr=>r) x
noncomputable def ia8(x:W7)(r:W8):DT (b7×List b8):=(.ite (Nat.beq r.alt 1) (.ret (b r.bs0,[⟨0,4,[[i x.j9,i x.d8,i x.k8,i x.k9]],true,false,0⟩])) .fail)
theorem tb8{α β:Type}(F:α->β)(kk:W8->α)(x:W7):F (F9 kk x)=F9 (λr=>F (kk r)) x:=by unfold F9;(repeat' apply m0 (f:=F))<;>rfl
noncomputable def Ga5:Sum:=Ya5 ⟨[sLq tX,.fn 170 [.o (.ptr 0 0 0 0)]],[⟨0,4,true,some [kLq 4]⟩],λa H=>(⟨aLq tX a 0,hIq H 0 0 0,hIq H 0 0 1,hIq H 0 0 2,hIq H 0 0 3⟩,())⟩ (λx=>ia8 x (ka8 x))
theorem qb2:i5 prog G 112 Ga5:=O5 (enc:=λx=>⟨[eL tX x.ta9,.fn 170 [.ptr 0 0 0 0]],[⟨0,4,[[i x.j9,i x.d8,i x.k8,i x.k9]],true,false,0⟩]⟩) (λa H=>by kernel_rfl) (bd Of8 mb7) λx=>y8 (Qha (b:=F9 (λr=>(ia8 x r).run) x) (by kernel_rfl) (tb8 (λr=>(ia8 x r).run) (λr=>r) x).symm)
structure sa8 where
 (Da5 Da6 Da7 Yb4:Int)
 i7:List Pt
noncomputable def Yb7:List (Nat×Sum):=[(112,Ga5)]
theorem Tb5:i9 prog G Yb7:=⟨qb2,trivial⟩
structure ga4 where
 alt:Nat
 bs0:Bool
noncomputable def V8{α:Type}(kk:ga4->α)(x:sa8):α:=let t1:=(ka8 ⟨rt tX x.i7,x.Da5,x.Da6,x.Da7,x.Yb4⟩);(sl ((cnE tX x.i7)&&true) (sl (Nat.beq t1.alt 1) (kk ⟨1,!t1.bs0⟩) (kk ⟨0,false⟩)) (kk ⟨0,false⟩))
noncomputable def sa9(x:sa8):ga4:=V8 (λr=>r) x
noncomputable def Fa7(x:sa8)(r:ga4):DT (b7×List b8):=(.ite (Nat.beq r.alt 1) (.ret (b r.bs0,[⟨0,1,[[eL tX x.i7]],true,false,0⟩])) .fail)
theorem fc9{α β:Type}(F:α->β)(kk:ga4->α)(x:sa8):F (V8 kk x)=V8 (λr=>F (kk r)) x:=by unfold V8;(repeat' apply m0 (f:=F))<;>rfl
noncomputable def mb8:Sum:=Ya5 ⟨[.agg (kLq 4),sPq 0],[⟨0,1,true,some [[.c 4 (nL tX)]]⟩],λa H=>(⟨cIq a 0 0,cIq a 0 1,cIq a 0 2,cIq a 0 3,hLq tX H 0 0 0⟩,())⟩ (λx=>Fa7 x (sa9 x))
theorem Yb8:i5 prog G 169 mb8:=O5 (enc:=λx=>⟨[.agg [i x.Da5,i x.Da6,i x.Da7,i x.Yb4],.ptr 0 0 0 0],[⟨0,1,[[eL tX x.i7]],true,false,0⟩]⟩) (λa H=>by kernel_rfl) (bd Sf0 Tb5) λx=>y8 (Qha (b:=V8 (λr=>(Fa7 x r).run) x) (by kernel_rfl) (fc9 (λr=>(Fa7 x r).run) (λr=>r) x).symm)
structure ba9 where
 d7:List Pln
 i7:List Pt
noncomputable def Ja3:List (Nat×Sum):=[(169,mb8)]
theorem tb9:i9 prog G Ja3:=⟨Yb8,trivial⟩
structure N6 where
 d7:List Pln
 is7:Int
structure r6 where
 is8:Int
 i7:List Pt
noncomputable def Ca3(p:N6)(s:r6):St:=⟨eL tP p.d7::.fn 169 [.ptr 0 0 0 0]::ra 5 (i p.is7::i s.is8::ra 10 []),[⟨0,1,[[eL tX s.i7]],true,false,0⟩]⟩
noncomputable def I0{α:Type}(k:r6->α)(e:Nat->α)(z:α)(p:N6)(s:r6):α:=let t1:=(sa9 ⟨(gL tP p.d7 s.is8.toNat).n.x,(gL tP p.d7 s.is8.toNat).n.y,(gL tP p.d7 s.is8.toNat).n.z,(gL tP p.d7 s.is8.toNat).b,rt tX s.i7⟩);(sl (decide (s.is8<p.is7)) (sl (inB s.is8 (List.length p.d7)) (sl ((cnE tX s.i7)&&true) (sl (Nat.beq t1.alt 1) (sl t1.bs0 (e 1) (k ⟨W (s.is8+1),rt tX s.i7⟩)) z) z) z) (e 2))
noncomputable def K6(p:N6)(s:r6):Stp r6:=I0 .next .exit .fail p s
noncomputable def ka9:Lo N6 r6:=⟨En Ja3,1,nf7,[1,0,1,4,4],[0,1,7,8],.p,[⟨sLq tP::.fn 169 [.o (.ptr 0 0 0 0)]::ru2 5 (sIq::sIq::ru2 10 []),[⟨0,1,true,some [[.c 4 (nL tX)]]⟩],λa H=>(⟨aLq tP a 0,aIq a 7⟩,⟨aIq a 8,hLq tX H 0 0 0⟩)⟩],K6,[(none,λp s=>⟨[i s.is8],[⟨0,1,[[eL tX (rt tX s.i7)]],true,false,0⟩]⟩),(some 0,λp s=>upq (Ca3 p s) [(9,b (decide (s.is8<p.is7)))])],Ca3⟩
theorem qb3:ka9.Ok:=Lo.ok [] (by kernel_rfl) .nil rfl (.cons (λa H=>by kernel_rfl) .nil) λp s=>(.of @I0 (λF _ _ _ _ _=>by unfold I0;(repeat' apply m0 (f:=F))<;>rfl) (by kernel_rfl))
structure ca0 where
 alt:Nat
 is0:Int
 i7:List Pt
noncomputable def J1{α:Type}(kk:ca0->α)(x:ba9):α:=let t1:=(lp (K6 (⟨rt tP x.d7,(↑(List.length x.d7):Int)⟩:N6)) (⟨0,rt tX x.i7⟩:r6));(sl ((cnE tP x.d7)&&((cnE tX x.i7)&&true)) (sl (Nat.beq t1.1 1) (kk ⟨1,t1.2.is8,rt tX t1.2.i7⟩) (sl (Nat.beq t1.1 2) (kk ⟨1,-1,t1.2.i7⟩) (kk ⟨0,0,[]⟩))) (kk ⟨0,0,[]⟩))
noncomputable def qa8(x:ba9):ca0:=J1 (λr=>r) x
noncomputable def na9(x:ba9)(r:ca0):DT (b7×List b8):=(.ite (Nat.beq r.alt 1) (.ret (i r.is0,[⟨0,1,[[eL tX r.i7]],true,false,0⟩])) .fail)
theorem Db6{α β:Type}(F:α->β)(kk:ca0->α)(x:ba9):F (J1 kk x)=J1 (λr=>F (kk r)) x:=by unfold J1;(repeat' apply m0 (f:=F))<;>rfl
noncomputable def Oa6:Sum:=Ya5 ⟨[sLq tP,.fn 169 [.o (.ptr 0 0 0 0)]],[⟨0,1,true,some [[.c 4 (nL tX)]]⟩],λa H=>(⟨aLq tP a 0,hLq tX H 0 0 0⟩,())⟩ (λx=>na9 x (qa8 x))
theorem Ab0:i5 prog G 196 Oa6:=O5 (enc:=λx=>⟨[eL tP x.d7,.fn 169 [.ptr 0 0 0 0]],[⟨0,1,[[eL tX x.i7]],true,false,0⟩]⟩) (λa H=>by kernel_rfl) (bd Tf4 tb9) λx=>va6 (.s .p (.s (.s .p (.b (.u ka9.ls))) .p)) [ka9.pr] (by kernel_rfl) (.cons qb3 .nil) (Qha (b:=J1 (λr=>(na9 x r).run) x) (by kernel_rfl) (Db6 (λr=>(na9 x r).run) (λr=>r) x).symm)
structure U6 where
 d7:List Pln
 i7:List Pt
noncomputable def mb9:List (Nat×Sum):=[(196,Oa6)]
theorem gb7:i9 prog G mb9:=⟨Ab0,trivial⟩
structure U7 where
 alt:Nat
 bs0:Bool
 i7:List Pt
noncomputable def E4{α:Type}(kk:U7->α)(x:U6):α:=let t1:=(qa8 ⟨rt tP x.d7,rt tX x.i7⟩);(sl ((cnE tP x.d7)&&((cnE tX x.i7)&&true)) (sl (Nat.beq t1.alt 1) (kk ⟨1,decide (t1.is0>=0),t1.i7⟩) (kk ⟨0,false,[]⟩)) (kk ⟨0,false,[]⟩))
noncomputable def ia9(x:U6):U7:=E4 (λr=>r) x
noncomputable def ga5(x:U6)(r:U7):DT (b7×List b8):=(.ite (Nat.beq r.alt 1) (.ret (b r.bs0,[⟨0,1,[[eL tX r.i7]],true,false,0⟩])) .fail)
theorem qb4{α β:Type}(F:α->β)(kk:U7->α)(x:U6):F (E4 kk x)=E4 (λr=>F (kk r)) x:=by unfold E4;(repeat' apply m0 (f:=F))<;>rfl
noncomputable def Ca4:Sum:=Ya5 ⟨[sLq tP,.fn 169 [.o (.ptr 0 0 0 0)]],[⟨0,1,true,some [[.c 4 (nL tX)]]⟩],λa H=>(⟨aLq tP a 0,hLq tX H 0 0 0⟩,())⟩ (λx=>ga5 x (ia9 x))
theorem nb1:i5 prog G 168 Ca4:=O5 (enc:=λx=>⟨[eL tP x.d7,.fn 169 [.ptr 0 0 0 0]],[⟨0,1,[[eL tX x.i7]],true,false,0⟩]⟩) (λa H=>by kernel_rfl) (bd Rf9 gb7) λx=>y8 (Qha (b:=E4 (λr=>(ga5 x r).run) x) (by kernel_rfl) (qb4 (λr=>(ga5 x r).run) (λr=>r) x).symm)
noncomputable def nc6:List (Nat×Sum):=[(167,Fa5),(168,Ca4)]
theorem gc0:i9 prog G nc6:=⟨Za5,nb1,trivial⟩
noncomputable def oa0(x:List Pln):Option (b7×List b8):=let t1:=(da3 (rt tP x));let t2:=(ia9 ⟨rt tP x,rt tX t1⟩);(sl (okE tP x) (sl (da4 (rt tP x)) (sl ((cnE tP x)&&((cnE tX t1)&&true)) (sl (Nat.beq t2.alt 1) (some (b (!t2.bs0),[])) none) none) none) none)
noncomputable def oa1(x:List Pln):Bool:=O3 (one r1B) (oa0 x)
noncomputable def oa2(x:List Pln):Bool:=okO (one r1B) (oa0 x)
noncomputable def Va1:Sum:=X7 (P8 tP) (λx=>.guard (oa2 x) (.ret ((one r1B).enc (oa1 x),[])))
theorem rb9:i5 prog G 111 Va1:=Ha5 (bd Of7 gc0) (one r1B) (o:=oa0) λx=>y8 (by kernel_rfl)
noncomputable def gd2:List (Nat×Sum):=[(109,tb6),(110,mc2),(167,Fa5)]
theorem Uc7:i9 prog G gd2:=⟨Jb6,uc8,Za5,trivial⟩
noncomputable def Ra4(x:List Pln):Option (b7×List b8):=let t1:=(za9 [rt tP x]);let t2:=(gb4 [rt tP x]);let t3:=(da3 (rt tP t2));(sl ((okE tP x)&&true) (sl (Aa0 [rt tP x]) (sl (!t1) (some (.v (.slice none 0 0),[])) (sl ((okE tP x)&&true) (sl (gb5 [rt tP x]) (sl (okE tP t2) (sl (da4 (rt tP t2)) (some (eL tX t3,[])) none) none) none) none)) none) none)
noncomputable def Ea4(x:List Pln):List Pt:=O3 (one (r1L tX)) (Ra4 x)
noncomputable def Ea5(x:List Pln):Bool:=okO (one (r1L tX)) (Ra4 x)
noncomputable def jb4:Sum:=X7 (P8 tP) (λx=>.guard (Ea5 x) (.ret ((one (r1L tX)).enc (Ea4 x),[])))
theorem Ab1:i5 prog G 113 jb4:=Ha5 (bd Of9 Uc7) (one (r1L tX)) (o:=Ra4) λx=>y8 (by kernel_rfl)
noncomputable def Jd0:List (Nat×Sum):=[(109,tb6),(110,mc2),(111,Va1)]
theorem rd9:i9 prog G Jd0:=⟨Jb6,uc8,rb9,trivial⟩
noncomputable def nb2(x:List Pln):Option (b7×List b8):=let t1:=(za9 [rt tP x]);let t2:=(gb4 [rt tP x]);let t3:=(oa1 (rt tP t2));(sl ((okE tP x)&&true) (sl (Aa0 [rt tP x]) (sl t1 (sl ((okE tP x)&&true) (sl (gb5 [rt tP x]) (sl (okE tP t2) (sl (oa2 (rt tP t2)) (some (b t3,[])) none) none) none) none) (some (b false,[]))) none) none)
noncomputable def ya9(x:List Pln):Bool:=O3 (one r1B) (nb2 x)
noncomputable def za0(x:List Pln):Bool:=okO (one r1B) (nb2 x)
noncomputable def Wa5:Sum:=X7 (P8 tP) (λx=>.guard (za0 x) (.ret ((one r1B).enc (ya9 x),[])))
theorem ab6:i5 prog G 55 Wa5:=Ha5 (bd b55 rd9) (one r1B) (o:=nb2) λx=>y8 (by kernel_rfl)
structure Ne5 where
 Vf6:List Pt
 ya6:Int
structure Ne6 where
 (Oc5 kb4 kb5 kb6 Kf2 Kf3 Kf4:Int)
theorem Be4(P:Ma0)(g n:Int)(hn:n.natAbs<=9223372036854775808):lp (Qa8 P) ⟨g,n⟩=(1,⟨eu g n,0⟩) :=
 qe1 (mk:=λg n=>(⟨g,n⟩:sa3)) (λg n h=>by simp[Qa8,Ia3,xb6,h]) (λg=>by simp[Qa8,Ia3,xb6]) g n hn
theorem Be5(l:List Int)(hl:l.length<=1000000000)(hb:∀x∈l,x.natAbs<=9223372036854775808):lp (Ea1 ⟨(l.length:Int)⟩) ⟨0,l,0⟩=(1,⟨l.foldl eu 0,l,l.length⟩):=by
 have := Ac6 (step := Ea1 ⟨(l.length : Int)⟩) (mk := fun j a => (⟨a, l, (j : Int)⟩ : sa4)) (f := eu) (fin := 1) tI l (fun _ _ => True) hl (fun j a hj _ => ⟨by
   simp only[Ea1,Ia4,Int.toNat_natCast,i6,i8,Be4 _ _ _ (hb _ (Fa3 tI hj)),o3 hj (by omega)]
   rw[bt (dc3 hj),bt (f7 hj)]
   rfl,trivial⟩) (λa _=>by simp[Ea1,Ia4,xb6]) 0 (Nat.zero_le _) 0 trivial
 simpa using this.1
theorem Dc0:∀(l:List Int) (g:Int),(l.foldl eu g).natAbs=l.foldl (λa x=>Nat.gcd a x.natAbs) g.natAbs
 |[],_=>rfl
 |x::l,g=>by rw[List.foldl_cons,Dc0 l,List.foldl_cons,Je4];rfl
theorem uf2(l:List Int)(hl:l.length<=1000000000)(hb:∀x∈l,x.natAbs<=9223372036854775807)(h0:(l.foldl eu 0).natAbs<=9223372036854775807):zb3 l=some (i ((l.foldl eu 0).natAbs:Int),[]):=by
 unfold zb3;simp only[i6,i8,Be5 l hl (λx hx=>Nat.le_succ_of_le (hb x hx))]
 generalize l.foldl eu 0=e at *
 have:W (0-e)=-e:=by rw[ia4 (by omega) (by omega)];omega
 rw[this];show some (i (if -e>e then -e else e),[])=_
 congr 3
 split<;>omega
theorem zd4(x y:Int)(hx:0<=x)(hy:0<=y)(hb:y<=9223372036854775807):Ya6 x y=some (i (Int.gcd x y:Int),[]):=by
 unfold Ya6
 have:=qe1 (step:=Ba1 ⟨⟩) (mk:=λg n=>(⟨g,n⟩:ga0)) (λg n h=>by simp[Ba1,wa3,xb6,h]) (λg=>by simp[Ba1,wa3,xb6]) x y (by omega)
 simp only[this,Je5 hx hy];rfl
theorem gd3(x y:Int)(hx:0<=x)(hy:0<=y)(hb:y<=9223372036854775807):X9 x y=(Int.gcd x y:Int):=by unfold X9;rw[zd4 x y hx hy hb];rfl
theorem gd4(x y:Int)(hx:0<=x)(hy:0<=y)(hb:y<=9223372036854775807):Y0 x y=true:=by unfold Y0;rw[zd4 x y hx hy hb];rfl
noncomputable def rm(p:Pln)(x:Pt):Int:=W (p.b*x.pw-(p.n.x*x.px+p.n.y*x.py+p.n.z*x.pz))
theorem Jd1(p:Pln)(x:Pt):ya8 p x=rm p x:=by
 unfold ya8 Wa3 rm;simp only[xb8,dc2,dd1,Gd8]
theorem Yc2(p:Pln)(x:Pt):Ua9 p x=rm p x:=by
 unfold Ua9 rm;simp only[xb8,dc2,dd1,Gd8];congr 1;omega
structure Bd(p:Pln):Prop where
 x1:-4608<=p.n.x
 x2:p.n.x<=4608
 y1:-4608<=p.n.y
 y2:p.n.y<=4608
 z1:-4608<=p.n.z
 z2:p.n.z<=4608
 b1:-2097152<=p.b
 b2:p.b<=2097152
def mv(p q r:Pln):V3 :=
 ⟨(f0 q.n r.n).x*p.b+(f0 r.n p.n).x*q.b+(f0 p.n q.n).x*r.b,
  (f0 q.n r.n).y*p.b+(f0 r.n p.n).y*q.b+(f0 p.n q.n).y*r.b,
  (f0 q.n r.n).z*p.b+(f0 r.n p.n).z*q.b+(f0 p.n q.n).z*r.b⟩
def gc(v:V3)(w:Int):Int:=(Nat.gcd (Nat.gcd v.x.natAbs v.y.natAbs) (Nat.gcd v.z.natAbs w.natAbs):Nat)
def mpt(p q r:Pln):Pt×Bool :=
 if mw p q r=0 then (⟨0,0,0,0⟩,false)
 else if mw p q r<0 then (⟨Int.tdiv (-(mv p q r).x) (gc (mv p q r) (mw p q r)),Int.tdiv (-(mv p q r).y) (gc (mv p q r) (mw p q r)),Int.tdiv (-(mv p q r).z) (gc (mv p q r) (mw p q r)),Int.tdiv (-(mw p q r)) (gc (mv p q r) (mw p q r))⟩,true)
 else (⟨Int.tdiv (mv p q r).x (gc (mv p q r) (mw p q r)),Int.tdiv (mv p q r).y (gc (mv p q r) (mw p q r)),Int.tdiv (mv p q r).z (gc (mv p q r) (mw p q r)),Int.tdiv (mw p q r) (gc (mv p q r) (mw p q r))⟩,true)
def Sm(n:Int)(x:Int):Prop:=-n<=x/\x<=n
theorem Dc1{a b:V3}(ha:Sm 4608 a.x/\Sm 4608 a.y/\Sm 4608 a.z)(hb:Sm 4608 b.x/\Sm 4608 b.y/\Sm 4608 b.z):Sm 42467328 (f0 a b).x/\Sm 42467328 (f0 a b).y/\Sm 42467328 (f0 a b).z:=by
 obtain⟨⟨a1,a2⟩,⟨a3,a4⟩,a5,a6⟩:=ha;obtain⟨⟨b1,b2⟩,⟨b3,b4⟩,b5,b6⟩:=hb;have h1:=mb a3 a4 b5 b6;have h2:=mb a5 a6 b3 b4;have h3:=mb a5 a6 b1 b2;have h4:=mb a1 a2 b5 b6;have h5:=mb a1 a2 b3 b4;have h6:=mb a3 a4 b1 b2;unfold Sm f0
 simp only
 omega
theorem Bd.n{p:Pln}(h:Bd p):Sm 4608 p.n.x/\Sm 4608 p.n.y/\Sm 4608 p.n.z:=⟨⟨h.x1,h.x2⟩,⟨h.y1,h.y2⟩,h.z1,h.z2⟩
theorem Ne7{p q r:Pln}(hp:Bd p)(hq:Bd q)(hr:Bd r):Sm 600000000000 (mw p q r):=by
 obtain⟨⟨c1,c2⟩,⟨c3,c4⟩,c5,c6⟩:=Dc1 hq.n hr.n;have h1:=mb hp.x1 hp.x2 c1 c2;have h2:=mb hp.y1 hp.y2 c3 c4;have h3:=mb hp.z1 hp.z2 c5 c6;unfold Sm mw dot;omega
theorem Ne8{p q r:Pln}(hp:Bd p)(hq:Bd q)(hr:Bd r):Sm 300000000000000 (mv p q r).x/\Sm 300000000000000 (mv p q r).y/\Sm 300000000000000 (mv p q r).z:=by
 obtain⟨⟨c1,c2⟩,⟨c3,c4⟩,c5,c6⟩:=Dc1 hq.n hr.n;obtain⟨⟨d1,d2⟩,⟨d3,d4⟩,d5,d6⟩:=Dc1 hr.n hp.n;obtain⟨⟨e1,e2⟩,⟨e3,e4⟩,e5,e6⟩:=Dc1 hp.n hq.n;have a1:=mb c1 c2 hp.b1 hp.b2;have a2:=mb c3 c4 hp.b1 hp.b2;have a3:=mb c5 c6 hp.b1 hp.b2;have b1:=mb d1 d2 hq.b1 hq.b2;have b2:=mb d3 d4 hq.b1 hq.b2;have b3:=mb d5 d6 hq.b1 hq.b2;have f1:=mb e1 e2 hr.b1 hr.b2;have f2:=mb e3 e4 hr.b1 hr.b2;have f3:=mb e5 e6 hr.b1 hr.b2;unfold Sm mv
 simp only
 omega
theorem Yc3(a b:V3):X2 a b=⟨W (f0 a b).x,W (f0 a b).y,W (f0 a b).z⟩:=by
 unfold X2 f0;simp only[dd1,Gd8]
theorem Dc2(a b:V3):aa5 a b=⟨W (f0 a b).x,W (f0 a b).y,W (f0 a b).z⟩:=by
 unfold aa5 f0;simp only[dd1,Gd8]
theorem uf3(p q r:Pln):dot r.n (f0 p.n q.n)=mw p q r:=by unfold mw dot f0;grind
theorem Uf5(a b c d:Nat):[a,b,c,d].foldl Nat.gcd 0=Nat.gcd (Nat.gcd a b) (Nat.gcd c d):=by
 simp only[List.foldl_cons,List.foldl_nil,Nat.gcd_zero_left];rw[Nat.gcd_assoc]
theorem gd5{v:V3}{w:Int}(h:w≠0):0<gc v w:=by
 unfold gc
 have:0<Nat.gcd v.z.natAbs w.natAbs:=Qhb _ (by omega)
 have:=Qhb (Nat.gcd v.x.natAbs v.y.natAbs) this
 omega
theorem Ne9{v:V3}{w:Int}(h:w≠0):gc v w<=w.natAbs:=by
 unfold gc;have h1:Nat.gcd v.z.natAbs w.natAbs<=w.natAbs:=Qhd _ (by omega)
 have h2:0<Nat.gcd v.z.natAbs w.natAbs:=Qhb _ (by omega)
 have h3:=Qhd (m:=Nat.gcd v.x.natAbs v.y.natAbs) (n:=Nat.gcd v.z.natAbs w.natAbs) h2;omega
theorem Ja4{x:Int}(h:Sm 1000000000000000000 x):W x=x:=ia4 (by have:=h.1;omega) (by have:=h.2;omega)
theorem Sm.mono{n m x:Int}(h:Sm n x)(hn:n<=m):Sm m x:=⟨by have:=h.1;omega,by have:=h.2;omega⟩
theorem L6{n x g:Int}(h:Sm n x)(hg:0<g):Sm n (Int.tdiv x g):=by
 have h1:(Int.tdiv x g).natAbs<=x.natAbs:=by rw[Int.natAbs_tdiv];exact Nat.div_le_self _ _
 have:=h.1;have:=h.2
 constructor<;>omega
theorem ke8{p q r:Pln}(hp:Bd p)(hq:Bd q)(hr:Bd r)(h:(mpt p q r).2=true):0<(mpt p q r).1.pw/\Sm 300000000000000 (mpt p q r).1.px/\Sm 300000000000000 (mpt p q r).1.py/\Sm 300000000000000 (mpt p q r).1.pz/\(mpt p q r).1.pw<=600000000000:=by
 have hw:=Ne7 hp hq hr;obtain⟨v1,v2,v3⟩:=Ne8 hp hq hr;have neg:∀{n x:Int},Sm n x->Sm n (-x):=λh=>⟨by have:=h.2;omega,by have:=h.1;omega⟩
 have pos:∀{x:Int},0<x->x.natAbs=(mw p q r).natAbs->0<Int.tdiv x (gc (mv p q r) (mw p q r)):=λ{x} hx he=>by
  have h0:mw p q r≠0:=by omega
  have h1:=gd5 (v:=mv p q r) h0;have h2:=Ne9 (v:=mv p q r) h0;rw[Int.tdiv_eq_ediv_of_nonneg (by omega)]
  exact Int.ediv_pos_of_pos_of_dvd hx (by omega) (by
   rw[<- Int.dvd_natAbs,he];exact Int.natCast_dvd_natCast.2 (Nat.dvd_trans (Nat.gcd_dvd_right _ _) (Nat.gcd_dvd_right _ _)))
 unfold mpt at h ⊢;by_cases h0:mw p q r=0
 ·rw[if_pos h0] at h;cases h
 ·rw[if_neg h0];have hg:=gd5 (v:=mv p q r) h0;by_cases h1:mw p q r<0
  ·rw[if_pos h1];exact⟨pos (by omega) (by omega),L6 (neg v1) hg,L6 (neg v2) hg,L6 (neg v3) hg,(L6 (neg hw) hg).2⟩
  ·rw[if_neg h1];exact⟨pos (by omega) rfl,L6 v1 hg,L6 v2 hg,L6 v3 hg,(L6 hw hg).2⟩
theorem qe9{p q r:Pln}(hp:Bd p)(hq:Bd q)(hr:Bd r):lb8 ⟨p,q,r⟩=some (.tup [.agg (tX.row (mpt p q r).1),b (mpt p q r).2],[]):=by
 have hw:=Ne7 hp hq hr;obtain⟨v1,v2,v3⟩:=Ne8 hp hq hr;have e1:Wa3 r.n (X2 p.n q.n)=mw p q r:=by
  rw[Yc3];unfold Wa3;simp only[xb8,dc2,Je2];show W (dot r.n (f0 p.n q.n))=_;rw[uf3,Ja4 (hw.mono (by omega))]
 have e2:ya7 (ya7 (ya7 ⟨0,0,0⟩ (sa2 (X2 q.n r.n) p.b)) (sa2 (X2 r.n p.n) q.b)) (sa2 (X2 p.n q.n) r.b)=mv p q r:=by
  rw[Yc3,Yc3,Yc3];unfold ya7 sa2;simp only[xb8,dc2,ie7,Int.zero_add];show (⟨W (mv p q r).x,W (mv p q r).y,W (mv p q r).z⟩:V3)=_;rw[Ja4 (v1.mono (by omega)),Ja4 (v2.mono (by omega)),Ja4 (v3.mono (by omega))]
 unfold lb8;simp only[e1,e2];have hb:∀x∈[(mv p q r).x,(mv p q r).y,(mv p q r).z,mw p q r],x.natAbs<=9223372036854775807:=by
  intro x hx;simp only[List.mem_cons,List.not_mem_nil,or_false] at hx;unfold Sm at *
  rcases hx with rfl|rfl|rfl|rfl<;>omega
 have hf:([(mv p q r).x,(mv p q r).y,(mv p q r).z,mw p q r].foldl eu 0).natAbs=Nat.gcd (Nat.gcd (mv p q r).x.natAbs (mv p q r).y.natAbs) (Nat.gcd (mv p q r).z.natAbs (mw p q r).natAbs):=by
  rw[Dc0,<- Uf5];rfl
 unfold mpt;by_cases h0:mw p q r=0
 ·rw[bt (by rw[h0];rfl),if_pos h0]
  rfl
 ·have hz:(mw p q r==0)=false:=by simpa using h0
  rw[bf hz,if_neg h0];have hgp:=gd5 (v:=mv p q r) h0;have hgl:=Ne9 (v:=mv p q r) h0;have hge:=uf2 _ (by simp) hb (by rw[hf];unfold gc at hgl;unfold Sm at hw;omega)
  have hgv:Tb1 [(mv p q r).x,(mv p q r).y,(mv p q r).z,mw p q r]=gc (mv p q r) (mw p q r):=by
   unfold Tb1;rw[hge,hf];rfl
  have hgg:Tb2 [(mv p q r).x,(mv p q r).y,(mv p q r).z,mw p q r]=true:=by
   unfold Tb2;rw[hge];rfl
  rw[hgv,bt hgg];generalize hG:gc (mv p q r) (mw p q r)=G at *
  have hGW:W (0-G)=-G:=by unfold Sm at hw;rw[ia4 (by omega) (by omega)];omega
  have hGn:(-G==0)=false:=by simp;omega
  have hGp:(G==0)=false:=by simp;omega
  by_cases h1:mw p q r<0
  ·rw[bt (decide_eq_true h1),if_pos h1];simp only[hGW];rw[bf hGn,bf hGn,bf hGn,bf hGn];simp only[Int.tdiv_neg,<- Int.neg_tdiv];have neg:∀{n x:Int},Sm n x->Sm n (-x):=λh=>⟨by have:=h.2;omega,by have:=h.1;omega⟩
   rw[Ja4 ((L6 (neg v1) hgp).mono (by omega)),Ja4 ((L6 (neg v2) hgp).mono (by omega)),Ja4 ((L6 (neg v3) hgp).mono (by omega)),Ja4 ((L6 (neg hw) hgp).mono (by omega))]
   rfl
  ·rw[bf (decide_eq_false h1),if_neg h1,bf hGp,bf hGp,bf hGp,bf hGp];rw[Ja4 ((L6 v1 hgp).mono (by omega)),Ja4 ((L6 v2 hgp).mono (by omega)),Ja4 ((L6 v3 hgp).mono (by omega)),Ja4 ((L6 hw hgp).mono (by omega))]
   rfl
theorem uf4{p q r:Pln}(hp:Bd p)(hq:Bd q)(hr:Bd r):lb9 ⟨p,q,r⟩=mpt p q r:=by unfold lb9;rw[qe9 hp hq hr];rfl
theorem uf5{p q r:Pln}(hp:Bd p)(hq:Bd q)(hr:Bd r):mb0 ⟨p,q,r⟩=true:=by unfold mb0;rw[qe9 hp hq hr];rfl
theorem Wd6{p q r:Pln}(hp:Bd p)(hq:Bd q)(hr:Bd r):yb5 p q r=some (.tup [.agg (tX.row (mpt p q r).1),b (mpt p q r).2],[]):=by
 have hw:=Ne7 hp hq hr;obtain⟨v1,v2,v3⟩:=Ne8 hp hq hr;have e1:Da9 p.n (aa5 q.n r.n)=mw p q r:=by
  rw[Dc2];unfold Da9;simp only[xb8,dc2,Je2];show W (dot p.n (f0 q.n r.n))=_;rw[show dot p.n (f0 q.n r.n)=mw p q r from rfl,Ja4 (hw.mono (by omega))]
 have e2:vb9 (vb9 (X8 (aa5 q.n r.n) p.b) (X8 (aa5 r.n p.n) q.b)) (X8 (aa5 p.n q.n) r.b)=mv p q r:=by
  rw[Dc2,Dc2,Dc2];unfold vb9 X8;simp only[xb8,dc2,ie7];show (⟨W (mv p q r).x,W (mv p q r).y,W (mv p q r).z⟩:V3)=_;rw[Ja4 (v1.mono (by omega)),Ja4 (v2.mono (by omega)),Ja4 (v3.mono (by omega))]
 have neg:∀{n x:Int},Sm n x->Sm n (-x):=λh=>⟨by have:=h.2;omega,by have:=h.1;omega⟩
 have e3:X8 (mv p q r) (-1)=⟨-(mv p q r).x,-(mv p q r).y,-(mv p q r).z⟩:=by
  unfold X8
  have:∀x:Int,x*-1=-x:=λx=>by omega
  simp only[this];rw[Ja4 ((neg v1).mono (by omega)),Ja4 ((neg v2).mono (by omega)),Ja4 ((neg v3).mono (by omega))]
 have ab:∀{x:Int},Sm 300000000000000 x->(if W (0-x)>x then W (0-x) else x)=(x.natAbs:Int):=λ{x} h=>by
  have:W (0-x)=-x:=by rw[show 0-x=-x by omega];exact Ja4 ((neg h).mono (by omega))
  rw[this]
  split<;>omega
 unfold yb5;simp only[e1,e2,e3];rw[ab v1,ab v2,ab v3,ab (neg v1),ab (neg v2),ab (neg v3)];simp only[Int.natAbs_neg];unfold mpt;by_cases h0:mw p q r=0
 ·rw[bt (by rw[h0];rfl),if_pos h0]
  rfl
 ·have hz:(mw p q r==0)=false:=by simpa using h0
  rw[bf hz,if_neg h0];have hgp:=gd5 (v:=mv p q r) h0;have hgl:=Ne9 (v:=mv p q r) h0;have hw0:=hw;unfold Sm at hw0;have q1:((mv p q r).y.natAbs:Int)<=9223372036854775807:=by unfold Sm at v2;omega
  have k1:=gd3 ((mv p q r).x.natAbs:Int) ((mv p q r).y.natAbs:Int) (by omega) (by omega) q1
  have k2:=gd4 ((mv p q r).x.natAbs:Int) ((mv p q r).y.natAbs:Int) (by omega) (by omega) q1
  have c1:Int.gcd ((mv p q r).x.natAbs:Int) ((mv p q r).y.natAbs:Int)=Nat.gcd (mv p q r).x.natAbs (mv p q r).y.natAbs:=by simp[Int.gcd]
  have fin : ∀ w : Int, 0 < w → w.natAbs = (mw p q r).natAbs → X9 ((mv p q r).z.natAbs : Int) w = (Nat.gcd (mv p q r).z.natAbs (mw p q r).natAbs : Nat) ∧ Y0 ((mv p q r).z.natAbs : Int) w = true ∧
    X9 (Nat.gcd (mv p q r).x.natAbs (mv p q r).y.natAbs:Nat) (Nat.gcd (mv p q r).z.natAbs (mw p q r).natAbs:Nat)=gc (mv p q r) (mw p q r)/\Y0 (Nat.gcd (mv p q r).x.natAbs (mv p q r).y.natAbs:Nat) (Nat.gcd (mv p q r).z.natAbs (mw p q r).natAbs:Nat)=true:=by
   intro w hw1 hw2;have l1:Nat.gcd (mv p q r).z.natAbs (mw p q r).natAbs<=(mw p q r).natAbs:=Qhd _ (by omega)
   refine⟨?_,gd4 _ _ (by omega) (by omega) (by omega),?_,gd4 _ _ (by omega) (by omega) (by omega)⟩
   ·rw[gd3 _ _ (by omega) (by omega) (by omega)]
    have:Int.gcd ((mv p q r).z.natAbs:Int) w=Nat.gcd (mv p q r).z.natAbs (mw p q r).natAbs:=by unfold Int.gcd;rw[hw2];simp
    rw[this]
   ·rw[gd3 _ _ (by omega) (by omega) (by omega)]
    rfl
  by_cases h1:mw p q r<0
  ·rw[bt (decide_eq_true h1),if_pos h1];have hWw:W (0-mw p q r)=-mw p q r:=by rw[ia4 (by omega) (by omega)];omega
   rw[hWw];obtain⟨f1,f2,f3,f4⟩:=fin (-mw p q r) (by omega) (by omega)
   simp only[k1,k2,c1,f1,f2,f3,f4];generalize gc (mv p q r) (mw p q r)=G at *
   have hGp:(G==0)=false:=by simp;omega
   simp only[hGp];rw[Ja4 ((L6 (neg v1) hgp).mono (by omega)),Ja4 ((L6 (neg v2) hgp).mono (by omega)),Ja4 ((L6 (neg v3) hgp).mono (by omega)),Ja4 ((L6 (neg hw) hgp).mono (by omega))]
   rfl
  ·rw[bf (decide_eq_false h1),if_neg h1];obtain⟨f1,f2,f3,f4⟩:=fin (mw p q r) (by omega) rfl
   simp only[k1,k2,c1,f1,f2,f3,f4];generalize gc (mv p q r) (mw p q r)=G at *
   have hGp:(G==0)=false:=by simp;omega
   simp only[hGp];rw[Ja4 ((L6 v1 hgp).mono (by omega)),Ja4 ((L6 v2 hgp).mono (by omega)),Ja4 ((L6 v3 hgp).mono (by omega)),Ja4 ((L6 hw hgp).mono (by omega))]
   rfl
theorem cf7{p q r:Pln}(hp:Bd p)(hq:Bd q)(hr:Bd r):yb6 p q r=mpt p q r:=by unfold yb6;rw[Wd6 hp hq hr];rfl
theorem cf8{p q r:Pln}(hp:Bd p)(hq:Bd q)(hr:Bd r):yb7 p q r=true:=by unfold yb7;rw[Wd6 hp hq hr];rfl
end Go.Ev.Ce
